/- Contracts of the package mpf: blocks. -/
import Derived.Test.YtbdgglhfmanfbaaUp
import Derived.Test.YtbdgglhfmanfbaaOrder3
namespace Go.Proofs.Ytbdgglhfmanfbaa.B
open Go
set_option linter.unusedVariables false

theorem ints_take (D : List Int) (n : Nat) : (ints D).take n = ints (D.take n) := by simp [ints, List.map_take]

theorem ints_snoc (D : List Int) (d : Int) : ints D ++ [Value.int .i64 d] = ints (D ++ [d]) := by simp [ints]

theorem slc_ints_len {e w L s D} (h : Ok e (slc 1 s (ints D) :: L) w) : D.length = s.len := by
  have := h.slc_len
  rw [ints_len] at this
  omega

theorem Insert_one {e w L s c l R} {i : Nat} {y : Int} (h : Ok e (pts c [.int .i64 y] :: slc 1 s (ints l) :: L) w) (hil : i ≤ l.length) (hb : l.length ≤ 2 ^ 30)
    (k : ∀ s' w', Ok e (slc 1 s' (ints (l.take i ++ [y] ++ l.drop i)) :: L) w' → R [vS s'] w') : sh33 s i ⟨some ⟨c, 0, none⟩, 1, 1⟩ R w :=
  Insert_int (Ok.slcNew (vs := ints [y]) h (n := 1) (sz := 1) rfl (ints_one [y])) hil hb k

/-- how far apart blocks lie -/
def stp (z : Int) : Int := (z + 3) / 4 * 4

theorem stp_bd {z : Int} (h : 1 ≤ z ∧ z ≤ 4096) : 4 ≤ stp z ∧ z ≤ stp z ∧ stp z ≤ 4096 := by
  unfold stp
  omega

theorem Align_nums {e w L z R} (h : Ok e L w) (hz : 1 ≤ z ∧ z ≤ 4096) (k : ∀ w', Ok e L w' → R [.int .i64 (stp z)] w') : sh30 z 4 R w := by
  unfold sh30
  refine jn.bool (false) (fun J hJ => ?_) ?_
  · refine cs.no (decide_eq_false (by omega)) ?_
    rw [show decide (z > 1073741824) = false from decide_eq_false (by omega)]
    exact hJ
  refine jn.bool (false) (fun J hJ => ?_) ?_
  · exact cs.no rfl hJ
  refine jn.bool (false) (fun J hJ => ?_) ?_
  · exact cs.no rfl hJ
  refine cs.no rfl (ob.mk (by decide) ?_)
  rw [w64_in (x := z + 4) (by omega) (by omega), w64_in (x := z + 4 - 1) (by omega) (by omega), Int.tdiv_eq_ediv_of_nonneg (by omega), w64_in (x := (z + 4 - 1) / 4) (by omega) (by omega), w64_in (by omega) (by omega), show z + 4 - 1 = z + 3 by omega]
  exact k _ h

/-- what a pool has -/
structure MP where
  S : List (Int × Int)
  had : Int
  back : List Int
  held : List Int

def blks (a z had : Int) : List Int := (List.range had.toNat).map fun (k : Nat) => a + (k : Int) * stp z

structure MPo (a n z : Int) (q : MP) : Prop where
  c : 0 ≤ a ∧ a ≤ 65536 ∧ 1 ≤ n ∧ n ≤ 256 ∧ 1 ≤ z ∧ z ≤ 4096 ∧ n * stp z ≤ 65536 - a
  line : okL q.S
  had : 0 ≤ q.had ∧ q.had ≤ n
  up : Up q.held
  perm : (q.back ++ q.held).Perm (blks a z q.had)

def MP.poll (a n z : Int) (q : MP) : (Int × Bool) × MP :=
  match q.back.getLast? with
  | some x => ((x, true), ⟨q.S, q.had, q.back.dropLast, insU q.held x⟩)
  | none => if q.had < n then ((a + q.had * stp z, true), ⟨q.S, q.had + 1, q.back, insU q.held (a + q.had * stp z)⟩) else ((0, false), q)

def MP.get (a n z : Int) (byPri : Bool) (q : MP) (task pri : Int) : (Int × Bool × Int) × MP :=
  if (q.poll a n z).1.2 then (((q.poll a n z).1.1, true, 0), (q.poll a n z).2)
  else ((0, false, (addL byPri q.S task pri).1), ⟨(addL byPri q.S task pri).2, q.had, q.back, q.held⟩)

def MP.put (q : MP) (x : Int) : (Int × Int) × MP :=
  if x ∈ q.held then
    match q.S with
    | y :: r => ((y.1, 0), ⟨r, q.had, q.back, q.held⟩)
    | [] => ((0, 0), ⟨[], q.had, q.back ++ [x], delU q.held x⟩)
  else ((0, -17), q)

def MP.holds (z : Int) (q : MP) (at' n : Int) : Bool := decide (1 ≤ n ∧ n ≤ z) && q.held.any fun h => decide (h ≤ at' ∧ at' ≤ h + z - n)

def mp0 : MP := ⟨[], 0, [], []⟩

theorem blks_mem {a z had x : Int} : x ∈ blks a z had ↔ ∃ k : Nat, (k : Int) < had ∧ x = a + k * stp z := by
  unfold blks
  rw [List.mem_map]
  exact ⟨fun ⟨k, hk, he⟩ => ⟨k, by have := List.mem_range.1 hk; omega, he.symm⟩, fun ⟨k, hk, he⟩ => ⟨k, List.mem_range.2 (by omega), he.symm⟩⟩

theorem blks_succ {a z had : Int} (h : 0 ≤ had) : blks a z (had + 1) = blks a z had ++ [a + had * stp z] := by
  unfold blks
  rw [show (had + 1).toNat = had.toNat + 1 by omega, List.range_succ, List.map_append, List.map_singleton, Int.toNat_of_nonneg h]

theorem blks_len {a z had : Int} : (blks a z had).length = had.toNat := by simp [blks]

theorem mul_lt_stp {z : Int} (h : 1 ≤ z ∧ z ≤ 4096) {i j : Int} (hij : i < j) : i * stp z + stp z ≤ j * stp z := by
  have h4 := (stp_bd h).1
  have := Int.mul_le_mul_of_nonneg_right (show i + 1 ≤ j by omega) (show 0 ≤ stp z by omega)
  rw [Int.add_mul, Int.one_mul] at this
  exact this

theorem blks_nodup {a z had : Int} (h : 1 ≤ z ∧ z ≤ 4096) : (blks a z had).Nodup := by
  refine List.pairwise_map.2 (List.nodup_range.imp fun {i j} hij => ?_)
  intro he
  have h4 := (stp_bd h).1
  rcases Nat.lt_or_ge i j with h1 | h1
  · have := mul_lt_stp h (i := i) (j := j) (by omega); omega
  · have := mul_lt_stp h (i := j) (j := i) (by omega); omega

theorem MPo.nodup {a n z q} (h : MPo a n z q) : (q.back ++ q.held).Nodup := h.perm.nodup_iff.2 (blks_nodup ⟨h.c.2.2.2.2.1, h.c.2.2.2.2.2.1⟩)

theorem MPo.bd {a n z q} (h : MPo a n z q) {x : Int} (hx : x ∈ q.back ++ q.held) : 0 ≤ x ∧ x + stp z ≤ 65536 ∧ ∃ k : Nat, (k : Int) < q.had ∧ x = a + k * stp z := by
  obtain ⟨k, hk, he⟩ := blks_mem.1 (h.perm.mem_iff.1 hx)
  have hz := And.intro h.c.2.2.2.2.1 h.c.2.2.2.2.2.1
  have h4 := stp_bd hz
  have h5 := mul_lt_stp hz (i := k) (j := n) (by have := h.had; omega)
  have h6 := Int.mul_nonneg (show (0 : Int) ≤ k by omega) (show 0 ≤ stp z by omega)
  have := h.c
  exact ⟨by omega, by omega, k, hk, he⟩

theorem MPo.len {a n z q} (h : MPo a n z q) : q.back.length + q.held.length = q.had.toNat := by
  have := h.perm.length_eq
  rw [List.length_append, blks_len] at this
  exact this

theorem MPo.new {a n z q} (h : MPo a n z q) : a + q.had * stp z ∉ q.back ++ q.held := by
  intro hx
  obtain ⟨k, hk, he⟩ := blks_mem.1 (h.perm.mem_iff.1 hx)
  have hz := And.intro h.c.2.2.2.2.1 h.c.2.2.2.2.2.1
  have h4 := stp_bd hz
  have h5 := mul_lt_stp hz (i := k) (j := q.had) hk
  omega

theorem last_app {l : List Int} {x : Int} (h : l.getLast? = some x) : l = l.dropLast ++ [x] := by
  obtain ⟨m, rfl⟩ := List.getLast?_eq_some_iff.1 h
  simp

theorem poll_ok {a n z q} (h : MPo a n z q) : MPo a n z (q.poll a n z).2 := by
  have hd := h.nodup
  unfold MP.poll
  split
  · next x hx =>
    have hb := last_app hx
    have hno : x ∉ q.held := fun hm => (List.nodup_append.1 hd).2.2 x (by rw [hb]; simp) x hm rfl
    refine ⟨h.c, h.line, h.had, insU_up h.up hno, ?_⟩
    refine ((insU_perm q.held x).append_left _).trans ?_
    have hp := h.perm
    rw [hb, List.append_assoc] at hp
    exact hp
  · next hx =>
    split
    · next hlt =>
      have hno := h.new
      refine ⟨h.c, h.line, ⟨show 0 ≤ q.had + 1 by have := h.had; omega, show q.had + 1 ≤ n by omega⟩, insU_up h.up fun hm => hno (List.mem_append_right _ hm), ?_⟩
      dsimp only
      rw [blks_succ h.had.1]
      refine ((insU_perm q.held _).append_left _).trans ?_
      refine List.perm_middle.trans ?_
      exact ((h.perm.cons _).trans (List.perm_append_singleton ..).symm)
    · exact h

theorem get_ok {a n z byPri q task pri} (h : MPo a n z q) : MPo a n z (q.get a n z byPri task pri).2 := by
  unfold MP.get
  split
  · exact poll_ok h
  · exact ⟨h.c, okL_add h.line, h.had, h.up, h.perm⟩

theorem put_ok {a n z q x} (h : MPo a n z q) : MPo a n z (q.put x).2 := by
  unfold MP.put
  split
  · next hm =>
    split
    · next y r he => have hl := h.line; rw [he] at hl; exact ⟨h.c, (okL_tail hl).1, h.had, h.up, h.perm⟩
    · next he =>
      refine ⟨h.c, okL_nil, h.had, delU_up h.up, ?_⟩
      dsimp only
      rw [List.append_assoc]
      exact ((delU_perm h.up hm).symm.append_left _).trans h.perm
  · exact h

theorem remove_ok {a n z q id} (h : MPo a n z q) : MPo a n z ⟨rmL q.S id, q.had, q.back, q.held⟩ := ⟨h.c, okL_rm h.line, h.had, h.up, h.perm⟩

theorem change_ok {a n z byPri q id pri} (h : MPo a n z q) : MPo a n z ⟨(chgL byPri q.S id pri).2, q.had, q.back, q.held⟩ := ⟨h.c, okL_chg h.line, h.had, h.up, h.perm⟩

def mpfC (p : Nat) (a n z had : Int) (s t : Sl) : List Value := [.pointer (some ⟨p, 0, none⟩), .int .i64 a, .int .i64 n, .int .i64 z, .int .i64 had, vS s, vS t]

def mpfP (b : Nat) (byPri : Bool) (a n z : Int) (q : MP) : SP := fun h => ∃ p s t,
  oksH [pts b [.pointer (some ⟨p, 0, none⟩), .int .i64 a, .int .i64 n, .int .i64 z, .int .i64 q.had, vS s, vS t], lineP p [.bool byPri] q.S, slc 1 s (ints q.back), slc 1 t (ints q.held)] h

theorem mpfE {e w L b byPri a n z q} (h : Ok e (mpfP b byPri a n z q :: L) w) : ∃ p s t, q.back.length = s.len ∧ q.held.length = t.len ∧
    Ok e (pts b [.pointer (some ⟨p, 0, none⟩), .int .i64 a, .int .i64 n, .int .i64 z, .int .i64 q.had, vS s, vS t] :: lineP p [.bool byPri] q.S :: slc 1 s (ints q.back) :: slc 1 t (ints q.held) :: L) w := by
  obtain ⟨p, h⟩ := h.exE
  obtain ⟨s, h⟩ := h.exE
  obtain ⟨t, h⟩ := h.exE
  have h := h.unpack
  exact ⟨p, s, t, slc_ints_len h.p2, slc_ints_len h.p3, h⟩

theorem mpfI {e w L b byPri a n z q p s t} (h : Ok e (pts b [.pointer (some ⟨p, 0, none⟩), .int .i64 a, .int .i64 n, .int .i64 z, .int .i64 q.had, vS s, vS t] :: lineP p [.bool byPri] q.S :: slc 1 s (ints q.back) :: slc 1 t (ints q.held) :: L) w) : Ok e (mpfP b byPri a n z q :: L) w :=
  (Ok.pack (M := [pts b [.pointer (some ⟨p, 0, none⟩), .int .i64 a, .int .i64 n, .int .i64 z, .int .i64 q.had, vS s, vS t], lineP p [.bool byPri] q.S, slc 1 s (ints q.back), slc 1 t (ints q.held)]) h).imp fun k hk => ⟨p, s, t, hk⟩

theorem stp_mul_bd {z n : Int} (h : 1 ≤ z ∧ z ≤ 4096) (hn : 0 ≤ n ∧ n ≤ 256) : 0 ≤ n * stp z ∧ n * stp z ≤ 256 * 4096 := by
  have h4 := stp_bd h
  exact ⟨Int.mul_nonneg hn.1 (by omega), Int.le_trans (Int.mul_le_mul_of_nonneg_right hn.2 (by omega)) (by omega)⟩

def mpGood (a n z : Int) : Prop := 0 ≤ a ∧ a ≤ 65536 ∧ a % 4 = 0 ∧ 1 ≤ n ∧ n ≤ 256 ∧ 1 ≤ z ∧ z ≤ 4096 ∧ n * stp z ≤ 65536 - a

instance (a n z : Int) : Decidable (mpGood a n z) := by unfold mpGood; infer_instance

theorem mp0_ok {a n z} (h : mpGood a n z) : MPo a n z mp0 := by
  obtain ⟨h1, h2, h3, h4, h5, h6, h7, h8⟩ := h
  exact ⟨⟨h1, h2, h4, h5, h6, h7, h8⟩, okL_nil, ⟨Int.le_refl _, by show 0 ≤ n; omega⟩, List.Pairwise.nil, List.Perm.of_eq (by rfl)⟩

end Go.Proofs.Ytbdgglhfmanfbaa.B
