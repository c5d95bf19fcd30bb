/- Texts of ours, joined: Base, Sound, Sound2, Sound3, Sound4, Sep. -/
import Derived.Below
import Derived.Calls
import Derived.Deep.Draws
import Derived.KernelRfl
import Derived.Laws.Append
import Derived.Laws.Cells
import Derived.Laws.CopyRow
import Derived.Laws.Entries
import Derived.Laws.Sem
import Derived.Laws.World
import Derived.Orders
import Derived.Still
set_option linter.unusedSimpArgs false
set_option linter.unusedVariables false
/- The words of this seat's proofs: typed shallow programs, and the function 'comp' that reads the model's code into them. -/
namespace Go.Proofs.YtenonfkfoedfmaaGreatDoor.B
open Go

/-! ### kinds -/
inductive Lk where
  | i (k : IntKind) | b | p | s | m | f | g | n | v | q
/-- a slice value -/
structure Sl where
  a : Option Addr
  len : Nat
  cap : Nat
/-- a function value -/
structure Fv where
  fid : Nat
  pre : List Value
  post : List Value
/-- an interface value that is not nil -/
structure Iv where
  t : TypeId
  v : Value
def Lk.T : Lk → Type
  | .i _ => Int | .b => Bool | .p => Option Addr | .s => Sl | .m => Option Nat | .f => Fv | .g => ByteArray | .n => Iv | .v => Value | .q => Nat × Nat
def vS (s : Sl) : Value := .slice s.a s.len s.cap
def vF (f : Fv) : Value := .func (.func f.fid) f.pre.toArray f.post.toArray
def Lk.enc : (k : Lk) → k.T → Value
  | .i k, x => .int k x | .b, x => .bool x | .p, x => .pointer x | .s, x => vS x | .m, x => .map x | .f, x => vF x | .g, x => .string x | .n, x => .iface x.t x.v | .v, x => x | .q, x => .pointer (some ⟨x.1, x.2, none⟩)
def ikEq : IntKind → IntKind → Bool
  | .i8, .i8 | .i16, .i16 | .i32, .i32 | .i64, .i64 | .u8, .u8 | .u16, .u16 | .u32, .u32 | .u64, .u64 => true
  | _, _ => false
def ofLk : (k : Lk) → Value → Option k.T
  | .i k, .int j x => match ikEq j k with | true => some x | false => none
  | .b, .bool x => some x
  | .p, .pointer x => some x
  | .s, .slice a n c => some ⟨a, n, c⟩
  | .m, .map x => some x
  | .f, .func (.func fid) pre post => some ⟨fid, pre.toList, post.toList⟩
  | .g, .string x => some x
  | .n, .iface t v => some ⟨t, v⟩
  | .v, x => some x
  | .q, .pointer (some ⟨b, o, none⟩) => some (b, o)
  | _, _ => none
def TL : List Lk → Type
  | [] => Unit
  | k :: r => k.T × TL r
def encL : (ks : List Lk) → TL ks → List Value
  | [], _ => []
  | k :: r, t => k.enc t.1 :: encL r t.2
def ofL : (ks : List Lk) → List Value → Option (TL ks)
  | [], [] => some ()
  | k :: r, v :: vs => match ofLk k v, ofL r vs with | some x, some y => some (x, y) | _, _ => none
  | _, _ => none
inductive Kd where
  | l (k : Lk)
  | a (ks : List Lk)
def Kd.T : Kd → Type
  | .l k => k.T
  | .a ks => TL ks
def Kd.enc : (k : Kd) → k.T → Value
  | .l k, x => k.enc x
  | .a ks, x => .agg (encL ks x).toArray
def Kd.of : (k : Kd) → Value → Option k.T
  | .l k, v => ofLk k v
  | .a ks, .agg cs => ofL ks cs.toList
  | .a _, _ => none
def TK : List Kd → Type
  | [] => Unit
  | k :: r => k.T × TK r
def encK : (ks : List Kd) → TK ks → List Value
  | [], _ => []
  | k :: r, t => k.enc t.1 :: encK r t.2
def ofK : (ks : List Kd) → List Value → Option (TK ks)
  | [], [] => some ()
  | k :: r, v :: vs => match k.of v, ofK r vs with | some x, some y => some (x, y) | _, _ => none
  | _, _ => none
def ret1 : List Value → Value
  | [v] => v
  | vs => .tuple vs.toArray
def lkOf : Value → Lk
  | .int k _ => .i k | .bool _ => .b | .pointer _ => .p | .slice .. => .s | .map _ => .m | .nilFunc => .f | .string _ => .g | .nilIface => .n | _ => .v
def kdOf : Value → Kd
  | .agg cs => .a (cs.toList.map lkOf)
  | v => .l (lkOf v)
def kdT (P : Program) (t : TypeId) : Kd :=
  match (P.info? t).bind (·.zero) with
  | some z => kdOf z
  | none => .l .v
def kindsT (P : Program) (t : TypeId) : List Kd :=
  match P.underlying t with
  | some (.tuple ts) => ts.toList.map (kdT P)
  | _ => [kdT P t]

theorem ofLk_enc {k : Lk} {v : Value} {x : k.T} (h : ofLk k v = some x) : k.enc x = v := by
  cases k
  case i k =>
    cases v <;> simp [ofLk] at h
    rename_i j n
    cases j <;> cases k <;> simp [ikEq] at h <;> (cases h; rfl)
  case f =>
    cases v <;> simp [ofLk] at h
    rename_i fn pre post
    cases fn <;> simp at h
    cases h
    simp [Lk.enc, vF]
  case v => cases h; rfl
  case q =>
    cases v <;> simp [ofLk] at h
    rename_i a
    cases a with
    | none => simp at h
    | some a =>
      obtain ⟨b, o, l⟩ := a
      cases l with
      | none => simp at h; cases h; rfl
      | some l => simp at h
  all_goals (cases v <;> simp [ofLk] at h <;> cases h <;> rfl)
theorem ofL_enc {ks : List Lk} : ∀ {vs : List Value} {t : TL ks}, ofL ks vs = some t → encL ks t = vs := by
  induction ks with
  | nil => intro vs t h; cases vs <;> simp [ofL] at h; rfl
  | cons k r ih =>
    intro vs t h
    cases vs with
    | nil => simp [ofL] at h
    | cons v vs =>
      simp only [ofL] at h
      cases h1 : ofLk k v <;> cases h2 : ofL r vs <;> simp [h1, h2] at h
      cases h
      simp [encL, ofLk_enc h1, ih h2]
theorem Kd.of_enc {k : Kd} {v : Value} {x : k.T} (h : k.of v = some x) : k.enc x = v := by
  cases k with
  | l k => exact ofLk_enc h
  | a ks =>
    cases v <;> simp [Kd.of] at h
    simp [Kd.enc, ofL_enc h]
theorem ofK_enc {ks : List Kd} : ∀ {vs : List Value} {t : TK ks}, ofK ks vs = some t → encK ks t = vs := by
  induction ks with
  | nil => intro vs t h; cases vs <;> simp [ofK] at h; rfl
  | cons k r ih =>
    intro vs t h
    cases vs with
    | nil => simp [ofK] at h
    | cons v vs =>
      simp only [ofK] at h
      cases h1 : k.of v <;> cases h2 : ofK r vs <;> simp [h1, h2] at h
      cases h
      simp [encK, Kd.of_enc h1, ih h2]

/-! ### the words of the shallow programs -/
def ldI (w : World) (k : IntKind) (b o : Nat) (f : Int → Prop) : Prop := ∃ x, w.cell? ⟨b, o, none⟩ = some (.int k x) ∧ f x
def ldB (w : World) (b o : Nat) (f : Bool → Prop) : Prop := ∃ x, w.cell? ⟨b, o, none⟩ = some (.bool x) ∧ f x
def ldP (w : World) (b o : Nat) (f : Option Addr → Prop) : Prop := ∃ x, w.cell? ⟨b, o, none⟩ = some (.pointer x) ∧ f x
def ldS (w : World) (b o : Nat) (f : Sl → Prop) : Prop := ∃ x, w.cell? ⟨b, o, none⟩ = some (vS x) ∧ f x
def ldM (w : World) (b o : Nat) (f : Option Nat → Prop) : Prop := ∃ x, w.cell? ⟨b, o, none⟩ = some (.map x) ∧ f x
def ldF (w : World) (b o : Nat) (f : Fv → Prop) : Prop := ∃ x, w.cell? ⟨b, o, none⟩ = some (vF x) ∧ f x
def ldG (w : World) (b o : Nat) (f : ByteArray → Prop) : Prop := ∃ x, w.cell? ⟨b, o, none⟩ = some (.string x) ∧ f x
def ldN (w : World) (b o : Nat) (f : Iv → Prop) : Prop := ∃ x : Iv, w.cell? ⟨b, o, none⟩ = some (.iface x.t x.v) ∧ f x
def ldV (w : World) (b o : Nat) (f : Value → Prop) : Prop := ∃ x, w.cell? ⟨b, o, none⟩ = some x ∧ f x
def ldQ (w : World) (b o : Nat) (f : Nat × Nat → Prop) : Prop := ∃ x : Nat × Nat, w.cell? ⟨b, o, none⟩ = some (.pointer (some ⟨x.1, x.2, none⟩)) ∧ f x
def ldK (w : World) (b o : Nat) : (k : Lk) → (k.T → Prop) → Prop
  | .i k, f => ldI w k b o f
  | .b, f => ldB w b o f
  | .p, f => ldP w b o f
  | .s, f => ldS w b o f
  | .m, f => ldM w b o f
  | .f, f => ldF w b o f
  | .g, f => ldG w b o f
  | .n, f => ldN w b o f
  | .v, f => ldV w b o f
  | .q, f => ldQ w b o f
theorem ldK_iff (w : World) (b o : Nat) (k : Lk) (f : k.T → Prop) : ldK w b o k f ↔ ∃ x, w.cell? ⟨b, o, none⟩ = some (k.enc x) ∧ f x := by
  cases k <;> exact Iff.rfl
/-- the i-th cell behind an offset -/
def offA (o : Nat) : Nat → Nat
  | 0 => o
  | i + 1 => o + (i + 1)
def ldL (w : World) (b o : Nat) : List Lk → Nat → (List Value → Prop) → Prop
  | [], _, f => f []
  | k :: r, i, f => ldK w b (offA o i) k fun x => ldL w b o r (i + 1) fun vs => f (k.enc x :: vs)
/-- a store into one cell -/
def st1 (w : World) (b o : Nat) (v : Value) (f : World → Prop) : Prop :=
  (∃ u, w.cell? ⟨b, o, none⟩ = some u) ∧ w.frozen? ⟨b, o, none⟩ = false ∧ f (w.setCell ⟨b, o, none⟩ v)
/-- a new block -/
def al (w : World) (t : TypeId) (cs : List Value) (f : Nat → World → Prop) : Prop := f w.heap.size (w.alloc (.cells cs.toArray t))
/-- not nil -/
def nn (p : Option Addr) (f : Nat → Nat → Prop) : Prop := ∃ b o, p = some ⟨b, o, none⟩ ∧ f b o
/-- both ways -/
def cs (b : Bool) (x y : Prop) : Prop := (b = true → x) ∧ (b = false → y)
/-- an index into a slice -/
def ix (s : Sl) (i : Int) (sz : Nat) (f : Nat → Nat → Prop) : Prop := ∃ b o, s.a = some ⟨b, o, none⟩ ∧ 0 ≤ i ∧ i < s.len ∧ f b (o + i.toNat * sz)
/-- an index into an array -/
def ixA (b o n : Nat) (i : Int) (sz : Nat) (f : Nat → Nat → Prop) : Prop := 0 ≤ i ∧ i < n ∧ f b (o + i.toNat * sz)
def Sl.sub (s : Sl) (lo hi mx : Int) (sz : Nat) : Sl :=
  ⟨if mx.toNat = lo.toNat then s.a else s.a.map (·.add (lo.toNat * sz)), hi.toNat - lo.toNat, mx.toNat - lo.toNat⟩
/-- a part of a slice -/
def sb (s : Sl) (lo hi mx : Int) (sz : Nat) (f : Sl → Prop) : Prop := 0 ≤ lo ∧ lo ≤ hi ∧ hi ≤ mx ∧ mx ≤ s.cap ∧ f (s.sub lo hi mx sz)
/-- something that must hold -/
def ob (c x : Prop) : Prop := c ∧ x
/-- a draw -/
def dr (w : World) (f : World → Prop) : Prop := f w.drew
/-- a call -/
def cl (P : Program) (f : Nat) (args : List Value) (ks : List Kd) (w : World) (K : TK ks → World → Prop) : Prop :=
  Calls P f args.toArray w fun e w' => ∃ t : TK ks, e = .returned (ret1 (encK ks t)) ∧ K t w'
/-- an operation of the model that is looked at from outside -/
def ef (P : Program) (m : Sem Value) (ks : List Kd) (w : World) (K : TK ks → World → Prop) : Prop :=
  ∃ t w', m.run P w = .ok (ret1 (encK ks t)) w' ∧ K t w'
def efU (P : Program) (m : Sem Unit) (w : World) (K : World → Prop) : Prop := ∃ w', m.run P w = .ok () w' ∧ K w'
/-- bytes read as a string -/
def tx (P : Program) (s d : TypeId) (v : Value) (w : World) (f : ByteArray → Prop) : Prop := ∃ g, (convert s d v).run P w = .ok (.string g) w ∧ f g
/-- two pointers compared -/
def pq (P : Program) (t : TypeId) (x y : Option Addr) (w : World) (f : Bool → Prop) : Prop := ∃ c, (Op.equal t (.pointer x) (.pointer y)).run P w = .ok c w ∧ f c
/-- a range over a map: it begins; a step of it, whole numbers to slices -/
def rn (P : Program) (t : TypeId) (m : Value) (w : World) (K : Nat → World → Prop) : Prop := ∃ r w', (Instr.range t m).run P w = .ok (.pointer (some ⟨r, 0, none⟩)) w' ∧ K r w'
def nx (P : Program) (t : TypeId) (it : Value) (w : World) (K0 : World → Prop) (K1 : Int → Sl → World → Prop) : Prop :=
  (∃ w', (Instr.next it false t).run P w = .ok (.tuple #[.bool false]) w' ∧ K0 w') ∨ ∃ k v w', (Instr.next it false t).run P w = .ok (.tuple #[.bool true, .int .i64 k, vS v]) w' ∧ K1 k v w'
/-- a string of bytes -/
def bs (l : List UInt8) : ByteArray := ⟨l.toArray⟩
/-- a call of a function that the model itself carries out -/
def xt (P : Program) (f : Nat) (args : List Value) (ks : List Kd) (w : World) (K : TK ks → World → Prop) : Prop :=
  ∃ t w', (callFunc f args.toArray).run P w = .ok (.value (ret1 (encK ks t))) w' ∧ K t w'
/-- ways that meet again -/
def jn (ks : List Kd) (w : World) (rest : TK ks → World → Prop) (body : (TK ks → World → Prop) → World → Prop) : Prop :=
  ∀ J : TK ks → World → Prop, (∀ t w', rest t w' → J t w') → body J w
/-- a loop -/
def lp (ks : List Kd) (w : World) (t : TK ks) (body : TK ks → (TK ks → World → Prop) → World → Prop) : Prop :=
  ∃ (I : TK ks → World → Prop) (μ : TK ks → World → Nat), I t w ∧ ∀ t w, I t w → body t (fun t' w' => I t' w' ∧ μ t' w' < μ t w) w
def enterable (P : Program) (f : Nat) : Bool :=
  match P.funcs[f]? with
  | some fn => fn.body.isSome && !(fn.name == "runtime.NumGoroutine")
  | none => false

/-! ### frames -/
abbrev Fr := List (Nat × Value)
/-- nothing is known of it -/
def unk : Value := .tuple #[.tuple #[]]
def frGet : Fr → Nat → Value
  | [], _ => unk
  | x :: r, t => match Nat.beq x.1 t with | true => x.2 | false => frGet r t
def knGet : List (Nat × Bool) → Nat → Option Bool
  | [], _ => none
  | x :: r, t => match Nat.beq x.1 t with | true => some x.2 | false => knGet r t
def knDel : List (Nat × Bool) → Nat → List (Nat × Bool)
  | [], _ => []
  | x :: r, t => match Nat.beq x.1 t with | true => knDel r t | false => x :: knDel r t
structure St where
  fr : Fr
  kn : List (Nat × Bool)
abbrev KT := St → World → Prop
def isU : Value → Bool
  | .tuple vs => match vs.toList with | [.tuple _] => true | _ => false
  | _ => false
def St.set (st : St) (d : Nat) (v : Value) : St := ⟨(d, v) :: st.fr, knDel st.kn d⟩
def St.put (st : St) : Option Nat → Value → St
  | none, _ => st
  | some d, v => st.set d v
def St.know (st : St) (d : Nat) (b : Bool) : St := ⟨(d, .bool b) :: st.fr, (d, b) :: st.kn⟩
def knO (kn : List (Nat × Bool)) : Operand → Option Bool
  | .tmp t => knGet kn t
  | .const (.bool b) => some b
  | _ => none
def evD (fr : Fr) : Operand → Value
  | .tmp t => frGet fr t
  | .const v => v
  | .global g => .pointer (some ⟨g, 0, none⟩)
  | .func f => .func (.func f) #[] #[]
def defO (fr : Fr) : Operand → Bool
  | .tmp t => !isU (frGet fr t)
  | _ => true
def allDef (fr : Fr) : List Operand → Bool
  | [] => true
  | x :: r => match defO fr x with | true => allDef fr r | false => false
def memN : List Nat → Nat → Bool
  | [], _ => false
  | x :: r, t => match Nat.beq x t with | true => true | false => memN r t
def alOk : Option (List Nat) → Nat → Bool
  | none, _ => true
  | some l, t => memN l t
def okD (N : Nat) (al : Option (List Nat)) : Option Nat → Bool
  | none => true
  | some d => match Nat.blt d N with | true => alOk al d | false => false
def alSub (al : Option (List Nat)) : List Nat → Bool
  | [] => true
  | x :: r => match alOk al x with | true => alSub al r | false => false

/-! ### operations -/
def pureK (P : Program) : Sem Next → Option Next
  | .pure a => some a
  | .program k => pureK P (k P)
  | .mark _ k => pureK P k
  | _ => none
def semK (P : Program) : Sem Next → (Next → World → Prop) → World → Prop
  | .pure a, K, w => K a w
  | .program k, K, w => semK P (k P) K w
  | .mark _ k, K, w => semK P k K w
  | .new (.cells c t fz) k, K, w => match fz.1, fz.2 with
    | 0, 0 => al w t c.toList fun nb w' => semK P (k nb) K w'
    | _, _ => False
  | .store _ a v k, K, w => match a.spot, v.oneCell' with
    | none, true => st1 w a.block a.off v fun w' => semK P k K w'
    | _, _ => False
  | _, _, _ => False
inductive Cl where | pu | ld | ef
def isConstO : Operand → Bool
  | .const _ => true
  | _ => false
def clOf (P : Program) : Op → Cl
  | .load .. => .ld
  | .store .. | .alloc .. | .box .. | .buildSlice .. | .mapUpdate .. | .insert .. | .lookup .. | .makeMap .. | .makeSlice .. | .range .. | .next .. | .entry .. | .mapEntry .. | .entryStore .. | .typeAssert .. => .ef
  | .call { callee := .builtin b, .. } => match b with | .append | .copy | .clear | .delete => .ef | _ => .pu
  | .call _ => .ef
  | .convert s d _ => match P.underlying s, P.underlying d with
    | some .string, some (.slice _) => .ef
    | some (.slice _), some (.slice _) => .ef
    | some (.slice _), some .string => .ld
    | _, _ => .pu
  | .binOp op t x y _ => match op with
    | .eql | .neq => match P.underlying t with
      | some (.pointer _) => match isConstO x || isConstO y with | true => .pu | false => .ld
      | _ => .pu
    | _ => .pu
  | _ => .pu
def nextV (K : Value → Prop) : Option Next → Prop
  | some (.value v) => K v
  | _ => False
/-- an optional bound -/
def bnd (ρ : Operand → Value) (d : Int) : Option Operand → Option Int
  | none => some d
  | some x => match ρ x with | .int _ n => some n | _ => none
def gen (P : Program) (o : Oper) (ρ : Operand → Value) (K : Value → Prop) : Prop := nextV K (pureK P (execOp ρ o))
/-- a comparison with nil -/
def nilCmp : Option TypeDesc → Value → Value → Bool → Bool → Option Bool
  | some (.pointer _), .pointer p, .pointer none, false, true => some p.isNone
  | some (.pointer _), .pointer none, .pointer p, true, false => some p.isNone
  | some (.slice _), .slice a _ _, .slice none _ _, false, true => some a.isNone
  | some (.slice _), .slice none _ _, .slice a _ _, true, false => some a.isNone
  | some (.map _ _), .map a, .map none, false, true => some a.isNone
  | some (.map _ _), .map none, .map a, true, false => some a.isNone
  | _, _, _, _, _ => none
/-- structs of two or three whole numbers, compared -/
def fld2 (P : Program) (f : Field) : Bool := f.name != "_" && (match P.underlying f.type with | some (.int _) => true | _ => false)
def agg2 (P : Program) (t : TypeId) (x y : Value) : Option Bool :=
  match P.underlying t, x, y with
  | some (.struct fs), .agg xs, .agg ys =>
    match fs.toList, xs.toList, ys.toList with
    | [f, g], [.int j a, .int j' a'], [.int k b, .int k' b'] =>
      match ikEq j k && ikEq j' k' && Nat.beq f.offset 0 && Nat.beq g.offset 1 && fld2 P f && fld2 P g && !P.stoodInHeld t && !P.eqGuardType P.depth t with
      | true => some (a == b && a' == b')
      | false => none
    | [f, g, i], [.int j a, .int j' a', .int j'' a''], [.int k b, .int k' b', .int k'' b''] =>
      match ikEq j k && ikEq j' k' && ikEq j'' k'' && Nat.beq f.offset 0 && Nat.beq g.offset 1 && Nat.beq i.offset 2 && fld2 P f && fld2 P g && fld2 P i && !P.stoodInHeld t && !P.eqGuardType P.depth t with
      | true => some (a == b && a' == b' && a'' == b'')
      | false => none
    | _, _, _ => none
  | _, _, _ => none
/-- operations that touch no memory -/
def opP (P : Program) (o : Oper) (ρ : Operand → Value) (K : Value → Prop) : Prop :=
  match o.op with
  | .nilCheck x => match ρ x with
    | .pointer p => nn p fun b i => K (.pointer (some ⟨b, i, none⟩))
    | _ => gen P o ρ K
  | .indexAddr t x i => match ρ x, ρ i, P.underlying t with
    | .slice a n c, .int _ j, some (.slice e) => match P.info? e with
      | some r => ix ⟨a, n, c⟩ j r.size fun b i => K (.pointer (some ⟨b, i, none⟩))
      | none => False
    | .pointer (some ⟨b, q, none⟩), .int _ j, some (.array n e) => match P.info? e with
      | some r => ixA b q n j r.size fun b i => K (.pointer (some ⟨b, i, none⟩))
      | none => False
    | _, _, _ => False
  | .slice t x lo hi mx => match ρ x, P.underlying t with
    | .slice a n c, some (.slice e) => match P.info? e, bnd ρ 0 lo, bnd ρ n hi, bnd ρ c mx, hi.isSome || mx.isNone with
      | some r, some l, some h, some m, true => sb ⟨a, n, c⟩ l h m r.size fun s => K (vS s)
      | _, _, _, _, _ => False
    | .pointer (some ⟨b, q, none⟩), some (.array n e) => match P.info? e, lo, hi, mx, Nat.blt 0 n with
      | some _, none, none, none, true => K (vS ⟨some ⟨b, q, none⟩, n, n⟩)
      | _, _, _, _, _ => False
    | _, _ => False
  | .binOp op t x y _ => match op with
    | .quo => match isConstO y with
      | true => gen P o ρ K
      | false => match ρ x, ρ y with
        | .int k a, .int k' b => match ikEq k k' with
          | true => ob (b ≠ 0) (K (.int k (k.wrap (a.tdiv b))))
          | false => False
        | _, _ => False
    | .rem => match isConstO y with
      | true => gen P o ρ K
      | false => match ρ x, ρ y with
        | .int k a, .int k' b => match ikEq k k' with
          | true => ob (b ≠ 0) (K (.int k (a.tmod b)))
          | false => False
        | _, _ => False
    | .shl => match isConstO y with
      | true => gen P o ρ K
      | false => match ρ x, ρ y with
        | .int k a, .int _ b => ob (0 ≤ b) (K (.int k (k.wrap (a * 2 ^ (min b.toNat k.bits)))))
        | _, _ => False
    | .shr => match isConstO y with
      | true => gen P o ρ K
      | false => match ρ x, ρ y with
        | .int k a, .int _ b => ob (0 ≤ b) (K (.int k (a.fdiv (2 ^ (min b.toNat k.bits)))))
        | _, _ => False
    | .eql => match nilCmp (P.underlying t) (ρ x) (ρ y) (isConstO x) (isConstO y) with
      | some c => K (.bool c)
      | none => match agg2 P t (ρ x) (ρ y) with
        | some c => K (.bool c)
        | none => gen P o ρ K
    | .neq => match nilCmp (P.underlying t) (ρ x) (ρ y) (isConstO x) (isConstO y) with
      | some c => K (.bool (!c))
      | none => match agg2 P t (ρ x) (ρ y) with
        | some c => K (.bool (!c))
        | none => gen P o ρ K
    | _ => gen P o ρ K
  | _ => gen P o ρ K
/-- loads: what was read, and that it is there -/
def okLd (P : Program) (t : TypeId) (k : Kd) : Bool :=
  match P.underlying t, P.info? t, k with
  | some (.struct _), some i, .a ks => Nat.beq ks.length i.size
  | some (.array _ _), some i, .a ks => Nat.beq ks.length i.size
  | some (.struct _), _, .l _ => false
  | some (.array _ _), _, .l _ => false
  | some _, some _, .l _ => true
  | _, _, _ => false
def opL (P : Program) (t : TypeId) (b o : Nat) (w : World) (K : Value → Prop) : Prop :=
  match okLd P t (kdT P t) with
  | false => False
  | true => match kdT P t with
    | .l k => ldK w b o k fun x => K (k.enc x)
    | .a ks => ldL w b o ks 0 fun vs => K (.agg vs.toArray)
def cellsAt (w : World) (b o : Nat) : List Value → Nat → Prop
  | [], _ => True
  | [v], i => w.cell? ⟨b, offA o i, none⟩ = some v
  | v :: r, i => w.cell? ⟨b, offA o i, none⟩ = some v ∧ cellsAt w b o r (i + 1)
/-- operations that act -/
def opE (P : Program) (o : Oper) (ρ : Operand → Value) (K : Value → World → Prop) (w : World) : Prop :=
  match o.op with
  | .call { callee := .value f, args, .. } => match ρ f with
    | .func (.func g) pre post =>
      match isConstO f || (match f with | .func _ => true | _ => false) with
      | true => match enterable P g with
        | true => cl P g (pre.toList ++ (args.toList.map ρ ++ post.toList)) (kindsT P o.type) w fun t w' => K (ret1 (encK _ t)) w'
        | false => match P.funcs[g]? with
          | some fn => match fn.body with
            | none => xt P g (pre.toList ++ (args.toList.map ρ ++ post.toList)) (kindsT P o.type) w fun t w' => K (ret1 (encK _ t)) w'
            | some _ => False
          | none => False
      | false => ob (enterable P g = true) (cl P g (pre.toList ++ (args.toList.map ρ ++ post.toList)) (kindsT P o.type) w fun t w' => K (ret1 (encK _ t)) w')
    | _ => False
  | .call { callee := .builtin b, args, argTypes } => match b with
    | .append => ef P (Builtin.append_ argTypes o.type (args.map ρ)) (kindsT P o.type) w fun t w' => K (ret1 (encK _ t)) w'
    | .copy => ef P (Builtin.copy_ argTypes o.type (args.map ρ)) [.l (.i .i64)] w fun t w' => K (ret1 (encK _ t)) w'
    | .clear => ef P (Builtin.clear_ argTypes o.type (args.map ρ)) [] w fun t w' => K (ret1 (encK _ t)) w'
    | .delete => ef P (Builtin.delete_ argTypes o.type (args.map ρ)) [] w fun t w' => K (ret1 (encK _ t)) w'
    | _ => False
  | .lookup t m k ok => ef P (Instr.lookup t (ρ m) (ρ k) ok) (kindsT P o.type) w fun t w' => K (ret1 (encK _ t)) w'
  | .mapUpdate t m k x => efU P (Instr.mapUpdate t (ρ m) (ρ k) (ρ x)) w fun w' => K undef w'
  | .typeAssert x t u ok => ef P (Instr.typeAssert (ρ x) t u ok) (kindsT P o.type) w fun t w' => K (ret1 (encK _ t)) w'
  | .makeMap t r => ef P (Instr.makeMap t (r.map ρ)) (kindsT P o.type) w fun t w' => K (ret1 (encK _ t)) w'
  | .makeSlice t l c => ef P (Instr.makeSlice t (ρ l) (ρ c)) (kindsT P o.type) w fun t w' => K (ret1 (encK _ t)) w'
  | .convert s d x => ef P (convert s d (ρ x)) (kindsT P o.type) w fun t w' => K (ret1 (encK _ t)) w'
  | .mapEntry t m k => ef P (Instr.mapEntry t (ρ m) (ρ k)) (kindsT P o.type) w fun t w' => K (ret1 (encK _ t)) w'
  | .entryStore t m s x => efU P (Instr.entryStore t (ρ m) (ρ s) (ρ x)) w fun w' => K undef w'
  | .range t x => rn P t (ρ x) w fun r w' => K (.pointer (some ⟨r, 0, none⟩)) w'
  | .next it false => nx P o.type (ρ it) w (fun w' => K (.tuple #[.bool false]) w') fun k v w' => K (.tuple #[.bool true, .int .i64 k, vS v]) w'
  | .entry it => ef P (Instr.entry (ρ it)) [.l (.i .i64), .l .s] w fun t w' => K (ret1 (encK _ t)) w'
  | .store .. | .alloc .. | .box .. | .buildSlice .. => semK P (execOp ρ o) (fun n w' => match n with | .value v => K v w' | .skip => K undef w' | _ => False) w
  | _ => False
/-- one operation -/
def opV (P : Program) (o : Oper) (ρ : Operand → Value) (K : Value → World → Prop) (w : World) : Prop :=
  match clOf P o.op with
  | .pu => opP P o ρ fun v => K v w
  | .ld => match o.op with
    | .load t a => match ρ a with
      | .pointer (some ⟨b, i, none⟩) => opL P t b i w fun v => K v w
      | _ => False
    | .convert s d x => tx P s d (ρ x) w fun g => K (.string g) w
    | .binOp .eql t x y _ => match ρ x, ρ y with
      | .pointer p, .pointer q => pq P t p q w fun c => K (.bool c) w
      | _, _ => False
    | .binOp .neq t x y _ => match ρ x, ρ y with
      | .pointer p, .pointer q => pq P t p q w fun c => K (.bool (!c)) w
      | _, _ => False
    | _ => False
  | .ef => opE P o ρ K w
/-- a slot takes over another one, and whether that is known -/
def St.over (st : St) (d : Option Nat) (x : Operand) : St :=
  match d, knO st.kn x with
  | some d, some b => ⟨(d, evD st.fr x) :: st.fr, (d, b) :: knDel st.kn d⟩
  | some d, none => st.set d (evD st.fr x)
  | none, _ => st
def overC (st : St) (d : Option Nat) (x : Operand) (K : KT) (w : World) : Prop :=
  match defO st.fr x with
  | true => K (st.over d x) w
  | false => False
/-- one operation in a frame -/
def opC (P : Program) (N : Nat) (al : Option (List Nat)) (o : Oper) (st : St) (K : KT) (w : World) : Prop :=
  match okD N al o.dst with
  | false => False
  | true => match o.op with
    | .move x => overC st o.dst x K w
    | .assign x => overC st o.dst x K w
    | .pick (.tmp s) x y =>
      match knGet st.kn s with
      | some true => overC st o.dst x K w
      | some false => overC st o.dst y K w
      | none => match frGet st.fr s with
        | .bool b => cs b (overC (st.know s true) o.dst x K w) (overC (st.know s false) o.dst y K w)
        | _ => False
    | .select .. => False
    | op => match allDef st.fr op.operands.toList with
      | true => opV P o (evD st.fr) (fun v w' => K (st.put o.dst v) w') w
      | false => False
/-- is it carried out? -/
def grd (N : Nat) (al : Option (List Nat)) (ops : Array Oper) (o : Oper) (st : St) (run skip : St → Prop) : Prop :=
  match o.guard with
  | none => run st
  | some (j, want) => match okD N al o.dst with
    | false => False
    | true => match (ops[j]?).bind (·.dst) with
      | none => False
      | some s => match knGet st.kn s, want with
        | some true, true | some false, false => run st
        | some true, false | some false, true => skip (st.put o.dst undef)
        | none, want => match frGet st.fr s, want with
          | .bool b, true => cs b (run (st.know s true)) (skip ((st.know s false).put o.dst undef))
          | .bool b, false => cs b (skip ((st.know s true).put o.dst undef)) (run (st.know s false))
          | .tuple vs, _ => match isU (.tuple vs) with | true => False | false => skip (st.put o.dst undef)
          | _, _ => False
/-! ### regions that draw their order -/
abbrev Pend := List (Nat × (World → Prop))
def pendC : Pend → List Nat → World → Prop → Prop
  | [], _, _, x => x
  | p :: r, anc, w, x => match memN anc p.1 with | true => pendC r anc w x | false => p.2 w ∧ pendC r anc w x
def opLd (P : Program) (t : TypeId) (b o : Nat) (w : World) (K : Value → (World → Prop) → Prop) : Prop :=
  match okLd P t (kdT P t) with
  | false => False
  | true => match kdT P t with
    | .l k => ldK w b o k fun x => K (k.enc x) fun w' => w'.cell? ⟨b, o, none⟩ = some (k.enc x)
    | .a ks => ldL w b o ks 0 fun vs => K (.agg vs.toArray) fun w' => cellsAt w' b o vs 0
def okAnc (ops : Array Oper) (i : Nat) : List Nat → List Nat → Bool
  | _, [] => true
  | seen, c :: r => match (i :: seen).any (fun k => match ops[k]? with | some o => o.after.any fun e => Region.binds .any e && Nat.beq e.on c | none => false) with
    | true => okAnc ops i (c :: seen) r
    | false => false
def okStab (ops : Array Oper) (listed : Array Bool) (i : Nat) : Bool := (Region.ready .any ops listed).contains i && Region.free .any ops listed i
def okEff (ops : Array Oper) (listed : Array Bool) (i : Nat) : Bool := match Region.ready .any ops listed with | [j] => Nat.beq j i | _ => false
/-- a plan for a region that draws: the operations in an order that serves all; two effects that may come in either order -/
inductive DP where
  | l (xs : List (Nat × List Nat))
  | t (xs : List (Nat × List Nat)) (i : Nat) (ai : List Nat) (p : DP) (j : Nat) (aj : List Nat) (q : DP)
def DP.len : DP → Nat
  | .l xs => xs.length
  | .t xs _ _ p _ _ q => xs.length + 1 + max p.len q.len
def okTwo (ops : Array Oper) (listed : Array Bool) (i j : Nat) : Bool :=
  match Region.ready .any ops listed with
  | [a, b] => (Nat.beq a i && Nat.beq b j) || (Nat.beq a j && Nat.beq b i)
  | _ => false
def noGrd (ops : Array Oper) (i : Nat) : Bool := match ops[i]? with | some o => o.guard.isNone | none => false
def drawL (P : Program) (N : Nat) (al : Option (List Nat)) (ops : Array Oper) (KK : Array Bool → Pend → KT) : List (Nat × List Nat) → Array Bool → Pend → KT
  | [], listed, pend, st, w => KK listed pend st w
  | x :: r, listed, pend, st, w => match ops[x.1]? with
    | none => False
    | some o => grd N al ops o st
      (fun st => match clOf P o.op with
        | .pu => match okStab ops listed x.1 with
          | true => opC P N al o st (fun st' w' => drawL P N al ops KK r (listed.setIfInBounds x.1 true) pend st' w') w
          | false => False
        | .ld => match okStab ops listed x.1 && okD N al o.dst && allDef st.fr o.op.operands.toList with
          | true => match o.op with
            | .load t a => match evD st.fr a with
              | .pointer (some ⟨b, i, none⟩) => opLd P t b i w fun v ag => drawL P N al ops KK r (listed.setIfInBounds x.1 true) ((x.1, ag) :: pend) (st.put o.dst v) w
              | _ => False
            | .convert s d y => tx P s d (evD st.fr y) w fun g => drawL P N al ops KK r (listed.setIfInBounds x.1 true) ((x.1, fun w' => (convert s d (evD st.fr y)).run P w' = .ok (.string g) w') :: pend) (st.put o.dst (.string g)) w
            | _ => False
          | false => False
        | .ef => match okEff ops listed x.1 && okAnc ops x.1 [] x.2 with
          | true => opC P N al o st (fun st' w' => pendC pend x.2 w' (drawL P N al ops KK r (listed.setIfInBounds x.1 true) pend st' w')) w
          | false => False)
      (fun st => match okStab ops listed x.1 with
        | true => drawL P N al ops KK r (listed.setIfInBounds x.1 true) pend st w
        | false => False)
def effC (P : Program) (N : Nat) (al : Option (List Nat)) (ops : Array Oper) (i : Nat) (anc : List Nat) (pend : Pend) (K : KT) (st : St) (w : World) : Prop :=
  match ops[i]? with
  | none => False
  | some o => match clOf P o.op with
    | .ef => opC P N al o st (fun st' w' => pendC pend anc w' (K st' w')) w
    | _ => False
def drawC (P : Program) (N : Nat) (al : Option (List Nat)) (ops : Array Oper) (K : KT) : DP → Array Bool → Pend → KT
  | .l xs, listed, pend, st, w => drawL P N al ops (fun listed _ st w => match (Region.ready .any ops listed).isEmpty with | true => K st w | false => False) xs listed pend st w
  | .t xs i ai p j aj q, listed, pend, st, w => drawL P N al ops (fun listed pend st w => match okTwo ops listed i j && okAnc ops i [] ai && okAnc ops j [] aj && noGrd ops i && noGrd ops j with
      | true => effC P N al ops i ai pend (fun st w => drawC P N al ops K p (listed.setIfInBounds i true) pend st w) st w ∧
          effC P N al ops j aj pend (fun st w => drawC P N al ops K q (listed.setIfInBounds j true) pend st w) st w
      | false => False) xs listed pend st w

/-! ### code -/
structure Jp where
  slots : List (Nat × Kd)
  junk : List Nat
structure Plan where
  ctl : List (Nat × Jp)
  reg : List (Nat × Jp)
  drw : List (Nat × DP)
  seg : List (Nat × List (Nat × Nat × Jp))
def plGet {α : Type} : List (Nat × α) → Nat → Option α
  | [], _ => none
  | x :: r, t => match Nat.beq x.1 t with | true => some x.2 | false => plGet r t
def ctlN : Code → Nat
  | .seq a b => ctlN a + ctlN b
  | .cond _ a b => ctlN a + ctlN b + 1
  | .block _ a => ctlN a + 1
  | .loop a => ctlN a + 1
  | _ => 0
def Jp.ks (j : Jp) : List Kd := j.slots.map (·.2)
def Jp.al (j : Jp) : List Nat := j.slots.map (·.1) ++ j.junk
def setAll : List Nat → List Value → Fr → Fr
  | s :: r, v :: vs, fr => (s, v) :: setAll r vs fr
  | _, _, fr => fr
def dropAll : List Nat → Fr → Fr
  | s :: r, fr => (s, unk) :: dropAll r fr
  | [], fr => fr
def knDelAll : List Nat → List (Nat × Bool) → List (Nat × Bool)
  | s :: r, kn => knDelAll r (knDel kn s)
  | [], kn => kn
def St.reset (st : St) (j : Jp) (t : TK j.ks) : St := ⟨setAll (j.slots.map (·.1)) (encK j.ks t) (dropAll j.junk st.fr), knDelAll j.al st.kn⟩
def Jp.proj (j : Jp) (J : TK j.ks → World → Prop) : KT := fun st w => match ofK j.ks (j.slots.map fun s => frGet st.fr s.1) with | some t => J t w | none => False
/-- ways that meet again behind a piece of code -/
def jnC (j : Jp) (al : Option (List Nat)) (st : St) (body : Option (List Nat) → KT → World → Prop) (K : KT) (w : World) : Prop :=
  match alSub al j.al with
  | true => jn j.ks w (fun t w' => K (st.reset j t) w') fun J w => body (some j.al) (j.proj J) w
  | false => False
/-- guarded groups of a region: at the p-th operation 'n' of them, behind which the ways meet again -/
abbrev Seg := List (Nat × Nat × Jp)
def segDel : Seg → Nat → Seg
  | [], _ => []
  | x :: r, t => match Nat.beq x.1 t with | true => segDel r t | false => x :: segDel r t
/-- is a group's guard open here? -/
def segOpen (ops : Array Oper) (o : Oper) (st : St) : Bool :=
  match o.guard with
  | none => false
  | some (j, _) => match (ops[j]?).bind (·.dst) with
    | none => false
    | some s => match knGet st.kn s with
      | some _ => false
      | none => match frGet st.fr s with | .bool _ => true | _ => false
def opsC (P : Program) (N : Nat) (ops : Array Oper) : Nat → Seg → Nat → List Oper → Option (List Nat) → St → KT → World → Prop
  | _, _, _, [], _, st, K, w => K st w
  | 0, _, _, _, _, _, _, _ => False
  | fuel + 1, sg, p, o :: r, al, st, K, w =>
    match plGet sg p, segOpen ops o st with
    | some (n, j), true => jnC j al st (fun al K w => opsC P N ops fuel (segDel sg p) p (List.take n (o :: r)) al st K w) (fun st w => opsC P N ops fuel sg (p + n) (List.drop n (o :: r)) al st K w) w
    | _, _ => grd N al ops o st (fun st => opC P N al o st (fun st' w' => opsC P N ops fuel sg (p + 1) r al st' K w') w) (fun st => opsC P N ops fuel sg (p + 1) r al st K w)
abbrev Ex := List (Nat × KT)
def comp (P : Program) (N : Nat) (pl : Plan) (ret : KT) : Code → Nat → Option (List Nat) → Ex → St → KT → World → Prop
  | .skip, _, _, _, st, K, w => K st w
  | .region id ops false, _, al, _, st, K, w => opsC P N ops (2 * ops.size) (match plGet pl.seg id with | some sg => sg | none => []) 0 ops.toList al st K w
  | .region id ops true, _, al, _, st, K, w => match plGet pl.drw id with
    | none => False
    | some d => match P.follows .mixedOrders && Region.noSelect ops && Nat.ble d.len ops.size with
      | false => False
      | true => dr w fun w => match plGet pl.reg id with
        | none => drawC P N al ops K d (Array.replicate ops.size false) [] st w
        | some j => jnC j al st (fun al K w => drawC P N al ops K d (Array.replicate ops.size false) [] st w) K w
  | .seq a b, n, al, ex, st, K, w => comp P N pl ret a n al ex st (fun st' w' => comp P N pl ret b (n + ctlN a) al ex st' K w') w
  | .cond (.tmp s) a b, n, al, ex, st, K, w =>
    match knGet st.kn s with
    | some true => comp P N pl ret a (n + 1) al ex st K w
    | some false => comp P N pl ret b (n + 1 + ctlN a) al ex st K w
    | none => match frGet st.fr s with
      | .bool c => match plGet pl.ctl n with
        | none => cs c (comp P N pl ret a (n + 1) al ex (st.know s true) K w) (comp P N pl ret b (n + 1 + ctlN a) al ex (st.know s false) K w)
        | some j => jnC j al st (fun al K w => cs c (comp P N pl ret a (n + 1) al ex (st.know s true) K w) (comp P N pl ret b (n + 1 + ctlN a) al ex (st.know s false) K w)) K w
      | _ => False
  | .block id a, n, al, ex, st, K, w => match plGet pl.ctl n with
    | none => comp P N pl ret a (n + 1) al ((id, K) :: ex) st K w
    | some j => jnC j al st (fun al K w => comp P N pl ret a (n + 1) al ((id, K) :: ex) st K w) K w
  | .loop a, n, al, ex, st, _, w => match plGet pl.ctl n with
    | none => False
    | some j => match alSub al j.al with
      | false => False
      | true => match ofK j.ks (j.slots.map fun s => frGet st.fr s.1) with
        | none => False
        | some t => lp j.ks w t fun t K w => comp P N pl ret a (n + 1) (some j.al) ex (st.reset j t) (j.proj K) w
  | .exit id, _, _, ex, st, _, w => match plGet ex id with | some k => k st w | none => False
  | .ret, _, _, _, st, _, w => ret st w
  | _, _, _, _, _, _, _ => False
/-! ### a whole function -/
def zipA : Nat → List Value → Fr
  | _, [] => []
  | i, v :: r => (i, v) :: zipA (i + 1) r
def resC (P : Program) (st : St) (w : World) : List ResultVar → (List Value → Prop) → Prop
  | [], f => f []
  | .tmp t :: r, f => match isU (frGet st.fr t) with | true => False | false => resC P st w r fun vs => f (frGet st.fr t :: vs)
  | .cell a t :: r, f => match frGet st.fr a with
    | .pointer (some ⟨b, o, none⟩) => opL P t b o w fun v => resC P st w r fun vs => f (v :: vs)
    | _ => False
def retC (P : Program) (fn : Func) (R : List Value → World → Prop) : KT := fun st w => resC P st w fn.results.toList fun vs => R vs w
def compF (P : Program) (fn : Func) (pl : Plan) (args : List Value) (R : List Value → World → Prop) (w : World) : Prop :=
  match fn.body with
  | none => False
  | some c => match Nat.ble args.length fn.ntmps with
    | true => comp P fn.ntmps pl (retC P fn R) c 0 none [] ⟨zipA 0 args, []⟩ (retC P fn R) w
    | false => False
abbrev kI : Kd := .l (.i .i64)
abbrev kB : Kd := .l .b
abbrev kP : Kd := .l .p
abbrev kS : Kd := .l .s
abbrev kM : Kd := .l .m
abbrev kF : Kd := .l .f
abbrev w64 (x : Int) : Int := IntKind.i64.wrap x
def bAnd (k : IntKind) (x y : Int) : Int := k.wrap ((BitVec.ofInt k.bits x &&& BitVec.ofInt k.bits y).toNat : Int)
def bOr (k : IntKind) (x y : Int) : Int := k.wrap ((BitVec.ofInt k.bits x ||| BitVec.ofInt k.bits y).toNat : Int)
def bXor (k : IntKind) (x y : Int) : Int := k.wrap ((BitVec.ofInt k.bits x ^^^ BitVec.ofInt k.bits y).toNat : Int)
def bAndNot (k : IntKind) (x y : Int) : Int := k.wrap ((BitVec.ofInt k.bits x &&& ~~~(BitVec.ofInt k.bits y)).toNat : Int)
end Go.Proofs.YtenonfkfoedfmaaGreatDoor.B


/- What 'comp' reads out of the model's code is enough for the code's own run. -/
namespace Go.Proofs.YtenonfkfoedfmaaGreatDoor.B
open Go

/-! ### pieces of Sem -/
theorem pureK_run {P : Program} {s : Sem Next} {n : Next} (h : pureK P s = some n) : ∀ w, s.run P w = .ok n w := by
  induction s with
  | pure a => intro w; simp [pureK] at h; subst h; rfl
  | program k ih => intro w; simp only [pureK] at h; simp only [Sem.run]; exact ih P h w
  | mark m k ih => intro w; simp only [pureK] at h; simp only [Sem.run]; exact ih h w
  | _ => simp [pureK] at h
theorem st1_run {P : Program} {w : World} {b o : Nat} {v : Value} {f : World → Prop} {m : Mode} {k : Sem Next} (hv : v.oneCell' = true) (h : st1 w b o v f) :
    (Sem.store m ⟨b, o, none⟩ v k).run P w = k.run P (w.setCell ⟨b, o, none⟩ v) ∧ f (w.setCell ⟨b, o, none⟩ v) := by
  obtain ⟨⟨u, hu⟩, hf, hk⟩ := h
  refine ⟨?_, hk⟩
  cases v <;> simp [Value.oneCell'] at hv <;> simp [Sem.run, hu, hf]
theorem semK_run {P : Program} {s : Sem Next} {K : Next → World → Prop} : ∀ {w : World}, semK P s K w → ∃ n w', s.run P w = .ok n w' ∧ K n w' := by
  induction s with
  | pure a => intro w h; exact ⟨a, w, rfl, h⟩
  | program k ih => intro w h; simp only [semK] at h; simp only [Sem.run]; exact ih P h
  | mark m k ih => intro w h; simp only [semK] at h; simp only [Sem.run]; exact ih h
  | new o k ih =>
    intro w h
    cases o with
    | cells c t fz =>
      simp only [semK] at h
      split at h
      · rename_i e1 e2
        have e : fz = (0, 0) := by cases fz; simp_all
        subst e
        simp only [al] at h
        simp only [Sem.run]
        have e : c.toList.toArray = c := by simp
        rw [e] at h
        exact ih _ h
      · exact h.elim
    | _ => exact False.elim h
  | store m a v k ih =>
    intro w h
    simp only [semK] at h
    split at h
    · rename_i e1 hv
      obtain ⟨b, o, sp⟩ := a
      simp only at e1 h
      subst e1
      obtain ⟨h1, h2⟩ := st1_run (P := P) (m := m) (k := k) hv h
      rw [h1]
      exact ih h2
    · exact h.elim
  | _ => intro w h; exact False.elim h

/-! ### operations -/
theorem gen_run {P : Program} {o : Oper} {ρ : Operand → Value} {K : Value → Prop} (h : gen P o ρ K) : ∃ v, K v ∧ ∀ w, (execOp ρ o).run P w = .ok (.value v) w := by
  unfold gen at h
  cases hp : pureK P (execOp ρ o) with
  | none => rw [hp] at h; exact h.elim
  | some n =>
    rw [hp] at h
    cases n <;> simp only [nextV] at h
    exact ⟨_, h, pureK_run hp⟩
theorem add_off (b o n : Nat) : (⟨b, o, none⟩ : Addr).add n = ⟨b, o + n, none⟩ := by
  unfold Addr.add
  split
  · subst_vars; rfl
  · rfl
theorem offA_eq (o i : Nat) : offA o i = o + i := by cases i <;> rfl
theorem ikEq_eq {j k : IntKind} (h : ikEq j k = true) : j = k := by cases j <;> cases k <;> simp [ikEq] at h <;> rfl
theorem equal_succ (t : TypeId) (x y : Value) : Op.equal t x y = Op.equalIn (9999 + 1) t x y := rfl
theorem nilCmp_eq {P : Program} {t : TypeId} {x y : Value} {cx cy c : Bool} (h : nilCmp (P.underlying t) x y cx cy = some c) (w : World) : (Op.equal t x y).run P w = .ok c w := by
  rw [equal_succ]
  unfold nilCmp at h
  split at h <;> first
    | (cases h; done)
    | (rename_i p hu; cases h; cases p <;> rw [Op.equalIn] <;> simp only [Sem.run_bind, run_underlying hu, Result.andThen_ok, Sem.run_pure, Option.isNone]; done)
    | (rename_i a n c m d hu; cases h; cases a <;> rw [Op.equalIn] <;> simp only [Sem.run_bind, run_underlying hu, Result.andThen_ok, Sem.run_pure, Option.isNone]; done)
    | (rename_i n c a m d hu; cases h; cases a <;> rw [Op.equalIn] <;> simp only [Sem.run_bind, run_underlying hu, Result.andThen_ok, Sem.run_pure, Option.isNone]; done)
theorem eq_run {P : Program} {t : TypeId} {x y : Value} {X Y : Operand} {c : Bool} {w : World} (hg : (Op.equal t x y).run P w = .ok c w)
    (hv : (∃ p q, x = .pointer p ∧ y = .pointer q) ∨ (∃ a n c b m d, x = .slice a n c ∧ y = .slice b m d) ∨ (∃ p q, x = .map p ∧ y = .map q)) (neq : Bool) :
    ((do eqGuard (if neq then .neq else .eql) t X Y x y; binOp (if neq then .neq else .eql) t x y : Sem Value)).run P w = .ok (.bool (if neq then !c else c)) w := by
  rcases hv with ⟨p, q, rfl, rfl⟩ | ⟨a, n, c', b, m, d, rfl, rfl⟩ | ⟨p, q, rfl, rfl⟩ <;> cases neq <;>
    simp [eqGuard, binOp, hg]
theorem nilCmp_vals {d : Option TypeDesc} {x y : Value} {cx cy c : Bool} (h : nilCmp d x y cx cy = some c) : (∃ p q, x = .pointer p ∧ y = .pointer q) ∨ (∃ a n c b m d, x = .slice a n c ∧ y = .slice b m d) ∨ (∃ p q, x = .map p ∧ y = .map q) := by
  unfold nilCmp at h
  split at h <;> first
    | (cases h; done)
    | exact .inl ⟨_, _, rfl, rfl⟩
    | exact .inr (.inl ⟨_, _, _, _, _, _, rfl, rfl⟩)
    | exact .inr (.inr ⟨_, _, rfl, rfl⟩)
theorem nilCmp_run {P : Program} {o : Oper} {ρ : Operand → Value} {x y : Operand} {t t' : TypeId} {c : Bool} (hn : nilCmp (P.underlying t) (ρ x) (ρ y) (isConstO x) (isConstO y) = some c) :
    (o.op = .binOp .eql t x y t' → ∀ w, (execOp ρ o).run P w = .ok (.value (.bool c)) w) ∧ (o.op = .binOp .neq t x y t' → ∀ w, (execOp ρ o).run P w = .ok (.value (.bool (!c))) w) := by
  refine ⟨fun ho w => ?_, fun ho w => ?_⟩
  · have := eq_run (P := P) (X := x) (Y := y) (nilCmp_eq hn w) (nilCmp_vals hn) false
    simp only [Bool.false_eq_true, if_false] at this
    unfold execOp
    rw [ho]
    simp only [Sem.run_bind] at this ⊢
    rw [this]; rfl
  · have := eq_run (P := P) (X := x) (Y := y) (nilCmp_eq hn w) (nilCmp_vals hn) true
    simp only [if_true] at this
    unfold execOp
    rw [ho]
    simp only [Sem.run_bind] at this ⊢
    rw [this]; rfl
theorem arr_of {α : Type} {xs : Array α} {l : List α} (h : xs.toList = l) : xs = l.toArray := by rw [← h]
theorem fld2_spec {P : Program} {f : Field} (h : fld2 P f = true) : f.name ≠ "_" ∧ ∃ k, P.underlying f.type = some (.int k) := by
  unfold fld2 at h
  simp only [Bool.and_eq_true, bne_iff_ne] at h
  refine ⟨h.1, ?_⟩
  have h2 := h.2
  split at h2
  · exact ⟨_, by assumption⟩
  · cases h2
theorem part_int {P : Program} {t : TypeId} {k : IntKind} {xs : Array Value} {i : Nat} {v : Value} (hu : P.underlying t = some (.int k)) (h : xs[i]? = some v) (w : World) : (part t xs i).run P w = .ok v w := by
  simp [part, isAgg, run_underlying hu, h]
theorem agg2_eq {P : Program} {t : TypeId} {x y : Value} {c : Bool} (h : agg2 P t x y = some c) (w : World) : (Op.equal t x y).run P w = .ok c w := by
  unfold agg2 at h
  split at h
  · rename_i fs xs ys hu
    split at h
    · rename_i f g j a j' a' k b k' b' hf hx hy
      split at h
      · rename_i hc
        simp only [Bool.and_eq_true, Bool.not_eq_true'] at hc
        obtain ⟨⟨⟨⟨⟨⟨⟨h1, h2⟩, h3⟩, h4⟩, h5⟩, h6⟩, h7⟩, _⟩ := hc
        have h1 := ikEq_eq h1
        have h2 := ikEq_eq h2
        have h3 := Nat.eq_of_beq_eq_true h3
        have h4 := Nat.eq_of_beq_eq_true h4
        obtain ⟨hn5, k5, hu5⟩ := fld2_spec h5
        obtain ⟨hn6, k6, hu6⟩ := fld2_spec h6
        have hf := arr_of hf
        have hx := arr_of hx
        have hy := arr_of hy
        subst h1 h2 hf hx hy
        cases h
        rw [equal_succ, Op.equalIn]
        have e1 : ∀ w, (part f.type [Value.int j a, Value.int j' a'].toArray f.offset).run P w = .ok (.int j a) w := part_int hu5 (by rw [h3]; rfl)
        have e2 : ∀ w, (part g.type [Value.int j a, Value.int j' a'].toArray g.offset).run P w = .ok (.int j' a') w := part_int hu6 (by rw [h4]; rfl)
        have e3 : ∀ w, (part f.type [Value.int j b, Value.int j' b'].toArray f.offset).run P w = .ok (.int j b) w := part_int hu5 (by rw [h3]; rfl)
        have e4 : ∀ w, (part g.type [Value.int j b, Value.int j' b'].toArray g.offset).run P w = .ok (.int j' b') w := part_int hu6 (by rw [h4]; rfl)
        have q1 : ∀ w, (Op.equalIn 9999 f.type (.int j a) (.int j b)).run P w = .ok (a == b) w := fun w => by
          rw [show 9999 = 9998 + 1 from rfl, Op.equalIn]
          simp [run_underlying hu5]
        have q2 : ∀ w, (Op.equalIn 9999 g.type (.int j' a') (.int j' b')).run P w = .ok (a' == b') w := fun w => by
          rw [show 9999 = 9998 + 1 from rfl, Op.equalIn]
          simp [run_underlying hu6]
        simp only [Sem.run_bind, run_underlying hu, Result.andThen_ok]
        simp [h7, hn5, hn6, e1, e2, e3, e4, q1, q2]
        by_cases h8 : a = b <;> by_cases h9 : a' = b' <;> simp [h8, h9]
      · cases h
    · rename_i f g i j a j' a' j'' a'' k b k' b' k'' b'' hf hx hy
      split at h
      · rename_i hc
        simp only [Bool.and_eq_true, Bool.not_eq_true'] at hc
        obtain ⟨⟨⟨⟨⟨⟨⟨⟨⟨⟨h1, h2⟩, g2⟩, h3⟩, h4⟩, g4⟩, h5⟩, h6⟩, g6⟩, h7⟩, _⟩ := hc
        have h1 := ikEq_eq h1
        have h2 := ikEq_eq h2
        have g2 := ikEq_eq g2
        have h3 := Nat.eq_of_beq_eq_true h3
        have h4 := Nat.eq_of_beq_eq_true h4
        have g4 := Nat.eq_of_beq_eq_true g4
        obtain ⟨hn5, k5, hu5⟩ := fld2_spec h5
        obtain ⟨hn6, k6, hu6⟩ := fld2_spec h6
        obtain ⟨hn7, k7, hu7⟩ := fld2_spec g6
        have hf := arr_of hf
        have hx := arr_of hx
        have hy := arr_of hy
        subst h1 h2 g2 hf hx hy
        cases h
        rw [equal_succ, Op.equalIn]
        have e1 : ∀ w, (part f.type [Value.int j a, Value.int j' a', Value.int j'' a''].toArray f.offset).run P w = .ok (.int j a) w := part_int hu5 (by rw [h3]; rfl)
        have e2 : ∀ w, (part g.type [Value.int j a, Value.int j' a', Value.int j'' a''].toArray g.offset).run P w = .ok (.int j' a') w := part_int hu6 (by rw [h4]; rfl)
        have e5 : ∀ w, (part i.type [Value.int j a, Value.int j' a', Value.int j'' a''].toArray i.offset).run P w = .ok (.int j'' a'') w := part_int hu7 (by rw [g4]; rfl)
        have e3 : ∀ w, (part f.type [Value.int j b, Value.int j' b', Value.int j'' b''].toArray f.offset).run P w = .ok (.int j b) w := part_int hu5 (by rw [h3]; rfl)
        have e4 : ∀ w, (part g.type [Value.int j b, Value.int j' b', Value.int j'' b''].toArray g.offset).run P w = .ok (.int j' b') w := part_int hu6 (by rw [h4]; rfl)
        have e6 : ∀ w, (part i.type [Value.int j b, Value.int j' b', Value.int j'' b''].toArray i.offset).run P w = .ok (.int j'' b'') w := part_int hu7 (by rw [g4]; rfl)
        have q1 : ∀ w, (Op.equalIn 9999 f.type (.int j a) (.int j b)).run P w = .ok (a == b) w := fun w => by
          rw [show 9999 = 9998 + 1 from rfl, Op.equalIn]
          simp [run_underlying hu5]
        have q2 : ∀ w, (Op.equalIn 9999 g.type (.int j' a') (.int j' b')).run P w = .ok (a' == b') w := fun w => by
          rw [show 9999 = 9998 + 1 from rfl, Op.equalIn]
          simp [run_underlying hu6]
        have q3 : ∀ w, (Op.equalIn 9999 i.type (.int j'' a'') (.int j'' b'')).run P w = .ok (a'' == b'') w := fun w => by
          rw [show 9999 = 9998 + 1 from rfl, Op.equalIn]
          simp [run_underlying hu7]
        simp only [Sem.run_bind, run_underlying hu, Result.andThen_ok]
        simp [h7, hn5, hn6, hn7, e1, e2, e3, e4, e5, e6, q1, q2, q3]
        by_cases h8 : a = b <;> by_cases h9 : a' = b' <;> by_cases h10 : a'' = b'' <;> simp [h8, h9, h10]
      · cases h
    · cases h
  · cases h
theorem agg2_vals {P : Program} {t : TypeId} {x y : Value} {c : Bool} (h : agg2 P t x y = some c) : (∃ xs ys, x = .agg xs ∧ y = .agg ys) ∧ P.eqGuardType P.depth t = false := by
  unfold agg2 at h
  split at h
  · split at h
    · split at h
      · rename_i hc
        simp only [Bool.and_eq_true, Bool.not_eq_true'] at hc
        exact ⟨⟨_, _, rfl, rfl⟩, hc.2⟩
      · cases h
    · split at h
      · rename_i hc
        simp only [Bool.and_eq_true, Bool.not_eq_true'] at hc
        exact ⟨⟨_, _, rfl, rfl⟩, hc.2⟩
      · cases h
    · cases h
  · cases h
theorem agg2_run {P : Program} {o : Oper} {ρ : Operand → Value} {x y : Operand} {t t' : TypeId} {c : Bool} (hn : agg2 P t (ρ x) (ρ y) = some c) :
    (o.op = .binOp .eql t x y t' → ∀ w, (execOp ρ o).run P w = .ok (.value (.bool c)) w) ∧ (o.op = .binOp .neq t x y t' → ∀ w, (execOp ρ o).run P w = .ok (.value (.bool (!c))) w) := by
  obtain ⟨⟨xs, ys, hx, hy⟩, hg⟩ := agg2_vals hn
  have he := agg2_eq hn
  rw [hx, hy] at he
  refine ⟨fun ho w => ?_, fun ho w => ?_⟩
  · simp [execOp, ho, hx, hy, eqGuard, binOp, hg, he]
  · simp [execOp, ho, hx, hy, eqGuard, binOp, hg, he]
theorem sliceBound_run {P : Program} {k : IntKind} {i : Int} {y : Nat} {c : BoundsCode} (h0 : 0 ≤ i) (h : i ≤ y) (w : World) : (Instr.sliceBound (.int k i) y c).run P w = .ok i.toNat w := by
  simp [Instr.sliceBound, asIntOf, h0, h]
theorem bnd_some {ρ : Operand → Value} {d n : Int} {x : Option Operand} (h : bnd ρ d x = some n) : (x = none ∧ n = d) ∨ ∃ y k, x = some y ∧ ρ y = .int k n := by
  cases x with
  | none => simp [bnd] at h; exact .inl ⟨rfl, h.symm⟩
  | some y =>
    simp only [bnd] at h
    split at h
    · rename_i k m hy; cases h; exact .inr ⟨y, k, rfl, hy⟩
    · cases h
theorem slice_run {P : Program} {ρ : Operand → Value} {a : Option Addr} {n c : Nat} {lo hi mx : Option Operand} {l h m : Int} {t e : TypeId} {r : TypeInfo}
    (hu : P.underlying t = some (.slice e)) (hr : P.info? e = some r) (hl : bnd ρ 0 lo = some l) (hh : bnd ρ n hi = some h) (hm : bnd ρ c mx = some m) (hs : (hi.isSome || mx.isNone) = true)
    (h0 : 0 ≤ l) (h1 : l ≤ h) (h2 : h ≤ m) (h3 : m ≤ c) (w : World) :
    (Instr.sliceAt t (.slice a n c) (lo.map ρ) (hi.map ρ) (mx.map ρ)).run P w = .ok (vS (Sl.sub ⟨a, n, c⟩ l h m r.size)) w := by
  have S : ∀ {x : Operand} {k : IntKind} {i : Int} (y : Nat) (cd : BoundsCode), ρ x = .int k i → 0 ≤ i → i ≤ y → ∀ w, (Instr.sliceBound (ρ x) y cd).run P w = .ok i.toNat w := fun y cd hx h0 h w => by rw [hx]; exact sliceBound_run h0 h w
  have hb : (Instr.sliceBounds true n c (lo.map ρ) (hi.map ρ) (mx.map ρ)).run P w = .ok (l.toNat, h.toNat, m.toNat) w := by
    rcases bnd_some hm with ⟨rfl, rfl⟩ | ⟨ym, km, rfl, hym⟩ <;> rcases bnd_some hh with ⟨rfl, rfl⟩ | ⟨yh, kh, rfl, hyh⟩ <;> rcases bnd_some hl with ⟨rfl, rfl⟩ | ⟨yl, kl, rfl, hyl⟩ <;> (try (simp at hs; done)) <;>
      simp only [Instr.sliceBounds, Option.map_some, Option.map_none, Sem.run_bind, Sem.run_pure, Result.andThen_ok, Option.isSome_some, Option.isSome_none, if_true, Bool.false_eq_true, if_false, Int.toNat_natCast]
    · rfl
    · rw [S n _ hyl (by omega) (by omega)]; rfl
    · rw [S c _ hyh (by omega) (by omega)]; rfl
    · rw [S c _ hyh (by omega) (by omega), Result.andThen_ok, S h.toNat _ hyl (by omega) (by omega)]; rfl
    · rw [S c _ hym (by omega) (by omega), Result.andThen_ok, S m.toNat _ hyh (by omega) (by omega)]; rfl
    · rw [S c _ hym (by omega) (by omega), Result.andThen_ok, S m.toNat _ hyh (by omega) (by omega), Result.andThen_ok, S h.toNat _ hyl (by omega) (by omega)]; rfl
  simp only [Instr.sliceAt, Instr.slice, Sem.run_bind, run_underlying hu, Result.andThen_ok, hb]
  simp [sizeOf, typeInfo, hr, vS, Sl.sub]
theorem opP_run {P : Program} {o : Oper} {ρ : Operand → Value} {K : Value → Prop} (h : opP P o ρ K) : ∃ v, K v ∧ ∀ w, (execOp ρ o).run P w = .ok (.value v) w := by
  unfold opP at h
  split at h
  · rename_i x hop
    split at h
    · rename_i p hx
      obtain ⟨b, i, rfl, hk⟩ := h
      exact ⟨_, hk, fun w => by simp [execOp, hop, hx]⟩
    · exact gen_run h
  · rename_i t x i hop
    split at h
    · rename_i a n c k j e hx hi hu
      split at h
      · rename_i r hr
        obtain ⟨b, q, ha, h0, h1, hk⟩ := h
        simp only at ha h1
        exact ⟨_, hk, fun w => by simp [execOp, hop, Instr.indexAt, hx, hi, asIntOf, run_underlying hu, ha, h0, h1, sizeOf, typeInfo, hr, add_off]⟩
      · exact h.elim
    · rename_i b q k j n e hx hi hu
      split at h
      · rename_i r hr
        obtain ⟨h0, h1, hk⟩ := h
        exact ⟨_, hk, fun w => by simp [execOp, hop, Instr.indexAt, Instr.sureAddr, hx, hi, asIntOf, run_underlying hu, h0, h1, sizeOf, typeInfo, hr, add_off]⟩
      · exact h.elim
    · exact h.elim
  · rename_i t x lo hi mx hop
    split at h
    · rename_i a n c e hx hu
      split at h
      · rename_i r l hh m hr hl hhi hm hs
        obtain ⟨h0, h1, h2, h3, hk⟩ := h
        exact ⟨_, hk, fun w => by
          simp only [execOp, hop, hx, Sem.run_bind]
          rw [slice_run hu hr hl hhi hm hs h0 h1 h2 h3 w]; rfl⟩
      · exact h.elim
    · rename_i b q n e hx hu
      split at h
      · rename_i r hr hn
        have hn : n ≠ 0 := by rw [Nat.blt_eq] at hn; omega
        exact ⟨_, h, fun w => by simp [execOp, hop, hx, Instr.sliceAt, run_underlying hu, Instr.sureAddr, Instr.sliceBounds, sizeOf, typeInfo, hr, vS, hn, Addr.add_lit]⟩
      · exact h.elim
    · exact h.elim
  · rename_i op t x y t' hop
    split at h
    · split at h
      · exact gen_run h
      · split at h
        · rename_i k a k' b hx hy
          split at h
          · rename_i hkk
            cases ikEq_eq hkk
            exact ⟨_, h.2, fun w => by simp [execOp, hop, hx, hy, eqGuard, binOp, Op.intDiv, h.1]⟩
          · exact h.elim
        · exact h.elim
    · split at h
      · exact gen_run h
      · split at h
        · rename_i k a k' b hx hy
          split at h
          · rename_i hkk
            cases ikEq_eq hkk
            exact ⟨_, h.2, fun w => by simp [execOp, hop, hx, hy, eqGuard, binOp, Op.intDiv, h.1]⟩
          · exact h.elim
        · exact h.elim
    · split at h
      · exact gen_run h
      · split at h
        · rename_i k a k' b hx hy
          have h1 : ¬ b < 0 := by have := h.1; omega
          exact ⟨_, h.2, fun w => by simp [execOp, hop, hx, hy, eqGuard, binOp, Op.shift, h1]⟩
        · exact h.elim
    · split at h
      · exact gen_run h
      · split at h
        · rename_i k a k' b hx hy
          have h1 : ¬ b < 0 := by have := h.1; omega
          exact ⟨_, h.2, fun w => by simp [execOp, hop, hx, hy, eqGuard, binOp, Op.shift, h1]⟩
        · exact h.elim
    · split at h
      · rename_i c hc
        exact ⟨_, h, (nilCmp_run hc).1 hop⟩
      · split at h
        · rename_i c hc
          exact ⟨_, h, (agg2_run hc).1 hop⟩
        · exact gen_run h
    · split at h
      · rename_i c hc
        exact ⟨_, h, (nilCmp_run hc).2 hop⟩
      · split at h
        · rename_i c hc
          exact ⟨_, h, (agg2_run hc).2 hop⟩
        · exact gen_run h
    · exact gen_run h
  · exact gen_run h

/-! ### loads -/
theorem cellsAt_iff {w : World} {b o : Nat} {vs : List Value} : ∀ {i : Nat}, cellsAt w b o vs i ↔ ∀ j v, vs[j]? = some v → w.cell? ⟨b, o + (i + j), none⟩ = some v := by
  induction vs with
  | nil => intro i; simp [cellsAt]
  | cons v r ih =>
    intro i
    have hsplit : (∀ j u, (v :: r)[j]? = some u → w.cell? ⟨b, o + (i + j), none⟩ = some u) ↔ w.cell? ⟨b, offA o i, none⟩ = some v ∧ ∀ j u, r[j]? = some u → w.cell? ⟨b, o + (i + 1 + j), none⟩ = some u := by
      rw [offA_eq]
      constructor
      · intro h
        exact ⟨by simpa using h 0 v rfl, fun j u hu => by have := h (j + 1) u (by simpa using hu); rw [show i + 1 + j = i + (j + 1) by omega]; exact this⟩
      · rintro ⟨h1, h2⟩ j u hu
        cases j with
        | zero => simp at hu; subst hu; simpa using h1
        | succ j => have := h2 j u (by simpa using hu); rw [show i + (j + 1) = i + 1 + j by omega]; exact this
    rw [hsplit]
    cases r with
    | nil => simp [cellsAt]
    | cons u r => simp only [cellsAt]; rw [← ih]
theorem ldL_run {w : World} {b o : Nat} {ks : List Lk} : ∀ {i : Nat} {f : List Value → Prop}, ldL w b o ks i f → ∃ vs, f vs ∧ vs.length = ks.length ∧ ∀ j v, vs[j]? = some v → w.cell? ⟨b, o + (i + j), none⟩ = some v := by
  induction ks with
  | nil => intro i f h; exact ⟨[], h, rfl, by simp⟩
  | cons k r ih =>
    intro i f h
    simp only [ldL, ldK_iff] at h
    obtain ⟨x, hx, h⟩ := h
    obtain ⟨vs, hf, hl, hc⟩ := ih h
    refine ⟨_, hf, by simp [hl], fun j v hv => ?_⟩
    cases j with
    | zero => simp at hv; subst hv; rw [offA_eq] at hx; simpa using hx
    | succ j => have := hc j v (by simpa using hv); rw [show i + (j + 1) = i + 1 + j by omega]; exact this
theorem loadVar_agg {P : Program} {t : TypeId} {r : TypeInfo} {b o : Nat} {vs : List Value} {w : World} (hu : (∃ fs, P.underlying t = some (.struct fs)) ∨ (∃ n e, P.underlying t = some (.array n e))) (hr : P.info? t = some r) (hl : vs.length = r.size)
    (hc : ∀ j v, vs[j]? = some v → w.cell? ⟨b, o + j, none⟩ = some v) : (loadVar t ⟨b, o, none⟩).run P w = .ok (.agg vs.toArray) w := by
  have hL := run_loadCells_list (P := P) w ⟨b, o, none⟩ vs (fun j v hv => by rw [add_off]; exact hc j v hv)
  rcases hu with ⟨fs, hu⟩ | ⟨n, e, hu⟩
  · simp [loadVar, isAgg, run_underlying hu, sizeOf, typeInfo, hr, ← hl, hL]
  · simp [loadVar, isAgg, run_underlying hu, sizeOf, typeInfo, hr, ← hl, hL]
theorem loadVar_one {P : Program} {t : TypeId} {d : TypeDesc} {b o : Nat} {v : Value} {w : World} (hu : P.underlying t = some d) (hs : ∀ fs, d ≠ .struct fs) (ha : ∀ n e, d ≠ .array n e)
    (hc : w.cell? ⟨b, o, none⟩ = some v) : (loadVar t ⟨b, o, none⟩).run P w = .ok v w := by
  cases d <;> first
    | exact absurd rfl (hs _)
    | exact absurd rfl (ha _ _)
    | simp [loadVar, isAgg, run_underlying hu, hc]
theorem okLd_spec {P : Program} {t : TypeId} {k : Kd} (h : okLd P t k = true) :
    (∃ ks r, k = .a ks ∧ P.info? t = some r ∧ ks.length = r.size ∧ ((∃ fs, P.underlying t = some (.struct fs)) ∨ (∃ n e, P.underlying t = some (.array n e)))) ∨
    (∃ l d, k = .l l ∧ P.underlying t = some d ∧ (∀ fs, d ≠ .struct fs) ∧ (∀ n e, d ≠ .array n e)) := by
  unfold okLd at h
  split at h
  · rename_i fs r ks hu hr; exact .inl ⟨ks, r, rfl, hr, Nat.eq_of_beq_eq_true h, .inl ⟨fs, hu⟩⟩
  · rename_i n e r ks hu hr; exact .inl ⟨ks, r, rfl, hr, Nat.eq_of_beq_eq_true h, .inr ⟨n, e, hu⟩⟩
  · cases h
  · cases h
  · rename_i d r l hs ha hu hr
    exact .inr ⟨l, d, rfl, hu, fun fs e => hs fs e, fun n e' e => ha n e' e⟩
  · cases h
theorem opLd_run {P : Program} {t : TypeId} {b o : Nat} {w : World} {K : Value → (World → Prop) → Prop} (h : opLd P t b o w K) :
    ∃ v ag, K v ag ∧ ag w ∧ ∀ w', ag w' → (loadVar t ⟨b, o, none⟩).run P w' = .ok v w' := by
  unfold opLd at h
  split at h
  · exact h.elim
  · rename_i hok
    rcases okLd_spec hok with ⟨ks, r, hk, hr, hl, hu⟩ | ⟨l, d, hk, hu, hs, ha⟩
    · rw [hk] at h
      simp only at h
      obtain ⟨vs, hf, hlen, hc⟩ := ldL_run h
      exact ⟨_, _, hf, cellsAt_iff.2 (by simpa using hc), fun w' hw' => loadVar_agg hu hr (hlen.trans hl) (by simpa using cellsAt_iff.1 hw')⟩
    · rw [hk] at h
      simp only [ldK_iff] at h
      obtain ⟨x, hx, hf⟩ := h
      exact ⟨_, _, hf, hx, fun w' hw' => loadVar_one hu hs ha hw'⟩
theorem opL_run {P : Program} {t : TypeId} {b o : Nat} {w : World} {K : Value → Prop} (h : opL P t b o w K) :
    ∃ v, K v ∧ (loadVar t ⟨b, o, none⟩).run P w = .ok v w := by
  have h' : opLd P t b o w fun v _ => K v := by
    unfold opL at h
    unfold opLd
    split at h
    · exact h.elim
    · exact h
  obtain ⟨v, ag, hk, hag, hr⟩ := opLd_run h'
  exact ⟨v, hk, hr w hag⟩
theorem load_run {P : Program} {o : Oper} {ρ : Operand → Value} {t : TypeId} {a : Operand} {b i : Nat} {v : Value} {w : World} (hop : o.op = .load t a) (ha : ρ a = .pointer (some ⟨b, i, none⟩))
    (h : (loadVar t ⟨b, i, none⟩).run P w = .ok v w) : (execOp ρ o).run P w = .ok (.value v) w := by
  simp [execOp, hop, Instr.loadAt, Instr.sureAddr, ha, h]

/-! ### operations that act -/
section
variable {P : Program} {o : Oper} {a : Act} {w : World} {K : Value → World → Prop} {Q : Exit → Act → World → Prop}
theorem wp_of_value {v : Value} {w' : World} (h : (execOp a.eval o).run P w = .ok (.value v) w') (hk : K v w') : o.wp P a w (fun a' w' => ∃ v, a' = a.put o.dst v ∧ K v w') Q := by
  unfold Oper.wp; rw [h]; exact ⟨v, rfl, hk⟩
theorem wp_of_skip {w' : World} (h : (execOp a.eval o).run P w = .ok .skip w') (hk : K undef w') : o.wp P a w (fun a' w' => ∃ v, a' = a.put o.dst v ∧ K v w') Q := by
  unfold Oper.wp; rw [h]; exact ⟨undef, rfl, hk⟩
theorem wp_of_enter {f : FuncId} {args : List Value} {ks : List Kd} (h : (execOp a.eval o).run P w = .ok (.enter f args.toArray) w) (hk : cl P f args ks w fun t w' => K (ret1 (encK ks t)) w') :
    o.wp P a w (fun a' w' => ∃ v, a' = a.put o.dst v ∧ K v w') Q := by
  unfold Oper.wp; rw [h]
  refine Calls.mono hk ?_
  rintro e w' ⟨t, rfl, hK⟩
  exact ⟨_, rfl, hK⟩
theorem enterable_spec {g : Nat} (h : enterable P g = true) : ∃ fn, P.funcs[g]? = some fn ∧ fn.body.isNone = false ∧ (fn.name == "runtime.NumGoroutine") = false := by
  unfold enterable at h
  split at h
  · rename_i fn hf
    simp only [Bool.and_eq_true, Bool.not_eq_true'] at h
    exact ⟨fn, hf, by cases hb : fn.body <;> simp_all, h.2⟩
  · cases h
theorem callFunc_run {g : Nat} (h : enterable P g = true) (args : Array Value) (w : World) : (callFunc g args).run P w = .ok (.enter g args) w := by
  obtain ⟨fn, hf, hb, hn⟩ := enterable_spec h
  simp only [callFunc, Sem.run_bind, run_program, Result.andThen_ok, hf]
  rw [if_neg (by rw [hn]; simp), if_neg (by rw [hb]; simp)]
  rfl
theorem call_run {ρ : Operand → Value} {f : Operand} {args : Array Operand} {at_ : Array TypeId} {g : Nat} {pre post : Array Value} (hop : o.op = .call { callee := .value f, args := args, argTypes := at_ }) (hf : ρ f = .func (.func g) pre post) (w : World) :
    (execOp ρ o).run P w = (callFunc g (pre.toList ++ (args.toList.map ρ ++ post.toList)).toArray).run P w := by
  have e : (pre.toList ++ (args.toList.map ρ ++ post.toList)).toArray = pre ++ args.map ρ ++ post := by
    apply Array.ext'
    simp
  rw [e]
  simp [execOp, hop, resolve, hf, Deferred.ofValue, invoke]
theorem opE_wp {ρ : Operand → Value} (he : execOp a.eval o = execOp ρ o) (h : opE P o ρ K w) : o.wp P a w (fun a' w' => ∃ v, a' = a.put o.dst v ∧ K v w') Q := by
  unfold opE at h
  split at h
  · rename_i f args at_ hop
    split at h
    · rename_i g pre post hf
      have hr := call_run (P := P) hop hf w
      rw [← he] at hr
      split at h
      · split at h
        · rename_i hen
          rw [callFunc_run hen] at hr
          exact wp_of_enter hr h
        · split at h
          · rename_i fn hfn
            split at h
            · obtain ⟨t, w', h1, h2⟩ := h
              rw [h1] at hr
              exact wp_of_value hr h2
            · exact h.elim
          · exact h.elim
      · rw [callFunc_run h.1] at hr
        exact wp_of_enter hr h.2
    · exact h.elim
  · rename_i b args at_ hop
    split at h
    all_goals first
      | exact h.elim
      | (obtain ⟨t, w', h1, h2⟩ := h
         refine wp_of_value (v := ret1 (encK _ t)) (w' := w') ?_ h2
         rw [he]
         simp [execOp, hop, resolve, invoke, builtin, h1])
  · rename_i t m k ok hop
    obtain ⟨t, w', h1, h2⟩ := h
    exact wp_of_value (by rw [he]; simp [execOp, hop, h1]) h2
  · rename_i t m k x hop
    obtain ⟨w', h1, h2⟩ := h
    exact wp_of_skip (by rw [he]; simp [execOp, hop, h1]) h2
  · rename_i x t u ok hop
    obtain ⟨t, w', h1, h2⟩ := h
    exact wp_of_value (by rw [he]; simp [execOp, hop, h1]) h2
  · rename_i t r hop
    obtain ⟨t, w', h1, h2⟩ := h
    exact wp_of_value (by rw [he]; simp [execOp, hop, h1]) h2
  · rename_i t l c hop
    obtain ⟨t, w', h1, h2⟩ := h
    exact wp_of_value (by rw [he]; simp [execOp, hop, h1]) h2
  · rename_i s d x hop
    obtain ⟨t, w', h1, h2⟩ := h
    exact wp_of_value (by rw [he]; simp [execOp, hop, h1]) h2
  · rename_i t m k hop
    obtain ⟨t, w', h1, h2⟩ := h
    exact wp_of_value (by rw [he]; simp [execOp, hop, h1]) h2
  · rename_i t m s x hop
    obtain ⟨w', h1, h2⟩ := h
    exact wp_of_skip (by rw [he]; simp [execOp, hop, h1]) h2
  · rename_i t x hop
    obtain ⟨r, w', h1, h2⟩ := h
    exact wp_of_value (by rw [he]; simp [execOp, hop, h1]) h2
  · rename_i it hop
    rcases h with ⟨w', h1, h2⟩ | ⟨k, v, w', h1, h2⟩
    · exact wp_of_value (by rw [he]; simp [execOp, hop, h1]) h2
    · exact wp_of_value (by rw [he]; simp [execOp, hop, h1]) h2
  · rename_i it hop
    obtain ⟨t, w', h1, h2⟩ := h
    exact wp_of_value (by rw [he]; simp [execOp, hop, h1]) h2
  all_goals first
    | exact h.elim
    | (obtain ⟨n, w', h1, h2⟩ := semK_run h
       rw [← he] at h1
       cases n <;> first
         | exact wp_of_value h1 h2
         | exact wp_of_skip h1 h2
         | exact h2.elim)
theorem opV_wp {ρ : Operand → Value} (he : execOp a.eval o = execOp ρ o) (h : opV P o ρ K w) : o.wp P a w (fun a' w' => ∃ v, a' = a.put o.dst v ∧ K v w') Q := by
  unfold opV at h
  split at h
  · obtain ⟨v, hk, hr⟩ := opP_run h
    exact wp_of_value (by rw [he]; exact hr w) hk
  · split at h
    · rename_i t x hop
      split at h
      · rename_i b i hx
        obtain ⟨v, hk, hr⟩ := opL_run h
        exact wp_of_value (by rw [he]; exact load_run hop hx hr) hk
      · exact h.elim
    · rename_i s d x hop
      obtain ⟨g, h1, hk⟩ := h
      exact wp_of_value (by rw [he]; simp [execOp, hop, h1]) hk
    · rename_i t x y t' hop
      split at h
      · rename_i p q hx hy
        obtain ⟨c, h1, hk⟩ := h
        have := eq_run (P := P) (X := x) (Y := y) h1 (.inl ⟨p, q, rfl, rfl⟩) false
        simp only [Bool.false_eq_true, if_false] at this
        refine wp_of_value (v := .bool c) ?_ hk
        rw [he]
        unfold execOp
        rw [hop]
        simp only [Sem.run_bind, hx, hy] at this ⊢
        rw [this]; rfl
      · exact h.elim
    · rename_i t x y t' hop
      split at h
      · rename_i p q hx hy
        obtain ⟨c, h1, hk⟩ := h
        have := eq_run (P := P) (X := x) (Y := y) h1 (.inl ⟨p, q, rfl, rfl⟩) true
        simp only [if_true] at this
        refine wp_of_value (v := .bool (!c)) ?_ hk
        rw [he]
        unfold execOp
        rw [hop]
        simp only [Sem.run_bind, hx, hy] at this ⊢
        rw [this]; rfl
      · exact h.elim
    · exact h.elim
  · exact opE_wp he h
end
end Go.Proofs.YtenonfkfoedfmaaGreatDoor.B


/- What 'comp' reads out of the model's code is enough for the code's own run: frames, regions, code. -/
namespace Go.Proofs.YtenonfkfoedfmaaGreatDoor.B
open Go

/-! ### frames -/
theorem frGet_cons (d : Nat) (v : Value) (r : Fr) (t : Nat) : frGet ((d, v) :: r) t = if d = t then v else frGet r t := by
  simp only [frGet]
  by_cases h : d = t
  · subst h; simp
  · have : Nat.beq d t = false := by rw [← Bool.not_eq_true, Nat.beq_eq]; exact h
    simp [this, h]
theorem knGet_cons (d : Nat) (v : Bool) (r : List (Nat × Bool)) (t : Nat) : knGet ((d, v) :: r) t = if d = t then some v else knGet r t := by
  simp only [knGet]
  by_cases h : d = t
  · subst h; simp
  · have : Nat.beq d t = false := by rw [← Bool.not_eq_true, Nat.beq_eq]; exact h
    simp [this, h]
theorem knGet_del (kn : List (Nat × Bool)) (d s : Nat) : knGet (knDel kn d) s = if d = s then none else knGet kn s := by
  induction kn with
  | nil => simp [knDel, knGet]
  | cons x r ih =>
    obtain ⟨k, b⟩ := x
    simp only [knDel]
    by_cases h : k = d
    · subst h
      simp only [Nat.beq_refl]
      rw [ih, knGet_cons]
      by_cases h2 : k = s <;> simp [h2]
    · have : Nat.beq k d = false := by rw [← Bool.not_eq_true, Nat.beq_eq]; exact h
      simp only [this]
      rw [knGet_cons, knGet_cons, ih]
      by_cases h2 : k = s
      · subst h2; simp [Ne.symm h]
      · simp [h2]
theorem memN_iff (l : List Nat) (t : Nat) : memN l t = true ↔ t ∈ l := by
  induction l with
  | nil => simp [memN]
  | cons x r ih =>
    simp only [memN]
    by_cases h : x = t
    · subst h; simp
    · have : Nat.beq x t = false := by rw [← Bool.not_eq_true, Nat.beq_eq]; exact h
      simp [this, ih, Ne.symm h]
structure Rel (N : Nat) (st : St) (a : Act) : Prop where
  size : a.tmps.size = N
  defers : a.defers = []
  fr : ∀ t, isU (frGet st.fr t) = false → a.tmps.getD t undef = frGet st.fr t
  kn : ∀ s b, knGet st.kn s = some b → frGet st.fr s = .bool b
def Same (al : Option (List Nat)) (st st' : St) : Prop := ∀ t, alOk al t = false → frGet st'.fr t = frGet st.fr t
theorem Same.refl (al : Option (List Nat)) (st : St) : Same al st st := fun _ _ => rfl
theorem Same.trans {al : Option (List Nat)} {a b c : St} (h : Same al a b) (k : Same al b c) : Same al a c := fun t ht => (k t ht).trans (h t ht)
theorem okD_spec {N : Nat} {al : Option (List Nat)} {dst : Option Nat} (h : okD N al dst = true) : ∀ d, dst = some d → d < N ∧ alOk al d = true := by
  rintro d rfl
  simp only [okD] at h
  split at h
  · rename_i h1
    exact ⟨by simpa [Nat.blt_eq] using h1, h⟩
  · cases h
theorem Same.put {al : Option (List Nat)} {N : Nat} {dst : Option Nat} (h : okD N al dst = true) (st : St) (v : Value) : Same al st (st.put dst v) := by
  intro t ht
  cases dst with
  | none => rfl
  | some d =>
    have := (okD_spec h d rfl).2
    have hne : d ≠ t := by rintro rfl; rw [this] at ht; cases ht
    simp only [St.put, St.set, frGet_cons, if_neg hne]
theorem getD_put {a : Act} {d t : Nat} {v : Value} (hd : d < a.tmps.size) : (a.put (some d) v).tmps.getD t undef = if d = t then v else a.tmps.getD t undef := by
  simp only [Act.put]
  by_cases h : d = t
  · subst h; simp [hd]
  · simp [h, Array.getElem?_setIfInBounds_ne h]
theorem Rel.put {N : Nat} {st : St} {a : Act} (h : Rel N st a) {dst : Option Nat} (hd : ∀ d, dst = some d → d < N) (v : Value) : Rel N (st.put dst v) (a.put dst v) := by
  cases dst with
  | none => exact h
  | some d =>
    have hlt : d < a.tmps.size := by rw [h.size]; exact hd d rfl
    refine ⟨by simp [Act.put, h.size], h.defers, fun t ht => ?_, fun s b hs => ?_⟩
    · rw [getD_put hlt]
      simp only [St.put, St.set, frGet_cons] at ht ⊢
      split
      · rfl
      · rename_i hne; simp only [hne, if_false] at ht; exact h.fr t ht
    · simp only [St.put, St.set, frGet_cons] at hs ⊢
      rw [knGet_del] at hs
      split at hs
      · cases hs
      · rename_i hne; simp only [hne, if_false]; exact h.kn s b hs
theorem know_fr {st : St} {s : Nat} {b : Bool} (h : frGet st.fr s = .bool b) (t : Nat) : frGet (st.know s b).fr t = frGet st.fr t := by
  simp only [St.know, frGet_cons]
  split
  · rename_i e; subst e; exact h.symm
  · rfl
theorem Rel.know {N : Nat} {st : St} {a : Act} (h : Rel N st a) {s : Nat} {b : Bool} (hb : frGet st.fr s = .bool b) : Rel N (st.know s b) a := by
  refine ⟨h.size, h.defers, fun t ht => ?_, fun t c hc => ?_⟩
  · rw [know_fr hb] at ht ⊢; exact h.fr t ht
  · rw [know_fr hb]
    simp only [St.know, knGet_cons] at hc
    split at hc
    · rename_i e; subst e; cases hc; exact hb
    · exact h.kn t c hc
theorem Same.know {al : Option (List Nat)} {st : St} {s : Nat} {b : Bool} (hb : frGet st.fr s = .bool b) : Same al st (st.know s b) := fun t _ => know_fr hb t
theorem Rel.ev {N : Nat} {st : St} {a : Act} (h : Rel N st a) {x : Operand} (hx : defO st.fr x = true) : a.eval x = evD st.fr x := by
  cases x with
  | tmp t => simp only [defO, Bool.not_eq_true'] at hx; exact h.fr t hx
  | _ => rfl
theorem allDef_spec {fr : Fr} : ∀ {l : List Operand}, allDef fr l = true → ∀ x ∈ l, defO fr x = true := by
  intro l
  induction l with
  | nil => intro _ x hx; cases hx
  | cons y r ih =>
    intro h x hx
    simp only [allDef] at h
    split at h
    · rename_i hy
      rcases List.mem_cons.1 hx with rfl | hx
      · exact hy
      · exact ih h x hx
    · cases h
theorem over_put {st : St} {d : Option Nat} {x : Operand} (t : Nat) : frGet (st.over d x).fr t = frGet (st.put d (evD st.fr x)).fr t := by
  unfold St.over
  split <;> rfl
theorem Rel.over {N : Nat} {st : St} {a : Act} (h : Rel N st a) {dst : Option Nat} (hd : ∀ d, dst = some d → d < N) (x : Operand) : Rel N (st.over dst x) (a.put dst (evD st.fr x)) := by
  have hp := h.put hd (evD st.fr x)
  refine ⟨hp.size, hp.defers, fun t ht => ?_, fun s b hs => ?_⟩
  · rw [over_put] at ht ⊢; exact hp.fr t ht
  · rw [over_put]
    unfold St.over at hs
    split at hs
    · rename_i d c hk
      simp only [knGet_cons] at hs
      split at hs
      · rename_i e; subst e; cases hs
        simp only [St.put, St.set, frGet_cons, if_true]
        cases x with
        | tmp t => exact h.kn t _ hk
        | const v => cases v <;> simp [knO] at hk; subst hk; rfl
        | _ => simp [knO] at hk
      · rename_i hne
        rw [knGet_del, if_neg hne] at hs
        simp only [St.put, St.set, frGet_cons, if_neg hne]
        exact h.kn s b hs
    · exact hp.kn s b hs
    · exact h.kn s b hs
theorem Same.over {al : Option (List Nat)} {N : Nat} {dst : Option Nat} (h : okD N al dst = true) (st : St) (x : Operand) : Same al st (st.over dst x) := fun t ht => by
  rw [over_put]; exact Same.put h st _ t ht

/-! ### one operation -/
section
variable {P : Program} {N : Nat} {al : Option (List Nat)}
/-- what an operation leaves: a frame that fits -/
def Step (N : Nat) (al : Option (List Nat)) (st : St) (K : KT) : Act → World → Prop := fun a' w' => ∃ st', Rel N st' a' ∧ Same al st st' ∧ K st' w'
theorem overC_spec {st : St} {a : Act} {dst : Option Nat} {x : Operand} {K : KT} {w : World} (hr : Rel N st a) (hd : okD N al dst = true) (h : overC st dst x K w) :
    Step N al st K (a.put dst (a.eval x)) w := by
  unfold overC at h
  split at h
  · rename_i hx
    rw [hr.ev hx]
    exact ⟨_, hr.over (fun d e => (okD_spec hd d e).1) x, Same.over hd st x, h⟩
  · exact h.elim
theorem opC_pure {o : Oper} {st : St} {a : Act} {K : KT} {w : World} (hr : Rel N st a) (hc : clOf P o.op = .pu) (h : opC P N al o st K w) :
    ∃ v, Step N al st K (a.put o.dst v) w ∧ ∀ w', (execOp a.eval o).run P w' = .ok (.value v) w' := by
  unfold opC at h
  split at h
  · exact h.elim
  rename_i hd
  split at h
  · rename_i x hop; exact ⟨_, overC_spec hr hd h, fun w' => by simp [execOp, hop]⟩
  · rename_i x hop; exact ⟨_, overC_spec hr hd h, fun w' => by simp [execOp, hop]⟩
  · rename_i s x y hop
    split at h
    · rename_i hk
      have hb := hr.kn _ _ hk
      have he : a.eval (.tmp s) = .bool true := by rw [hr.ev (by simp [defO, hb, isU])]; exact hb
      exact ⟨_, overC_spec hr hd h, fun w' => by simp [execOp, hop, he, asBool]⟩
    · rename_i hk
      have hb := hr.kn _ _ hk
      have he : a.eval (.tmp s) = .bool false := by rw [hr.ev (by simp [defO, hb, isU])]; exact hb
      exact ⟨_, overC_spec hr hd h, fun w' => by simp [execOp, hop, he, asBool]⟩
    · split at h
      · rename_i b hb
        have he : a.eval (.tmp s) = .bool b := by rw [hr.ev (by simp [defO, hb, isU])]; exact hb
        cases b with
        | true =>
          obtain ⟨st', h1, h2, h3⟩ := overC_spec (hr.know hb) hd (h.1 rfl)
          exact ⟨_, ⟨st', h1, (Same.know hb).trans h2, h3⟩, fun w' => by simp [execOp, hop, he, asBool]⟩
        | false =>
          obtain ⟨st', h1, h2, h3⟩ := overC_spec (hr.know hb) hd (h.2 rfl)
          exact ⟨_, ⟨st', h1, (Same.know hb).trans h2, h3⟩, fun w' => by simp [execOp, hop, he, asBool]⟩
      · exact h.elim
  · exact h.elim
  · rename_i op hm ha hp hs
    split at h
    · rename_i hdef
      unfold opV at h
      rw [hc] at h
      obtain ⟨v, hk, hv⟩ := opP_run h
      have he : execOp a.eval o = execOp (evD st.fr) o := execOp_congr o (fun cs b e => hs cs b e) fun x hx => hr.ev (allDef_spec hdef x (by simpa using hx))
      exact ⟨v, ⟨_, hr.put (fun d e => (okD_spec hd d e).1) v, Same.put hd st v, hk⟩, fun w' => by rw [he]; exact hv w'⟩
    · exact h.elim
theorem opC_wp {o : Oper} {st : St} {a : Act} {K : KT} {w : World} {Q : Exit → Act → World → Prop} (hr : Rel N st a) (h : opC P N al o st K w) :
    o.wp P a w (Step N al st K) Q := by
  by_cases hc : clOf P o.op = .pu
  · obtain ⟨v, hs, hv⟩ := opC_pure hr hc h
    unfold Oper.wp; rw [hv w]; exact hs
  · unfold opC at h
    split at h
    · exact h.elim
    rename_i hd
    split at h
    · rename_i x hop; rw [hop] at hc; exact absurd rfl hc
    · rename_i x hop; rw [hop] at hc; exact absurd rfl hc
    · rename_i s x y hop; rw [hop] at hc; exact absurd rfl hc
    · exact h.elim
    · rename_i op hm ha hp hs
      split at h
      · rename_i hdef
        have he : execOp a.eval o = execOp (evD st.fr) o := execOp_congr o (fun cs b e => hs cs b e) fun x hx => hr.ev (allDef_spec hdef x (by simpa using hx))
        refine Oper.wp_mono ?_ (opV_wp he h)
        rintro a' w' ⟨v, rfl, hk⟩
        exact ⟨_, hr.put (fun d e => (okD_spec hd d e).1) v, Same.put hd st v, hk⟩
      · exact h.elim
theorem yielded_bool {ops : Array Oper} {j s : Nat} {a : Act} {b : Bool} (hj : (ops[j]?).bind (·.dst) = some s) (hv : a.tmps.getD s undef = .bool b) : yielded ops a.tmps j = some b := by
  unfold yielded
  rw [hj]
  simp only [Option.bind_some]
  cases h : a.tmps[s]? with
  | none => simp [h, undef] at hv
  | some v => simp [h] at hv; rw [hv]
theorem yielded_tuple {ops : Array Oper} {j s : Nat} {a : Act} {vs : Array Value} (hj : (ops[j]?).bind (·.dst) = some s) (hv : a.tmps.getD s undef = .tuple vs) : yielded ops a.tmps j = none := by
  unfold yielded
  rw [hj]
  simp only [Option.bind_some]
  cases h : a.tmps[s]? with
  | none => rfl
  | some v => simp [h] at hv; rw [hv]
theorem grd_spec {ops : Array Oper} {o : Oper} {st : St} {a : Act} {run skip : St → Prop} (hr : Rel N st a) (h : grd N al ops o st run skip) :
    (Region.wanted o (yielded ops a.tmps) = true ∧ ∃ st', Rel N st' a ∧ Same al st st' ∧ run st') ∨
    (Region.wanted o (yielded ops a.tmps) = false ∧ ∃ st', Rel N st' (a.put o.dst undef) ∧ Same al st st' ∧ skip st') := by
  unfold grd at h
  split at h
  · rename_i hg; exact .inl ⟨by simp [Region.wanted, hg], st, hr, Same.refl _ _, h⟩
  · rename_i j want hg
    split at h
    · exact h.elim
    rename_i hd
    have hd' : ∀ d, o.dst = some d → d < N := fun d e => (okD_spec hd d e).1
    split at h
    · exact h.elim
    rename_i s hs
    have hw : ∀ b, frGet st.fr s = .bool b → Region.wanted o (yielded ops a.tmps) = (b == want) := by
      intro b hb
      have := hr.fr s (by rw [hb]; rfl)
      rw [hb] at this
      unfold Region.wanted
      rw [hg]
      simp only [yielded_bool hs this]
      cases b <;> cases want <;> rfl
    split at h
    · rename_i hk; exact .inl ⟨by rw [hw _ (hr.kn _ _ hk)]; rfl, st, hr, Same.refl _ _, h⟩
    · rename_i hk; exact .inl ⟨by rw [hw _ (hr.kn _ _ hk)]; rfl, st, hr, Same.refl _ _, h⟩
    · rename_i hk; exact .inr ⟨by rw [hw _ (hr.kn _ _ hk)]; rfl, _, hr.put hd' _, Same.put hd _ _, h⟩
    · rename_i hk; exact .inr ⟨by rw [hw _ (hr.kn _ _ hk)]; rfl, _, hr.put hd' _, Same.put hd _ _, h⟩
    · split at h
      · rename_i b hb
        cases b with
        | true => exact .inl ⟨by rw [hw _ hb]; rfl, _, hr.know hb, Same.know hb, h.1 rfl⟩
        | false => exact .inr ⟨by rw [hw _ hb]; rfl, _, (hr.know hb).put hd' _, (Same.know hb).trans (Same.put hd _ _), h.2 rfl⟩
      · rename_i b hb
        cases b with
        | true => exact .inr ⟨by rw [hw _ hb]; rfl, _, (hr.know hb).put hd' _, (Same.know hb).trans (Same.put hd _ _), h.1 rfl⟩
        | false => exact .inl ⟨by rw [hw _ hb]; rfl, _, hr.know hb, Same.know hb, h.2 rfl⟩
      · rename_i vs hv
        split at h
        · exact h.elim
        · rename_i hu
          have := hr.fr s (by rw [hv]; exact hu)
          rw [hv] at this
          refine .inr ⟨?_, _, hr.put hd' _, Same.put hd _ _, h⟩
          unfold Region.wanted
          rw [hg]
          simp only [yielded_tuple hs this]
          rfl
      · exact h.elim
end

/-! ### ways that meet again -/
theorem alSub_spec {al : Option (List Nat)} : ∀ {l : List Nat}, alSub al l = true → ∀ x ∈ l, alOk al x = true := by
  intro l
  induction l with
  | nil => intro _ x hx; cases hx
  | cons y r ih =>
    intro h x hx
    simp only [alSub] at h
    split at h
    · rename_i hy
      rcases List.mem_cons.1 hx with rfl | hx
      · exact hy
      · exact ih h x hx
    · cases h
theorem Same.sub {al : Option (List Nat)} {l : List Nat} (hs : alSub al l = true) {st st' : St} (h : Same (some l) st st') : Same al st st' := by
  intro t ht
  refine h t ?_
  cases hm : alOk (some l) t with
  | false => rfl
  | true =>
    have := alSub_spec hs t ((memN_iff l t).1 hm)
    rw [this] at ht; cases ht
theorem setAll_get : ∀ (ss : List Nat) (vs : List Value) (fr : Fr) (t : Nat), t ∉ ss → frGet (setAll ss vs fr) t = frGet fr t := by
  intro ss
  induction ss with
  | nil => intro vs fr t _; cases vs <;> rfl
  | cons s r ih =>
    intro vs fr t ht
    cases vs with
    | nil => rfl
    | cons v vs =>
      simp only [setAll, frGet_cons]
      rw [if_neg (fun e => ht (by simp [e])), ih vs fr t (fun e => ht (by simp [e]))]
theorem setAll_same (f : Nat → Value) : ∀ (ss : List Nat) (fr : Fr) (t : Nat), t ∈ ss → frGet (setAll ss (ss.map f) fr) t = f t := by
  intro ss
  induction ss with
  | nil => intro fr t ht; cases ht
  | cons s r ih =>
    intro fr t ht
    simp only [List.map_cons, setAll, frGet_cons]
    split
    · rename_i e; rw [e]
    · rename_i hne
      exact ih fr t ((List.mem_cons.1 ht).resolve_left (fun e => hne e.symm))
theorem dropAll_get : ∀ (ss : List Nat) (fr : Fr) (t : Nat), frGet (dropAll ss fr) t = if t ∈ ss then unk else frGet fr t := by
  intro ss
  induction ss with
  | nil => intro fr t; simp [dropAll]
  | cons s r ih =>
    intro fr t
    simp only [dropAll, frGet_cons, ih, List.mem_cons]
    by_cases h : s = t
    · subst h; simp
    · simp [h, Ne.symm h]
theorem knDelAll_get : ∀ (ss : List Nat) (kn : List (Nat × Bool)) (t : Nat), knGet (knDelAll ss kn) t = if t ∈ ss then none else knGet kn t := by
  intro ss
  induction ss with
  | nil => intro kn t; simp [knDelAll]
  | cons s r ih =>
    intro kn t
    simp only [knDelAll, ih, knGet_del, List.mem_cons]
    by_cases h : s = t
    · subst h; simp
    · simp [h, Ne.symm h]
theorem mem_al {j : Jp} {t : Nat} : t ∈ j.al ↔ t ∈ j.slots.map (·.1) ∨ t ∈ j.junk := by simp [Jp.al]
theorem Same.reset (st : St) (j : Jp) (t : TK j.ks) : Same (some j.al) st (st.reset j t) := by
  intro s hs
  have hm : s ∉ j.al := by
    intro h
    have := (memN_iff j.al s).2 h
    simp only [alOk] at hs
    rw [this] at hs; cases hs
  simp only [St.reset]
  rw [setAll_get _ _ _ _ (fun h => hm (mem_al.2 (.inl h))), dropAll_get, if_neg (fun h => hm (mem_al.2 (.inr h)))]
theorem Rel.reset {N : Nat} {st st' : St} {a : Act} {j : Jp} {t : TK j.ks} (h : Rel N st' a) (hs : Same (some j.al) st st') (hk : ∀ s b, knGet st.kn s = some b → frGet st.fr s = .bool b)
    (ht : ofK j.ks (j.slots.map fun s => frGet st'.fr s.1) = some t) : Rel N (st.reset j t) a := by
  have he : encK j.ks t = (j.slots.map (·.1)).map (frGet st'.fr) := by
    rw [ofK_enc ht, List.map_map]; rfl
  have out : ∀ s, s ∉ j.al → frGet (st.reset j t).fr s = frGet st.fr s := fun s hm => Same.reset st j t s (by
    cases hh : alOk (some j.al) s with
    | false => rfl
    | true => exact absurd ((memN_iff _ _).1 hh) hm)
  have out' : ∀ s, s ∉ j.al → frGet st'.fr s = frGet st.fr s := fun s hm => hs s (by
    cases hh : alOk (some j.al) s with
    | false => rfl
    | true => exact absurd ((memN_iff _ _).1 hh) hm)
  refine ⟨h.size, h.defers, fun s hu => ?_, fun s b hb => ?_⟩
  · by_cases h1 : s ∈ j.slots.map (·.1)
    · have e : frGet (st.reset j t).fr s = frGet st'.fr s := by
        simp only [St.reset, he]
        exact setAll_same _ _ _ _ h1
      rw [e] at hu ⊢
      exact h.fr s hu
    · by_cases h2 : s ∈ j.junk
      · have e : frGet (st.reset j t).fr s = unk := by
          simp only [St.reset]
          rw [setAll_get _ _ _ _ h1, dropAll_get, if_pos h2]
        rw [e] at hu
        simp [isU, unk] at hu
      · have hm : s ∉ j.al := fun h => (mem_al.1 h).elim h1 h2
        rw [out s hm, ← out' s hm] at hu ⊢
        exact h.fr s hu
  · simp only [St.reset, knDelAll_get] at hb
    split at hb
    · cases hb
    · rename_i hm; rw [out s hm]; exact hk s b hb
/-- the rule: what follows is asked once, at typed values -/
theorem jnC_spec {N : Nat} {j : Jp} {al : Option (List Nat)} {st : St} {body : Option (List Nat) → KT → World → Prop} {K : KT} {w : World} (hk : ∀ s b, knGet st.kn s = some b → frGet st.fr s = .bool b)
    (h : jnC j al st body K w) (G : Act → World → Prop) (hG : ∀ st' a w, Rel N st' a → Same al st st' → K st' w → G a w) :
    ∃ K' : KT, body (some j.al) K' w ∧ alSub al j.al = true ∧ ∀ st' a w, Rel N st' a → Same (some j.al) st st' → K' st' w → G a w := by
  unfold jnC at h
  split at h
  · rename_i hs
    refine ⟨_, h (fun t w' => ∀ a, Rel N (st.reset j t) a → G a w') (fun t w' hr a ha => hG _ a w' ha ((Same.reset st j t).sub hs) hr), hs, fun st' a w hr hsame hp => ?_⟩
    unfold Jp.proj at hp
    split at hp
    · rename_i t ht; exact hp a (hr.reset hsame hk ht)
    · exact hp.elim
  · exact h.elim
end Go.Proofs.YtenonfkfoedfmaaGreatDoor.B


/- What 'comp' reads out of the model's code is enough for the code's own run: regions that draw their order, code, functions. -/
namespace Go.Proofs.YtenonfkfoedfmaaGreatDoor.B
open Go
section
variable {P : Program} {N : Nat}

/-! ### regions in the text's order -/
theorem opsC_wp {ops : Array Oper} {R : Exit → Act → World → Prop} : ∀ (fuel : Nat) (sg : Seg) (p : Nat) (l : List Oper) (k : Nat) (al : Option (List Nat)) (st : St) (K : KT) (a : Act) (w : World) (rest : List Nat),
    (∀ j v, l[j]? = some v → ops[k + j]? = some v) → Rel N st a → (∀ st' a' w', Rel N st' a' → Same al st st' → K st' w' → wpOps P ops R rest a' w') →
    opsC P N ops fuel sg p l al st K w → wpOps P ops R (List.range' k l.length ++ rest) a w := by
  intro fuel
  induction fuel with
  | zero =>
    intro sg p l k al st K a w rest hl hr hK h
    cases l with
    | nil => simp only [opsC] at h; exact hK st a w hr (Same.refl _ _) h
    | cons o r => simp [opsC] at h
  | succ fuel ih =>
    intro sg p l k al st K a w rest hl hr hK h
    cases l with
    | nil => simp only [opsC] at h; exact hK st a w hr (Same.refl _ _) h
    | cons o r =>
      simp only [opsC] at h
      split at h
      · rename_i n j _ _
        have hcut : List.range' k (o :: r).length ++ rest = List.range' k (List.take n (o :: r)).length ++ (List.range' (k + n) (List.drop n (o :: r)).length ++ rest) := by
          rw [← List.append_assoc]
          congr 1
          rw [List.length_take, List.length_drop]
          by_cases hn : n ≤ (o :: r).length
          · rw [Nat.min_eq_left hn, List.range'_append_1]
            congr 1; omega
          · rw [Nat.min_eq_right (by omega), show (o :: r).length - n = 0 by omega]; simp
        obtain ⟨K', hb, hs, hK'⟩ := jnC_spec (N := N) hr.kn h (fun a w => wpOps P ops R (List.range' (k + n) (List.drop n (o :: r)).length ++ rest) a w)
          (fun st' a' w' hr' hs' h' => ih sg (p + n) (List.drop n (o :: r)) (k + n) al st' K a' w' rest (fun j v hv => by
            rw [List.getElem?_drop] at hv
            have := hl _ v hv
            rw [Nat.add_assoc]; exact this) hr' (fun st2 a2 w2 h1 h2 h3 => hK st2 a2 w2 h1 (hs'.trans h2) h3) h')
        rw [hcut]
        exact ih (segDel sg p) p (List.take n (o :: r)) k (some j.al) st K' a w _ (fun i v hv => by
          rw [List.getElem?_take] at hv
          split at hv
          · exact hl i v hv
          · cases hv) hr (fun st2 a2 w2 h1 h2 h3 => hK' st2 a2 w2 h1 h2 h3) hb
      · have ho : ops[k]? = some o := by simpa using hl 0 o rfl
        have hl' : ∀ j v, r[j]? = some v → ops[k + 1 + j]? = some v := fun j v hv => by
          have := hl (j + 1) v (by simpa using hv)
          rw [show k + 1 + j = k + (j + 1) by omega]; exact this
        simp only [List.length_cons, List.range'_succ, List.cons_append]
        simp only [wpOps, ho]
        rcases grd_spec hr h with ⟨hw, st', hr', hs', h'⟩ | ⟨hw, st', hr', hs', h'⟩
        · rw [if_pos hw]
          refine .inl (Oper.wp_mono ?_ (opC_wp (Q := R) hr' h'))
          rintro a2 w2 ⟨st2, hr2, hs2, h2⟩
          exact ih sg (p + 1) r (k + 1) al st2 K a2 w2 rest hl' hr2 (fun st3 a3 w3 h1 h3 h4 => hK st3 a3 w3 h1 ((hs'.trans hs2).trans h3) h4) h2
        · rw [if_neg (by rw [hw]; simp)]
          exact ih sg (p + 1) r (k + 1) al st' K _ w rest hl' hr' (fun st3 a3 w3 h1 h3 h4 => hK st3 a3 w3 h1 (hs'.trans h3) h4) h'

/-! ### regions that draw their order -/
def Dcl (ops : Array Oper) (listed : Array Bool) : Prop :=
  ∀ k o, ops[k]? = some o → listed.getD k false = true → ∀ e ∈ o.after, Region.binds .any e = true → listed.getD e.on false = true
def Bef (ops : Array Oper) (j i : Nat) : Prop := ∀ listed, Dcl ops listed → i ∈ Region.ready .any ops listed → listed.getD j false = true
theorem Dcl.add {ops : Array Oper} {listed : Array Bool} (h : Dcl ops listed) {i : Nat} (hi : i ∈ Region.ready .any ops listed) : Dcl ops (listed.setIfInBounds i true) := by
  intro k o ho hk e he hb
  by_cases hki : i = k
  · subst hki
    obtain ⟨_, o', ho', hall⟩ := mem_ready.1 hi
    rw [ho] at ho'; cases ho'
    exact getD_set_true (hall e he hb)
  · rw [getD_set_ne false hki] at hk
    exact getD_set_true (h k o ho hk e he hb)
theorem okAnc_spec {ops : Array Oper} {i : Nat} : ∀ {anc seen : List Nat}, okAnc ops i seen anc = true → (∀ c ∈ seen, Bef ops c i) → ∀ c ∈ anc, Bef ops c i := by
  intro anc
  induction anc with
  | nil => intro seen _ _ c hc; cases hc
  | cons c r ih =>
    intro seen h hs
    simp only [okAnc] at h
    split at h
    · rename_i hany
      have hc : Bef ops c i := by
        intro listed hd hi
        rw [List.any_eq_true] at hany
        obtain ⟨k, hk, hk2⟩ := hany
        cases ho : ops[k]? with
        | none => simp [ho] at hk2
        | some o =>
          simp only [ho] at hk2
          rw [Array.any_eq_true'] at hk2
          obtain ⟨e, he, hb⟩ := hk2
          simp only [Bool.and_eq_true, Nat.beq_eq] at hb
          obtain ⟨hb1, hb2⟩ := hb
          rw [← hb2]
          rcases List.mem_cons.1 hk with rfl | hk
          · obtain ⟨_, o', ho', hall⟩ := mem_ready.1 hi
            rw [ho] at ho'; cases ho'
            exact hall e he hb1
          · exact hd k o ho (hs k hk listed hd hi) e he hb1
      intro d hd
      rcases List.mem_cons.1 hd with rfl | hd
      · exact hc
      · exact ih h (fun x hx => (List.mem_cons.1 hx).elim (fun e => e ▸ hc) (hs x)) d hd
    · cases h
def Kept (ops : Array Oper) (pend : Pend) (i : Nat) (w w' : World) : Prop := ∀ p ∈ pend, ¬ Bef ops p.1 i → p.2 w → p.2 w'
def wpAnyP (P : Program) (ops : Array Oper) (Q : Act → World → Prop) (pend : Pend) : Nat → Array Bool → Act → World → Prop
  | 0, listed, a, w => Region.ready .any ops listed = [] ∧ Q a w
  | fuel + 1, listed, a, w => (Region.ready .any ops listed = [] → Q a w) ∧
      ∀ i ∈ Region.ready .any ops listed, wpOp P ops (fun e a w => e = .normal ∧ Q a w) i (fun a' w' => Kept ops pend i w w' ∧ wpAnyP P ops Q pend fuel (listed.setIfInBounds i true) a' w') a w
theorem wpOp_normal {ops : Array Oper} {Q : Act → World → Prop} {R : Exit → Act → World → Prop} {i : Nat} {K : Act → World → Prop} {a : Act} {w : World} (h : wpOp P ops (fun e a w => e = .normal ∧ Q a w) i K a w) : wpOp P ops R i K a w := by
  unfold wpOp at *
  split
  · rename_i ho; simp only [ho] at h; exact h
  · rename_i o ho
    simp only [ho] at h
    split
    · rename_i hw
      simp only [hw, if_true] at h
      rcases h with h | ⟨_, a', w', h, _⟩
      · refine .inl ?_
        unfold Oper.wp at *
        generalize (execOp a.eval o).run P w = r at *
        cases r with
        | ok n w' =>
          cases n <;> simp only [Oper.upon] at h ⊢ <;> first
            | exact h
            | exact Calls.mono h (fun e w'' he => by cases e <;> first | exact he | exact absurd he.1 (by simp) | (obtain ⟨_, _, h, _⟩ := he; exact absurd h (by simp)))
        | halt x w' => cases x <;> simp only [Oper.upon] at h ⊢ <;> first | exact h | exact absurd h.1 (by simp)
      · cases h
    · rename_i hw; simp only [hw] at h; exact h
theorem wpAny_of_P {ops : Array Oper} {Q : Act → World → Prop} {R : Exit → Act → World → Prop} (hQ : ∀ a w, Q a w → R .normal a w) {pend : Pend} : ∀ (fuel : Nat) (listed : Array Bool) (a : Act) (w : World),
    wpAnyP P ops Q pend fuel listed a w → wpAny P .any ops R fuel listed a w := by
  intro fuel
  induction fuel with
  | zero => intro listed a w h; exact ⟨h.1, hQ _ _ h.2⟩
  | succ fuel ih => intro listed a w h; exact ⟨fun h0 => hQ _ _ (h.1 h0), fun i hi => wpOp_mono (fun a' w' h' => ih _ _ _ h'.2) (wpOp_normal (h.2 i hi))⟩
theorem wpAnyP_drop {ops : Array Oper} {Q : Act → World → Prop} {p : Nat × (World → Prop)} {pend : Pend} : ∀ (fuel : Nat) (listed : Array Bool) (a : Act) (w : World),
    wpAnyP P ops Q (p :: pend) fuel listed a w → wpAnyP P ops Q pend fuel listed a w := by
  intro fuel
  induction fuel with
  | zero => intro listed a w h; exact h
  | succ fuel ih => intro listed a w h; exact ⟨h.1, fun i hi => wpOp_mono (fun a' w' h' => ⟨fun q hq => h'.1 q (List.mem_cons_of_mem _ hq), ih _ _ _ h'.2⟩) (h.2 i hi)⟩
def YieldsS (P : Program) (ops : Array Oper) (o : Oper) (v : Value) (ag : World → Prop) (a : Act) : Prop :=
  (Region.wanted o (yielded ops a.tmps) = true ∧ ∀ w, ag w → (execOp a.eval o).run P w = .ok (.value v) w) ∨ (Region.wanted o (yielded ops a.tmps) = false ∧ v = undef)
theorem YieldsS.wpOp {ops : Array Oper} {Q : Exit → Act → World → Prop} {i : Nat} {o : Oper} {v : Value} {ag : World → Prop} {a : Act} (hi : ops[i]? = some o) (hy : YieldsS P ops o v ag a) {K : Act → World → Prop} {w : World} (hw : ag w) (h : K (a.put o.dst v) w) :
    wpOp P ops Q i K a w := by
  unfold Go.wpOp
  simp only [hi]
  rcases hy with ⟨hwt, hv⟩ | ⟨hwt, rfl⟩
  · simp only [hwt, if_true, Oper.wp, hv w hw, Oper.upon]; exact .inl h
  · simp only [hwt, Bool.false_eq_true, if_false]; exact h
theorem wpOp_putS {ops : Array Oper} {Q : Act → World → Prop} {j : Nat} {oi oj : Oper} {v : Value} {ag : World → Prop} (hj : ops[j]? = some oj) (hap : oi.apart ops oj = true)
    (hsi : ∀ cs b, oi.op ≠ .select cs b) (hsj : ∀ cs b, oj.op ≠ .select cs b) {K : Act → World → Prop} {a : Act} {w : World}
    (hy : YieldsS P ops oi v ag a) (h : wpOp P ops (fun e a w => e = .normal ∧ Q a w) j K (a.put oi.dst v) w) :
    wpOp P ops (fun e a w => e = .normal ∧ Q a w) j (fun a' w' => YieldsS P ops oi v ag a' ∧ K (a'.put oi.dst v) w') a w := by
  obtain ⟨h1, h2, h3⟩ := Oper.apart_spec hap
  have keep : ∀ (a : Act), YieldsS P ops oi v ag a → ∀ u, YieldsS P ops oi v ag (a.put oj.dst u) := fun a hy u => by
    unfold YieldsS at *
    rw [execOp_put oi hsi a oj.dst u h3, wanted_put oi a oj.dst u h3]
    exact hy
  have keepD : ∀ d, YieldsS P ops oi v ag { a with defers := d :: a.defers } := fun d => hy
  unfold wpOp at *
  simp only [hj] at *
  rw [wanted_put oj a oi.dst v h1] at h
  split
  · rename_i hw
    simp only [hw, if_true] at h
    rcases h with h | ⟨_, a', w', h, _⟩
    · refine .inl ?_
      unfold Oper.wp at *
      rw [execOp_put oj hsj a oi.dst v h1] at h
      generalize (execOp a.eval oj).run P w = r at *
      cases r with
      | ok n w' =>
        cases n <;> simp only [Oper.upon] at h ⊢
        case value u => exact ⟨keep a hy u, by rw [← Act.put_comm a v u h2]; exact h⟩
        case skip => exact ⟨keep a hy _, by rw [← Act.put_comm a v undef h2]; exact h⟩
        case defer d =>
          refine ⟨keep _ (keepD d) _, ?_⟩
          rw [← Act.put_comm _ v undef h2, ← Act.put_defers]
          exact h
        case enter f args =>
          refine Calls.mono h fun e w'' he => ?_
          cases e with
          | returned u => exact ⟨keep a hy u, by rw [← Act.put_comm a v u h2]; exact he⟩
          | panicked c => exact absurd he.1 (by simp)
          | outgrown => exact he
        case row row args => exact Rows.mono h fun u w'' he => ⟨keep a hy u, by rw [← Act.put_comm a v u h2]; exact he⟩
      | halt x w' =>
        cases x <;> simp only [Oper.upon] at h ⊢
        case panic u => exact absurd h.1 (by simp)
    · cases h
  · rename_i hw
    simp only [hw] at h
    exact ⟨keep a hy _, by rw [← Act.put_comm a v undef h2]; exact h⟩
theorem wpAnyP_first {ops : Array Oper} {Q : Act → World → Prop} {i : Nat} {oi : Oper} {v : Value} {ag : World → Prop} (hi : ops[i]? = some oi) (hsel : ∀ (j : Nat) (o : Oper) cs b, ops[j]? = some o → o.op ≠ .select cs b) :
    ∀ (fuel : Nat) (pend : Pend) (listed : Array Bool) (a : Act) (w : World), Dcl ops listed →
      (∀ j oj, ops[j]? = some oj → j ≠ i → listed.getD j true = false → (∀ e ∈ oj.after, Region.binds .any e = true → e.on ≠ i) → oi.apart ops oj = true) →
      i ∈ Region.ready .any ops listed → YieldsS P ops oi v ag a → ag w →
      wpAnyP P ops Q ((i, ag) :: pend) fuel (listed.setIfInBounds i true) (a.put oi.dst v) w → wpAnyP P ops Q pend (fuel + 1) listed a w := by
  intro fuel
  induction fuel with
  | zero =>
    intro pend listed a w _ _ hr hy hag H
    refine ⟨fun h => (by rw [h] at hr; cases hr), fun j hj => ?_⟩
    by_cases hji : j = i
    · subst hji; exact hy.wpOp hi hag ⟨fun p _ _ h => h, H⟩
    · have := ready_mono hj hji
      rw [H.1] at this
      cases this
  | succ fuel ih =>
    intro pend listed a w hd hfree hr hy hag H
    refine ⟨fun h => (by rw [h] at hr; cases hr), fun j hj => ?_⟩
    by_cases hji : j = i
    · subst hji; exact hy.wpOp hi hag ⟨fun p _ _ h => h, wpAnyP_drop _ _ _ _ H⟩
    · have h1 := H.2 j (ready_mono hj hji)
      obtain ⟨hjun, oj, hoj, hall⟩ := mem_ready.1 hj
      have hiun := (mem_ready.1 hr).1
      have flip : ∀ {k : Nat}, listed.getD k true = false → listed.getD k false = true → False := by
        intro k h0 h1
        rcases Nat.lt_or_ge k listed.size with h' | h'
        · simp [h'] at h0 h1; rw [h0] at h1; cases h1
        · simp [Array.getElem?_eq_none h'] at h1
      have hnot : ∀ e ∈ oj.after, Region.binds .any e = true → e.on ≠ i := fun e he hb heq => by
        have h2 := hall e he hb
        rw [heq] at h2
        exact flip hiun h2
      have hbef : ¬ Bef ops i j := fun hb => flip hiun (hb listed hd hj)
      have h2 := wpOp_putS hoj (hfree j oj hoj hji hjun hnot) (fun cs b => hsel i oi cs b hi) (fun cs b => hsel j oj cs b hoj) hy h1
      have hfree' : ∀ k ok, ops[k]? = some ok → k ≠ i → (listed.setIfInBounds j true).getD k true = false →
          (∀ e ∈ ok.after, Region.binds .any e = true → e.on ≠ i) → oi.apart ops ok = true := fun k ok hk hki hun hno => by
        refine hfree k ok hk hki ?_ hno
        by_cases hjk : j = k
        · subst hjk; exact hjun
        · rw [getD_set_ne true hjk] at hun; exact hun
      refine wpOp_mono (fun a' w' h3 => ?_) h2
      obtain ⟨hy', hk, hrest⟩ := h3
      refine ⟨fun p hp => hk p (List.mem_cons_of_mem _ hp), ih pend (listed.setIfInBounds j true) a' w' (hd.add hj) hfree' (ready_mono hr (Ne.symm hji)) hy' (hk (i, ag) (List.mem_cons_self ..) hbef hag) ?_⟩
      rw [Array.setIfInBounds_comm _ _ hji]
      exact hrest
theorem pendC_spec {anc : List Nat} {w : World} {x : Prop} : ∀ {pend : Pend}, pendC pend anc w x → x ∧ ∀ p ∈ pend, memN anc p.1 = false → p.2 w := by
  intro pend
  induction pend with
  | nil => intro h; exact ⟨h, fun p hp => by cases hp⟩
  | cons q r ih =>
    intro h
    simp only [pendC] at h
    split at h
    · rename_i hm
      refine ⟨(ih h).1, fun p hp hn => ?_⟩
      rcases List.mem_cons.1 hp with rfl | hp
      · rw [hm] at hn; cases hn
      · exact (ih h).2 p hp hn
    · refine ⟨(ih h.2).1, fun p hp hn => ?_⟩
      rcases List.mem_cons.1 hp with rfl | hp
      · exact h.1
      · exact (ih h.2).2 p hp hn
theorem Kept.of {ops : Array Oper} {pend pend' : Pend} {i : Nat} {anc : List Nat} {w w' : World} (hp : ∀ p ∈ pend', p ∈ pend ∨ ∀ w, p.2 w) (ha : ∀ c ∈ anc, Bef ops c i) (h : ∀ p ∈ pend, memN anc p.1 = false → p.2 w') : Kept ops pend' i w w' := by
  intro p hp' hb _
  rcases hp p hp' with hm | hall
  · cases hm2 : memN anc p.1 with
    | false => exact h p hm hm2
    | true => exact absurd (ha _ ((memN_iff _ _).1 hm2)) hb
  · exact hall w'
theorem drawL_P {ops : Array Oper} {Q : Act → World → Prop} {al : Option (List Nat)} {KK : Array Bool → Pend → KT} {m : Nat} (hsel : Region.noSelect ops = true) : ∀ (xs : List (Nat × List Nat)) (f : Nat) (listed : Array Bool) (pend pend' : Pend) (st : St) (a : Act) (w : World),
    xs.length + m ≤ f → Rel N st a → Dcl ops listed → (∀ p ∈ pend', p ∈ pend ∨ ∀ w, p.2 w) →
    (∀ f listed2 pend2 pend2' st2 a2 w2, m ≤ f → Rel N st2 a2 → Same al st st2 → Dcl ops listed2 → (∀ p ∈ pend2', p ∈ pend2 ∨ ∀ w, p.2 w) → KK listed2 pend2 st2 w2 → wpAnyP P ops Q pend2' f listed2 a2 w2) →
    drawL P N al ops KK xs listed pend st w → wpAnyP P ops Q pend' f listed a w := by
  intro xs
  induction xs with
  | nil =>
    intro f listed pend pend' st a w hf hr hd hp hKK h
    exact hKK f listed pend pend' st a w (by simpa using hf) hr (Same.refl _ _) hd hp h
  | cons x r ih =>
    intro f listed pend pend' st a w hf hr hd hp hKK h
    obtain ⟨f, rfl⟩ : ∃ g, f = g + 1 := ⟨f - 1, by simp at hf; omega⟩
    have hf' : r.length + m ≤ f := by simp at hf; omega
    simp only [drawL] at h
    split at h
    · exact h.elim
    rename_i o ho
    have stab : okStab ops listed x.1 = true → x.1 ∈ Region.ready .any ops listed ∧ (∀ j oj, ops[j]? = some oj → j ≠ x.1 → listed.getD j true = false → (∀ e ∈ oj.after, Region.binds .any e = true → e.on ≠ x.1) → o.apart ops oj = true) := by
      intro hs
      simp only [okStab, Bool.and_eq_true] at hs
      exact ⟨by simpa using hs.1, Region.free_spec ho hs.2⟩
    rcases grd_spec hr h with ⟨hw, st', hr', hs', h⟩ | ⟨hw, st', hr', hs', h⟩
    · split at h
      · rename_i hc
        split at h
        · rename_i hst
          obtain ⟨hrd, hfr⟩ := stab hst
          obtain ⟨v, ⟨st2, hr2, hs2, h2⟩, hv⟩ := opC_pure hr' hc h
          refine wpAnyP_first (v := v) (ag := fun _ => True) ho (Region.noSelect_spec hsel) f pend' listed a w hd hfr hrd (.inl ⟨hw, fun w _ => hv w⟩) trivial ?_
          exact ih f _ pend _ st2 _ w hf' hr2 (hd.add hrd) (fun p hp' => (List.mem_cons.1 hp').elim (fun e => by subst e; exact .inr fun _ => trivial) (hp p))
            (fun f l2 p2 p2' st3 a3 w3 hm h3 h4 => hKK f l2 p2 p2' st3 a3 w3 hm h3 ((hs'.trans hs2).trans h4)) h2
        · exact h.elim
      · rename_i hc
        split at h
        · rename_i hst
          simp only [Bool.and_eq_true] at hst
          obtain ⟨⟨hst, hdst⟩, hdef⟩ := hst
          obtain ⟨hrd, hfr⟩ := stab hst
          split at h
          · rename_i t y hop
            split at h
            · rename_i b i hy
              obtain ⟨v, ag, h2, hag, hrun⟩ := opLd_run h
              have he : a.eval y = evD st'.fr y := hr'.ev (allDef_spec hdef y (by simp [hop, Op.operands]))
              refine wpAnyP_first (v := v) (ag := ag) ho (Region.noSelect_spec hsel) f pend' listed a w hd hfr hrd (.inl ⟨hw, fun w hw' => load_run hop (he.trans hy) (hrun w hw')⟩) hag ?_
              exact ih f _ ((x.1, ag) :: pend) _ (st'.put o.dst v) _ w hf' (hr'.put (fun d e => (okD_spec hdst d e).1) v) (hd.add hrd)
                (fun p hp' => (List.mem_cons.1 hp').elim (fun e => by subst e; exact .inl (List.mem_cons_self ..)) (fun h => (hp p h).imp (List.mem_cons_of_mem _) id))
                (fun f l2 p2 p2' st3 a3 w3 hm h3 h4 => hKK f l2 p2 p2' st3 a3 w3 hm h3 ((hs'.trans (Same.put hdst _ _)).trans h4)) h2
            · exact h.elim
          · rename_i s d y hop
            obtain ⟨g, hrun, h2⟩ := h
            have he : a.eval y = evD st'.fr y := hr'.ev (allDef_spec hdef y (by simp [hop, Op.operands]))
            refine wpAnyP_first (v := .string g) (ag := fun w' => (convert s d (evD st'.fr y)).run P w' = .ok (.string g) w') ho (Region.noSelect_spec hsel) f pend' listed a w hd hfr hrd (.inl ⟨hw, fun w hw' => by simp [execOp, hop, he, hw']⟩) hrun ?_
            exact ih f _ ((x.1, _) :: pend) _ (st'.put o.dst (.string g)) _ w hf' (hr'.put (fun d e => (okD_spec hdst d e).1) _) (hd.add hrd)
              (fun p hp' => (List.mem_cons.1 hp').elim (fun e => by subst e; exact .inl (List.mem_cons_self ..)) (fun h => (hp p h).imp (List.mem_cons_of_mem _) id))
              (fun f l2 p2 p2' st3 a3 w3 hm h3 h4 => hKK f l2 p2 p2' st3 a3 w3 hm h3 ((hs'.trans (Same.put hdst _ _)).trans h4)) h2
          · exact h.elim
        · exact h.elim
      · rename_i hc
        split at h
        · rename_i hst
          simp only [Bool.and_eq_true] at hst
          obtain ⟨hst, hanc⟩ := hst
          have hrd : Region.ready .any ops listed = [x.1] := by
            unfold okEff at hst
            split at hst
            · rename_i j hj; rw [hj]; simp only [Nat.beq_eq] at hst; rw [hst]
            · cases hst
          have hbef := okAnc_spec hanc (fun c hc => by cases hc)
          refine ⟨fun h0 => (by rw [hrd] at h0; cases h0), fun j hj => ?_⟩
          rw [hrd] at hj
          simp only [List.mem_singleton] at hj
          subst hj
          unfold wpOp
          simp only [ho, hw, if_true]
          refine .inl (Oper.wp_mono ?_ (opC_wp hr' h))
          rintro a2 w2 ⟨st2, hr2, hs2, h2⟩
          obtain ⟨h3, h4⟩ := pendC_spec h2
          refine ⟨Kept.of hp hbef h4, ?_⟩
          exact ih f _ pend pend' st2 a2 w2 hf' hr2 (hd.add (by rw [hrd]; simp)) hp (fun f l2 p2 p2' st3 a3 w3 hm h3 h4 => hKK f l2 p2 p2' st3 a3 w3 hm h3 ((hs'.trans hs2).trans h4)) h3
        · exact h.elim
    · split at h
      · rename_i hst
        obtain ⟨hrd, hfr⟩ := stab hst
        refine wpAnyP_first (v := undef) (ag := fun _ => True) ho (Region.noSelect_spec hsel) f pend' listed a w hd hfr hrd (.inr ⟨hw, rfl⟩) trivial ?_
        exact ih f _ pend _ st' _ w hf' hr' (hd.add hrd) (fun p hp' => (List.mem_cons.1 hp').elim (fun e => by subst e; exact .inr fun _ => trivial) (hp p))
          (fun f l2 p2 p2' st3 a3 w3 hm h3 h4 => hKK f l2 p2 p2' st3 a3 w3 hm h3 (hs'.trans h4)) h
      · exact h.elim
theorem effC_P {ops : Array Oper} {Q : Act → World → Prop} {al : Option (List Nat)} {i : Nat} {anc : List Nat} {pend pend' : Pend} {K : KT} {st : St} {a : Act} {w : World} {G : Act → World → Prop} (hng : noGrd ops i = true) (hr : Rel N st a)
    (hp : ∀ p ∈ pend', p ∈ pend ∨ ∀ w, p.2 w) (hbef : ∀ c ∈ anc, Bef ops c i) (hG : ∀ st' a' w', Rel N st' a' → Same al st st' → K st' w' → G a' w') (h : effC P N al ops i anc pend K st w) :
    wpOp P ops (fun e a w => e = .normal ∧ Q a w) i (fun a' w' => Kept ops pend' i w w' ∧ G a' w') a w := by
  unfold effC at h
  split at h
  · exact h.elim
  rename_i o ho
  split at h
  · unfold noGrd at hng
    rw [ho] at hng
    have hg : o.guard = none := by cases hg : o.guard <;> simp_all
    unfold wpOp
    have hw : Region.wanted o (yielded ops a.tmps) = true := by simp [Region.wanted, hg]
    simp only [ho, hw, if_true]
    refine .inl (Oper.wp_mono ?_ (opC_wp hr h))
    rintro a2 w2 ⟨st2, hr2, hs2, h2⟩
    obtain ⟨h3, h4⟩ := pendC_spec h2
    exact ⟨Kept.of hp hbef h4, hG st2 a2 w2 hr2 hs2 h3⟩
  · exact h.elim
theorem drawC_P {ops : Array Oper} {Q : Act → World → Prop} {al : Option (List Nat)} {K : KT} (hsel : Region.noSelect ops = true) : ∀ (d : DP) (f : Nat) (listed : Array Bool) (pend pend' : Pend) (st : St) (a : Act) (w : World),
    d.len ≤ f → Rel N st a → Dcl ops listed → (∀ p ∈ pend', p ∈ pend ∨ ∀ w, p.2 w) → (∀ st' a' w', Rel N st' a' → Same al st st' → K st' w' → Q a' w') →
    drawC P N al ops K d listed pend st w → wpAnyP P ops Q pend' f listed a w := by
  intro d
  induction d with
  | l xs =>
    intro f listed pend pend' st a w hf hr hd hp hK h
    simp only [drawC] at h
    refine drawL_P (m := 0) hsel xs f listed pend pend' st a w (by simpa [DP.len] using hf) hr hd hp ?_ h
    intro f l2 p2 p2' st2 a2 w2 _ hr2 hs2 _ _ h2
    split at h2
    · rename_i he
      have he : Region.ready .any ops l2 = [] := by simpa using he
      cases f with
      | zero => exact ⟨he, hK st2 a2 w2 hr2 hs2 h2⟩
      | succ f => exact ⟨fun _ => hK st2 a2 w2 hr2 hs2 h2, fun i hi => by rw [he] at hi; cases hi⟩
    · exact h2.elim
  | t xs i ai p j aj q ihp ihq =>
    intro f listed pend pend' st a w hf hr hd hp hK h
    simp only [drawC] at h
    refine drawL_P (m := 1 + max p.len q.len) hsel xs f listed pend pend' st a w (by simp only [DP.len] at hf; omega) hr hd hp ?_ h
    intro f l2 p2 p2' st2 a2 w2 hm hr2 hs2 hd2 hp2 h2
    split at h2
    · rename_i hok
      simp only [Bool.and_eq_true] at hok
      obtain ⟨⟨⟨⟨hok, hai⟩, haj⟩, hgi⟩, hgj⟩ := hok
      obtain ⟨h3, h4⟩ := h2
      obtain ⟨f, rfl⟩ : ∃ g, f = g + 1 := ⟨f - 1, by omega⟩
      have hrd : ∀ k, k ∈ Region.ready .any ops l2 ↔ k = i ∨ k = j := by
        unfold okTwo at hok
        split at hok
        · rename_i x y hxy
          rw [hxy]
          simp only [Bool.or_eq_true, Bool.and_eq_true, Nat.beq_eq] at hok
          intro k
          simp only [List.mem_cons, List.not_mem_nil, or_false]
          rcases hok with ⟨rfl, rfl⟩ | ⟨rfl, rfl⟩
          · exact Iff.rfl
          · exact or_comm
        · cases hok
      refine ⟨fun h0 => ?_, fun k hk => ?_⟩
      · have := (hrd i).2 (.inl rfl)
        rw [h0] at this; cases this
      · have hk' := (hrd k).1 hk
        by_cases hki : k = i
        · subst hki
          exact effC_P hgi hr2 hp2 (okAnc_spec hai (fun c hc => by cases hc)) (fun st3 a3 w3 hr3 hs3 h5 =>
            ihp f _ p2 p2' st3 a3 w3 (by omega) hr3 (hd2.add hk) hp2 (fun st4 a4 w4 h6 h7 h8 => hK st4 a4 w4 h6 ((hs2.trans hs3).trans h7) h8) h5) h3
        · have hkj := hk'.resolve_left hki
          subst hkj
          exact effC_P hgj hr2 hp2 (okAnc_spec haj (fun c hc => by cases hc)) (fun st3 a3 w3 hr3 hs3 h5 =>
            ihq f _ p2 p2' st3 a3 w3 (by omega) hr3 (hd2.add hk) hp2 (fun st4 a4 w4 h6 h7 h8 => hK st4 a4 w4 h6 ((hs2.trans hs3).trans h7) h8) h5) h4
    · exact h2.elim
end
end Go.Proofs.YtenonfkfoedfmaaGreatDoor.B


/- What 'comp' reads out of the model's code is enough for the code's own run: code, functions. -/
namespace Go.Proofs.YtenonfkfoedfmaaGreatDoor.B
open Go
theorem exists_min {p : Nat → Prop} (h : ∃ n, p n) : ∃ m, p m ∧ ∀ k, p k → m ≤ k := by
  obtain ⟨n, hn⟩ := h
  induction n using Nat.strongRecOn with
  | _ n ih =>
    by_cases hk : ∃ k, k < n ∧ p k
    · obtain ⟨k, hlt, hp⟩ := hk; exact ih k hlt hp
    · exact ⟨n, hn, fun k hp => Nat.le_of_not_lt fun hlt => hk ⟨k, hlt, hp⟩⟩
theorem plGet_cons {α : Type} (d : Nat) (v : α) (r : List (Nat × α)) (t : Nat) : plGet ((d, v) :: r) t = if d = t then some v else plGet r t := by
  simp only [plGet]
  by_cases h : d = t
  · subst h; simp
  · have : Nat.beq d t = false := by rw [← Bool.not_eq_true, Nat.beq_eq]; exact h
    simp [this, h]
section
variable {P : Program} {N : Nat} {pl : Plan} {ret : KT}
theorem comp_wp : ∀ (c : Code) (n : Nat) (al : Option (List Nat)) (ex : Ex) (st : St) (K : KT) (a : Act) (w : World) (R : Exit → Act → World → Prop),
    Rel N st a → (∀ st' a' w', Rel N st' a' → Same al st st' → K st' w' → R .normal a' w') →
    (∀ id k, plGet ex id = some k → ∀ st' a' w', Rel N st' a' → Same al st st' → k st' w' → R (.exit id) a' w') →
    (∀ st' a' w', Rel N st' a' → ret st' w' → R .ret a' w') →
    comp P N pl ret c n al ex st K w → c.wp P R a w := by
  intro c
  induction c with
  | skip => intro n al ex st K a w R hr hK hex hret h; simp only [comp] at h; exact wp_skip (hK st a w hr (Same.refl _ _) h)
  | region id ops draw =>
    intro n al ex st K a w R hr hK hex hret h
    cases draw with
    | false =>
      simp only [comp] at h
      refine wp_region ?_
      have := opsC_wp (R := R) _ _ 0 ops.toList 0 al st K a w [] (fun j v hv => by simpa using hv) hr (fun st' a' w' h1 h2 h3 => by simp only [wpOps]; exact hK st' a' w' h1 h2 h3) h
      rw [List.range_eq_range']
      simpa using this
    | true =>
      simp only [comp] at h
      split at h
      · exact h.elim
      rename_i d hd
      split at h
      · exact h.elim
      rename_i hok
      simp only [Bool.and_eq_true] at hok
      obtain ⟨⟨hm, hsel⟩, hlen⟩ := hok
      have hlen : d.len ≤ ops.size := by simpa using hlen
      refine wp_region_any hm ?_
      have hd0 : Dcl ops (Array.replicate ops.size false) := fun k o ho hk => by
        exfalso
        have hlt : k < ops.size := (Array.getElem?_eq_some_iff.1 ho).1
        simp [hlt] at hk
      have fin : ∀ (al' : Option (List Nat)) (K' : KT), (∀ st' a' w', Rel N st' a' → Same al' st st' → K' st' w' → R .normal a' w') →
          drawC P N al' ops K' d (Array.replicate ops.size false) [] st w.drew → wpAny P .any ops R ops.size (Array.replicate ops.size false) a w.drew := by
        intro al' K' hK' h'
        exact wpAny_of_P (Q := fun a w => R .normal a w) (fun _ _ h => h) _ _ _ _ (drawC_P hsel d ops.size _ [] [] st a w.drew hlen hr hd0 (fun p hp => by cases hp) hK' h')
      simp only [dr] at h
      split at h
      · exact fin al K hK h
      · rename_i j hj
        obtain ⟨K', hb, hs, hK'⟩ := jnC_spec (N := N) hr.kn h (fun a w => R .normal a w) hK
        exact fin (some j.al) K' hK' hb
  | seq x y ihx ihy =>
    intro n al ex st K a w R hr hK hex hret h
    simp only [comp] at h
    refine wp_seq (ihx n al ex st _ a w _ hr (fun st' a' w' h1 h2 h3 => ?_) hex hret h)
    exact ihy _ al ex st' K a' w' R h1 (fun st2 a2 w2 h4 h5 h6 => hK st2 a2 w2 h4 (h2.trans h5) h6) (fun id k hk st2 a2 w2 h4 h5 h6 => hex id k hk st2 a2 w2 h4 (h2.trans h5) h6) hret h3
  | cond c x y ihx ihy =>
    intro n al ex st K a w R hr hK hex hret h
    cases c with
    | tmp s =>
      simp only [comp] at h
      split at h
      · rename_i hk
        have hb := hr.kn _ _ hk
        exact wp_cond_true (by rw [hr.ev (by simp [defO, hb, isU])]; exact hb) (ihx _ al ex st K a w R hr hK hex hret h)
      · rename_i hk
        have hb := hr.kn _ _ hk
        exact wp_cond_false (by rw [hr.ev (by simp [defO, hb, isU])]; exact hb) (ihy _ al ex st K a w R hr hK hex hret h)
      · split at h
        · rename_i c hb
          have he : a.eval (.tmp s) = .bool c := by rw [hr.ev (by simp [defO, hb, isU])]; exact hb
          have fin : ∀ (al' : Option (List Nat)) (K' : KT), (∀ st' a' w', Rel N st' a' → Same al' st st' → K' st' w' → R .normal a' w') →
              (∀ id k, plGet ex id = some k → ∀ st' a' w', Rel N st' a' → Same al' st st' → k st' w' → R (.exit id) a' w') →
              cs c (comp P N pl ret x (n + 1) al' ex (st.know s true) K' w) (comp P N pl ret y (n + 1 + ctlN x) al' ex (st.know s false) K' w) → (Code.cond (.tmp s) x y).wp P R a w := by
            intro al' K' hK' hex' h'
            refine wp_cond_split he (fun hc => ?_) (fun hc => ?_)
            · subst hc
              exact ihx _ al' ex _ K' a w R (hr.know hb) (fun st' a' w' h1 h2 h3 => hK' st' a' w' h1 ((Same.know hb).trans h2) h3) (fun id k hk st' a' w' h1 h2 h3 => hex' id k hk st' a' w' h1 ((Same.know hb).trans h2) h3) hret (h'.1 rfl)
            · subst hc
              exact ihy _ al' ex _ K' a w R (hr.know hb) (fun st' a' w' h1 h2 h3 => hK' st' a' w' h1 ((Same.know hb).trans h2) h3) (fun id k hk st' a' w' h1 h2 h3 => hex' id k hk st' a' w' h1 ((Same.know hb).trans h2) h3) hret (h'.2 rfl)
          split at h
          · exact fin al K hK hex h
          · rename_i j hj
            obtain ⟨K', hb', hs, hK'⟩ := jnC_spec (N := N) hr.kn h (fun a w => R .normal a w) hK
            exact fin (some j.al) K' hK' (fun id k hk st' a' w' h1 h2 h3 => hex id k hk st' a' w' h1 (h2.sub hs) h3) hb'
        · exact h.elim
    | _ => simp [comp] at h
  | block id x ih =>
    intro n al ex st K a w R hr hK hex hret h
    simp only [comp] at h
    have fin : ∀ (al' : Option (List Nat)) (K' : KT), (∀ st' a' w', Rel N st' a' → Same al' st st' → K' st' w' → R .normal a' w') →
        (∀ id k, plGet ex id = some k → ∀ st' a' w', Rel N st' a' → Same al' st st' → k st' w' → R (.exit id) a' w') →
        comp P N pl ret x (n + 1) al' ((id, K') :: ex) st K' w → (Code.block id x).wp P R a w := by
      intro al' K' hK' hex' h'
      refine wp_block (ih _ al' _ st K' a w _ hr hK' (fun i k hk st' a' w' h1 h2 h3 => ?_) hret h')
      rw [plGet_cons] at hk
      simp only [Exit.inBlock]
      split at hk
      · rename_i e; subst e; cases hk
        rw [if_pos rfl]; exact hK' st' a' w' h1 h2 h3
      · rename_i e
        rw [if_neg (Ne.symm e)]; exact hex' i k hk st' a' w' h1 h2 h3
    split at h
    · exact fin al K hK hex h
    · rename_i j hj
      obtain ⟨K', hb', hs, hK'⟩ := jnC_spec (N := N) hr.kn h (fun a w => R .normal a w) hK
      exact fin (some j.al) K' hK' (fun id k hk st' a' w' h1 h2 h3 => hex id k hk st' a' w' h1 (h2.sub hs) h3) hb'
  | loop x ih =>
    intro n al ex st K a w R hr hK hex hret h
    simp only [comp] at h
    split at h
    · exact h.elim
    rename_i j hj
    split at h
    · exact h.elim
    rename_i hs
    split at h
    · exact h.elim
    rename_i t ht
    obtain ⟨I, μ, h0, hstep⟩ := h
    let p : Act → World → Nat → Prop := fun a w m => ∃ t, I t w ∧ Rel N (st.reset j t) a ∧ μ t w = m
    have hmin : ∀ a w, (∃ m, p a w m) → ∃ m, p a w m ∧ ∀ k, p a w k → m ≤ k := fun a w h => exists_min h
    classical
    refine wp_loop (fun a w => ∃ m, p a w m) (fun a w => if h : ∃ m, p a w m then Classical.choose (hmin a w h) else 0) ⟨_, t, h0, hr.reset (Same.refl _ _) hr.kn ht, rfl⟩ ?_
    intro a1 w1 hI
    have hm := Classical.choose_spec (hmin a1 w1 hI)
    obtain ⟨⟨t1, hI1, hr1, hμ1⟩, _⟩ := hm
    have hrs := Same.reset st j t1
    refine ih _ (some j.al) ex (st.reset j t1) _ a1 w1 _ hr1 (fun st' a' w' h1 h2 h3 => ?_) (fun id k hk st' a' w' h1 h2 h3 => hex id k hk st' a' w' h1 ((hrs.trans h2).sub hs) h3) hret (hstep t1 w1 hI1)
    unfold Jp.proj at h3
    split at h3
    · rename_i t2 ht2
      obtain ⟨hI2, hlt⟩ := h3
      have hr2 : Rel N (st.reset j t2) a' := h1.reset (hrs.trans h2) hr.kn ht2
      have hp2 : p a' w' (μ t2 w') := ⟨t2, hI2, hr2, rfl⟩
      have hex2 : ∃ m, p a' w' m := ⟨_, hp2⟩
      refine ⟨hex2, ?_⟩
      show (if h : ∃ m, p a' w' m then Classical.choose (hmin a' w' h) else 0) < (if h : ∃ m, p a1 w1 m then Classical.choose (hmin a1 w1 h) else 0)
      rw [dif_pos hex2, dif_pos hI]
      have := (Classical.choose_spec (hmin a' w' hex2)).2 _ hp2
      rw [hμ1] at hlt
      exact Nat.lt_of_le_of_lt this hlt
    · exact h3.elim
  | exit id =>
    intro n al ex st K a w R hr hK hex hret h
    simp only [comp] at h
    split at h
    · rename_i k hk; exact wp_exit (hex id k hk st a w hr (Same.refl _ _) h)
    · exact h.elim
  | ret => intro n al ex st K a w R hr hK hex hret h; simp only [comp] at h; exact wp_ret (hret st a w hr h)
  | _ => intro n al ex st K a w R hr hK hex hret h; simp [comp] at h

/-! ### functions -/
theorem zipA_get : ∀ (args : List Value) (i t : Nat), frGet (zipA i args) t = if i ≤ t then (args[t - i]?).getD unk else unk := by
  intro args
  induction args with
  | nil => intro i t; simp [zipA, frGet]
  | cons v r ih =>
    intro i t
    simp only [zipA, frGet_cons, ih]
    by_cases h : i = t
    · subst h; simp
    · by_cases h2 : i ≤ t
      · rw [if_neg h, if_pos (by omega), if_pos h2]
        rw [show t - i = (t - (i + 1)) + 1 by omega]
        simp
      · rw [if_neg h, if_neg (by omega), if_neg h2]
def resOne (a : Act) : ResultVar → Sem Value
  | .tmp t => pure (a.tmps.getD t undef)
  | .cell b t => do loadVar t (← asAddr (a.tmps.getD b undef))
theorem resC_run {st : St} {a : Act} {w : World} (hr : Rel N st a) : ∀ {rs : List ResultVar} {f : List Value → Prop}, resC P st w rs f →
    ∃ vs, f vs ∧ (rs.mapM (resOne a)).run P w = .ok vs w := by
  intro rs
  induction rs with
  | nil => intro f h; exact ⟨[], h, by simp⟩
  | cons r rs ih =>
    intro f h
    cases r with
    | tmp t =>
      simp only [resC] at h
      split at h
      · exact h.elim
      · rename_i hu
        obtain ⟨vs, hf, hrun⟩ := ih h
        refine ⟨_, hf, ?_⟩
        rw [List.mapM_cons, Sem.run_bind]
        simp only [resOne, Sem.run_pure, Result.andThen_ok, Sem.run_bind, hrun, hr.fr t hu]
    | cell b t =>
      simp only [resC] at h
      split at h
      · rename_i bl o hb
        obtain ⟨v, h2, hv⟩ := opL_run h
        obtain ⟨vs, hf, hrun⟩ := ih h2
        refine ⟨_, hf, ?_⟩
        rw [List.mapM_cons, Sem.run_bind]
        have := hr.fr b (by rw [hb]; rfl)
        rw [hb] at this
        simp only [resOne, this, asAddr, Sem.run_bind, Sem.run_pure, Result.andThen_ok, hv, hrun]
      · exact h.elim
theorem results_run {fn : Func} {st : St} {a : Act} {w : World} {f : List Value → Prop} (hr : Rel N st a) (h : resC P st w fn.results.toList f) : ∃ vs, f vs ∧ (results fn a.tmps).run P w = .ok (ret1 vs) w := by
  obtain ⟨vs, hf, hrun⟩ := resC_run hr h
  refine ⟨vs, hf, ?_⟩
  have e : results fn a.tmps = (do let vs ← fn.results.mapM (resOne a); pure (if h : vs.size = 1 then vs[0] else .tuple vs)) := by
    unfold results
    congr 1
  rw [e, Sem.run_bind, Array.mapM_eq_mapM_toList, Sem.run_map, hrun]
  simp only [Result.andThen_ok, Sem.run_pure]
  match vs with
  | [] => rfl
  | [v] => rfl
  | v :: u :: r => simp [ret1]
theorem calls_of {f : FuncId} {fn : Func} {args : List Value} {w : World} {R : List Value → World → Prop} (hf : P.funcs[f]? = some fn) (h : compF P fn pl args R w) :
    Calls P f args.toArray w fun e w' => ∃ vs, e = .returned (ret1 vs) ∧ R vs w' := by
  unfold compF at h
  split at h
  · exact h.elim
  rename_i c hb
  split at h
  · rename_i hn
    have hn : args.length ≤ fn.ntmps := by simpa using hn
    have fin : ∀ st' a' w', Rel fn.ntmps st' a' → retC P fn R st' w' → a'.defers = [] ∧ ∃ v, (results fn a'.tmps).run P w' = .ok v w' ∧ ∃ vs, Ending.returned v = .returned (ret1 vs) ∧ R vs w' := by
      intro st' a' w' hr h
      obtain ⟨vs, hR, hrun⟩ := results_run hr h
      exact ⟨hr.defers, _, hrun, vs, rfl, hR⟩
    refine calls_of_wp hf hb (comp_wp (N := fn.ntmps) c 0 none [] _ _ _ w _ ?_ (fun st' a' w' h1 _ h3 => fin st' a' w' h1 h3) (fun id k hk => by cases hk) (fun st' a' w' h1 h3 => fin st' a' w' h1 h3) h)
    refine ⟨by simp; omega, rfl, fun t ht => ?_, fun s b hs => by cases hs⟩
    simp only [zipA_get, Nat.zero_le, if_true, Nat.sub_zero] at ht ⊢
    by_cases hlt : t < args.length
    · rw [Array.getD_eq_getD_getElem?, Array.getElem?_append_left (by simpa using hlt)]; simp [hlt]
    · simp [List.getElem?_eq_none (Nat.le_of_not_lt hlt), isU, unk] at ht
  · exact h.elim
theorem cl_of {f : FuncId} {fn : Func} {args : List Value} {ks : List Kd} {w : World} {K : TK ks → World → Prop} {S : Prop} (hf : P.funcs[f]? = some fn)
    (tie : compF P fn pl args (fun vs w' => ∃ t, encK ks t = vs ∧ K t w') w = S) (h : S) : cl P f args ks w K := by
  rw [← tie] at h
  refine Calls.mono (calls_of hf h) ?_
  rintro e w' ⟨vs, rfl, t, rfl, hK⟩
  exact ⟨t, rfl, hK⟩
end
#print axioms cl_of
end Go.Proofs.YtenonfkfoedfmaaGreatDoor.B


/- Memory in parts that lie apart: what a call owns, and the steps of the shallow programs over it. -/
namespace Go.Proofs.YtenonfkfoedfmaaGreatDoor.B
open Go

/-! ### parts of a heap -/
abbrev Hp := Nat → Option Obj
abbrev SP := Hp → Prop
def Hp.dj (h k : Hp) : Prop := ∀ b, h b = none ∨ k b = none
def Hp.un (h k : Hp) : Hp := fun b => match h b with | some o => some o | none => k b
def oksH : List SP → Hp → Prop
  | [], _ => True
  | A :: L, h => ∃ h1 h2 : Hp, h1.dj h2 ∧ h = h1.un h2 ∧ A h1 ∧ oksH L h2
def Hp.le (h k : Hp) : Prop := ∀ b o, h b = some o → k b = some o
theorem oksH_le : ∀ {L : List SP} {h k : Hp}, oksH L h → h.le k → oksH L k := by
  intro L
  induction L with
  | nil => intro h k _ _; trivial
  | cons A L ih =>
    rintro h k ⟨h1, h2, hd, rfl, hA, hL⟩ hle
    refine ⟨h1, fun b => match h1 b with | some _ => none | none => k b, fun b => ?_, ?_, hA, ih hL ?_⟩
    · cases hb : h1 b <;> simp [hb]
    · funext b
      simp only [Hp.un]
      cases hb : h1 b with
      | none => simp
      | some o => simpa [Hp.un, hb] using hle b o (by simp [Hp.un, hb])
    · intro b o hb
      have h1b : h1 b = none := by
        rcases hd b with h | h
        · exact h
        · rw [hb] at h; cases h
      simp only [h1b]
      exact hle b o (by simp [Hp.un, h1b, hb])
theorem oksH_swap {A B : SP} {L : List SP} {h : Hp} (H : oksH (A :: B :: L) h) : oksH (B :: A :: L) h := by
  obtain ⟨h1, h23, hd, rfl, hA, h2, h3, hd2, rfl, hB, hL⟩ := H
  refine ⟨h2, h1.un h3, fun b => ?_, ?_, hB, h1, h3, fun b => ?_, rfl, hA, hL⟩
  · rcases hd b with e | e
    · rcases hd2 b with e2 | e2
      · exact .inl e2
      · right; simp [Hp.un, e, e2]
    · left
      simp only [Hp.un] at e
      cases hb : h2 b with
      | none => rfl
      | some o => rw [hb] at e; cases e
  · funext b
    simp only [Hp.un]
    cases e1 : h1 b with
    | none => cases e2 : h2 b <;> rfl
    | some o =>
      have : h2 b = none := by
        rcases hd b with e | e
        · rw [e1] at e; cases e
        · simp only [Hp.un] at e
          cases hb : h2 b with
          | none => rfl
          | some o => rw [hb] at e; cases e
      simp [this]
  · rcases hd b with e | e
    · exact .inl e
    · right
      simp only [Hp.un] at e
      cases hb : h2 b with
      | none => rw [hb] at e; exact e
      | some o => rw [hb] at e; cases e
theorem oksH_perm {L L' : List SP} (p : L.Perm L') : ∀ {h : Hp}, oksH L h → oksH L' h := by
  induction p with
  | nil => intro h H; exact H
  | cons A _ ih => rintro h ⟨h1, h2, hd, e, hA, hL⟩; exact ⟨h1, h2, hd, e, hA, ih hL⟩
  | swap A B L => intro h H; exact oksH_swap H
  | trans _ _ ih1 ih2 => intro h H; exact ih2 (ih1 H)
theorem un_assoc (a b c : Hp) : (a.un b).un c = a.un (b.un c) := by
  funext x
  simp only [Hp.un]
  cases a x <;> rfl
theorem oksH_append {L M : List SP} : ∀ {h : Hp}, oksH (oksH M :: L) h ↔ oksH (M ++ L) h := by
  induction M with
  | nil =>
    intro h
    constructor
    · rintro ⟨h1, h2, hd, rfl, _, hL⟩
      refine oksH_le hL fun b o hb => ?_
      simp only [Hp.un]
      rcases hd b with e | e
      · simp [e, hb]
      · rw [hb] at e; cases e
    · intro H; exact ⟨fun _ => none, h, fun _ => .inl rfl, by funext b; rfl, trivial, H⟩
  | cons A M ih =>
    intro h
    constructor
    · rintro ⟨h12, h3, hd, rfl, ⟨h1, h2, hd2, rfl, hA, hM⟩, hL⟩
      refine ⟨h1, h2.un h3, fun b => ?_, un_assoc .., hA, ih.1 ⟨h2, h3, fun b => ?_, rfl, hM, hL⟩⟩
      · rcases hd b with e | e
        · left
          simp only [Hp.un] at e
          cases hb : h1 b with
          | none => rfl
          | some o => rw [hb] at e; cases e
        · rcases hd2 b with e2 | e2
          · exact .inl e2
          · right; simp [Hp.un, e, e2]
      · rcases hd b with e | e
        · left
          simp only [Hp.un] at e
          cases hb : h1 b with
          | none => rw [hb] at e; exact e
          | some o => rw [hb] at e; cases e
        · exact .inr e
    · rintro ⟨h1, h23, hd, rfl, hA, H⟩
      obtain ⟨h2, h3, hd2, rfl, hM, hL⟩ := ih.2 H
      refine ⟨h1.un h2, h3, fun b => ?_, (un_assoc ..).symm, ⟨h1, h2, fun b => ?_, rfl, hA, hM⟩, hL⟩
      · rcases hd b with e | e
        · rcases hd2 b with e2 | e2
          · left; simp [Hp.un, e, e2]
          · exact .inr e2
        · right
          simp only [Hp.un] at e
          cases hb : h2 b with
          | none => rw [hb] at e; exact e
          | some o => rw [hb] at e; cases e
      · rcases hd b with e | e
        · exact .inl e
        · right
          simp only [Hp.un] at e
          cases hb : h2 b with
          | none => rfl
          | some o => rw [hb] at e; cases e

/-! ### worlds -/
def hpOf (w : World) : Hp := fun b => w.heap[b]?
structure Ok (e : World) (L : List SP) (w : World) : Prop where
  os : w.os = e.os
  tape : w.tape = e.tape
  output : w.output = e.output
  heap : oksH L (hpOf w)
def pts (b : Nat) (cs : List Value) : SP := fun h => ∃ t, h b = some (.cells cs.toArray t (0, 0))
/-- all that was there -/
def old (e : World) : SP := fun h => ∀ b, b < e.heap.size → h b = e.heap[b]?
def emp : SP := fun _ => True
section
variable {e : World} {L M : List SP} {w : World} {A B C D E F G : SP}
theorem Ok.perm (h : Ok e L w) (p : L.Perm M) : Ok e M w := ⟨h.os, h.tape, h.output, oksH_perm p h.heap⟩
theorem Ok.p1 (h : Ok e (A :: B :: L) w) : Ok e (B :: A :: L) w := h.perm (.swap ..)
theorem Ok.p2 (h : Ok e (A :: B :: C :: L) w) : Ok e (C :: A :: B :: L) w := h.perm (((List.Perm.swap C B L).cons A).trans (.swap ..))
theorem Ok.p3 (h : Ok e (A :: B :: C :: D :: L) w) : Ok e (D :: A :: B :: C :: L) w :=
  h.perm ((((List.Perm.swap D C L).cons B).cons A).trans ((((List.Perm.swap D B _)).cons A).trans (.swap ..)))
theorem Ok.p4 (h : Ok e (A :: B :: C :: D :: E :: L) w) : Ok e (E :: A :: B :: C :: D :: L) w :=
  Ok.p1 ((Ok.perm h (List.Perm.cons A ((((List.Perm.swap E D L).cons C).cons B).trans ((((List.Perm.swap E C _)).cons B).trans (.swap ..))))))
/-- the head goes behind the next one, two, .. -/
theorem Ok.q1 (h : Ok e (A :: B :: L) w) : Ok e (B :: A :: L) w := h.p1
theorem Ok.q2 (h : Ok e (A :: B :: C :: L) w) : Ok e (B :: C :: A :: L) w := h.perm ((List.Perm.swap B A _).trans ((List.Perm.swap C A L).cons B))
theorem Ok.q3 (h : Ok e (A :: B :: C :: D :: L) w) : Ok e (B :: C :: D :: A :: L) w := h.perm ((List.Perm.swap B A _).trans (((List.Perm.swap C A _).trans ((List.Perm.swap D A L).cons C)).cons B))
theorem Ok.drop (h : Ok e (A :: L) w) : Ok e L w := by
  refine ⟨h.os, h.tape, h.output, ?_⟩
  obtain ⟨h1, h2, hd, he, _, hL⟩ := h.heap
  rw [he]
  exact oksH_le hL fun b o hb => by
    simp only [Hp.un]
    rcases hd b with e | e
    · simp [e, hb]
    · rw [hb] at e; cases e
theorem Ok.unpack (h : Ok e (oksH M :: L) w) : Ok e (M ++ L) w := ⟨h.os, h.tape, h.output, oksH_append.1 h.heap⟩
theorem Ok.pack (h : Ok e (M ++ L) w) : Ok e (oksH M :: L) w := ⟨h.os, h.tape, h.output, oksH_append.2 h.heap⟩
/-- what a part says of itself, taken out -/
theorem Ok.imp (h : Ok e (A :: L) w) (hAB : ∀ k, A k → B k) : Ok e (B :: L) w := by
  refine ⟨h.os, h.tape, h.output, ?_⟩
  obtain ⟨h1, h2, hd, he, hA, hL⟩ := h.heap
  exact ⟨h1, h2, hd, he, hAB _ hA, hL⟩
theorem Ok.exE {α : Type} {X : α → SP} (h : Ok e ((fun k => ∃ x, X x k) :: L) w) : ∃ x, Ok e (X x :: L) w := by
  obtain ⟨h1, h2, hd, he, ⟨x, hA⟩, hL⟩ := h.heap
  exact ⟨x, h.os, h.tape, h.output, h1, h2, hd, he, hA, hL⟩
theorem Ok.pureE {p : Prop} (h : Ok e ((fun k => p ∧ A k) :: L) w) : p ∧ Ok e (A :: L) w := by
  obtain ⟨h1, h2, hd, he, ⟨hp, hA⟩, hL⟩ := h.heap
  exact ⟨hp, h.os, h.tape, h.output, h1, h2, hd, he, hA, hL⟩
theorem Ok.orE {X Y : SP} (h : Ok e ((fun k => X k ∨ Y k) :: L) w) : Ok e (X :: L) w ∨ Ok e (Y :: L) w := by
  obtain ⟨h1, h2, hd, he, hA | hA, hL⟩ := h.heap
  · exact .inl ⟨h.os, h.tape, h.output, h1, h2, hd, he, hA, hL⟩
  · exact .inr ⟨h.os, h.tape, h.output, h1, h2, hd, he, hA, hL⟩
theorem Ok.block {b : Nat} {cs : List Value} (h : Ok e (pts b cs :: L) w) : ∃ t, w.heap[b]? = some (.cells cs.toArray t (0, 0)) := by
  obtain ⟨h1, h2, hd, he, ⟨t, hb⟩, hL⟩ := h.heap
  refine ⟨t, ?_⟩
  have := congrFun he b
  simp only [hpOf, Hp.un, hb] at this
  exact this
theorem Ok.cell {b i : Nat} {cs : List Value} {v : Value} (h : Ok e (pts b cs :: L) w) (hv : cs[i]? = some v) : w.cell? ⟨b, i, none⟩ = some v := by
  obtain ⟨t, hb⟩ := h.block
  simp [World.cell?, hb, hv]
theorem Ok.frozen {b i : Nat} {cs : List Value} (h : Ok e (pts b cs :: L) w) : w.frozen? ⟨b, i, none⟩ = false := by
  obtain ⟨t, hb⟩ := h.block
  simp [World.frozen?, hb]
theorem Ok.drew (h : Ok e L w) : Ok e L w.drew := ⟨h.os, h.tape, h.output, h.heap⟩
theorem Ok.drewN (h : Ok e L w) (n : Nat) : Ok e L (w.drewN n) := ⟨h.os, h.tape, h.output, h.heap⟩
/-- block b is laid anew -/
theorem Ok.replace {b : Nat} {cs cs' : List Value} {w' : World} (h : Ok e (pts b cs :: L) w) (hos : w'.os = w.os) (htape : w'.tape = w.tape) (hout : w'.output = w.output)
    (hb : ∃ t, w'.heap[b]? = some (.cells cs'.toArray t (0, 0))) (ho : ∀ k, k ≠ b → w'.heap[k]? = w.heap[k]?) : Ok e (pts b cs' :: L) w' := by
  refine ⟨hos.trans h.os, htape.trans h.tape, hout.trans h.output, ?_⟩
  obtain ⟨h1, h2, hd, he, ⟨t, hp⟩, hL⟩ := h.heap
  obtain ⟨t', hb⟩ := hb
  have h2b : h2 b = none := by
    rcases hd b with e | e
    · rw [hp] at e; cases e
    · exact e
  refine ⟨fun k => if k = b then some (.cells cs'.toArray t' (0, 0)) else h1 k, h2, fun k => ?_, ?_, ⟨t', by simp⟩, hL⟩
  · by_cases hk : k = b
    · subst hk; exact .inr h2b
    · simpa [hk] using hd k
  · funext k
    have := congrFun he k
    simp only [hpOf, Hp.un] at this ⊢
    by_cases hk : k = b
    · subst hk; simp [hb]
    · simp only [hk, if_false]; rw [ho k hk, this]
theorem Ok.set {b i : Nat} {cs : List Value} (h : Ok e (pts b cs :: L) w) (v : Value) : Ok e (pts b (cs.set i v) :: L) (w.setCell ⟨b, i, none⟩ v) := by
  obtain ⟨t, hb⟩ := h.block
  refine h.replace rfl rfl rfl ⟨t, ?_⟩ (fun k hk => Go.RowKit.Below.heap_setCell _ _ _ _ (by simpa using hk))
  simp only [World.setCell, Array.getElem?_modify, if_true, hb, Option.map_some]
  simp
theorem Ok.alloc (h : Ok e L w) (t : TypeId) (cs : List Value) : Ok e (pts w.heap.size cs :: L) (w.alloc (.cells cs.toArray t)) := by
  refine ⟨h.os, h.tape, h.output, fun k => if k = w.heap.size then some (.cells cs.toArray t (0, 0)) else none, hpOf w, fun k => ?_, ?_, ⟨t, by simp⟩, h.heap⟩
  · by_cases hk : k = w.heap.size
    · subst hk; right; simp [hpOf]
    · left; simp [hk]
  · funext k
    simp only [hpOf, World.alloc, Hp.un, Array.getElem?_push]
    by_cases hk : k = w.heap.size <;> simp [hk]
theorem Ok.setRow {b : Nat} {cs : List Value} (h : Ok e (pts b cs :: L) w) (cs' : List Value) : Ok e (pts b cs' :: L) (w.setRow b cs'.toArray) := by
  obtain ⟨t, hb⟩ := h.block
  exact h.replace rfl rfl rfl ⟨t, setRow_heap w b _ _ t _ hb⟩ (fun k hk => setRow_other w b k _ hk)
theorem Ok.old_block (h : Ok e (old e :: L) w) {b : Nat} (hb : b < e.heap.size) : w.heap[b]? = e.heap[b]? := by
  obtain ⟨h1, h2, hd, he, ho, hL⟩ := h.heap
  have h3 := congrFun he b
  have h4 := ho b hb
  simp only [hpOf, Hp.un] at h3
  cases hs : e.heap[b]? with
  | none => simp at hs; omega
  | some o => rw [h4, hs] at h3; exact h3
theorem Ok.old_cell (h : Ok e (old e :: L) w) {a : Addr} (hb : a.block < e.heap.size) : w.cell? a = e.cell? a := World.cell?_of_block (h.old_block hb)
theorem Ok.start (e : World) : Ok e [old e] e := ⟨rfl, rfl, rfl, hpOf e, fun _ => none, fun _ => .inr rfl, by funext b; simp only [Hp.un]; cases hpOf e b <;> rfl, fun _ _ => rfl, trivial⟩
theorem Ok.below (h : Ok e (old e :: L) w) : Go.RowKit.Below e.heap.size e w := by
  refine ⟨h.os, h.tape, h.output, ?_, fun k hk => h.old_block hk⟩
  rcases Nat.eq_zero_or_pos e.heap.size with h0 | h0
  · omega
  · have := h.old_block (b := e.heap.size - 1) (by omega)
    have h2 : e.heap[e.heap.size - 1]? = some e.heap[e.heap.size - 1] := Array.getElem?_eq_getElem (by omega)
    rw [h2] at this
    have := (Array.getElem?_eq_some_iff.1 this).1
    omega
/-- two blocks of one part lie apart -/
theorem Ok.ne {b c : Nat} {cs ds : List Value} (h : Ok e (pts b cs :: pts c ds :: L) w) : b ≠ c := by
  rintro rfl
  obtain ⟨h1, h2, hd, he, ⟨t, hb⟩, h3, h4, hd2, he2, ⟨t2, hc⟩, hL⟩ := h.heap
  rcases hd b with e | e
  · rw [hb] at e; cases e
  · rw [he2] at e; simp [Hp.un, hc] at e
end

/-! ### steps -/
section
variable {e : World} {L : List SP} {w : World} {b o : Nat}
theorem ldI.mk {k : IntKind} {f : Int → Prop} {x : Int} (h : w.cell? ⟨b, o, none⟩ = some (.int k x)) (hf : f x) : ldI w k b o f := ⟨x, h, hf⟩
theorem ldB.mk {f : Bool → Prop} {x : Bool} (h : w.cell? ⟨b, o, none⟩ = some (.bool x)) (hf : f x) : ldB w b o f := ⟨x, h, hf⟩
theorem ldP.mk {f : Option Addr → Prop} {x : Option Addr} (h : w.cell? ⟨b, o, none⟩ = some (.pointer x)) (hf : f x) : ldP w b o f := ⟨x, h, hf⟩
theorem ldS.mk {f : Sl → Prop} {x : Sl} (h : w.cell? ⟨b, o, none⟩ = some (vS x)) (hf : f x) : ldS w b o f := ⟨x, h, hf⟩
theorem ldM.mk {f : Option Nat → Prop} {x : Option Nat} (h : w.cell? ⟨b, o, none⟩ = some (.map x)) (hf : f x) : ldM w b o f := ⟨x, h, hf⟩
theorem nn.mk {f : Nat → Nat → Prop} (h : f b o) : nn (some ⟨b, o, none⟩) f := ⟨b, o, rfl, h⟩
theorem cs.mk {c : Bool} {x y : Prop} (h1 : c = true → x) (h2 : c = false → y) : cs c x y := ⟨h1, h2⟩
theorem cs.yes {c : Bool} {x y : Prop} (hc : c = true) (h1 : x) : cs c x y := ⟨fun _ => h1, fun h => by rw [hc] at h; cases h⟩
theorem cs.no {c : Bool} {x y : Prop} (hc : c = false) (h1 : y) : cs c x y := ⟨fun h => by (rw [hc] at h; cases h), fun _ => h1⟩
theorem st1.mk {i : Nat} {cs : List Value} {v : Value} {f : World → Prop} (h : Ok e (pts b cs :: L) w) (hi : i < cs.length) (k : ∀ w', Ok e (pts b (cs.set i v) :: L) w' → f w') : st1 w b i v f :=
  ⟨⟨_, h.cell (List.getElem?_eq_getElem hi)⟩, h.frozen, k _ (h.set v)⟩
theorem al.mk {t : TypeId} {cs : List Value} {f : Nat → World → Prop} (h : Ok e L w) (k : ∀ b w', Ok e (pts b cs :: L) w' → f b w') : al w t cs f := k _ _ (h.alloc t cs)
theorem dr.mk {f : World → Prop} (h : Ok e L w) (k : ∀ w', Ok e L w' → f w') : dr w f := k _ h.drew
theorem jn.mk {ks : List Kd} {rest : TK ks → World → Prop} {body : (TK ks → World → Prop) → World → Prop} (h : ∀ J : TK ks → World → Prop, (∀ t w', rest t w' → J t w') → body J w) : jn ks w rest body := h
/-- a join at which one bool is known and the world is as it was -/
theorem jn.bool (c : Bool) {rest : TK [kB] → World → Prop} {body : (TK [kB] → World → Prop) → World → Prop} (hb : ∀ J : TK [kB] → World → Prop, J (c, ()) w → body J w) (hr : rest (c, ()) w) : jn [kB] w rest body :=
  fun J hJ => hb J (hJ _ _ hr)
/-- a join at known values, in any world that owns what is told -/
theorem jn.at {ks : List Kd} {rest : TK ks → World → Prop} {body : (TK ks → World → Prop) → World → Prop} (t : TK ks) (G : World → Prop) (hb : ∀ J : TK ks → World → Prop, (∀ w', G w' → J t w') → body J w) (hr : ∀ w', G w' → rest t w') : jn ks w rest body :=
  fun J hJ => hb J fun w' hw' => hJ _ _ (hr w' hw')
theorem jn.all {ks : List Kd} {rest : TK ks → World → Prop} {body : (TK ks → World → Prop) → World → Prop} (G : TK ks → World → Prop) (hb : ∀ J : TK ks → World → Prop, (∀ t w', G t w' → J t w') → body J w) (hr : ∀ t w', G t w' → rest t w') : jn ks w rest body :=
  fun J hJ => hb J fun t w' hw' => hJ _ _ (hr t w' hw')
theorem lp.mk {ks : List Kd} {t0 : TK ks} {body : TK ks → (TK ks → World → Prop) → World → Prop} (I : TK ks → World → Prop) (μ : TK ks → World → Nat) (h0 : I t0 w)
    (hs : ∀ t w, I t w → body t (fun t' w' => I t' w' ∧ μ t' w' < μ t w) w) : lp ks w t0 body := ⟨I, μ, h0, hs⟩
theorem ob.mk {c x : Prop} (h1 : c) (h2 : x) : ob c x := ⟨h1, h2⟩
end

/-! ### slices that are owned: elements of 'sz' cells -/
def slc (sz : Nat) (s : Sl) (vs : List Value) : SP := fun h =>
  vs.length = s.len * sz ∧ (∀ v ∈ vs, v.oneCell' = true) ∧ s.len ≤ s.cap ∧
  ((s.a = none ∧ s.cap = 0) ∨ ∃ b post, s.a = some ⟨b, 0, none⟩ ∧ s.cap * sz ≤ vs.length + post.length ∧ pts b (vs ++ post) h)
section
variable {P : Program} {e : World} {L : List SP} {w : World} {sz : Nat} {s : Sl} {vs : List Value}
theorem Ok.slcE (h : Ok e (slc sz s vs :: L) w) : vs.length = s.len * sz ∧ (∀ v ∈ vs, v.oneCell' = true) ∧ s.len ≤ s.cap ∧
    ((s.a = none ∧ s.cap = 0 ∧ Ok e L w) ∨ ∃ b post, s.a = some ⟨b, 0, none⟩ ∧ s.cap * sz ≤ vs.length + post.length ∧ Ok e (pts b (vs ++ post) :: L) w) := by
  have hd := h.drop
  obtain ⟨h1, h2, hdj, he, ⟨hl, hv, hc, hs⟩, hL⟩ := h.heap
  refine ⟨hl, hv, hc, ?_⟩
  rcases hs with ⟨ha, hc⟩ | ⟨b, post, ha, hp, hb⟩
  · exact .inl ⟨ha, hc, hd⟩
  · exact .inr ⟨b, post, ha, hp, h.os, h.tape, h.output, h1, h2, hdj, he, hb, hL⟩
theorem Ok.slcI {b : Nat} {post : List Value} (h : Ok e (pts b (vs ++ post) :: L) w) (ha : s.a = some ⟨b, 0, none⟩) (hl : vs.length = s.len * sz) (hv : ∀ v ∈ vs, v.oneCell' = true) (hc : s.len ≤ s.cap) (hp : s.cap * sz ≤ vs.length + post.length) :
    Ok e (slc sz s vs :: L) w := by
  obtain ⟨h1, h2, hdj, he, hb, hL⟩ := h.heap
  exact ⟨h.os, h.tape, h.output, h1, h2, hdj, he, ⟨hl, hv, hc, .inr ⟨b, post, ha, hp, hb⟩⟩, hL⟩
theorem Ok.slcNil (h : Ok e L w) (sz : Nat) : Ok e (slc sz ⟨none, 0, 0⟩ [] :: L) w :=
  ⟨h.os, h.tape, h.output, fun _ => none, hpOf w, fun _ => .inl rfl, by funext b; rfl, ⟨by simp, by simp, Nat.le_refl _, .inl ⟨rfl, rfl⟩⟩, h.heap⟩
/-- a slice that was just built -/
theorem Ok.slcNew {b n : Nat} (h : Ok e (pts b vs :: L) w) (hl : vs.length = n * sz) (hv : ∀ v ∈ vs, v.oneCell' = true) : Ok e (slc sz ⟨some ⟨b, 0, none⟩, n, n⟩ vs :: L) w := by
  rw [← List.append_nil vs] at h
  exact h.slcI rfl hl hv (Nat.le_refl _) (by simp [hl])
theorem Ok.slc_len (h : Ok e (slc sz s vs :: L) w) : vs.length = s.len * sz := h.slcE.1
/-- its cells, wherever it lies -/
theorem Ok.slc_cells (h : Ok e (slc sz s vs :: L) w) {a : Addr} (ha : s.a = some a) : ∀ j u, vs[j]? = some u → w.cell? (a.add j) = some u := by
  intro j u hu
  obtain ⟨hl, hv, hc, ⟨h0, _, _⟩ | ⟨b, post, hb, hp, hk⟩⟩ := h.slcE
  · rw [h0] at ha; cases ha
  · rw [hb] at ha; cases ha
    rw [add_off]
    refine hk.cell ?_
    have hj : j < vs.length := (List.getElem?_eq_some_iff.1 hu).1
    rw [Nat.zero_add, List.getElem?_append_left hj]; exact hu
theorem ix_slc {i : Int} {f : Nat → Nat → Prop} (h : Ok e (slc sz s vs :: L) w) (h0 : 0 ≤ i) (h1 : i < s.len)
    (k : ∀ b, (∀ j, j < sz → w.cell? ⟨b, i.toNat * sz + j, none⟩ = vs[i.toNat * sz + j]?) → f b (0 + i.toNat * sz)) : ix s i sz f := by
  obtain ⟨hl, hv, hc, ⟨ha, hc0, _⟩ | ⟨b, post, hb, hp, hk⟩⟩ := h.slcE
  · omega
  · refine ⟨b, 0, hb, h0, h1, k b fun j hj => ?_⟩
    have hlt : i.toNat * sz + j < vs.length := by
      rw [hl]
      have h2 : i.toNat + 1 ≤ s.len := by omega
      have h3 := Nat.mul_le_mul_right sz h2
      rw [Nat.add_mul, Nat.one_mul] at h3
      omega
    rw [List.getElem?_eq_getElem hlt]
    exact hk.cell (by rw [List.getElem?_append_left hlt, List.getElem?_eq_getElem hlt])
/-- what is known of a slice's type -/
structure SlT (P : Program) (t : TypeId) (sz : Nat) : Prop where
  ex : ∃ el i z, P.underlying t = some (.slice el) ∧ P.info? el = some i ∧ i.zero = some z ∧ i.size = sz ∧ i.bytes ≤ 1024 ∧ z.cells.size = sz ∧ z.cells.toList.all (·.oneCell') = true
def slTok (P : Program) (t sz : Nat) : Bool :=
  match P.underlying t with
  | some (.slice el) => match P.info? el with
    | some i => Nat.beq i.size sz && Nat.ble i.bytes 1024 && (match i.zero with | some z => Nat.beq z.cells.size sz && z.cells.toList.all (·.oneCell') | none => false)
    | none => false
  | _ => false
theorem SlT.of {P : Program} {t sz : Nat} (h : slTok P t sz = true) : SlT P t sz := by
  unfold slTok at h
  split at h
  · rename_i el hu
    split at h
    · rename_i i hi
      simp only [Bool.and_eq_true] at h
      obtain ⟨⟨h1, h2⟩, h3⟩ := h
      split at h3
      · rename_i z hz
        simp only [Bool.and_eq_true] at h3
        exact ⟨el, i, z, hu, hi, hz, Nat.eq_of_beq_eq_true h1, by simpa using h2, Nat.eq_of_beq_eq_true h3.1, h3.2⟩
      · cases h3
    · cases h
  · cases h
theorem zeroCells_len (z : Array Value) (n : Nat) : (Builtin.zeroCells z n).toList.length = n * z.size := by simp [Builtin.zeroCells]
theorem append_run {t ty : TypeId} (T : SlT P t sz) (hsz : 0 < sz) (h : Ok e (slc sz s vs :: L) w) {x : Sl} {us : List Value} (hx : us.length = x.len * sz) (hxa : x.a = none → us = [])
    (hu : ∀ a, x.a = some a → ∀ j u, us[j]? = some u → w.cell? (a.add j) = some u) (h1 : ∀ v ∈ us, v.oneCell' = true) (hb : s.len + x.len ≤ 2 ^ 32) :
    ∃ s' w', (Builtin.append_ #[t, t] ty #[vS s, vS x]).run P w = .ok (vS s') w' ∧ s'.len = s.len + x.len ∧ Ok e (slc sz s' (vs ++ us) :: L) w' ∧ (s.a.isSome = true → s.len + x.len ≤ s.cap → s'.a = s.a ∧ s'.cap = s.cap) := by
  obtain ⟨el, i, z, ht, hi, hz, hs, hby, hzs, _⟩ := T.ex
  obtain ⟨hl, hv, hc, hcase⟩ := h.slcE
  have hlen : (vs ++ us).length = (s.len + x.len) * sz := by rw [List.length_append, hl, hx, Nat.add_mul]
  have hall : ∀ v ∈ vs ++ us, v.oneCell' = true := fun v hm => (List.mem_append.1 hm).elim (hv v) (h1 v)
  have hx0 : us = [] → x.len = 0 := fun e => by
    rw [e] at hx
    rcases Nat.mul_eq_zero.1 (show x.len * sz = 0 from hx.symm) with h | h
    · exact h
    · omega
  obtain ⟨sa, slen, scap⟩ := s
  obtain ⟨xa, xlen, xcap⟩ := x
  simp only at hl hc hx hxa hu hb hlen hx0 hcase
  have h63 : ∀ n : Nat, n ≤ 2 ^ 32 → ((n : Nat) : Int) ≤ 9223372036854775807 := fun n hn => by omega
  have h48 : ∀ n : Nat, n ≤ 2 ^ 32 → n * i.bytes ≤ 140737488355328 := fun n hn => Nat.le_trans (Nat.mul_le_mul hn hby) (by decide)
  have grown : ∀ (need old : Nat) (w1 : World), Ok e L w → need = slen + xlen → w1 = w.drew.alloc (.cells (vs.toArray ++ us.toArray ++ Builtin.zeroCells z.cells (grownCap w need old el - need)) el) →
      Ok e (slc sz ⟨some ⟨w.heap.size, 0, none⟩, need, grownCap w need old el⟩ (vs ++ us) :: L) w1 := by
    rintro need old w1 hL rfl rfl
    have hal := hL.drew.alloc el (vs ++ us ++ (Builtin.zeroCells z.cells (grownCap w (slen + xlen) old el - (slen + xlen))).toList)
    have e1 : (vs ++ us ++ (Builtin.zeroCells z.cells (grownCap w (slen + xlen) old el - (slen + xlen))).toList).toArray = vs.toArray ++ us.toArray ++ Builtin.zeroCells z.cells (grownCap w (slen + xlen) old el - (slen + xlen)) := by
      apply Array.ext'; simp
    rw [e1] at hal
    have hge := grownCap_ge w (slen + xlen) old el
    refine hal.slcI rfl hlen hall hge ?_
    rw [zeroCells_len, hzs, hlen, ← Nat.add_mul]
    exact Nat.mul_le_mul_right _ (by simp only; omega)
  rcases hcase with ⟨ha, hcap, hL⟩ | ⟨b, post, ha, hp, hk⟩
  · subst ha
    have hs0 : slen = 0 := by omega
    subst hs0
    subst hcap
    have hvs : vs = [] := List.eq_nil_of_length_eq_zero (by rw [hl]; simp)
    subst hvs
    by_cases hx1 : xlen = 0
    · subst hx1
      have hus : us = [] := List.eq_nil_of_length_eq_zero (by rw [hx]; simp)
      subst hus
      refine ⟨⟨none, 0, 0⟩, w, ?_, rfl, by simpa using hL.slcNil sz, fun h => by cases h⟩
      cases xa <;> simp [vS, Builtin.append_, run_underlying ht, sizeOf, typeInfo, hi, Builtin.lenOf, Builtin.firstCells, loadCells, loadCellsFrom]
    · cases xa with
      | none => exact absurd (hx0 (hxa rfl)) hx1
      | some a =>
        refine ⟨⟨some ⟨w.heap.size, 0, none⟩, xlen, grownCap w xlen 0 el⟩, _, run_append_nil (P := P) w t ty el i z ht hi hz a xlen xcap us (by rw [hs]; exact hx) (hu a rfl) (by omega) (h63 _ (by omega)) (by have := h48 xlen (by omega); omega), by simp, ?_, fun h => by cases h⟩
        have := grown xlen 0 _ hL (by omega) rfl
        simpa using this
  · subst ha
    obtain ⟨tt, hblk⟩ := hk.block
    by_cases hroom : slen + xlen ≤ scap
    · cases xa with
      | none =>
        have hus : us = [] := hxa rfl
        have hx1 := hx0 hus
        subst hus
        subst hx1
        refine ⟨⟨some ⟨b, 0, none⟩, slen, scap⟩, w, ?_, rfl, by simpa using h, fun _ _ => ⟨rfl, rfl⟩⟩
        simp [vS, Builtin.append_, run_underlying ht, sizeOf, typeInfo, hi, Builtin.lenOf, Builtin.firstCells, hc, storeCells]
      | some a =>
        have htt : True := trivial
        have hf := run_firstCells_some (P := P) w i.size xlen a xlen xcap us (by rw [hs]; exact hx) (hu a rfl)
        have hfit : 0 + (slen * i.size + 0) + us.length ≤ (vs ++ post).toArray.size := by
          simp only [List.size_toArray, List.length_append]
          have h5 := Nat.mul_le_mul_right sz hroom
          rw [Nat.add_mul] at h5
          rw [hs]; omega
        have hst := run_storeCells_at P b (slen * i.size) tt us 0 (vs ++ post).toArray w hblk (by simp only [List.size_toArray, List.length_append] at hfit ⊢; omega) h1
        refine ⟨⟨some ⟨b, 0, none⟩, slen + xlen, scap⟩, w.setRow b (vs ++ us ++ post.drop us.length).toArray, ?_, rfl, ?_, fun _ _ => ⟨rfl, rfl⟩⟩
        · have e2 : ((vs ++ post).toArray.toList.take (slen * i.size + 0) ++ us ++ (vs ++ post).toArray.toList.drop (slen * i.size + 0 + us.length)) = vs ++ us ++ post.drop us.length := by
            simp only [Nat.add_zero, hs, ← hl]
            rw [List.take_left, List.drop_append]
            simp
          rw [e2] at hst
          simp [vS, Builtin.append_, run_underlying ht, sizeOf, typeInfo, hi, Builtin.lenOf, hroom, hf, Addr.add_lit, hst]
        · have hset := hk.setRow (vs ++ us ++ post.drop us.length)
          refine hset.slcI rfl hlen hall hroom ?_
          simp only [List.length_append, List.length_drop] at hfit ⊢
          omega
    · cases xa with
      | none =>
        have hx1 := hx0 (hxa rfl)
        omega
      | some a =>
        have holds : ∀ j u, vs[j]? = some u → w.cell? ((⟨b, 0, none⟩ : Addr).add j) = some u := h.slc_cells rfl
        refine ⟨⟨some ⟨w.heap.size, 0, none⟩, slen + xlen, grownCap w (slen + xlen) scap el⟩, _, run_append_grow (P := P) w t ty el i z ht hi hz ⟨b, 0, none⟩ slen scap vs (by rw [hs]; exact hl) holds a xlen xcap us (by rw [hs]; exact hx) (hu a rfl) (by omega) (h63 _ hb) (growslice_fits (by omega) (h48 _ hb)), rfl, ?_, fun _ h => absurd h hroom⟩
        exact grown _ _ _ hk.drop rfl rfl
/-- 'append' in a shallow program -/
theorem ef.append {t : TypeId} {x : Sl} {us : List Value} {K : TK [kS] → World → Prop} (T : SlT P t sz) (hsz : 0 < sz) (h : Ok e (slc sz s vs :: L) w) (hx : us.length = x.len * sz) (hxa : x.a = none → us = [])
    (hu : ∀ a, x.a = some a → ∀ j u, us[j]? = some u → w.cell? (a.add j) = some u) (h1 : ∀ v ∈ us, v.oneCell' = true) (hb : s.len + x.len ≤ 2 ^ 32)
    (k : ∀ s' w', s'.len = s.len + x.len → Ok e (slc sz s' (vs ++ us) :: L) w' → K (s', ()) w') : ef P (Builtin.append_ #[t, t] t #[vS s, vS x]) [kS] w K := by
  obtain ⟨s', w', hr, hl, hk, _⟩ := append_run (ty := t) T hsz h hx hxa hu h1 hb
  exact ⟨(s', ()), w', hr, k s' w' hl hk⟩
/-- append of another slice that is owned -/
theorem ef.append2 {t : TypeId} {x : Sl} {us : List Value} {K : TK [kS] → World → Prop} (T : SlT P t sz) (hsz : 0 < sz) (h : Ok e (slc sz s vs :: slc sz x us :: L) w) (hb : s.len + x.len ≤ 2 ^ 32)
    (k : ∀ s' w', s'.len = s.len + x.len → Ok e (slc sz s' (vs ++ us) :: slc sz x us :: L) w' → K (s', ()) w') : ef P (Builtin.append_ #[t, t] t #[vS s, vS x]) [kS] w K := by
  have hx := h.p1.slcE
  refine ef.append T hsz h hx.1 (fun ha => ?_) (fun a ha => h.p1.slc_cells ha) hx.2.1 hb k
  rcases hx.2.2.2 with ⟨_, h0, _⟩ | ⟨b, post, h0, _⟩
  · have := hx.2.2.1
    exact List.eq_nil_of_length_eq_zero (by rw [hx.1, show x.len = 0 by omega]; simp)
  · rw [h0] at ha; cases ha
/-- append of elements that were just built -/
theorem ef.append1 {t : TypeId} {b n : Nat} {us : List Value} {K : TK [kS] → World → Prop} (T : SlT P t sz) (hsz : 0 < sz) (h : Ok e (pts b us :: slc sz s vs :: L) w) (hx : us.length = n * sz) (h1 : ∀ v ∈ us, v.oneCell' = true) (hb : s.len + n ≤ 2 ^ 32)
    (k : ∀ s' w', s'.len = s.len + n → Ok e (slc sz s' (vs ++ us) :: L) w' → K (s', ()) w') : ef P (Builtin.append_ #[t, t] t #[vS s, vS ⟨some ⟨b, 0, none⟩, n, n⟩]) [kS] w K := by
  have h2 := (h.slcNew hx h1).p1
  exact ef.append2 (x := ⟨some ⟨b, 0, none⟩, n, n⟩) T hsz h2 hb fun s' w' hl hk => k s' w' hl hk.p1.drop
/-- a part of a slice, looked at alone -/
theorem sb_view {a : Addr} {lo hi : Int} {f : Sl → Prop} (ha : s.a = some a) (h0 : 0 ≤ lo) (h1 : lo ≤ hi) (h2 : hi ≤ s.cap) (k : ∀ s' : Sl, s'.len = hi.toNat - lo.toNat → (lo.toNat < s.cap → s'.a = some (a.add (lo.toNat * sz))) → f s') : sb s lo hi s.cap sz f := by
  refine ⟨h0, h1, h2, Int.le_refl _, k _ (by simp [Sl.sub]) fun hlt => ?_⟩
  simp only [Sl.sub, ha, Int.toNat_natCast]
  rw [if_neg (by omega)]
  rfl
/-- slices.Clip's cut -/
theorem sb.clip {f : Sl → Prop} (h : Ok e (slc sz s vs :: L) w) (k : ∀ s', s'.len = s.len → Ok e (slc sz s' vs :: L) w → f s') : sb s 0 s.len s.len sz f := by
  obtain ⟨hl, hv, hc, hcase⟩ := h.slcE
  refine ⟨Int.le_refl _, by omega, Int.le_refl _, by omega, k _ (by simp [Sl.sub]) ?_⟩
  rcases hcase with ⟨ha, hcap, hL⟩ | ⟨b, post, ha, hp, hk⟩
  · have h0 : s.len = 0 := by omega
    have e1 : s.sub 0 s.len s.len sz = ⟨none, 0, 0⟩ := by simp [Sl.sub, ha, h0]
    rw [e1]
    have : vs = [] := List.eq_nil_of_length_eq_zero (by rw [hl, h0]; simp)
    subst this
    exact hL.slcNil sz
  · refine hk.slcI ?_ (by simp [Sl.sub, hl]) hv (by simp [Sl.sub]) (by simp [Sl.sub, hl])
    simp only [Sl.sub, ha]
    split
    · rfl
    · simp [Addr.add]
/-- the first ones of a slice -/
theorem sb.take {n : Int} {f : Sl → Prop} (h : Ok e (slc sz s vs :: L) w) (h0 : 0 ≤ n) (h1 : n ≤ s.len) (k : ∀ s', s'.len = n.toNat → s'.cap = s.cap → Ok e (slc sz s' (vs.take (n.toNat * sz)) :: L) w → f s') : sb s 0 n s.cap sz f := by
  obtain ⟨hl, hv, hc, hcase⟩ := h.slcE
  refine ⟨Int.le_refl _, h0, by omega, Int.le_refl _, k _ (by simp [Sl.sub]) (by simp [Sl.sub]) ?_⟩
  have hle : n.toNat * sz ≤ vs.length := by rw [hl]; exact Nat.mul_le_mul_right _ (by omega)
  rcases hcase with ⟨ha, hcap, hL⟩ | ⟨b, post, ha, hp, hk⟩
  · have hn : n.toNat = 0 := by omega
    have hn0 : n = 0 := by omega
    subst hn0
    have e1 : s.sub 0 0 s.cap sz = ⟨none, 0, 0⟩ := by simp [Sl.sub, ha, hcap]
    rw [e1]
    simpa using hL.slcNil sz
  · have hk' : Ok e (pts b (vs.take (n.toNat * sz) ++ (vs.drop (n.toNat * sz) ++ post)) :: L) w := by
      rw [← List.append_assoc, List.take_append_drop]; exact hk
    refine hk'.slcI ?_ (by simp [Sl.sub, hle]) (fun v hm => hv v (List.mem_of_mem_take hm)) (by simp [Sl.sub]; omega) (by simp [Sl.sub]; omega)
    simp only [Sl.sub, ha]
    split
    · rfl
    · simp [Addr.add]
end
end Go.Proofs.YtenonfkfoedfmaaGreatDoor.B

