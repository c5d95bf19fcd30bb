/- The words of this seat's proofs: typed shallow programs, and the function 'comp' that reads the model's code into them. -/
import Derived.Calls
import Derived.Orders
import Derived.Still
import Derived.KernelRfl
import Derived.Laws.World
import Derived.Laws.Sem
namespace Go.Proofs.Ytjamgdepbjipdaa.B
open Go

/-! ### kinds -/
inductive Lk where
  | i (k : IntKind) | b | p | s | m | f | g | n | v | q
/-- a slice value -/
structure Sl where
  a : Option Addr
  len : Nat
  cap : Nat
/-- a function value -/
structure Fv where
  fid : Nat
  pre : List Value
  post : List Value
/-- an interface value that is not nil -/
structure Iv where
  t : TypeId
  v : Value
def Lk.T : Lk → Type
  | .i _ => Int | .b => Bool | .p => Option Addr | .s => Sl | .m => Option Nat | .f => Fv | .g => ByteArray | .n => Iv | .v => Value | .q => Nat × Nat
def vS (s : Sl) : Value := .slice s.a s.len s.cap
def vF (f : Fv) : Value := .func (.func f.fid) f.pre.toArray f.post.toArray
def Lk.enc : (k : Lk) → k.T → Value
  | .i k, x => .int k x | .b, x => .bool x | .p, x => .pointer x | .s, x => vS x | .m, x => .map x | .f, x => vF x | .g, x => .string x | .n, x => .iface x.t x.v | .v, x => x | .q, x => .pointer (some ⟨x.1, x.2, none⟩)
def ikEq : IntKind → IntKind → Bool
  | .i8, .i8 | .i16, .i16 | .i32, .i32 | .i64, .i64 | .u8, .u8 | .u16, .u16 | .u32, .u32 | .u64, .u64 => true
  | _, _ => false
def ofLk : (k : Lk) → Value → Option k.T
  | .i k, .int j x => match ikEq j k with | true => some x | false => none
  | .b, .bool x => some x
  | .p, .pointer x => some x
  | .s, .slice a n c => some ⟨a, n, c⟩
  | .m, .map x => some x
  | .f, .func (.func fid) pre post => some ⟨fid, pre.toList, post.toList⟩
  | .g, .string x => some x
  | .n, .iface t v => some ⟨t, v⟩
  | .v, x => some x
  | .q, .pointer (some ⟨b, o, none⟩) => some (b, o)
  | _, _ => none
def TL : List Lk → Type
  | [] => Unit
  | k :: r => k.T × TL r
def encL : (ks : List Lk) → TL ks → List Value
  | [], _ => []
  | k :: r, t => k.enc t.1 :: encL r t.2
def ofL : (ks : List Lk) → List Value → Option (TL ks)
  | [], [] => some ()
  | k :: r, v :: vs => match ofLk k v, ofL r vs with | some x, some y => some (x, y) | _, _ => none
  | _, _ => none
inductive Kd where
  | l (k : Lk)
  | a (ks : List Lk)
def Kd.T : Kd → Type
  | .l k => k.T
  | .a ks => TL ks
def Kd.enc : (k : Kd) → k.T → Value
  | .l k, x => k.enc x
  | .a ks, x => .agg (encL ks x).toArray
def Kd.of : (k : Kd) → Value → Option k.T
  | .l k, v => ofLk k v
  | .a ks, .agg cs => ofL ks cs.toList
  | .a _, _ => none
def TK : List Kd → Type
  | [] => Unit
  | k :: r => k.T × TK r
def encK : (ks : List Kd) → TK ks → List Value
  | [], _ => []
  | k :: r, t => k.enc t.1 :: encK r t.2
def ofK : (ks : List Kd) → List Value → Option (TK ks)
  | [], [] => some ()
  | k :: r, v :: vs => match k.of v, ofK r vs with | some x, some y => some (x, y) | _, _ => none
  | _, _ => none
def ret1 : List Value → Value
  | [v] => v
  | vs => .tuple vs.toArray
def lkOf : Value → Lk
  | .int k _ => .i k | .bool _ => .b | .pointer _ => .p | .slice .. => .s | .map _ => .m | .nilFunc => .f | .string _ => .g | .nilIface => .n | _ => .v
def kdOf : Value → Kd
  | .agg cs => .a (cs.toList.map lkOf)
  | v => .l (lkOf v)
def kdT (P : Program) (t : TypeId) : Kd :=
  match (P.info? t).bind (·.zero) with
  | some z => kdOf z
  | none => .l .v
def kindsT (P : Program) (t : TypeId) : List Kd :=
  match P.underlying t with
  | some (.tuple ts) => ts.toList.map (kdT P)
  | _ => [kdT P t]

theorem ofLk_enc {k : Lk} {v : Value} {x : k.T} (h : ofLk k v = some x) : k.enc x = v := by
  cases k
  case i k =>
    cases v <;> simp [ofLk] at h
    rename_i j n
    cases j <;> cases k <;> simp [ikEq] at h <;> (cases h; rfl)
  case f =>
    cases v <;> simp [ofLk] at h
    rename_i fn pre post
    cases fn <;> simp at h
    cases h
    simp [Lk.enc, vF]
  case v => cases h; rfl
  case q =>
    cases v <;> simp [ofLk] at h
    rename_i a
    cases a with
    | none => simp at h
    | some a =>
      obtain ⟨b, o, l⟩ := a
      cases l with
      | none => simp at h; cases h; rfl
      | some l => simp at h
  all_goals (cases v <;> simp [ofLk] at h <;> cases h <;> rfl)
theorem ofL_enc {ks : List Lk} : ∀ {vs : List Value} {t : TL ks}, ofL ks vs = some t → encL ks t = vs := by
  induction ks with
  | nil => intro vs t h; cases vs <;> simp [ofL] at h; rfl
  | cons k r ih =>
    intro vs t h
    cases vs with
    | nil => simp [ofL] at h
    | cons v vs =>
      simp only [ofL] at h
      cases h1 : ofLk k v <;> cases h2 : ofL r vs <;> simp [h1, h2] at h
      cases h
      simp [encL, ofLk_enc h1, ih h2]
theorem Kd.of_enc {k : Kd} {v : Value} {x : k.T} (h : k.of v = some x) : k.enc x = v := by
  cases k with
  | l k => exact ofLk_enc h
  | a ks =>
    cases v <;> simp [Kd.of] at h
    simp [Kd.enc, ofL_enc h]
theorem ofK_enc {ks : List Kd} : ∀ {vs : List Value} {t : TK ks}, ofK ks vs = some t → encK ks t = vs := by
  induction ks with
  | nil => intro vs t h; cases vs <;> simp [ofK] at h; rfl
  | cons k r ih =>
    intro vs t h
    cases vs with
    | nil => simp [ofK] at h
    | cons v vs =>
      simp only [ofK] at h
      cases h1 : k.of v <;> cases h2 : ofK r vs <;> simp [h1, h2] at h
      cases h
      simp [encK, Kd.of_enc h1, ih h2]

/-! ### the words of the shallow programs -/
def ldI (w : World) (k : IntKind) (b o : Nat) (f : Int → Prop) : Prop := ∃ x, w.cell? ⟨b, o, none⟩ = some (.int k x) ∧ f x
def ldB (w : World) (b o : Nat) (f : Bool → Prop) : Prop := ∃ x, w.cell? ⟨b, o, none⟩ = some (.bool x) ∧ f x
def ldP (w : World) (b o : Nat) (f : Option Addr → Prop) : Prop := ∃ x, w.cell? ⟨b, o, none⟩ = some (.pointer x) ∧ f x
def ldS (w : World) (b o : Nat) (f : Sl → Prop) : Prop := ∃ x, w.cell? ⟨b, o, none⟩ = some (vS x) ∧ f x
def ldM (w : World) (b o : Nat) (f : Option Nat → Prop) : Prop := ∃ x, w.cell? ⟨b, o, none⟩ = some (.map x) ∧ f x
def ldF (w : World) (b o : Nat) (f : Fv → Prop) : Prop := ∃ x, w.cell? ⟨b, o, none⟩ = some (vF x) ∧ f x
def ldG (w : World) (b o : Nat) (f : ByteArray → Prop) : Prop := ∃ x, w.cell? ⟨b, o, none⟩ = some (.string x) ∧ f x
def ldN (w : World) (b o : Nat) (f : Iv → Prop) : Prop := ∃ x : Iv, w.cell? ⟨b, o, none⟩ = some (.iface x.t x.v) ∧ f x
def ldV (w : World) (b o : Nat) (f : Value → Prop) : Prop := ∃ x, w.cell? ⟨b, o, none⟩ = some x ∧ f x
def ldQ (w : World) (b o : Nat) (f : Nat × Nat → Prop) : Prop := ∃ x : Nat × Nat, w.cell? ⟨b, o, none⟩ = some (.pointer (some ⟨x.1, x.2, none⟩)) ∧ f x
def ldK (w : World) (b o : Nat) : (k : Lk) → (k.T → Prop) → Prop
  | .i k, f => ldI w k b o f
  | .b, f => ldB w b o f
  | .p, f => ldP w b o f
  | .s, f => ldS w b o f
  | .m, f => ldM w b o f
  | .f, f => ldF w b o f
  | .g, f => ldG w b o f
  | .n, f => ldN w b o f
  | .v, f => ldV w b o f
  | .q, f => ldQ w b o f
theorem ldK_iff (w : World) (b o : Nat) (k : Lk) (f : k.T → Prop) : ldK w b o k f ↔ ∃ x, w.cell? ⟨b, o, none⟩ = some (k.enc x) ∧ f x := by
  cases k <;> exact Iff.rfl
/-- the i-th cell behind an offset -/
def offA (o : Nat) : Nat → Nat
  | 0 => o
  | i + 1 => o + (i + 1)
def ldL (w : World) (b o : Nat) : List Lk → Nat → (List Value → Prop) → Prop
  | [], _, f => f []
  | k :: r, i, f => ldK w b (offA o i) k fun x => ldL w b o r (i + 1) fun vs => f (k.enc x :: vs)
/-- a store into one cell -/
def st1 (w : World) (b o : Nat) (v : Value) (f : World → Prop) : Prop :=
  (∃ u, w.cell? ⟨b, o, none⟩ = some u) ∧ w.frozen? ⟨b, o, none⟩ = false ∧ f (w.setCell ⟨b, o, none⟩ v)
/-- a new block -/
def al (w : World) (t : TypeId) (cs : List Value) (f : Nat → World → Prop) : Prop := f w.heap.size (w.alloc (.cells cs.toArray t))
/-- not nil -/
def nn (p : Option Addr) (f : Nat → Nat → Prop) : Prop := ∃ b o, p = some ⟨b, o, none⟩ ∧ f b o
/-- both ways -/
def cs (b : Bool) (x y : Prop) : Prop := (b = true → x) ∧ (b = false → y)
/-- an index into a slice -/
def ix (s : Sl) (i : Int) (sz : Nat) (f : Nat → Nat → Prop) : Prop := ∃ b o, s.a = some ⟨b, o, none⟩ ∧ 0 ≤ i ∧ i < s.len ∧ f b (o + i.toNat * sz)
/-- an index into an array -/
def ixA (b o n : Nat) (i : Int) (sz : Nat) (f : Nat → Nat → Prop) : Prop := 0 ≤ i ∧ i < n ∧ f b (o + i.toNat * sz)
def Sl.sub (s : Sl) (lo hi mx : Int) (sz : Nat) : Sl :=
  ⟨if mx.toNat = lo.toNat then s.a else s.a.map (·.add (lo.toNat * sz)), hi.toNat - lo.toNat, mx.toNat - lo.toNat⟩
/-- a part of a slice -/
def sb (s : Sl) (lo hi mx : Int) (sz : Nat) (f : Sl → Prop) : Prop := 0 ≤ lo ∧ lo ≤ hi ∧ hi ≤ mx ∧ mx ≤ s.cap ∧ f (s.sub lo hi mx sz)
/-- something that must hold -/
def ob (c x : Prop) : Prop := c ∧ x
/-- a draw -/
def dr (w : World) (f : World → Prop) : Prop := f w.drew
/-- a call -/
def cl (P : Program) (f : Nat) (args : List Value) (ks : List Kd) (w : World) (K : TK ks → World → Prop) : Prop :=
  Calls P f args.toArray w fun e w' => ∃ t : TK ks, e = .returned (ret1 (encK ks t)) ∧ K t w'
/-- an operation of the model that is looked at from outside -/
def ef (P : Program) (m : Sem Value) (ks : List Kd) (w : World) (K : TK ks → World → Prop) : Prop :=
  ∃ t w', m.run P w = .ok (ret1 (encK ks t)) w' ∧ K t w'
def efU (P : Program) (m : Sem Unit) (w : World) (K : World → Prop) : Prop := ∃ w', m.run P w = .ok () w' ∧ K w'
/-- bytes read as a string -/
def tx (P : Program) (s d : TypeId) (v : Value) (w : World) (f : ByteArray → Prop) : Prop := ∃ g, (convert s d v).run P w = .ok (.string g) w ∧ f g
/-- two pointers compared -/
def pq (P : Program) (t : TypeId) (x y : Option Addr) (w : World) (f : Bool → Prop) : Prop := ∃ c, (Op.equal t (.pointer x) (.pointer y)).run P w = .ok c w ∧ f c
/-- a range over a map: it begins; a step of it, whole numbers to slices -/
def rn (P : Program) (t : TypeId) (m : Value) (w : World) (K : Nat → World → Prop) : Prop := ∃ r w', (Instr.range t m).run P w = .ok (.pointer (some ⟨r, 0, none⟩)) w' ∧ K r w'
def nx (P : Program) (t : TypeId) (it : Value) (w : World) (K0 : World → Prop) (K1 : Int → Sl → World → Prop) : Prop :=
  (∃ w', (Instr.next it false t).run P w = .ok (.tuple #[.bool false]) w' ∧ K0 w') ∨ ∃ k v w', (Instr.next it false t).run P w = .ok (.tuple #[.bool true, .int .i64 k, vS v]) w' ∧ K1 k v w'
/-- a string of bytes -/
def bs (l : List UInt8) : ByteArray := ⟨l.toArray⟩
/-- a call of a function that the model itself carries out -/
def xt (P : Program) (f : Nat) (args : List Value) (ks : List Kd) (w : World) (K : TK ks → World → Prop) : Prop :=
  ∃ t w', (callFunc f args.toArray).run P w = .ok (.value (ret1 (encK ks t))) w' ∧ K t w'
/-- ways that meet again -/
def jn (ks : List Kd) (w : World) (rest : TK ks → World → Prop) (body : (TK ks → World → Prop) → World → Prop) : Prop :=
  ∀ J : TK ks → World → Prop, (∀ t w', rest t w' → J t w') → body J w
/-- a loop -/
def lp (ks : List Kd) (w : World) (t : TK ks) (body : TK ks → (TK ks → World → Prop) → World → Prop) : Prop :=
  ∃ (I : TK ks → World → Prop) (μ : TK ks → World → Nat), I t w ∧ ∀ t w, I t w → body t (fun t' w' => I t' w' ∧ μ t' w' < μ t w) w
def enterable (P : Program) (f : Nat) : Bool :=
  match P.funcs[f]? with
  | some fn => fn.body.isSome && !(fn.name == "runtime.NumGoroutine")
  | none => false

/-! ### frames -/
abbrev Fr := List (Nat × Value)
/-- nothing is known of it -/
def unk : Value := .tuple #[.tuple #[]]
def frGet : Fr → Nat → Value
  | [], _ => unk
  | x :: r, t => match Nat.beq x.1 t with | true => x.2 | false => frGet r t
def knGet : List (Nat × Bool) → Nat → Option Bool
  | [], _ => none
  | x :: r, t => match Nat.beq x.1 t with | true => some x.2 | false => knGet r t
def knDel : List (Nat × Bool) → Nat → List (Nat × Bool)
  | [], _ => []
  | x :: r, t => match Nat.beq x.1 t with | true => knDel r t | false => x :: knDel r t
structure St where
  fr : Fr
  kn : List (Nat × Bool)
abbrev KT := St → World → Prop
def isU : Value → Bool
  | .tuple vs => match vs.toList with | [.tuple _] => true | _ => false
  | _ => false
def St.set (st : St) (d : Nat) (v : Value) : St := ⟨(d, v) :: st.fr, knDel st.kn d⟩
def St.put (st : St) : Option Nat → Value → St
  | none, _ => st
  | some d, v => st.set d v
def St.know (st : St) (d : Nat) (b : Bool) : St := ⟨(d, .bool b) :: st.fr, (d, b) :: st.kn⟩
def knO (kn : List (Nat × Bool)) : Operand → Option Bool
  | .tmp t => knGet kn t
  | .const (.bool b) => some b
  | _ => none
def evD (fr : Fr) : Operand → Value
  | .tmp t => frGet fr t
  | .const v => v
  | .global g => .pointer (some ⟨g, 0, none⟩)
  | .func f => .func (.func f) #[] #[]
def defO (fr : Fr) : Operand → Bool
  | .tmp t => !isU (frGet fr t)
  | _ => true
def allDef (fr : Fr) : List Operand → Bool
  | [] => true
  | x :: r => match defO fr x with | true => allDef fr r | false => false
def memN : List Nat → Nat → Bool
  | [], _ => false
  | x :: r, t => match Nat.beq x t with | true => true | false => memN r t
def alOk : Option (List Nat) → Nat → Bool
  | none, _ => true
  | some l, t => memN l t
def okD (N : Nat) (al : Option (List Nat)) : Option Nat → Bool
  | none => true
  | some d => match Nat.blt d N with | true => alOk al d | false => false
def alSub (al : Option (List Nat)) : List Nat → Bool
  | [] => true
  | x :: r => match alOk al x with | true => alSub al r | false => false

/-! ### operations -/
def pureK (P : Program) : Sem Next → Option Next
  | .pure a => some a
  | .program k => pureK P (k P)
  | .mark _ k => pureK P k
  | _ => none
def semK (P : Program) : Sem Next → (Next → World → Prop) → World → Prop
  | .pure a, K, w => K a w
  | .program k, K, w => semK P (k P) K w
  | .mark _ k, K, w => semK P k K w
  | .new (.cells c t fz) k, K, w => match fz.1, fz.2 with
    | 0, 0 => al w t c.toList fun nb w' => semK P (k nb) K w'
    | _, _ => False
  | .store _ a v k, K, w => match a.spot, v.oneCell' with
    | none, true => st1 w a.block a.off v fun w' => semK P k K w'
    | _, _ => False
  | _, _, _ => False
inductive Cl where | pu | ld | ef
def isConstO : Operand → Bool
  | .const _ => true
  | _ => false
def clOf (P : Program) : Op → Cl
  | .load .. => .ld
  | .store .. | .alloc .. | .box .. | .buildSlice .. | .mapUpdate .. | .insert .. | .lookup .. | .makeMap .. | .makeSlice .. | .range .. | .next .. | .entry .. | .mapEntry .. | .entryStore .. | .typeAssert .. => .ef
  | .call { callee := .builtin b, .. } => match b with | .append | .copy | .clear | .delete => .ef | _ => .pu
  | .call _ => .ef
  | .convert s d _ => match P.underlying s, P.underlying d with
    | some .string, some (.slice _) => .ef
    | some (.slice _), some (.slice _) => .ef
    | some (.slice _), some .string => .ld
    | _, _ => .pu
  | .binOp op t x y _ => match op with
    | .eql | .neq => match P.underlying t with
      | some (.pointer _) => match isConstO x || isConstO y with | true => .pu | false => .ld
      | _ => .pu
    | _ => .pu
  | _ => .pu
def nextV (K : Value → Prop) : Option Next → Prop
  | some (.value v) => K v
  | _ => False
/-- an optional bound -/
def bnd (ρ : Operand → Value) (d : Int) : Option Operand → Option Int
  | none => some d
  | some x => match ρ x with | .int _ n => some n | _ => none
def gen (P : Program) (o : Oper) (ρ : Operand → Value) (K : Value → Prop) : Prop := nextV K (pureK P (execOp ρ o))
/-- a comparison with nil -/
def nilCmp : Option TypeDesc → Value → Value → Bool → Bool → Option Bool
  | some (.pointer _), .pointer p, .pointer none, false, true => some p.isNone
  | some (.pointer _), .pointer none, .pointer p, true, false => some p.isNone
  | some (.slice _), .slice a _ _, .slice none _ _, false, true => some a.isNone
  | some (.slice _), .slice none _ _, .slice a _ _, true, false => some a.isNone
  | some (.map _ _), .map a, .map none, false, true => some a.isNone
  | some (.map _ _), .map none, .map a, true, false => some a.isNone
  | _, _, _, _, _ => none
/-- structs of two whole numbers, compared -/
def fld2 (P : Program) (f : Field) : Bool := f.name != "_" && (match P.underlying f.type with | some (.int _) => true | _ => false)
def agg2 (P : Program) (t : TypeId) (x y : Value) : Option Bool :=
  match P.underlying t, x, y with
  | some (.struct fs), .agg xs, .agg ys =>
    match fs.toList, xs.toList, ys.toList with
    | [f, g], [.int j a, .int j' a'], [.int k b, .int k' b'] =>
      match ikEq j k && ikEq j' k' && Nat.beq f.offset 0 && Nat.beq g.offset 1 && fld2 P f && fld2 P g && !P.stoodInHeld t && !P.eqGuardType P.depth t with
      | true => some (a == b && a' == b')
      | false => none
    | _, _, _ => none
  | _, _, _ => none
/-- operations that touch no memory -/
def opP (P : Program) (o : Oper) (ρ : Operand → Value) (K : Value → Prop) : Prop :=
  match o.op with
  | .nilCheck x => match ρ x with
    | .pointer p => nn p fun b i => K (.pointer (some ⟨b, i, none⟩))
    | _ => gen P o ρ K
  | .indexAddr t x i => match ρ x, ρ i, P.underlying t with
    | .slice a n c, .int _ j, some (.slice e) => match P.info? e with
      | some r => ix ⟨a, n, c⟩ j r.size fun b i => K (.pointer (some ⟨b, i, none⟩))
      | none => False
    | .pointer (some ⟨b, q, none⟩), .int _ j, some (.array n e) => match P.info? e with
      | some r => ixA b q n j r.size fun b i => K (.pointer (some ⟨b, i, none⟩))
      | none => False
    | _, _, _ => False
  | .slice t x lo hi mx => match ρ x, P.underlying t with
    | .slice a n c, some (.slice e) => match P.info? e, bnd ρ 0 lo, bnd ρ n hi, bnd ρ c mx, hi.isSome || mx.isNone with
      | some r, some l, some h, some m, true => sb ⟨a, n, c⟩ l h m r.size fun s => K (vS s)
      | _, _, _, _, _ => False
    | _, _ => False
  | .binOp op t x y _ => match op with
    | .quo => match isConstO y with
      | true => gen P o ρ K
      | false => match ρ x, ρ y with
        | .int k a, .int k' b => match ikEq k k' with
          | true => ob (b ≠ 0) (K (.int k (k.wrap (a.tdiv b))))
          | false => False
        | _, _ => False
    | .rem => match isConstO y with
      | true => gen P o ρ K
      | false => match ρ x, ρ y with
        | .int k a, .int k' b => match ikEq k k' with
          | true => ob (b ≠ 0) (K (.int k (a.tmod b)))
          | false => False
        | _, _ => False
    | .shl => match isConstO y with
      | true => gen P o ρ K
      | false => match ρ x, ρ y with
        | .int k a, .int _ b => ob (0 ≤ b) (K (.int k (k.wrap (a * 2 ^ (min b.toNat k.bits)))))
        | _, _ => False
    | .shr => match isConstO y with
      | true => gen P o ρ K
      | false => match ρ x, ρ y with
        | .int k a, .int _ b => ob (0 ≤ b) (K (.int k (a.fdiv (2 ^ (min b.toNat k.bits)))))
        | _, _ => False
    | .eql => match nilCmp (P.underlying t) (ρ x) (ρ y) (isConstO x) (isConstO y) with
      | some c => K (.bool c)
      | none => match agg2 P t (ρ x) (ρ y) with
        | some c => K (.bool c)
        | none => gen P o ρ K
    | .neq => match nilCmp (P.underlying t) (ρ x) (ρ y) (isConstO x) (isConstO y) with
      | some c => K (.bool (!c))
      | none => match agg2 P t (ρ x) (ρ y) with
        | some c => K (.bool (!c))
        | none => gen P o ρ K
    | _ => gen P o ρ K
  | _ => gen P o ρ K
/-- loads: what was read, and that it is there -/
def okLd (P : Program) (t : TypeId) (k : Kd) : Bool :=
  match P.underlying t, P.info? t, k with
  | some (.struct _), some i, .a ks => Nat.beq ks.length i.size
  | some (.array _ _), some i, .a ks => Nat.beq ks.length i.size
  | some (.struct _), _, .l _ => false
  | some (.array _ _), _, .l _ => false
  | some _, some _, .l _ => true
  | _, _, _ => false
def opL (P : Program) (t : TypeId) (b o : Nat) (w : World) (K : Value → Prop) : Prop :=
  match okLd P t (kdT P t) with
  | false => False
  | true => match kdT P t with
    | .l k => ldK w b o k fun x => K (k.enc x)
    | .a ks => ldL w b o ks 0 fun vs => K (.agg vs.toArray)
def cellsAt (w : World) (b o : Nat) : List Value → Nat → Prop
  | [], _ => True
  | [v], i => w.cell? ⟨b, offA o i, none⟩ = some v
  | v :: r, i => w.cell? ⟨b, offA o i, none⟩ = some v ∧ cellsAt w b o r (i + 1)
/-- operations that act -/
def opE (P : Program) (o : Oper) (ρ : Operand → Value) (K : Value → World → Prop) (w : World) : Prop :=
  match o.op with
  | .call { callee := .value f, args, .. } => match ρ f with
    | .func (.func g) pre post =>
      match isConstO f || (match f with | .func _ => true | _ => false) with
      | true => match enterable P g with
        | true => cl P g (pre.toList ++ (args.toList.map ρ ++ post.toList)) (kindsT P o.type) w fun t w' => K (ret1 (encK _ t)) w'
        | false => match P.funcs[g]? with
          | some fn => match fn.body with
            | none => xt P g (pre.toList ++ (args.toList.map ρ ++ post.toList)) (kindsT P o.type) w fun t w' => K (ret1 (encK _ t)) w'
            | some _ => False
          | none => False
      | false => ob (enterable P g = true) (cl P g (pre.toList ++ (args.toList.map ρ ++ post.toList)) (kindsT P o.type) w fun t w' => K (ret1 (encK _ t)) w')
    | _ => False
  | .call { callee := .builtin b, args, argTypes } => match b with
    | .append => ef P (Builtin.append_ argTypes o.type (args.map ρ)) (kindsT P o.type) w fun t w' => K (ret1 (encK _ t)) w'
    | .copy => ef P (Builtin.copy_ argTypes o.type (args.map ρ)) [.l (.i .i64)] w fun t w' => K (ret1 (encK _ t)) w'
    | .clear => ef P (Builtin.clear_ argTypes o.type (args.map ρ)) [] w fun t w' => K (ret1 (encK _ t)) w'
    | .delete => ef P (Builtin.delete_ argTypes o.type (args.map ρ)) [] w fun t w' => K (ret1 (encK _ t)) w'
    | _ => False
  | .lookup t m k ok => ef P (Instr.lookup t (ρ m) (ρ k) ok) (kindsT P o.type) w fun t w' => K (ret1 (encK _ t)) w'
  | .mapUpdate t m k x => efU P (Instr.mapUpdate t (ρ m) (ρ k) (ρ x)) w fun w' => K undef w'
  | .typeAssert x t u ok => ef P (Instr.typeAssert (ρ x) t u ok) (kindsT P o.type) w fun t w' => K (ret1 (encK _ t)) w'
  | .makeMap t r => ef P (Instr.makeMap t (r.map ρ)) (kindsT P o.type) w fun t w' => K (ret1 (encK _ t)) w'
  | .makeSlice t l c => ef P (Instr.makeSlice t (ρ l) (ρ c)) (kindsT P o.type) w fun t w' => K (ret1 (encK _ t)) w'
  | .convert s d x => ef P (convert s d (ρ x)) (kindsT P o.type) w fun t w' => K (ret1 (encK _ t)) w'
  | .mapEntry t m k => ef P (Instr.mapEntry t (ρ m) (ρ k)) (kindsT P o.type) w fun t w' => K (ret1 (encK _ t)) w'
  | .entryStore t m s x => efU P (Instr.entryStore t (ρ m) (ρ s) (ρ x)) w fun w' => K undef w'
  | .range t x => rn P t (ρ x) w fun r w' => K (.pointer (some ⟨r, 0, none⟩)) w'
  | .next it false => nx P o.type (ρ it) w (fun w' => K (.tuple #[.bool false]) w') fun k v w' => K (.tuple #[.bool true, .int .i64 k, vS v]) w'
  | .entry it => ef P (Instr.entry (ρ it)) [.l (.i .i64), .l .s] w fun t w' => K (ret1 (encK _ t)) w'
  | .store .. | .alloc .. | .box .. | .buildSlice .. => semK P (execOp ρ o) (fun n w' => match n with | .value v => K v w' | .skip => K undef w' | _ => False) w
  | _ => False
/-- one operation -/
def opV (P : Program) (o : Oper) (ρ : Operand → Value) (K : Value → World → Prop) (w : World) : Prop :=
  match clOf P o.op with
  | .pu => opP P o ρ fun v => K v w
  | .ld => match o.op with
    | .load t a => match ρ a with
      | .pointer (some ⟨b, i, none⟩) => opL P t b i w fun v => K v w
      | _ => False
    | .convert s d x => tx P s d (ρ x) w fun g => K (.string g) w
    | .binOp .eql t x y _ => match ρ x, ρ y with
      | .pointer p, .pointer q => pq P t p q w fun c => K (.bool c) w
      | _, _ => False
    | .binOp .neq t x y _ => match ρ x, ρ y with
      | .pointer p, .pointer q => pq P t p q w fun c => K (.bool (!c)) w
      | _, _ => False
    | _ => False
  | .ef => opE P o ρ K w
/-- a slot takes over another one, and whether that is known -/
def St.over (st : St) (d : Option Nat) (x : Operand) : St :=
  match d, knO st.kn x with
  | some d, some b => ⟨(d, evD st.fr x) :: st.fr, (d, b) :: knDel st.kn d⟩
  | some d, none => st.set d (evD st.fr x)
  | none, _ => st
def overC (st : St) (d : Option Nat) (x : Operand) (K : KT) (w : World) : Prop :=
  match defO st.fr x with
  | true => K (st.over d x) w
  | false => False
/-- one operation in a frame -/
def opC (P : Program) (N : Nat) (al : Option (List Nat)) (o : Oper) (st : St) (K : KT) (w : World) : Prop :=
  match okD N al o.dst with
  | false => False
  | true => match o.op with
    | .move x => overC st o.dst x K w
    | .assign x => overC st o.dst x K w
    | .pick (.tmp s) x y =>
      match knGet st.kn s with
      | some true => overC st o.dst x K w
      | some false => overC st o.dst y K w
      | none => match frGet st.fr s with
        | .bool b => cs b (overC (st.know s true) o.dst x K w) (overC (st.know s false) o.dst y K w)
        | _ => False
    | .select .. => False
    | op => match allDef st.fr op.operands.toList with
      | true => opV P o (evD st.fr) (fun v w' => K (st.put o.dst v) w') w
      | false => False
/-- is it carried out? -/
def grd (N : Nat) (al : Option (List Nat)) (ops : Array Oper) (o : Oper) (st : St) (run skip : St → Prop) : Prop :=
  match o.guard with
  | none => run st
  | some (j, want) => match okD N al o.dst with
    | false => False
    | true => match (ops[j]?).bind (·.dst) with
      | none => False
      | some s => match knGet st.kn s, want with
        | some true, true | some false, false => run st
        | some true, false | some false, true => skip (st.put o.dst undef)
        | none, want => match frGet st.fr s, want with
          | .bool b, true => cs b (run (st.know s true)) (skip ((st.know s false).put o.dst undef))
          | .bool b, false => cs b (skip ((st.know s true).put o.dst undef)) (run (st.know s false))
          | .tuple vs, _ => match isU (.tuple vs) with | true => False | false => skip (st.put o.dst undef)
          | _, _ => False
/-! ### regions that draw their order -/
abbrev Pend := List (Nat × (World → Prop))
def pendC : Pend → List Nat → World → Prop → Prop
  | [], _, _, x => x
  | p :: r, anc, w, x => match memN anc p.1 with | true => pendC r anc w x | false => p.2 w ∧ pendC r anc w x
def opLd (P : Program) (t : TypeId) (b o : Nat) (w : World) (K : Value → (World → Prop) → Prop) : Prop :=
  match okLd P t (kdT P t) with
  | false => False
  | true => match kdT P t with
    | .l k => ldK w b o k fun x => K (k.enc x) fun w' => w'.cell? ⟨b, o, none⟩ = some (k.enc x)
    | .a ks => ldL w b o ks 0 fun vs => K (.agg vs.toArray) fun w' => cellsAt w' b o vs 0
def okAnc (ops : Array Oper) (i : Nat) : List Nat → List Nat → Bool
  | _, [] => true
  | seen, c :: r => match (i :: seen).any (fun k => match ops[k]? with | some o => o.after.any fun e => Region.binds .any e && Nat.beq e.on c | none => false) with
    | true => okAnc ops i (c :: seen) r
    | false => false
def okStab (ops : Array Oper) (listed : Array Bool) (i : Nat) : Bool := (Region.ready .any ops listed).contains i && Region.free .any ops listed i
def okEff (ops : Array Oper) (listed : Array Bool) (i : Nat) : Bool := match Region.ready .any ops listed with | [j] => Nat.beq j i | _ => false
/-- a plan for a region that draws: the operations in an order that serves all; two effects that may come in either order -/
inductive DP where
  | l (xs : List (Nat × List Nat))
  | t (xs : List (Nat × List Nat)) (i : Nat) (ai : List Nat) (p : DP) (j : Nat) (aj : List Nat) (q : DP)
def DP.len : DP → Nat
  | .l xs => xs.length
  | .t xs _ _ p _ _ q => xs.length + 1 + max p.len q.len
def okTwo (ops : Array Oper) (listed : Array Bool) (i j : Nat) : Bool :=
  match Region.ready .any ops listed with
  | [a, b] => (Nat.beq a i && Nat.beq b j) || (Nat.beq a j && Nat.beq b i)
  | _ => false
def noGrd (ops : Array Oper) (i : Nat) : Bool := match ops[i]? with | some o => o.guard.isNone | none => false
def drawL (P : Program) (N : Nat) (al : Option (List Nat)) (ops : Array Oper) (KK : Array Bool → Pend → KT) : List (Nat × List Nat) → Array Bool → Pend → KT
  | [], listed, pend, st, w => KK listed pend st w
  | x :: r, listed, pend, st, w => match ops[x.1]? with
    | none => False
    | some o => grd N al ops o st
      (fun st => match clOf P o.op with
        | .pu => match okStab ops listed x.1 with
          | true => opC P N al o st (fun st' w' => drawL P N al ops KK r (listed.setIfInBounds x.1 true) pend st' w') w
          | false => False
        | .ld => match okStab ops listed x.1 && okD N al o.dst && allDef st.fr o.op.operands.toList with
          | true => match o.op with
            | .load t a => match evD st.fr a with
              | .pointer (some ⟨b, i, none⟩) => opLd P t b i w fun v ag => drawL P N al ops KK r (listed.setIfInBounds x.1 true) ((x.1, ag) :: pend) (st.put o.dst v) w
              | _ => False
            | .convert s d y => tx P s d (evD st.fr y) w fun g => drawL P N al ops KK r (listed.setIfInBounds x.1 true) ((x.1, fun w' => (convert s d (evD st.fr y)).run P w' = .ok (.string g) w') :: pend) (st.put o.dst (.string g)) w
            | _ => False
          | false => False
        | .ef => match okEff ops listed x.1 && okAnc ops x.1 [] x.2 with
          | true => opC P N al o st (fun st' w' => pendC pend x.2 w' (drawL P N al ops KK r (listed.setIfInBounds x.1 true) pend st' w')) w
          | false => False)
      (fun st => match okStab ops listed x.1 with
        | true => drawL P N al ops KK r (listed.setIfInBounds x.1 true) pend st w
        | false => False)
def effC (P : Program) (N : Nat) (al : Option (List Nat)) (ops : Array Oper) (i : Nat) (anc : List Nat) (pend : Pend) (K : KT) (st : St) (w : World) : Prop :=
  match ops[i]? with
  | none => False
  | some o => match clOf P o.op with
    | .ef => opC P N al o st (fun st' w' => pendC pend anc w' (K st' w')) w
    | _ => False
def drawC (P : Program) (N : Nat) (al : Option (List Nat)) (ops : Array Oper) (K : KT) : DP → Array Bool → Pend → KT
  | .l xs, listed, pend, st, w => drawL P N al ops (fun listed _ st w => match (Region.ready .any ops listed).isEmpty with | true => K st w | false => False) xs listed pend st w
  | .t xs i ai p j aj q, listed, pend, st, w => drawL P N al ops (fun listed pend st w => match okTwo ops listed i j && okAnc ops i [] ai && okAnc ops j [] aj && noGrd ops i && noGrd ops j with
      | true => effC P N al ops i ai pend (fun st w => drawC P N al ops K p (listed.setIfInBounds i true) pend st w) st w ∧
          effC P N al ops j aj pend (fun st w => drawC P N al ops K q (listed.setIfInBounds j true) pend st w) st w
      | false => False) xs listed pend st w

/-! ### code -/
structure Jp where
  slots : List (Nat × Kd)
  junk : List Nat
structure Plan where
  ctl : List (Nat × Jp)
  reg : List (Nat × Jp)
  drw : List (Nat × DP)
  seg : List (Nat × List (Nat × Nat × Jp))
def plGet {α : Type} : List (Nat × α) → Nat → Option α
  | [], _ => none
  | x :: r, t => match Nat.beq x.1 t with | true => some x.2 | false => plGet r t
def ctlN : Code → Nat
  | .seq a b => ctlN a + ctlN b
  | .cond _ a b => ctlN a + ctlN b + 1
  | .block _ a => ctlN a + 1
  | .loop a => ctlN a + 1
  | _ => 0
def Jp.ks (j : Jp) : List Kd := j.slots.map (·.2)
def Jp.al (j : Jp) : List Nat := j.slots.map (·.1) ++ j.junk
def setAll : List Nat → List Value → Fr → Fr
  | s :: r, v :: vs, fr => (s, v) :: setAll r vs fr
  | _, _, fr => fr
def dropAll : List Nat → Fr → Fr
  | s :: r, fr => (s, unk) :: dropAll r fr
  | [], fr => fr
def knDelAll : List Nat → List (Nat × Bool) → List (Nat × Bool)
  | s :: r, kn => knDelAll r (knDel kn s)
  | [], kn => kn
def St.reset (st : St) (j : Jp) (t : TK j.ks) : St := ⟨setAll (j.slots.map (·.1)) (encK j.ks t) (dropAll j.junk st.fr), knDelAll j.al st.kn⟩
def Jp.proj (j : Jp) (J : TK j.ks → World → Prop) : KT := fun st w => match ofK j.ks (j.slots.map fun s => frGet st.fr s.1) with | some t => J t w | none => False
/-- ways that meet again behind a piece of code -/
def jnC (j : Jp) (al : Option (List Nat)) (st : St) (body : Option (List Nat) → KT → World → Prop) (K : KT) (w : World) : Prop :=
  match alSub al j.al with
  | true => jn j.ks w (fun t w' => K (st.reset j t) w') fun J w => body (some j.al) (j.proj J) w
  | false => False
/-- guarded groups of a region: at the p-th operation 'n' of them, behind which the ways meet again -/
abbrev Seg := List (Nat × Nat × Jp)
def segDel : Seg → Nat → Seg
  | [], _ => []
  | x :: r, t => match Nat.beq x.1 t with | true => segDel r t | false => x :: segDel r t
/-- is a group's guard open here? -/
def segOpen (ops : Array Oper) (o : Oper) (st : St) : Bool :=
  match o.guard with
  | none => false
  | some (j, _) => match (ops[j]?).bind (·.dst) with
    | none => false
    | some s => match knGet st.kn s with
      | some _ => false
      | none => match frGet st.fr s with | .bool _ => true | _ => false
def opsC (P : Program) (N : Nat) (ops : Array Oper) : Nat → Seg → Nat → List Oper → Option (List Nat) → St → KT → World → Prop
  | _, _, _, [], _, st, K, w => K st w
  | 0, _, _, _, _, _, _, _ => False
  | fuel + 1, sg, p, o :: r, al, st, K, w =>
    match plGet sg p, segOpen ops o st with
    | some (n, j), true => jnC j al st (fun al K w => opsC P N ops fuel (segDel sg p) p (List.take n (o :: r)) al st K w) (fun st w => opsC P N ops fuel sg (p + n) (List.drop n (o :: r)) al st K w) w
    | _, _ => grd N al ops o st (fun st => opC P N al o st (fun st' w' => opsC P N ops fuel sg (p + 1) r al st' K w') w) (fun st => opsC P N ops fuel sg (p + 1) r al st K w)
abbrev Ex := List (Nat × KT)
def comp (P : Program) (N : Nat) (pl : Plan) (ret : KT) : Code → Nat → Option (List Nat) → Ex → St → KT → World → Prop
  | .skip, _, _, _, st, K, w => K st w
  | .region id ops false, _, al, _, st, K, w => opsC P N ops (2 * ops.size) (match plGet pl.seg id with | some sg => sg | none => []) 0 ops.toList al st K w
  | .region id ops true, _, al, _, st, K, w => match plGet pl.drw id with
    | none => False
    | some d => match P.follows .mixedOrders && Region.noSelect ops && Nat.ble d.len ops.size with
      | false => False
      | true => dr w fun w => match plGet pl.reg id with
        | none => drawC P N al ops K d (Array.replicate ops.size false) [] st w
        | some j => jnC j al st (fun al K w => drawC P N al ops K d (Array.replicate ops.size false) [] st w) K w
  | .seq a b, n, al, ex, st, K, w => comp P N pl ret a n al ex st (fun st' w' => comp P N pl ret b (n + ctlN a) al ex st' K w') w
  | .cond (.tmp s) a b, n, al, ex, st, K, w =>
    match knGet st.kn s with
    | some true => comp P N pl ret a (n + 1) al ex st K w
    | some false => comp P N pl ret b (n + 1 + ctlN a) al ex st K w
    | none => match frGet st.fr s with
      | .bool c => match plGet pl.ctl n with
        | none => cs c (comp P N pl ret a (n + 1) al ex (st.know s true) K w) (comp P N pl ret b (n + 1 + ctlN a) al ex (st.know s false) K w)
        | some j => jnC j al st (fun al K w => cs c (comp P N pl ret a (n + 1) al ex (st.know s true) K w) (comp P N pl ret b (n + 1 + ctlN a) al ex (st.know s false) K w)) K w
      | _ => False
  | .block id a, n, al, ex, st, K, w => match plGet pl.ctl n with
    | none => comp P N pl ret a (n + 1) al ((id, K) :: ex) st K w
    | some j => jnC j al st (fun al K w => comp P N pl ret a (n + 1) al ((id, K) :: ex) st K w) K w
  | .loop a, n, al, ex, st, _, w => match plGet pl.ctl n with
    | none => False
    | some j => match alSub al j.al with
      | false => False
      | true => match ofK j.ks (j.slots.map fun s => frGet st.fr s.1) with
        | none => False
        | some t => lp j.ks w t fun t K w => comp P N pl ret a (n + 1) (some j.al) ex (st.reset j t) (j.proj K) w
  | .exit id, _, _, ex, st, _, w => match plGet ex id with | some k => k st w | none => False
  | .ret, _, _, _, st, _, w => ret st w
  | _, _, _, _, _, _, _ => False
/-! ### a whole function -/
def zipA : Nat → List Value → Fr
  | _, [] => []
  | i, v :: r => (i, v) :: zipA (i + 1) r
def resC (P : Program) (st : St) (w : World) : List ResultVar → (List Value → Prop) → Prop
  | [], f => f []
  | .tmp t :: r, f => match isU (frGet st.fr t) with | true => False | false => resC P st w r fun vs => f (frGet st.fr t :: vs)
  | .cell a t :: r, f => match frGet st.fr a with
    | .pointer (some ⟨b, o, none⟩) => opL P t b o w fun v => resC P st w r fun vs => f (v :: vs)
    | _ => False
def retC (P : Program) (fn : Func) (R : List Value → World → Prop) : KT := fun st w => resC P st w fn.results.toList fun vs => R vs w
def compF (P : Program) (fn : Func) (pl : Plan) (args : List Value) (R : List Value → World → Prop) (w : World) : Prop :=
  match fn.body with
  | none => False
  | some c => match Nat.ble args.length fn.ntmps with
    | true => comp P fn.ntmps pl (retC P fn R) c 0 none [] ⟨zipA 0 args, []⟩ (retC P fn R) w
    | false => False
abbrev kI : Kd := .l (.i .i64)
abbrev kB : Kd := .l .b
abbrev kP : Kd := .l .p
abbrev kS : Kd := .l .s
abbrev kM : Kd := .l .m
abbrev kF : Kd := .l .f
abbrev w64 (x : Int) : Int := IntKind.i64.wrap x
def bAnd (k : IntKind) (x y : Int) : Int := k.wrap ((BitVec.ofInt k.bits x &&& BitVec.ofInt k.bits y).toNat : Int)
def bOr (k : IntKind) (x y : Int) : Int := k.wrap ((BitVec.ofInt k.bits x ||| BitVec.ofInt k.bits y).toNat : Int)
def bXor (k : IntKind) (x y : Int) : Int := k.wrap ((BitVec.ofInt k.bits x ^^^ BitVec.ofInt k.bits y).toNat : Int)
def bAndNot (k : IntKind) (x y : Int) : Int := k.wrap ((BitVec.ofInt k.bits x &&& ~~~(BitVec.ofInt k.bits y)).toNat : Int)
end Go.Proofs.Ytjamgdepbjipdaa.B
