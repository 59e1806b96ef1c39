/-
  The engine, part Ea: an interpreter of the loaded code over typed values, and its soundness.
-/
import Derived.Calls
import Derived.Laws.AppendOwn
import Derived.Laws.Entries
import Derived.Laws.Slices
import Derived.Laws.Build
import Derived.Laws.Concat
import Derived.Laws.MakeOwn
import Derived.Laws.Pointers
import Derived.Laws.Rows
import Derived.Lib.LazyBuf
section
/-
  The engine, part A: shapes, typed values, slots, objects, and what an operation does on them. Generic over the program; no proofs about the machine here.
-/
namespace Go.En
open Go

/-! ### names: the recursive structs of the program -/
inductive Ex where
  | mk (op name : ByteArray) (n : Int) (kids : List Ex) (pos : Int)
def NT : Nat → Type
  | 0 => Ex
  | _ => Unit

/-- Errors: nil; a number; a place and an error. -/
inductive Er where
  | nil | no (n : Int) | at (pos : Int) (e : Er)
def Er.isNil : Er → Bool
  | .nil => true
  | _ => false

/-- Shapes of values. -/
inductive Sh where
  | i (k : IntKind) | b | s | e
  | u | p (a c : Sh)      -- a struct: no cell; first part and rest
  | l (a : Sh)            -- a slice
  | v (n : Nat) (a : Sh)  -- an array
  | r (a : Sh)            -- a pointer to what isn't written any more
  | o (a : Sh)            -- such a pointer, or nil
  | n (k : Nat)           -- a named recursive struct

def ikEq : IntKind → IntKind → Bool
  | .i8, .i8 | .i16, .i16 | .i32, .i32 | .i64, .i64 | .u8, .u8 | .u16, .u16 | .u32, .u32 | .u64, .u64 => true
  | _, _ => false
theorem ikEq_eq : ∀ {a c : IntKind}, ikEq a c = true → a = c := by
  intro a c h; cases a <;> cases c <;> first | rfl | cases h
theorem ikEq_refl (k : IntKind) : ikEq k k = true := by cases k <;> rfl

def Sh.eqb : Sh → Sh → Bool
  | .i a, .i c => ikEq a c
  | .b, .b | .s, .s | .e, .e | .u, .u => true
  | .p a a', .p c c' => a.eqb c && a'.eqb c'
  | .l a, .l c | .r a, .r c | .o a, .o c => a.eqb c
  | .v q a, .v m c => q.beq m && a.eqb c
  | .n a, .n c => a.beq c
  | _, _ => false
theorem Sh.eqb_eq : ∀ {a c : Sh}, a.eqb c = true → a = c := by
  intro a
  induction a with
  | i k => intro c h; cases c <;> simp [Sh.eqb] at h; rw [ikEq_eq h]
  | b => intro c h; cases c <;> simp [Sh.eqb] at h; rfl
  | s => intro c h; cases c <;> simp [Sh.eqb] at h; rfl
  | e => intro c h; cases c <;> simp [Sh.eqb] at h; rfl
  | u => intro c h; cases c <;> simp [Sh.eqb] at h; rfl
  | p a a' ih ih' => intro c h; cases c <;> simp [Sh.eqb] at h; rw [ih h.1, ih' h.2]
  | l a ih => intro c h; cases c <;> simp [Sh.eqb] at h; rw [ih h]
  | v n a ih => intro c h; cases c <;> simp [Sh.eqb] at h; rw [h.1, ih h.2]
  | r a ih => intro c h; cases c <;> simp [Sh.eqb] at h; rw [ih h]
  | o a ih => intro c h; cases c <;> simp [Sh.eqb] at h; rw [ih h]
  | n k => intro c h; cases c <;> simp [Sh.eqb] at h; rw [h]

@[reducible] def Val : Sh → Type
  | .i _ => Int
  | .b => Bool
  | .s => ByteArray
  | .e => Er
  | .u => Unit
  | .p a c => Val a × Val c
  | .l a => List (Val a)
  | .v _ a => List (Val a)
  | .r a => Val a
  | .o a => Option (Val a)
  | .n k => NT k

def nbody : Nat → Sh
  | 0 => .p .s (.p .s (.p (.i .i64) (.p (.l (.n 0)) (.p (.i .i64) .u))))
  | _ => .u
def nsz : Nat → Nat
  | 0 => 5
  | _ => 0
def nzero : (k : Nat) → NT k
  | 0 => .mk ByteArray.empty ByteArray.empty 0 [] 0
  | _ + 1 => ()
def nout : (k : Nat) → NT k → Val (nbody k)
  | 0, .mk op name n kids pos => (op, name, n, kids, pos, ())
  | _ + 1, _ => ()
def ninto : (k : Nat) → Val (nbody k) → NT k
  | 0, (op, name, n, kids, pos, _) => .mk op name n kids pos
  | _ + 1, _ => ()
theorem nout_into (k : Nat) (v : Val (nbody k)) : nout k (ninto k v) = v := by
  cases k <;> rfl
/-! ### end of names -/

def Sh.sz : Sh → Nat
  | .u => 0
  | .p a c => a.sz + c.sz
  | .v q a => q * a.sz
  | .n k => nsz k
  | _ => 1

def Sh.zero : (sh : Sh) → Val sh
  | .i _ => (0 : Int)
  | .b => false
  | .s => ByteArray.empty
  | .e => Er.nil
  | .u => ()
  | .p a c => (a.zero, c.zero)
  | .l _ => []
  | .v q a => List.replicate q a.zero
  | .r a => a.zero
  | .o _ => none
  | .n k => nzero k

def castV {a c : Sh} (v : Val a) : Option (Val c) :=
  if h : a.eqb c = true then some (Sh.eqb_eq h ▸ v) else none

/-- which slices within a value are our own -/
inductive Ow where
  | z | l (e : TypeId) (o : Ow) | p (a c : Ow)
def Ow.eqb : Ow → Ow → Bool
  | .z, .z => true
  | .l e o, .l e' o' => e.beq e' && o.eqb o'
  | .p a c, .p a' c' => a.eqb a' && c.eqb c'
  | _, _ => false
theorem Ow.eqb_eq : ∀ {a c : Ow}, a.eqb c = true → a = c := by
  intro a
  induction a with
  | z => intro c h; cases c <;> simp [Ow.eqb] at h; rfl
  | l e o ih => intro c h; cases c <;> simp [Ow.eqb] at h; rw [h.1, ih h.2]
  | p a a' ih ih' => intro c h; cases c <;> simp [Ow.eqb] at h; rw [ih h.1, ih' h.2]
def Ow.fst : Ow → Ow
  | .p a _ => a
  | _ => .z
def Ow.snd : Ow → Ow
  | .p _ c => c
  | _ => .z

/-- names of objects -/
structure Id where
  t : Nat
  j : Nat
def Id.eqb (a b : Id) : Bool := a.t.beq b.t && a.j.beq b.j
theorem Id.eqb_iff {a b : Id} : a.eqb b = true ↔ a = b := by
  obtain ⟨t, j⟩ := a; obtain ⟨t', j'⟩ := b
  simp [Id.eqb]
instance : DecidableEq Id := fun a b => if h : a.eqb b = true then .isTrue (Id.eqb_iff.1 h) else .isFalse (fun e => h (Id.eqb_iff.2 e))

/-- where data lies: nobody writes it any more ('f': nothing in it leads to what we were lent); or it is part of an object of ours, as this was -/
inductive Pv where
  | fz (f : Bool) | bw (o : Id) (ver : Nat)

/-- What a closure captured: a variable of ours; nil; data. -/
inductive Cp where
  | b (o : Id) | np | d (f : Bool) (sh : Sh) (v : Val sh)

/-- A value, or part of one: some cells. -/
inductive L where
  | un (n : Nat)                                -- nothing is known of n cells
  | ud                                          -- an operation that wasn't wanted
  | k (c : Bool)                                -- a truth that is known
  | nl | np | nm                                -- nil: of a slice, of a pointer, of a map
  | d (pv : Pv) (sh : Sh) (v : Val sh)          -- data
  | rw (o : Id)                                 -- a row of our own, all of it
  | sl (o : Id) (off n : Nat)                   -- a part of it
  | pe (o : Id) (i j : Nat)                     -- the address of cell j of element i of a row
  | pv (o : Id) (j : Nat)                       -- the address of cell j of a variable
  | px (o : Id) (j q : Nat) (sh : Sh) (i c : Nat) -- the address of cell c of element i of the array of q elements at cell j of a variable
  | mp (o : Id)                                 -- a map of our own
  | fn (g : FuncId) (cs : List Cp)

inductive Pt where
  | one (l : L) | agg (ls : List L)
inductive D where
  | p (x : Pt) | tup (xs : List Pt)

structure Fc where
  i : Nat
  ls : List L

/-- Objects. -/
inductive Ob where
  | no                                          -- there was none by this name
  | gone                                        -- there is none any more
  | va (ls : List L)                            -- a variable
  | ro (f : Bool) (ver : Nat) (e : TypeId) (sh : Sh) (ow : Ow) (v : List (Val sh)) (fc : Option Fc)  -- a row; 'f': its frozen data leads to nothing that we were lent; 'fc': an element that is laid open
  | fz (f : Bool) (ver : Nat) (sh : Sh) (v : List (Val sh))  -- a row that isn't written any more
  | ma (k a : Sh) (v : List (Val k × Val a))    -- a map

def one (l : L) : D := .p (.one l)
def dead : D := one (.un 1)
def L.wd : L → Nat
  | .un n => n
  | .d _ sh _ => sh.sz
  | _ => 1
def wds : List L → Nat
  | [] => 0
  | l :: ls => l.wd + wds ls

def constL : Value → L
  | .int k n => .d (.fz true) (.i k) n
  | .bool b => .k b
  | .string s => .d (.fz true) .s s
  | .nilIface => .d (.fz true) .e Er.nil
  | .slice none 0 0 => .nl
  | .pointer none => .np
  | .map none => .nm
  | _ => .un 1

/-! ### programs that look at slots and objects -/
inductive Rd (α : Type) where
  | ret (a : α)
  | fail
  | s (t : Nat) (k : D → Rd α)
  | o (x : Id) (k : Ob → Rd α)
  | br (c : Bool) (a b : Rd α)
  | any (k : Bool → Rd α)

def Rd.bind {α β : Type} : Rd α → (α → Rd β) → Rd β
  | .ret a, f => f a
  | .fail, _ => .fail
  | .s t k, f => .s t fun d => (k d).bind f
  | .o x k, f => .o x fun d => (k d).bind f
  | .br c a b, f => .br c (a.bind f) (b.bind f)
  | .any k, f => .any fun c => (k c).bind f
instance : Monad Rd where
  pure := Rd.ret
  bind := Rd.bind
def chk (c : Bool) : Rd Unit := .br c (.ret ()) .fail
def opt {α : Type} : Option α → Rd α
  | some a => .ret a
  | none => .fail
def getO (x : Id) : Rd Ob := .o x .ret
def getS (t : Nat) : Rd D := .s t .ret

abbrev Wo := List (Id × Ob)

/-! ### leaves of typed values, and back -/
def lvsB (pv : Pv) : (sh : Sh) → Val sh → List L
  | .u, _ => []
  | .p a c, v => lvsB pv a v.1 ++ lvsB pv c v.2
  | .i k, v => [.d (.fz true) (.i k) v]
  | .b, v => [.d (.fz true) .b v]
  | .s, v => [.d (.fz true) .s v]
  | sh, v => [.d pv sh v]
/-- leaves of data -/
def lvs (pv : Pv) : (sh : Sh) → Val sh → List L
  | .u, _ => []
  | .p a c, v => lvs pv a v.1 ++ lvs pv c v.2
  | .i k, v => [.d (.fz true) (.i k) v]
  | .b, v => [.d (.fz true) .b v]
  | .s, v => [.d (.fz true) .s v]
  | .n k, v => lvsB pv (nbody k) (nout k v)
  | sh, v => [.d pv sh v]
/-- leaves of an element of a row of ours -/
def lvsO (pz po : Pv) : (sh : Sh) → Ow → Val sh → List L
  | .p a c, .p oa oc, v => lvsO pz po a oa v.1 ++ lvsO pz po c oc v.2
  | .l a, .l _ _, v => [.d po (.l a) v]
  | sh, _, v => lvs pz sh v
/-- an element is laid open: rows in it become objects -/
def lvsF (f : Bool) (t : Nat) : (sh : Sh) → Ow → Val sh → Nat → List L × Wo
  | .p a c, .p oa oc, v, j =>
    let x := lvsF f t a oa v.1 j
    let y := lvsF f t c oc v.2 (j + x.2.length)
    (x.1 ++ y.1, x.2 ++ y.2)
  | .l a, .l e o, v, j => ([.rw ⟨t, j⟩], [(⟨t, j⟩, .ro f 0 e a o v none)])
  | sh, _, v, _ => (lvs (.fz f) sh v, [])

/-- what is written of objects, one behind the other: nobody is taken twice -/
def okW : Wo → Bool
  | [] => true
  | (x, ob) :: ws => ws.all (fun q => !(x.eqb q.1) || (match ob, q.2 with | .fz .., .fz .. => true | _, _ => false)) && okW ws

structure Pk (α : Type) where
  f : Bool
  v : α
  ws : Wo
  ls : List L

/-- Data out of a leaf: a row becomes data for good. -/
def pk1 (sh : Sh) (l : L) : Rd (Pk (Val sh)) :=
  match l with
  | .d (.fz f) _ v => do return ⟨f, ← opt (castV v), [], []⟩
  | .k c => do return ⟨true, ← opt (castV (a := .b) c), [], []⟩
  | .d (.bw o ver) _ v => do
    match ← getO o with
    | .ro f ver' _ sh2 _ v2 none => do chk (ver.beq ver'); return ⟨f, ← opt (castV v), [(o, .fz f ver' sh2 v2)], []⟩
    | .fz f ver' _ _ => do chk (ver.beq ver'); return ⟨f, ← opt (castV v), [], []⟩
    | _ => .fail
  | .nl => match sh with
    | .l _ => return ⟨true, [], [], []⟩
    | _ => .fail
  | .np => match sh with
    | .o _ => return ⟨true, none, [], []⟩
    | _ => .fail
  | .rw o => do
    match ← getO o with
    | .ro f ver _ sh2 _ v2 none => return ⟨f, ← opt (castV (a := .l sh2) v2), [(o, .fz f ver sh2 v2)], []⟩
    | .fz f _ sh2 v2 => return ⟨f, ← opt (castV (a := .l sh2) v2), [], []⟩
    | _ => .fail
  | .sl o off n => do
    match ← getO o with
    | .ro f ver _ sh2 _ v2 none => return ⟨f, ← opt (castV (a := .l sh2) ((v2.drop off).take n)), [(o, .fz f ver sh2 v2)], []⟩
    | .fz f _ sh2 v2 => return ⟨f, ← opt (castV (a := .l sh2) ((v2.drop off).take n)), [], []⟩
    | _ => .fail
  | _ => .fail
/-- Data out of leaves, the rest of the leaves. -/
def pkB : (sh : Sh) → List L → Rd (Pk (Val sh))
  | .u, ls => return ⟨true, (), [], ls⟩
  | .p a c, ls => do
    let x ← pkB a ls
    let y ← pkB c x.ls
    return ⟨x.f && y.f, (x.v, y.v), x.ws ++ y.ws, y.ls⟩
  | sh, l :: ls => do
    let x ← pk1 sh l
    return { x with ls := ls }
  | _, [] => .fail
def pk : (sh : Sh) → List L → Rd (Pk (Val sh))
  | .u, ls => return ⟨true, (), [], ls⟩
  | .p a c, ls => do
    let x ← pk a ls
    let y ← pk c x.ls
    return ⟨x.f && y.f, (x.v, y.v), x.ws ++ y.ws, y.ls⟩
  | .n k, l :: ls => match l with
    | .d _ (.n _) _ => do
      let x ← pk1 (.n k) l
      return { x with ls := ls }
    | _ => do
      let x ← pkB (nbody k) (l :: ls)
      return ⟨x.f, ninto k x.v, x.ws, x.ls⟩
  | sh, l :: ls => do
    let x ← pk1 sh l
    return { x with ls := ls }
  | _, [] => .fail
/-- An element of a row of ours out of leaves. -/
def pkO : (sh : Sh) → Ow → List L → Rd (Pk (Val sh))
  | .p a c, .p oa oc, ls => do
    let x ← pkO a oa ls
    let y ← pkO c oc x.ls
    return ⟨x.f && y.f, (x.v, y.v), x.ws ++ y.ws, y.ls⟩
  | .l _, .l e o, l :: ls => match l with
    | .nl => return ⟨true, [], [], ls⟩
    | .rw k => do
      match ← getO k with
      | .ro f _ e' sh2 ow2 v2 none => do
        chk (e.beq e' && o.eqb ow2)
        return ⟨f, ← opt (castV (a := .l sh2) v2), [(k, .gone)], ls⟩
      | _ => .fail
    | _ => .fail
  | sh, .z, ls => pk sh ls
  | _, _, _ => .fail
/-- which slices of leaves can be our own -/
def owOf : (sh : Sh) → Ow → List L → Rd (Ow × List L)
  | .u, _, ls => return (.z, ls)
  | .p a c, fo, ls => do
    let x ← owOf a fo.fst ls
    let y ← owOf c fo.snd x.2
    return (match x.1, y.1 with | .z, .z => .z | oa, oc => .p oa oc, y.2)
  | .l _, fo, l :: ls => match l with
    | .nl => return (fo, ls)
    | .rw k => do
      match ← getO k with
      | .ro _ _ e _ o _ none => return (.l e o, ls)
      | _ => return (.z, ls)
    | _ => return (.z, ls)
  | .n _, _, l :: ls => match l with
    | .d _ (.n _) _ => return (.z, ls)
    | _ => return (.z, [])
  | _, _, _ :: ls => return (.z, ls)
  | _, _, [] => .fail

/-! ### cells of variables -/
def dropC : List L → Nat → Option (List L)
  | ls, 0 => some ls
  | [], _ + 1 => none
  | l :: ls, j + 1 => bif Nat.ble l.wd (j + 1) && Nat.blt 0 l.wd then dropC ls (j + 1 - l.wd) else none
def takeC : List L → Nat → Option (List L)
  | _, 0 => some []
  | [], _ + 1 => none
  | l :: ls, j + 1 => bif Nat.ble l.wd (j + 1) && Nat.blt 0 l.wd then (match takeC ls (j + 1 - l.wd) with | some r => some (l :: r) | none => none) else none
/-- cells from j on are written -/
def setC (ls : List L) (j : Nat) (new : List L) : Option (List L) :=
  match takeC ls j, dropC ls (j + wds new) with
  | some x, some y => some (x ++ new ++ y)
  | _, _ => none
def lsOf : D → List L
  | .p (.one l) => [l]
  | .p (.agg ls) => ls
  | _ => [.un 1]
/-- a value out of leaves: of one cell (none), of a struct or an array -/
def loadLs (m : Option Nat) (ls : List L) : Rd D :=
  match m with
  | some q => match takeC ls q with
    | some xs => return .p (.agg xs)
    | none => .fail
  | none => match ls with
    | l :: _ => do chk (l.wd.beq 1); return one l
    | [] => .fail

/-! ### the program's types -/
structure Ctx0 where
  P : Program
  noT : TypeId          -- the type of errors' numbers
  atT : TypeId          -- the type of errors at places (a pointer)
  nm : TypeId → Option Nat
  fo : Nat → Bool       -- loads that lay an element open, by the slots that they write
  Own : Nat → Option Ow -- rows that are made, by the slots that they write
  gc : Option Value     -- what the one package-level variable that is read holds (errors.errorType), if any
  gx : List (Nat × List Value) := []  -- what others hold: their blocks and cells

def shOf (C : Ctx0) : Nat → TypeId → Option Sh
  | 0, _ => none
  | n + 1, t =>
    match C.nm t with
    | some k => some (.n k)
    | none =>
      match C.P.underlying t with
      | some (.int k) => some (.i k)
      | some .bool => some .b
      | some .string => some .s
      | some (.slice e) => match shOf C n e with | some a => some (.l a) | none => none
      | some (.array k e) => match shOf C n e with | some a => some (.v k a) | none => none
      | some (.pointer e) => match shOf C n e with | some a => some (.o a) | none => none
      | some (.struct fs) => (fs.toList.map fun f => shOf C n f.type).foldr (fun a r => match a, r with
        | some a, some r => some (.p a r)
        | _, _ => none) (some .u)
      | some (.interface _) => some .e
      | _ => none
def elemOf? (P : Program) (t : TypeId) : Option TypeId :=
  match P.underlying t with
  | some (.slice e) => some e
  | _ => none
/-- all slices within a value are our own -/
def owFull (C : Ctx0) : Nat → TypeId → Ow
  | 0, _ => .z
  | n + 1, t =>
    match C.nm t with
    | some _ => .z
    | none =>
      match C.P.underlying t with
      | some (.slice e) => .l e (owFull C n e)
      | some (.struct fs) => (fs.toList.map fun f => owFull C n f.type).foldr (fun a r => match a, r with
        | .z, .z => .z
        | a, r => .p a r) .z
      | _ => .z
/-- none: no such type; some none: one cell; some (some n): a struct or an array of n cells. -/
def aggSz (P : Program) (t : TypeId) : Option (Option Nat) :=
  match P.underlying t with
  | some (.struct _) | some (.array _ _) => (P.info? t).map fun i => some i.size
  | some _ => some none
  | none => none
def szOf (P : Program) (t : TypeId) : Option Nat := (P.info? t).map (·.size)
def bytesOf? (P : Program) (t : TypeId) : Option Nat := (P.info? t).map (·.bytes)
def fieldOff (P : Program) (t : TypeId) (f : Nat) : Option Nat :=
  match P.underlying t with
  | some (.struct fs) => match fs[f]? with
    | some q => match szOf P q.type with
      | some (_ + 1) => some q.offset
      | _ => none
    | none => none
  | _ => none

/-- is a value the zero value of a shape? what is left of the cells -/
def zeroCs : (sh : Sh) → List Value → Option (List Value)
  | .i k, .int k' n :: cs => if ikEq k k' && n == 0 then some cs else none
  | .b, .bool false :: cs => some cs
  | .s, .string s :: cs => if s.size == 0 then some cs else none
  | .e, .nilIface :: cs => some cs
  | .l _, .slice none 0 0 :: cs => some cs
  | .o _, .pointer none :: cs => some cs
  | .u, cs => some cs
  | .p a c, cs => match zeroCs a cs with
    | some cs => zeroCs c cs
    | none => none
  | .v q a, cs => (List.range q).foldl (fun r _ => match r with | some cs => zeroCs a cs | none => none) (some cs)
  | _, _ => none
def zeroOk (P : Program) (t : TypeId) (sh : Sh) : Bool :=
  match (P.info? t).bind (·.zero) with
  | some z => match zeroCs sh z.cells.toList with
    | some [] => true
    | _ => false
  | none => false
/-- the leaves of a zero value, and the cells that they stand for -/
def zeroLs (C : Ctx0) : Nat → TypeId → Option (List L)
  | 0, _ => none
  | n + 1, t =>
    match C.P.underlying t with
    | some (.int k) => some [.d (.fz true) (.i k) (0 : Int)]
    | some .bool => some [.k false]
    | some .string => some [.d (.fz true) .s ByteArray.empty]
    | some (.slice _) => some [.nl]
    | some (.pointer _) => some [.np]
    | some (.map _ _) => some [.nm]
    | some (.array k e) => match shOf C n e with | some a => some [.d (.fz true) (.v k a) (Sh.zero (.v k a))] | none => none
    | some (.struct fs) => (fs.toList.map fun f => zeroLs C n f.type).foldr (fun a r => match a, r with
        | some a, some r => some (a ++ r)
        | _, _ => none) (some [])
    | some (.interface _) => some [.d (.fz true) .e Er.nil]
    | _ => none
/-- do cells hold what leaves say? (leaves of a zero value alone) -/
def isZero : List L → List Value → Bool
  | [], [] => true
  | .d (.fz true) (.i k) n :: ls, .int k' m :: cs => ikEq k k' && (n == (0 : Int) && m == 0) && isZero ls cs
  | .k v :: ls, .bool c :: cs => !v && !c && isZero ls cs
  | .d (.fz true) .s v :: ls, .string c :: cs => v.size == 0 && c.size == 0 && isZero ls cs
  | .d (.fz true) .e .nil :: ls, .nilIface :: cs => isZero ls cs
  | .nl :: ls, .slice none 0 0 :: cs => isZero ls cs
  | .np :: ls, .pointer none :: cs => isZero ls cs
  | .nm :: ls, .map none :: cs => isZero ls cs
  | .d (.fz true) (.v k a) _ :: ls, cs => match zeroCs (.v k a) (cs.take (Sh.sz (.v k a))) with
    | some [] => isZero ls (cs.drop (Sh.sz (.v k a)))
    | _ => false
  | _, _ => false
def zfix : L → L
  | .d (.fz true) (.v k a) _ => .d (.fz true) (.v k a) (Sh.zero (.v k a))
  | l => l
def zeroOf (C : Ctx0) (t : TypeId) : Option (List L) :=
  match zeroLs C 20 t, (C.P.info? t).bind (·.zero) with
  | some ls, some z => if isZero ls z.cells.toList then some (ls.map zfix) else none
  | _, _ => none

/-! ### values of operands -/
def opD (x : Operand) : Rd D :=
  match x with
  | .tmp t => getS t
  | .const v => .ret (one (constL v))
  | .func f => .ret (one (.fn f []))
  | .global _ => .ret dead
def lf : D → Rd L
  | .p (.one l) => .ret l
  | _ => .fail
def opL (x : Operand) : Rd L := do lf (← opD x)
def intL : L → Rd (IntKind × Int)
  | .d (.fz _) (.i k) n => .ret (k, n)
  | _ => .fail
def opI (x : Operand) : Rd Int := do return (← intL (← opL x)).2

/-- is what a leaf borrowed still there? -/
def there (pv : Pv) : Rd Unit :=
  match pv with
  | .fz _ => .ret ()
  | .bw o ver => do
    match ← getO o with
    | .ro _ ver' _ _ _ _ _ => chk (ver.beq ver')
    | .fz _ ver' _ _ => chk (ver.beq ver')
    | _ => .fail

/-- What a slice holds. -/
structure Sl where
  pv : Pv
  sh : Sh
  v : List (Val sh)
def slV (l : L) : Rd Sl :=
  match l with
  | .d pv (.l sh) v => do there pv; return ⟨pv, sh, v⟩
  | .rw o => do
    match ← getO o with
    | .ro _ ver _ sh _ v none => return ⟨.bw o ver, sh, v⟩
    | .fz f _ sh v => return ⟨.fz f, sh, v⟩
    | _ => .fail
  | .sl o off n => do
    match ← getO o with
    | .ro _ ver _ sh _ v none => return ⟨.bw o ver, sh, (v.drop off).take n⟩
    | .fz f _ sh v => return ⟨.fz f, sh, (v.drop off).take n⟩
    | _ => .fail
  | _ => .fail
/-- how many: of a slice; of a map -/
def lenL (l : L) : Rd Int :=
  match l with
  | .nl => return 0
  | .d pv (.l _) v => do there pv; return v.length
  | .rw o => do
    match ← getO o with
    | .ro _ _ _ _ _ v _ => return v.length
    | .fz _ _ _ v => return v.length
    | _ => .fail
  | .sl o _ n => do
    match ← getO o with
    | .ro .. => return n
    | .fz .. => return n
    | _ => .fail
  | _ => .fail
def lenM (l : L) : Rd Int :=
  match l with
  | .nm => return 0
  | .mp o => do
    match ← getO o with
    | .ma _ _ v => return v.length
    | _ => .fail
  | _ => .fail

def inb (i : Int) (n : Nat) : Bool := decide (0 ≤ i) && decide (i < (n : Int))
def inb2 (lo hi : Int) (n : Nat) : Bool := decide (0 ≤ lo) && (decide (lo ≤ hi) && decide (hi ≤ (n : Int)))
def byteAt (s : ByteArray) (i : Int) : Int := if h : i.toNat < s.size then ((s[i.toNat]'h).toNat : Int) else 0

/-- a new object's name -/
def fresh (dst : Option Tmp) (j : Nat) : Rd Id :=
  match dst with
  | some t => do
    match ← getO ⟨t + 2, j⟩ with
    | .no => return ⟨t + 2, j⟩
    | _ => .fail
  | none => .fail

abbrev Re := D × Wo
def re (l : L) : Rd Re := .ret (one l, [])
def reI (k : IntKind) (n : Int) : Rd Re := re (.d (.fz true) (.i k) n)
def reB (c : Bool) : Rd Re := re (.d (.fz true) .b c)

/-! ### numbers and texts -/
def shlF (k : IntKind) (a c : Int) : Int := k.wrap (a * 2 ^ (min c.toNat k.bits))
def shrF (k : IntKind) (a c : Int) : Int := a.fdiv (2 ^ (min c.toNat k.bits))
def bitsF (op : BinOp) (k : IntKind) (x y : Int) : Int :=
  let a := BitVec.ofInt k.bits x
  let c := BitVec.ofInt k.bits y
  match op with
  | .and => k.wrap (a &&& c).toNat
  | .or => k.wrap (a ||| c).toNat
  | .xor => k.wrap (a ^^^ c).toNat
  | _ => k.wrap (a &&& ~~~c).toNat
def intOp (op : BinOp) (k : IntKind) (a : Int) (k2 : IntKind) (c : Int) : Rd Re :=
  match op with
  | .shl => .br (decide (0 ≤ c)) (reI k (shlF k a c)) .fail
  | .shr => .br (decide (0 ≤ c)) (reI k (shrF k a c)) .fail
  | _ => if ikEq k k2 then
    match op with
    | .add => reI k (k.wrap (a + c))
    | .sub => reI k (k.wrap (a - c))
    | .mul => reI k (k.wrap (a * c))
    | .quo => .br (decide (c ≠ 0)) (reI k (k.wrap (a.tdiv c))) .fail
    | .rem => .br (decide (c ≠ 0)) (reI k (a.tmod c)) .fail
    | .and | .or | .xor | .andNot => reI k (bitsF op k a c)
    | .eql => reB (a == c)
    | .neq => reB (a != c)
    | .lss => reB (decide (a < c))
    | .leq => reB (decide (a ≤ c))
    | .gtr => reB (decide (a > c))
    | .geq => reB (decide (a ≥ c))
    | _ => .fail
    else .fail
def strMax : Nat := 9223372036854775807
def strOp (op : BinOp) (a c : ByteArray) : Rd Re :=
  match op with
  | .add => .br (decide (a.size + c.size ≤ strMax)) (re (.d (.fz true) .s (a ++ c))) .fail
  | .eql => reB (a.toList == c.toList)
  | .neq => reB (!(a.toList == c.toList))
  | .lss => reB (Op.bytesLess a.toList c.toList)
  | .leq => reB (Op.bytesLess a.toList c.toList || a.toList == c.toList)
  | .gtr => reB (!(Op.bytesLess a.toList c.toList || a.toList == c.toList))
  | .geq => reB (!Op.bytesLess a.toList c.toList)
  | _ => .fail
def eqOp (op : BinOp) (c : Bool) : Rd Re :=
  match op with
  | .eql => reB c
  | .neq => reB (!c)
  | _ => .fail
def boolT (P : Program) (t : TypeId) : Bool :=
  match P.underlying t with
  | some .bool => true
  | _ => false
def isNilC : Operand → Bool
  | .const .nilIface => true
  | _ => false
def isNilP : Operand → Bool
  | .const (.pointer none) => true
  | _ => false
def isNilS : Operand → Bool
  | .const (.slice none 0 0) => true
  | _ => false
def eqK (op : BinOp) (c : Bool) : Rd Re :=
  match op with
  | .eql => re (.k c)
  | .neq => re (.k (!c))
  | _ => .fail
/-- an error against nil -/
def errF (op : BinOp) (x : L) : Rd Re :=
  match x with
  | .d pv .e v => do there pv; eqOp op v.isNil
  | _ => .fail
/-- a pointer against nil -/
def ptrF (op : BinOp) (x : L) : Rd Re :=
  match x with
  | .np => eqK op true
  | .pv o _ => do
    match ← getO o with
    | .va _ => eqK op false
    | _ => .fail
  | .pe o _ _ => do
    match ← getO o with
    | .ro .. => eqK op false
    | .fz .. => eqK op false
    | _ => .fail
  | .d pv (.r _) _ => do there pv; eqK op false
  | .d pv (.o _) v => do there pv; eqOp op v.isNone
  | _ => .fail
/-- a slice against nil: an empty one may be nil, or not -/
def nilF (op : BinOp) (x : L) : Rd Re :=
  match x with
  | .nl => eqK op true
  | l => do
    let n ← lenL l
    .br (n == 0) (.any fun c => eqOp op c) (eqK op false)
def binF (op : BinOp) (x y : L) : Rd Re :=
  match x, y with
  | .d (.fz _) (.i k) a, .d (.fz _) (.i k2) c => intOp op k a k2 c
  | .d (.fz _) .s a, .d (.fz _) .s c => strOp op a c
  | _, _ => .fail
def unF (op : UnOp) (x : L) : Rd Re :=
  match op, x with
  | .neg, .d (.fz _) (.i k) n => reI k (k.wrap (0 - n))
  | .xor, .d (.fz _) (.i k) n => reI k (bitsF .xor k (if k.signed then -1 else k.max) n)
  | .not, .d (.fz _) .b v => reB (!v)
  | .not, .k v => re (.k (!v))
  | _, _ => .fail

/-! ### addresses -/
/-- A struct from its cell 'off' on. -/
structure V where
  sh : Sh
  v : Val sh
def sufx : Nat → (sh : Sh) → Val sh → Option V
  | 0, sh, v => some ⟨sh, v⟩
  | off + 1, .p a c, v =>
    bif Nat.ble a.sz (off + 1) then sufx (off + 1 - a.sz) c v.2
    else match sufx (off + 1) a v.1 with
      | some w => some ⟨.p w.sh c, (w.v, v.2)⟩
      | none => none
  | _, _, _ => none
def fieldAddrF (off : Nat) (x : L) : Rd Re :=
  match x with
  | .pv o j => do
    match ← getO o with
    | .va _ => re (.pv o (j + off))
    | _ => .fail
  | .pe o i j => do
    match ← getO o with
    | .ro .. => re (.pe o i (j + off))
    | .fz .. => re (.pe o i (j + off))
    | _ => .fail
  | .px o j q sh i c => do
    match ← getO o with
    | .va _ => re (.px o j q sh i (c + off))
    | _ => .fail
  | .d pv (.r (.n k)) v => match sufx off (nbody k) (nout k v) with
    | some w => do there pv; re (.d pv (.r w.sh) w.v)
    | none => .fail
  | .d pv (.r sh) v => match sufx off sh v with
    | some w => do there pv; re (.d pv (.r w.sh) w.v)
    | none => .fail
  | _ => .fail
def indexAddrF (sz : Nat) (x : L) (i : Int) : Rd Re :=
  match x with
  | .d pv (.l sh) v => do
    there pv
    chk (sh.sz.beq sz)
    chk (inb i v.length)
    re (.d pv (.r sh) (v.getD i.toNat sh.zero))
  | .rw o => do
    match ← getO o with
    | .ro _ _ _ sh _ v _ => do chk (sh.sz.beq sz); chk (inb i v.length); re (.pe o i.toNat 0)
    | .fz f _ sh v => do chk (sh.sz.beq sz); chk (inb i v.length); re (.d (.fz f) (.r sh) (v.getD i.toNat sh.zero))
    | _ => .fail
  | .sl o off n => do
    match ← getO o with
    | .ro _ _ _ sh _ _ _ => do chk (sh.sz.beq sz); chk (inb i n); re (.pe o (off + i.toNat) 0)
    | .fz f _ sh v => do chk (sh.sz.beq sz); chk (inb i n); re (.d (.fz f) (.r sh) (v.getD (off + i.toNat) sh.zero))
    | _ => .fail
  | _ => .fail
/-- an array's element's address -/
def indexArrF (k sz : Nat) (x : L) (i : Int) : Rd Re :=
  match x with
  | .pv o j => do
    match ← getO o with
    | .va ls => match dropC ls j with
      | some (.d _ (.v q sh) _ :: _) => do chk (q.beq k); chk (sh.sz.beq sz); chk (inb i k); re (.px o j q sh i.toNat 0)
      | _ => .fail
    | _ => .fail
  | _ => .fail
def sliceF (sz : Nat) (x : L) (lo : Int) (hi : Option Int) : Rd Re :=
  match x with
  | .d (.fz _) .s v => do
    let h := hi.getD v.size
    chk (inb2 lo h v.size)
    re (.d (.fz true) .s (v.extract lo.toNat h.toNat))
  | .d pv (.l sh) v => do
    there pv
    let h := hi.getD v.length
    chk (sh.sz.beq sz)
    chk (inb2 lo h v.length)
    re (.d pv (.l sh) ((v.take h.toNat).drop lo.toNat))
  | .rw o => do
    match ← getO o with
    | .ro _ _ _ sh _ v _ => do
      let h := hi.getD v.length
      chk (sh.sz.beq sz)
      chk (inb2 lo h v.length)
      re (.sl o lo.toNat (h.toNat - lo.toNat))
    | .fz f _ sh v => do
      let h := hi.getD v.length
      chk (sh.sz.beq sz)
      chk (inb2 lo h v.length)
      re (.d (.fz f) (.l sh) ((v.take h.toNat).drop lo.toNat))
    | _ => .fail
  | .sl o off n => do
    match ← getO o with
    | .ro _ _ _ sh _ _ _ => do
      let h := hi.getD n
      chk (sh.sz.beq sz)
      chk (inb2 lo h n)
      re (.sl o (off + lo.toNat) (h.toNat - lo.toNat))
    | _ => .fail
  | .nl => do
    chk (inb2 lo (hi.getD 0) 0)
    re .nl
  | _ => .fail

/-! ### loads and stores -/
def opens (C : Ctx0) (dst : Option Tmp) : Bool :=
  match dst with
  | some t => C.fo t
  | none => false
def loadF (C : Ctx0) (dst : Option Tmp) (m : Option Nat) (x : L) : Rd Re :=
  match x with
  | .pv o j => do
    match ← getO o with
    | .va ls => return (← loadLs m (← opt (dropC ls j)), [])
    | _ => .fail
  | .px o j q sh i c => do
    match ← getO o with
    | .va ls => match dropC ls j with
      | some (.d pv (.v q' sh') v :: _) => do
        there pv
        chk (sh.eqb sh' && q.beq q')
        return (← loadLs m (← opt (dropC (lvs pv sh' (v.getD i sh'.zero)) c)), [])
      | _ => .fail
    | _ => .fail
  | .pe o i j => do
    match ← getO o with
    | .ro f ver e sh ow v fc =>
      if opens C dst then do
        match fc with
        | none => do
          let t := (dst.getD 0) + 2
          let y := lvsF f t sh ow (v.getD i sh.zero) 0
          let d ← loadLs m (← opt (dropC y.1 j))
          let _ ← fresh dst 0
          let _ ← fresh dst 1
          let _ ← fresh dst 2
          chk (Nat.ble y.2.length 3)
          return (d, (o, .ro f (ver + 2) e sh ow v (some ⟨i, y.1⟩)) :: y.2)
        | some _ => .fail
      else do
        let plain : Rd Re := do return (← loadLs m (← opt (dropC (lvsO (.fz f) (.bw o ver) sh ow (v.getD i sh.zero)) j)), [])
        match fc with
        | none => plain
        | some c => .br (c.i == i) (do return (← loadLs m (← opt (dropC c.ls j)), [])) plain
    | .fz f _ sh v => return (← loadLs m (← opt (dropC (lvs (.fz f) sh (v.getD i sh.zero)) j)), [])
    | _ => .fail
  | .d pv (.r sh) v => do
    there pv
    return (← loadLs m (lvs pv sh v), [])
  | _ => .fail

/-- cells from j on of an element become others -/
def putV : (sh : Sh) → Ow → Val sh → Nat → Nat → List L → Rd (Pk (Val sh))
  | .p a c, ow, v, j, m, ls =>
    bif j.beq 0 && m.beq (Sh.sz (.p a c)) then pkO (.p a c) ow ls
    else bif Nat.ble (j + m) a.sz then do
      let x ← putV a ow.fst v.1 j m ls
      return ⟨x.f, (x.v, v.2), x.ws, x.ls⟩
    else bif Nat.ble a.sz j then do
      let x ← putV c ow.snd v.2 (j - a.sz) m ls
      return ⟨x.f, (v.1, x.v), x.ws, x.ls⟩
    else .fail
  | sh, ow, _, j, m, ls => do
    chk (j.beq 0 && m.beq sh.sz)
    pkO sh ow ls
/-- may leaves of an element of a row be written there? else its slices aren't our own any more -/
def noX : L → Bool
  | .un _ | .ud => false
  | _ => true
def goneOb : Ob → Bool
  | .gone | .no => true
  | _ => false
/-- nothing that leaves lead to has been taken -/
def liveLs {α : Type} (r : Rd α) : List L → Rd α
  | [] => r
  | .rw k :: ls => .o k fun ob => bif goneOb ob then .fail else liveLs r ls
  | _ :: ls => liveLs r ls
def storeF (x : L) (m : Nat) (new : List L) : Rd Wo := do
  chk ((wds new).beq m)
  chk (new.all noX)
  match x with
  | .pv o j => do
    match ← getO o with
    | .va ls => return [(o, .va (← opt (setC ls j new)))]
    | _ => .fail
  | .px o j q' sh i c => do
    match ← getO o with
    | .va ls => match dropC ls j, takeC ls j with
      | some (.d (.fz g) (.v q sh') v :: rest), some pre => do
        chk (sh.eqb sh' && q.beq q')
        let y ← putV sh' .z (v.getD i sh'.zero) c m new
        chk y.ls.isEmpty
        chk (okW y.ws)
        return (o, .va (pre ++ .d (.fz (g && y.f)) (.v q sh') (v.set i y.v) :: rest)) :: y.ws
      | _, _ => .fail
    | _ => .fail
  | .pe o i j => do
    match ← getO o with
    | .ro f ver e sh ow v fc => do
      let plain : Rd Wo := do
        let y ← putV sh ow (v.getD i sh.zero) j m new
        chk y.ls.isEmpty
        chk (okW ((o, .gone) :: y.ws))
        return (o, .ro (f && y.f) (ver + 1) e sh ow (v.set i y.v) fc) :: y.ws
      match fc with
      | none => plain
      | some c => .br (c.i == i) (do return [(o, .ro f (ver + 1) e sh ow v (some ⟨c.i, ← opt (setC c.ls j new)⟩))]) (liveLs plain c.ls)
    | _ => .fail
  | _ => .fail
end Go.En
end
section
/-
  The engine, part B: operations that make and change objects; calls; regions; code.
-/
namespace Go.En
open Go

def flat : Sh → Bool
  | .i _ | .b | .s | .u => true
  | .p a c => flat a && flat c
  | .v _ a => flat a
  | _ => false
/-- does an element of a row of ours lead nowhere but to rows of ours? -/
def flatO : Sh → Ow → Bool
  | .p a c, .p oa oc => flatO a oa && flatO c oc
  | .l a, .l _ o => flatO a o
  | sh, .z => flat sh
  | _, _ => false

/-! ### making -/
/-- the parts of a struct laid over its zero value -/
def fillLs (places : List (Nat × Nat)) (ls : List L) : List (Nat × D) → Option (List L)
  | [] => some ls
  | (i, d) :: rest =>
    match places[i]? with
    | none => none
    | some (off, size) =>
      let new := lsOf d
      bif (wds new).beq size && new.all noX then (match setC ls off new with
        | some ls => fillLs places ls rest
        | none => none) else none
/-- the parts of a literal, one behind the other; or none: zero ones -/
def elemsOf (z : List L) (n : Nat) : List (Nat × D) → Option (List (List L))
  | [] => some (List.replicate n z)
  | ps => go n 0 ps
where
  go : Nat → Nat → List (Nat × D) → Option (List (List L))
    | 0, _, [] => some []
    | n + 1, i, (k, d) :: ps => bif k.beq i then (match go n (i + 1) ps with | some r => some (lsOf d :: r) | none => none) else none
    | _, _, _ => none
def pkN (sh : Sh) (ow : Ow) : List (List L) → Rd (Pk (List (Val sh)))
  | [] => return ⟨true, [], [], []⟩
  | ls :: rest => do
    let x ← pkO sh ow ls
    chk x.ls.isEmpty
    let y ← pkN sh ow rest
    return ⟨x.f && y.f, x.v :: y.v, x.ws ++ y.ws, []⟩
/-- what slices of a literal's elements are our own: the first element tells -/
def owN (sh : Sh) (fo : Ow) : List (List L) → Rd Ow
  | [] => return fo
  | ls :: _ => do return (← owOf sh fo ls).1

def partsD : List (Nat × Operand) → Rd (List (Nat × D))
  | [] => return []
  | (i, x) :: rest => do
    let d ← opD x
    let r ← partsD rest
    return (i, d) :: r

def buildF (C : Ctx0) (t : TypeId) (parts : List (Nat × D)) : Rd Re :=
  match C.P.underlying t with
  | some (.struct fs) =>
    match zeroOf C t, fs.toList.mapM (fun f => (C.P.info? f.type).map fun i => (f.offset, i.size)) with
    | some z, some places => match fillLs places z parts with
      | some ls => return (.p (.agg ls), [])
      | none => .fail
    | _, _ => .fail
  | some (.array k e) =>
    match shOf C 20 e, zeroOf C e, szOf C.P e with
    | some sh, some z, some sz => do
      chk (sh.sz.beq sz && Nat.blt 0 sz && zeroOk C.P t (.v k sh))
      match parts with
      | [] => return (.p (.agg [.d (.fz true) (.v k sh) (Sh.zero (.v k sh))]), [])
      | _ :: _ =>
      let els ← opt (elemsOf z k parts)
      chk (els.all fun ls => ls.all noX && (wds ls).beq sz)
      let y ← pkN sh .z els
      chk y.ws.isEmpty
      return (.p (.agg [.d (.fz y.f) (.v k sh) y.v]), [])
    | _, _, _ => .fail
  | _ => .fail

def buildSliceF (C : Ctx0) (dst : Option Tmp) (t : TypeId) (n : Nat) (parts : List (Nat × D)) : Rd Re :=
  match elemOf? C.P t with
  | some e => match shOf C 20 e, zeroOf C e, szOf C.P e with
    | some sh, some z, some sz => do
      chk (sh.sz.beq sz && Nat.blt 0 sz && Nat.ble (n * sz) 16777216)
      let els ← opt (elemsOf z n parts)
      chk (els.all fun ls => ls.all noX && (wds ls).beq sz)
      let ow ← (match C.Own (dst.getD 0) with | some o => pure o | none => owN sh (owFull C 20 e) els)
      let y ← pkN sh ow els
      let x ← fresh dst 0
      chk (okW y.ws)
      return (one (.rw x), (x, .ro y.f 0 e sh ow y.v none) :: y.ws)
    | _, _, _ => .fail
  | none => .fail

def maxBytes : Nat := 140737488355328
def owFits : Sh → Ow → Bool
  | _, .z => true
  | .l _, .l _ _ => true
  | .p a c, .p oa oc => owFits a oa && owFits c oc
  | _, _ => false
def ownOf (C : Ctx0) (dst : Option Tmp) (e : TypeId) : Ow :=
  match C.Own (dst.getD 0) with
  | some o => o
  | none => owFull C 20 e
def makeSliceF (C : Ctx0) (dst : Option Tmp) (t : TypeId) (n c : Int) : Rd Re :=
  match elemOf? C.P t with
  | some e => match shOf C 20 e, szOf C.P e, bytesOf? C.P e with
    | some sh, some z, some by_ => do
      chk (sh.sz.beq z && zeroOk C.P e sh && Nat.blt 0 by_ && Nat.blt 0 z)
      chk (decide (0 ≤ n) && (decide (n ≤ c) && decide (by_ * c.toNat ≤ maxBytes)))
      let x ← fresh dst 0
      chk (owFits sh (ownOf C dst e))
      return (one (.rw x), [(x, .ro true 0 e sh (ownOf C dst e) (List.replicate n.toNat sh.zero) none)])
    | _, _, _ => .fail
  | none => .fail

/-! ### append, copy, clear -/
structure Bs where
  f : Bool
  sh : Sh
  ow : Option Ow
  v : List (Val sh)
  ws : Wo
/-- the row that is appended to -/
def baseF (C : Ctx0) (dst : Option Tmp) (e : TypeId) (l : L) : Rd Bs :=
  match l with
  | .nl => match shOf C 20 e with
    | some sh => return ⟨true, sh, C.Own (dst.getD 0), [], []⟩
    | none => .fail
  | .rw o => do
    match ← getO o with
    | .ro f _ e' sh ow v none => do
      chk (e.beq e')
      return ⟨f, sh, some ow, v, [(o, .gone)]⟩
    | _ => .fail
  | .sl o off n => do
    match ← getO o with
    | .ro f _ e' sh ow v none => do
      chk (e.beq e' && off.beq 0)
      return ⟨f, sh, some ow, v.take n, [(o, .gone)]⟩
    | _ => .fail
  | _ => .fail
/-- what is appended: elements without slices of our own; or with such ones: then its row is taken -/
def tailF (sh : Sh) (ow : Option Ow) (l : L) : Rd (Ow × Bool × List (Val sh) × Wo) :=
  match l with
  | .nl => return (ow.getD .z, true, [], [])
  | .rw o => do
    match ← getO o with
    | .ro f ver _ sh2 ow2 v none => do
      let u ← opt (castV (a := .l sh2) (c := .l sh) v)
      match ow.getD ow2, ow2 with
      | .z, .z => return (.z, f, u, [])
      | .z, _ => return (.z, f, u, [(o, .fz f ver sh2 v)])
      | w, _ => do chk (w.eqb ow2); return (w, f, u, [(o, .gone)])
    | .fz f _ sh2 v => do
      chk (match ow with | none => true | some .z => true | _ => false)
      return (.z, f, ← opt (castV (a := .l sh2) (c := .l sh) v), [])
    | _ => .fail
  | .sl o off n => do
    match ← getO o with
    | .ro f _ _ sh2 .z v none => do
      chk (match ow with | none => true | some .z => true | _ => false)
      return (.z, f, ← opt (castV (a := .l sh2) (c := .l sh) ((v.drop off).take n)), [])
    | .fz f _ sh2 v => do
      chk (match ow with | none => true | some .z => true | _ => false)
      return (.z, f, ← opt (castV (a := .l sh2) (c := .l sh) ((v.drop off).take n)), [])
    | _ => .fail
  | .d pv (.l sh2) v => do
    chk (match ow with | none => true | some .z => true | _ => false)
    there pv
    let f ← (match pv with | .fz f => pure (f || flat sh2) | .bw _ _ => do chk (flat sh2); pure true)
    return (.z, f, ← opt (castV (a := .l sh2) (c := .l sh) v), [])
  | _ => .fail
def appendF (C : Ctx0) (dst : Option Tmp) (t : TypeId) (s x : L) : Rd Re :=
  match elemOf? C.P t with
  | some e => match bytesOf? C.P e, szOf C.P e with
    | some by_, some z => do
      let b ← baseF C dst e s
      let (ow, f, u, ws) ← tailF b.sh b.ow x
      chk (b.sh.sz.beq z && Nat.blt 0 z && Nat.blt 0 by_)
      chk (zeroOk C.P e b.sh)
      chk (decide ((b.v.length + u.length) * by_ ≤ maxBytes))
      let y ← fresh dst 0
      chk (okW (b.ws ++ ws))
      return (one (.rw y), (y, .ro (b.f && f) 0 e b.sh ow (b.v ++ u) none) :: (b.ws ++ ws))
    | _, _ => .fail
  | none => .fail
/-! ### maps -/
def keyEq : (sh : Sh) → Val sh → Val sh → Bool
  | .i _, a, c => a == c
  | .b, a, c => a == c
  | .s, a, c => a == c
  | .p x y, a, c => keyEq x a.1 c.1 && keyEq y a.2 c.2
  | .v _ x, a, c => (a.length == c.length) && (a.zip c).all fun q => keyEq x q.1 q.2
  | .u, _, _ => true
  | _, _, _ => false
def mapGet (k a : Sh) (key : Val k) : List (Val k × Val a) → Option (Val a)
  | [] => none
  | e :: es => bif keyEq k key e.1 then some e.2 else mapGet k a key es
def mapSet (k a : Sh) (key : Val k) (x : Val a) : List (Val k × Val a) → List (Val k × Val a)
  | [] => [(key, x)]
  | e :: es => bif keyEq k key e.1 then (key, x) :: es else e :: mapSet k a key x es
def mapT (C : Ctx0) (t : TypeId) : Option (Sh × Sh) :=
  match C.P.underlying t with
  | some (.map k e) => match shOf C 20 k, shOf C 20 e with
    | some k, some a => some (k, a)
    | _, _ => none
  | _ => none
def mapE (C : Ctx0) (t : TypeId) : Option (TypeId × TypeId) :=
  match C.P.underlying t with
  | some (.map k e) => some (k, e)
  | _ => none
def makeMapF (C : Ctx0) (dst : Option Tmp) (t : TypeId) : Rd Re :=
  match mapT C t with
  | some (k, a) => do
    chk (flat k && flat a && Nat.blt 0 k.sz && Nat.blt 0 a.sz)
    let x ← fresh dst 0
    return (one (.mp x), [(x, .ma k a [])])
  | none => .fail
/-- shapes of values of one cell that are their own meaning -/
def scal : Sh → Bool
  | .i _ | .b | .s => true
  | _ => false
def intT (P : Program) (t : TypeId) (a : IntKind) : Bool :=
  (match P.underlying t with | some (.int c) => ikEq a c | _ => false) && (match aggSz P t with | some none => true | _ => false)
/-- keys of which the machine's equality is the values' -/
def keyKind (P : Program) (kt : TypeId) : Sh → Bool
  | .i a => match P.underlying kt with | some (.int c) => ikEq a c | _ => false
  | .b => match P.underlying kt with | some .bool => true | _ => false
  | .s => match P.underlying kt with | some .string => true | _ => false
  | .p (.i a) (.p (.i c) .u) => match P.underlying kt with
    | some (.struct fs) => match fs.toList with
      | [f, g] => intT P f.type a && intT P g.type c && f.offset.beq 0 && g.offset.beq 1 && (f.name != "_") && (g.name != "_") && !P.stoodInHeld kt
      | _ => false
    | _ => false
  | .v m (.i a) => match P.underlying kt with
    | some (.array n e) => m.beq 2 && n.beq 2 && intT P e a && (match szOf P e with | some z => z.beq 1 | none => false)
    | _ => false
  | _ => false
/-- structs of two numbers, which are compared -/
def pairK (C : Ctx0) (t : TypeId) : Option (IntKind × IntKind) :=
  match shOf C 20 t with
  | some (.p (.i a) (.p (.i c) .u)) => bif keyKind C.P t (.p (.i a) (.p (.i c) .u)) then some (a, c) else none
  | _ => none
def zone (P : Program) (t : TypeId) : Bool :=
  match P.info? t with
  | some i => match i.zero with
    | some (.agg _) => false
    | some _ => true
    | none => false
  | none => false
/-- an element's value: one cell -/
def mapC (C : Ctx0) (t : TypeId) : Option (TypeId × Sh × Sh) :=
  match C.P.underlying t with
  | some (.map k e) => match shOf C 20 k, shOf C 20 e with
    | some a, some c => bif keyKind C.P k a && (scal c && (zeroOk C.P e c && zone C.P e)) then some (e, a, c) else none
    | _, _ => none
  | _ => none
/-- a value as data -/
def pkD (sh : Sh) : D → Rd (Val sh)
  | .p (.one l) => do
    chk (scal sh)
    let x ← pk sh [l]
    chk x.ls.isEmpty
    chk x.ws.isEmpty
    return x.v
  | .p (.agg ls) => do
    chk (!scal sh)
    let x ← pk sh ls
    chk x.ls.isEmpty
    chk x.ws.isEmpty
    return x.v
  | _ => .fail
def lookR (a : Sh) (r : Option (Val a)) : Bool → Rd Re
  | true => return (.tup [.one (.d (.fz true) a (r.getD a.zero)), .one (.d (.fz true) .b r.isSome)], [])
  | false => return (one (.d (.fz true) a (r.getD a.zero)), [])
def lookupF (C : Ctx0) (t : TypeId) (x : L) (key : D) (commaOk : Bool) : Rd Re :=
  match mapC C t with
  | some (_, k, a) => do
    let q ← pkD k key
    let r ← (match x with
      | .mp o => do
        match ← getO o with
        | .ma k' a' v => match castV (a := .l (.p k' a')) (c := .l (.p k a)) v with
          | some v => pure (mapGet k a q v)
          | none => .fail
        | _ => .fail
      | .nm => pure none
      | _ => .fail)
    lookR a r commaOk
  | none => .fail
def mapUpdateF (C : Ctx0) (t : TypeId) (x : L) (key val : D) : Rd Wo :=
  match mapC C t with
  | some (_, k, a) => do
    let q ← pkD k key
    let z ← pkD a val
    match x with
    | .mp o => do
      match ← getO o with
      | .ma k' a' v => match castV (a := .l (.p k' a')) (c := .l (.p k a)) v with
        | some v => return [(o, .ma k a (mapSet k a q z v))]
        | none => .fail
      | _ => .fail
    | _ => .fail
  | none => .fail

/-! ### functions, interfaces -/
def capCp : L → Rd Cp
  | .pv o 0 => .ret (.b o)
  | .np => .ret .np
  | .d (.fz f) sh v => do chk (sh.sz.beq 1); return .d f sh v
  | _ => .fail
def capAll : List L → Rd (List Cp)
  | [] => return []
  | l :: ls => do
    let c ← capCp l
    let cs ← capAll ls
    return c :: cs
def opLs : List Operand → Rd (List L)
  | [] => return []
  | x :: xs => do
    let l ← opL x
    let ls ← opLs xs
    return l :: ls
def opDs : List Operand → Rd (List D)
  | [] => return []
  | x :: xs => do
    let l ← opD x
    let ls ← opDs xs
    return l :: ls

def optI : Option Operand → Rd (Option Int)
  | none => .ret none
  | some x => do return some (← opI x)

def bin2 (C : Ctx0) (op : BinOp) (t : TypeId) (a c : D) : Rd Re :=
  match a, c with
  | .p (.one l), .p (.one l') => match boolT C.P t with
    | true => match l, l' with
      | .d (.fz _) .b u, .d (.fz _) .b v => eqOp op (u == v)
      | .k u, .d (.fz _) .b v => eqOp op (u == v)
      | .d (.fz _) .b u, .k v => eqOp op (u == v)
      | .k u, .k v => eqOp op (u == v)
      | _, _ => .fail
    | false => binF op l l'
  | _, _ => .fail
def binO (C : Ctx0) (op : BinOp) (t : TypeId) (x y : Operand) : Rd Re :=
  match isNilC y, isNilP y, isNilS y with
  | true, _, _ => match C.P.underlying t with
    | some (.interface _) => do errF op (← opL x)
    | _ => .fail
  | _, true, _ => match C.P.underlying t with
    | some (.pointer _) => do ptrF op (← opL x)
    | _ => .fail
  | _, _, true => match C.P.underlying t with
    | some (.slice _) => do nilF op (← opL x)
    | _ => .fail
  | _, _, _ => do
    let a ← opD x
    bin2 C op t a (← opD y)
def convertF (C : Ctx0) (src dst : TypeId) (l : L) : Rd Re :=
  match l with
  | .d (.fz _) (.i _) n => match C.P.underlying src, C.P.underlying dst with
    | some _, some (.int k) => reI k (k.wrap n)
    | _, _ => .fail
  | _ => .fail
def ifaceF (C : Ctx0) (t : TypeId) (l : L) : Rd Re :=
  match t.beq C.noT, t.beq C.atT, l with
  | true, _, .d (.fz _) (.i .i64) n => match C.P.underlying t with
    | some (.int _) => re (.d (.fz true) .e (.no n))
    | _ => .fail
  | _, true, .pv k 0 => match C.P.underlying t with
    | some (.pointer _) => do
      match ← getO k with
      | .va [.d (.fz _) (.i .i64) n, .d (.fz f) .e er] => return (one (.d (.fz f) .e (.at n er)), [(k, .gone)])
      | _ => .fail
    | _ => .fail
  | _, _, _ => .fail
def nilChkF (l : L) : Rd Re :=
  match l with
  | .pv o _ => do
    match ← getO o with
    | .va _ => re l
    | _ => .fail
  | .pe o _ _ => do
    match ← getO o with
    | .ro .. => re l
    | .fz .. => re l
    | _ => .fail
  | .px o _ _ _ _ _ => do
    match ← getO o with
    | .va _ => re l
    | _ => .fail
  | .d pv (.r _) _ => do there pv; re l
  | .d pv (.o sh) v => do there pv; chk v.isSome; re (.d pv (.r sh) (v.getD sh.zero))
  | .fn .. => re l
  | _ => .fail
def fieldF (C : Ctx0) (t : TypeId) (f : Nat) (d : D) : Rd Re :=
  match C.P.underlying t, d with
  | some (.struct fs), .p (.agg ls) => match fs[f]? with
    | some q => match aggSz C.P q.type with
      | some m => do return (← loadLs m (← opt (dropC ls q.offset)), [])
      | none => .fail
    | none => .fail
  | _, _ => .fail
def indexF (C : Ctx0) (t : TypeId) (d : D) (i : Int) : Rd Re :=
  match C.P.underlying t, d with
  | some .string, .p (.one (.d (.fz _) .s s)) => do chk (inb i s.size); reI .u8 (byteAt s i)
  | some (.array k e), .p (.agg [.d pv (.v q sh) v]) => do
    there pv
    chk (q.beq k && (match szOf C.P e with | some z => z.beq sh.sz | none => false))
    chk (inb i k)
    match aggSz C.P e with
    | some m => return (← loadLs m (lvs pv sh (v.getD i.toNat sh.zero)), [])
    | none => .fail
  | _, _ => .fail
def indexAddrO (C : Ctx0) (t : TypeId) (l : L) (i : Int) : Rd Re :=
  match C.P.underlying t with
  | some (.slice e) => match szOf C.P e with
    | some z => indexAddrF z l i
    | none => .fail
  | some (.array k e) => match szOf C.P e with
    | some z => indexArrF k z l i
    | none => .fail
  | _ => .fail
def sliceO (C : Ctx0) (t : TypeId) (l : L) (lo : Int) (hi : Option Int) : Rd Re :=
  match C.P.underlying t with
  | some .string => match l with
    | .d (.fz f) .s v => sliceF 0 (.d (.fz f) .s v) lo hi
    | _ => .fail
  | some (.slice e) => match szOf C.P e with
    | some z => match l with
      | .d (.fz _) .s _ => .fail
      | l => sliceF z l lo hi
    | none => .fail
  | _ => .fail
def extractF (d : D) (ix : Nat) : Rd Re :=
  match d with
  | .tup xs => match xs[ix]? with
    | some x => return (.p x, [])
    | none => .fail
  | _ => .fail
def lenO (C : Ctx0) (t : Option TypeId) (l : L) : Rd Re :=
  match t.bind C.P.underlying with
  | some .string => match l with
    | .d (.fz _) .s v => reI .i64 v.size
    | _ => .fail
  | some (.slice _) => do reI .i64 (← lenL l)
  | some (.map _ _) => do reI .i64 (← lenM l)
  | _ => .fail
def builtinF (C : Ctx0) (dst : Option Tmp) (b : Builtin) (args : List Operand) (ts : List TypeId) : Rd Re :=
  match b, args with
  | .len, [x] => do lenO C ts.head? (← opL x)
  | .max, [x, y] => do
    let a ← intL (← opL x)
    let c ← intL (← opL y)
    reI a.1 (if c.2 > a.2 then c.2 else a.2)
  | .min, [x, y] => do
    let a ← intL (← opL x)
    let c ← intL (← opL y)
    reI a.1 (if c.2 < a.2 then c.2 else a.2)
  | .append, [s, x] => match ts with
    | [t, t'] => do
      chk (t.beq t')
      let a ← opL s
      appendF C dst t a (← opL x)
    | _ => .fail
  | _, _ => .fail

/-- What an operation yields, and what it writes of objects. -/
def opF (C : Ctx0) (o : Oper) : Rd Re :=
  match o.op with
  | .move x => do return (← opD x, [])
  | .assign x => do return (← opD x, [])
  | .pick c a b => do
    match ← opL c with
    | .k true => return (← opD a, [])
    | .k false => return (← opD b, [])
    | .d (.fz _) .b c => .br c (do return (← opD a, [])) (do return (← opD b, []))
    | _ => .fail
  | .alloc t => match zeroOf C t with
    | some ls => do let x ← fresh o.dst 0; return (one (.pv x 0), [(x, .va ls)])
    | none => .fail
  | .box t v => match szOf C.P t with
    | some n => do
      let d ← opD v
      chk ((wds (lsOf d)).beq n)
      chk ((lsOf d).all noX)
      let x ← fresh o.dst 0
      return (one (.pv x 0), [(x, .va (lsOf d))])
    | none => .fail
  | .build t parts => do buildF C t (← partsD parts.toList)
  | .buildSlice t n parts => do buildSliceF C o.dst t n (← partsD parts.toList)
  | .load t x => match aggSz C.P t with
    | some m => do loadF C o.dst m (← opL x)
    | none => .fail
  | .store t a x => match szOf C.P t with
    | some m => do
      let l ← opL a
      let d ← opD x
      return (one .ud, ← storeF l m (lsOf d))
    | none => .fail
  | .nilCheck x => do nilChkF (← opL x)
  | .binOp op t x y _ => match pairK C t with
    | some (a, c) => do
      let d ← opD x
      let d' ← opD y
      let u ← pkD (.p (.i a) (.p (.i c) .u)) d
      let v ← pkD (.p (.i a) (.p (.i c) .u)) d'
      eqOp op (keyEq (.p (.i a) (.p (.i c) .u)) u v)
    | none => binO C op t x y
  | .unOp op _ x => do unF op (← opL x)
  | .convert src dst x => do convertF C src dst (← opL x)
  | .makeInterface t x => do ifaceF C t (← opL x)
  | .makeFunc (.func g) first caps => do
    chk (first.size.beq 0)
    let cs ← capAll (← opLs caps.toList)
    re (.fn g cs)
  | .makeMap t none => makeMapF C o.dst t
  | .lookup t x k c => do
    let l ← opL x
    let q ← opD k
    lookupF C t l q c
  | .mapUpdate t m k z => do
    let l ← opL m
    let q ← opD k
    let d ← opD z
    return (one .ud, ← mapUpdateF C t l q d)
  | .makeSlice t len cap => do
    let n ← opI len
    let c ← opI cap
    makeSliceF C o.dst t n c
  | .slice t x lo hi none => do
    let lo ← optI lo
    let hi ← optI hi
    sliceO C t (← opL x) (lo.getD 0) hi
  | .fieldAddr t x f => match fieldOff C.P t f with
    | some off => do fieldAddrF off (← opL x)
    | none => .fail
  | .field t x f => do fieldF C t f (← opD x)
  | .indexAddr t x ix => do
    let i ← opI ix
    indexAddrO C t (← opL x) i
  | .index t x ix => do
    let i ← opI ix
    indexF C t (← opD x) i
  | .extract t ix => do extractF (← opD t) ix
  | .call c => match c.callee with
    | .builtin b => builtinF C o.dst b c.args.toList c.argTypes.toList
    | _ => .fail
  | _ => .fail
end Go.En
end
section
/-
  The engine, part C: states; calls; regions; code.
-/
namespace Go.En
open Go

/-! ### states -/
structure St where
  env : List D
  hp : List (List Ob)
def padSet {α : Type} (x e : α) : List α → Nat → List α
  | [], 0 => [x]
  | [], i + 1 => e :: padSet x e [] i
  | _ :: l, 0 => x :: l
  | y :: l, i + 1 => y :: padSet x e l i
def St.d (S : St) (t : Nat) : D := S.env.getD t dead
def St.o (S : St) (x : Id) : Ob := (S.hp.getD x.t []).getD x.j .no
def St.setD (S : St) (t : Nat) (d : D) : St := { S with env := S.env.set t d }
def St.setO (S : St) (x : Id) (ob : Ob) : St := { S with hp := padSet (padSet ob .no (S.hp.getD x.t []) x.j) [] S.hp x.t }
def St.setW (S : St) : Wo → St
  | [] => S
  | (x, ob) :: ws => (S.setO x ob).setW ws
def St.put (S : St) (dst : Option Tmp) (r : Re) : St :=
  match dst with
  | some t => (S.setW r.2).setD t r.1
  | none => S.setW r.2

/-! ### running -/
inductive Tr (α : Type) where
  | leaf (a : α)
  | fail
  | br (c : Bool) (a b : Tr α)
  | any (a b : Tr α)
def Tr.bind {α β : Type} : Tr α → (α → Tr β) → Tr β
  | .leaf a, f => f a
  | .fail, _ => .fail
  | .br c a b, f => .br c (a.bind f) (b.bind f)
  | .any a b, f => .any (a.bind f) (b.bind f)
/-- both ways come to the same -/
noncomputable def both {ρ : Type} (x y : Option ρ) : Option ρ := open Classical in if x = y then x else none
noncomputable def Tr.walk {α ρ : Type} (K : α → Option ρ) : Tr α → Option ρ
  | .leaf a => K a
  | .fail => none
  | .br c a b => bif c then a.walk K else b.walk K
  | .any a b => both (a.walk K) (b.walk K)
def Rd.run {α : Type} (S : St) : Rd α → Tr α
  | .ret a => .leaf a
  | .fail => .fail
  | .s t k => (k (S.d t)).run S
  | .o x k => (k (S.o x)).run S
  | .br c a b => .br c (a.run S) (b.run S)
  | .any k => .any ((k true).run S) ((k false).run S)

/-! ### calls -/
/-- What a function comes to, on data: results; the objects that it was lent; new ones. -/
inductive Out where
  | leaf (res : List Pt) (old new : List Ob)
  | br (c : Bool) (a b : Out)
  | fail
structure Lf where
  res : List Pt
  old : List Ob
  new : List Ob
def Out.pick : Out → Option Lf
  | .leaf res old new => some ⟨res, old, new⟩
  | .br c a b => bif c then a.pick else b.pick
  | .fail => none
def Out.rd : Out → Rd Lf
  | .leaf res old new => .ret ⟨res, old, new⟩
  | .br c a b => .br c a.rd b.rd
  | .fail => .fail
structure Spec where
  rows : List Nat     -- which parameters are rows that it writes
  F : List D → List Ob → Out
structure Ctx extends Ctx0 where
  Φ : FuncId → Option Spec

structure Ln where
  perm : List Id
  rd : List Id
  f : Bool
def idxOf (x : Id) : List Id → Nat → Option Nat
  | [], _ => none
  | y :: l, k => bif y.eqb x then some k else idxOf x l (k + 1)
def Ln.name (s : Ln) (x : Id) : Id × Ln :=
  match idxOf x s.perm 0 with
  | some k => (⟨0, k⟩, s)
  | none => (⟨0, s.perm.length⟩, { s with perm := s.perm ++ [x] })
def giveCps (s : Ln) : List Cp → List Cp × Ln
  | [] => ([], s)
  | .b o :: cs => let x := s.name o; let y := giveCps x.2 cs; (.b x.1 :: y.1, y.2)
  | .np :: cs => let y := giveCps s cs; (.np :: y.1, y.2)
  | .d f sh v :: cs => let y := giveCps { s with f := s.f && (f || flat sh) } cs; (.d (flat sh) sh v :: y.1, y.2)
def giveL (s : Ln) (l : L) : Rd (L × Ln) :=
  match l with
  | .rw o => let x := s.name o; .ret (.rw x.1, x.2)
  | .sl o off n => let x := s.name o; .ret (.sl x.1 off n, x.2)
  | .pe o i j => let x := s.name o; .ret (.pe x.1 i j, x.2)
  | .pv o j => let x := s.name o; .ret (.pv x.1 j, x.2)
  | .px o j q sh i c => let x := s.name o; .ret (.px x.1 j q sh i c, x.2)
  | .mp o => let x := s.name o; .ret (.mp x.1, x.2)
  | .d (.fz f) sh v => .ret (.d (.fz (flat sh)) sh v, { s with f := s.f && (f || flat sh) })
  | .d (.bw o ver) sh v => do
    there (.bw o ver)
    return (.d (.fz (flat sh)) sh v, if flat sh then s else { s with rd := o :: s.rd })
  | .fn g cs => let y := giveCps s cs; .ret (.fn g y.1, y.2)
  | .k c => .ret (.d (.fz true) .b c, s)
  | l => .ret (l, s)
def giveLs (s : Ln) : List L → Rd (List L × Ln)
  | [] => return ([], s)
  | l :: ls => do
    let x ← giveL s l
    let y ← giveLs x.2 ls
    return (x.1 :: y.1, y.2)
/-- an argument: rows are lent to be read, or (asRow) to be written -/
def argL (_C : Ctx0) (asRow : Bool) (sh : Option Sh) (s : Ln) (l : L) : Rd (L × Ln) :=
  match l with
  | .nl => if asRow then .ret (l, s) else match sh with
    | some (.l a) => .ret (.d (.fz false) (.l a) [], s)
    | _ => .ret (l, s)
  | .rw _ | .sl _ _ _ => if asRow then giveL s l else do
    let q ← slV l
    giveL s (.d q.pv (.l q.sh) q.v)
  | l => giveL s l
/-- the shapes of a type's leaves -/
def leafSh (C : Ctx0) : Nat → TypeId → List (Option Sh)
  | 0, _ => []
  | n + 1, t =>
    match C.nm t with
    | some k => leafN (nbody k)
    | none =>
      match C.P.underlying t with
      | some (.struct fs) => fs.toList.flatMap fun f => leafSh C n f.type
      | _ => [shOf C 20 t]
where
  leafN : Sh → List (Option Sh)
    | .u => []
    | .p a c => leafN a ++ leafN c
    | sh => [some sh]
def argLs (C : Ctx0) (asRow : Bool) (s : Ln) : List (Option Sh) → List L → Rd (List L × Ln)
  | _, [] => return ([], s)
  | shs, l :: ls => do
    let x ← argL C asRow (shs.head?.bind id) s l
    let y ← argLs C asRow x.2 shs.tail ls
    return (x.1 :: y.1, y.2)
def argD (C : Ctx0) (asRow : Bool) (t : Option TypeId) (s : Ln) (d : D) : Rd (D × Ln) :=
  match d with
  | .p (.one l) => do
    let x ← argL C asRow (t.bind (shOf C 20)) s l
    return (one x.1, x.2)
  | .p (.agg ls) => do
    let x ← argLs C asRow s (match t with | some t => leafSh C 20 t | none => []) ls
    return (.p (.agg x.1), x.2)
  | _ => .fail
def argDs (C : Ctx0) (rows : List Nat) : Nat → List TypeId → Ln → List D → Rd (List D × Ln)
  | _, _, s, [] => return ([], s)
  | i, ts, s, d :: ds => do
    let x ← argD C (rows.any (·.beq i)) ts.head? s d
    let y ← argDs C rows (i + 1) ts.tail x.2 ds
    return (x.1 :: y.1, y.2)

structure Gv where
  os : List Ob
  vers : List Nat
  s : Ln
/-- the objects that are lent, and what they lead to -/
def giveOs : Nat → Nat → Ln → Rd Gv
  | 0, _, _ => .fail
  | fuel + 1, k, s =>
    match s.perm[k]? with
    | none => return ⟨[], [], s⟩
    | some x => do
      match ← getO x with
      | .va ls => do
        let y ← giveLs s ls
        let z ← giveOs fuel (k + 1) y.2
        return ⟨.va y.1 :: z.os, 0 :: z.vers, z.s⟩
      | .ro f ver e sh ow v none => do
        let z ← giveOs fuel (k + 1) { s with f := s.f && (f || flatO sh ow) }
        return ⟨.ro (flatO sh ow) 0 e sh ow v none :: z.os, ver :: z.vers, z.s⟩
      | .ro .. => .fail
      | .fz f ver sh v => do
        let z ← giveOs fuel (k + 1) { s with f := s.f && f }
        return ⟨.fz false 0 sh v :: z.os, ver :: z.vers, z.s⟩
      | .ma a c v => do
        let z ← giveOs fuel (k + 1) s
        return ⟨.ma a c v :: z.os, 0 :: z.vers, z.s⟩
      | .gone => do
        let z ← giveOs fuel (k + 1) s
        return ⟨.gone :: z.os, 0 :: z.vers, z.s⟩
      | .no => .fail

def memId (x : Id) (l : List Id) : Bool := l.any (·.eqb x)
structure Bk where
  perm : List Id
  t : Nat
  f : Bool    -- what was lent leads nowhere that we were lent
  own : Bool  -- something of our own was lent to be read
def Bk.id (k : Bk) (x : Id) : Option Id :=
  match x.t with
  | 0 => k.perm[x.j]?
  | 1 => some ⟨k.t, x.j⟩
  | _ => none
def backCps (k : Bk) : List Cp → Option (List Cp)
  | [] => some []
  | .b o :: cs => match k.id o, backCps k cs with
    | some o, some cs => some (.b o :: cs)
    | _, _ => none
  | .np :: cs => match backCps k cs with
    | some cs => some (.np :: cs)
    | none => none
  | .d f sh v :: cs => match backCps k cs with
    | some cs => if f then some (.d true sh v :: cs) else if k.own then none else some (.d k.f sh v :: cs)
    | none => none
def backL (k : Bk) (l : L) : Option L :=
  match l with
  | .rw o => (k.id o).map .rw
  | .sl o off n => (k.id o).map fun o => .sl o off n
  | .pe o i j => (k.id o).map fun o => .pe o i j
  | .pv o j => (k.id o).map fun o => .pv o j
  | .px o j q sh i c => (k.id o).map fun o => .px o j q sh i c
  | .mp o => (k.id o).map .mp
  | .d (.fz f) sh v => if f || flat sh then some (.d (.fz true) sh v) else if k.own then none else some (.d (.fz k.f) sh v)
  | .d (.bw _ _) sh _ => some (.un sh.sz)
  | .fn g cs => (backCps k cs).map (.fn g)
  | l => some l
def backLs (k : Bk) : List L → Option (List L)
  | [] => some []
  | l :: ls => match backL k l, backLs k ls with
    | some l, some ls => some (l :: ls)
    | _, _ => none
def backPt (k : Bk) : Pt → Option Pt
  | .one l => (backL k l).map .one
  | .agg ls => (backLs k ls).map .agg
def backPts (k : Bk) : List Pt → Option (List Pt)
  | [] => some []
  | l :: ls => match backPt k l, backPts k ls with
    | some l, some ls => some (l :: ls)
    | _, _ => none
def backO (k : Bk) (ver : Nat) : Ob → Option Ob
  | .no => none
  | .gone => some .gone
  | .va ls => (backLs k ls).map .va
  | .ro f _ e sh ow v none => if f || flatO sh ow then some (.ro true (ver + 1) e sh ow v none) else if k.own then none else some (.ro k.f (ver + 1) e sh ow v none)
  | .ro .. => none
  | .fz f _ sh v => if f then some (.fz true (ver + 1) sh v) else if k.own then none else some (.fz k.f (ver + 1) sh v)
  | .ma a c v => some (.ma a c v)
def backOld (k : Bk) : List Id → List Nat → List Ob → Option Wo
  | [], [], [] => some []
  | x :: xs, v :: vs, ob :: obs => match backO k v ob, backOld k xs vs obs with
    | some ob, some ws => some ((x, ob) :: ws)
    | _, _ => none
  | _, _, _ => none
def backNew (k : Bk) : Nat → List Ob → Option Wo
  | _, [] => some []
  | j, ob :: obs => match backO k 0 ob, backNew k (j + 1) obs with
    | some ob, some ws => some ((⟨k.t, j⟩, ob) :: ws)
    | _, _ => none
def resD : List Pt → D
  | [x] => .p x
  | xs => .tup xs
def freshN (dst : Option Tmp) : Nat → Nat → Rd Unit
  | _, 0 => .ret ()
  | j, n + 1 => do let _ ← fresh dst j; freshN dst (j + 1) n

def cpD : Cp → D
  | .b o => one (.pv o 0)
  | .np => one .np
  | .d f sh v => one (.d (.fz f) sh v)
/-- a call by its spec -/
def callS (C : Ctx0) (sp : Spec) (dst : Option Tmp) (ts : List TypeId) (ds : List D) : Rd Re := do
  let a ← argDs C sp.rows 0 ts ⟨[], [], true⟩ ds
  let g ← giveOs 40 0 a.2
  chk (g.s.rd.all fun x => !memId x g.s.perm)
  let r ← (sp.F a.1 g.os).rd
  let k : Bk := ⟨g.s.perm, dst.getD 0 + 2, g.s.f, !g.s.rd.isEmpty⟩
  let res ← opt (backPts k r.res)
  let old ← opt (backOld k g.s.perm g.vers r.old)
  let new ← opt (backNew k 0 r.new)
  freshN dst 0 r.new.length
  return (resD res, old ++ new)
def callF (C : Ctx) (dst : Option Tmp) (f : Operand) (args : List Operand) (ts : List TypeId) : Rd Re := do
  let ds ← opDs args
  match ← opL f with
  | .fn g cs => match C.Φ g with
    | some sp => callS C.toCtx0 sp dst ts (ds ++ cs.map cpD)
    | none => .fail
  | _ => .fail

def evOp (C : Ctx) (o : Oper) : Rd Re :=
  match o.op with
  | .call c => match c.callee with
    | .value f => callF C o.dst f c.args.toList c.argTypes.toList
    | _ => opF C.toCtx0 o
  | _ => opF C.toCtx0 o

/-! ### elements that were laid open are put back -/
def idsCps : List Cp → List Id
  | [] => []
  | .b o :: cs => o :: idsCps cs
  | _ :: cs => idsCps cs
def idsL : L → List Id
  | .rw o | .sl o _ _ | .pe o _ _ | .pv o _ | .px o _ _ _ _ _ | .mp o => [o]
  | .d (.bw o _) _ _ => [o]
  | .fn _ cs => idsCps cs
  | _ => []
structure Sh1 where
  S : St
  ids : List Id
/-- what a tree of known truths comes to -/
def Tr.sure {α : Type} : Tr α → Option α
  | .leaf a => some a
  | .br c a b => bif c then a.sure else b.sure
  | _ => none
def shut1 (X : Sh1) (x : Id) : Sh1 :=
  match X.S.o x with
  | .ro f ver e sh ow v (some c) => match ((pkO sh ow c.ls).run X.S).sure with
    | some p => bif p.ls.isEmpty && okW ((x, .gone) :: p.ws) then ⟨(X.S.setW p.ws).setO x (.ro (f && p.f) (ver + 1) e sh ow (v.set c.i p.v) none), x :: (p.ws.map (·.1) ++ X.ids)⟩ else X
    | none => X
  | _ => X
def shutN : Nat → List Id → Sh1 → Sh1
  | 0, _, X => X
  | _, [], X => X
  | n + 1, x :: xs, X =>
    let X := (match X.S.o x with
      | .ro _ _ _ _ _ _ (some c) => shut1 (shutN n (c.ls.flatMap idsL) X) x
      | .va ls => shutN n (ls.flatMap idsL) X
      | _ => X)
    shutN n xs X
def lsAll : D → List L
  | .p (.one l) => [l]
  | .p (.agg ls) => ls
  | .tup xs => xs.flatMap fun | .one l => [l] | .agg ls => ls
def opIds (S : St) : Operand → List Id
  | .tmp t => (lsAll (S.d t)).flatMap idsL
  | _ => []
def pre (C : Ctx) (o : Oper) (S : St) : Sh1 :=
  match o.op with
  | .load _ x => bif opens C.toCtx0 o.dst then shutN 8 (opIds S x) ⟨S, []⟩ else ⟨S, []⟩
  | .call c => match c.callee with
    | .value f => shutN 8 ((f :: c.args.toList).flatMap (opIds S)) ⟨S, []⟩
    | .builtin .append => shutN 8 (c.args.toList.flatMap (opIds S)) ⟨S, []⟩
    | _ => ⟨S, []⟩
  | _ => ⟨S, []⟩

/-! ### regions -/
def slotLeaf : D → L
  | .p (.one l) => l
  | _ => .un 1
structure Lg where
  S : St
  ids : List Id
/-- by its guard: is an operation wanted? the slot of the guard tells afterwards -/
def guardT (ops : Array Oper) (o : Oper) (S : St) (exec skip : St → Tr Lg) : Tr Lg :=
  match o.guard with
  | none => exec S
  | some (j, want) =>
    match (ops[j]?).bind (·.dst) with
    | none => .fail
    | some t => match slotLeaf (S.d t) with
      | .d (.fz _) .b c =>
        .br c (bif want then exec (S.setD t (one (.k true))) else skip (S.setD t (one (.k true))))
          (bif want then skip (S.setD t (one (.k false))) else exec (S.setD t (one (.k false))))
      | .k c => bif c then (bif want then exec S else skip S) else (bif want then skip S else exec S)
      | .ud => skip S
      | _ => .fail
def skipS (o : Oper) (S : St) : St :=
  match o.dst with
  | some t => S.setD t (one .ud)
  | none => S
def evOps (C : Ctx) (ops : Array Oper) : List Nat → St → List Id → Tr Lg
  | [], S, ids => .leaf ⟨S, ids⟩
  | i :: rest, S, ids =>
    match ops[i]? with
    | none => .fail
    | some o => guardT ops o S
      (fun S => let X := pre C o S; ((evOp C o).run X.S).bind fun r => evOps C ops rest (X.S.put o.dst r) (ids ++ (X.ids ++ r.2.map (·.1))))
      (fun S => evOps C ops rest (skipS o S) ids)

/-! regions that draw their order -/
inductive Lc where
  | s (t : Nat) | o (x : Id)
def Lc.eqb : Lc → Lc → Bool
  | .s a, .s c => a.beq c
  | .o a, .o c => a.eqb c
  | _, _ => false
structure Log where
  i : Nat
  R : List Lc
  W : List Lc
def apartLc (a b : List Lc) : Bool := a.all fun x => b.all fun y => !x.eqb y
def Rd.runL {α : Type} (S : St) : Rd α → List Lc → Tr (α × List Lc)
  | .ret a, R => .leaf (a, R)
  | .fail, _ => .fail
  | .s t k, R => (k (S.d t)).runL S (.s t :: R)
  | .o x k, R => (k (S.o x)).runL S (.o x :: R)
  | .br c a b, R => .br c (a.runL S R) (b.runL S R)
  | .any _, _ => .fail
/-- which operations stand before which -/
def bef : List Oper → List Nat → List Nat
  | [], acc => acc
  | o :: os, acc => bef os (acc ++ [o.after.toList.foldl (fun s e => if Region.binds .any e then s ||| 2 ^ e.on ||| acc.getD e.on 0 else s) 0])
def logOk (B : List Nat) (x : Log) : List Log → Bool
  | [] => true
  | y :: l => ((B.getD x.i 0).testBit y.i || (apartLc y.W x.R && apartLc y.W x.W && apartLc y.R x.W)) && logOk B x l
def guardR (ops : Array Oper) (o : Oper) : List Lc :=
  match o.guard with
  | some (j, _) => (match (ops[j]?).bind (·.dst) with | some t => [.s t] | none => [])
  | none => []
def dstL (o : Oper) : List Lc :=
  match o.dst with
  | some t => [.s t]
  | none => []
/-- truths that are known -/
def refine (S : St) : List (Nat × Bool) → St
  | [] => S
  | (t, c) :: kn => (refine S kn).setD t (one (.k c))
def knows (t : Nat) : List (Nat × Bool) → Option Bool
  | [] => none
  | (s, c) :: kn => bif s.beq t then some c else knows t kn
def unknow (dst : Option Tmp) (kn : List (Nat × Bool)) : List (Nat × Bool) :=
  match dst with
  | some t => kn.filter fun q => !q.1.beq t
  | none => kn
def guardD (ops : Array Oper) (o : Oper) (S : St) (kn : List (Nat × Bool)) (exec skip : List (Nat × Bool) → Tr Lg) : Tr Lg :=
  match o.guard with
  | none => exec kn
  | some (j, want) =>
    match (ops[j]?).bind (·.dst) with
    | none => .fail
    | some t => match slotLeaf (S.d t) with
      | .d (.fz _) .b c => match knows t kn with
        | some c' => bif c' then (bif want then exec kn else skip kn) else (bif want then skip kn else exec kn)
        | none => .br c (bif want then exec ((t, true) :: kn) else skip ((t, true) :: kn)) (bif want then skip ((t, false) :: kn) else exec ((t, false) :: kn))
      | .k c => bif c then (bif want then exec kn else skip kn) else (bif want then skip kn else exec kn)
      | .ud => skip kn
      | _ => .fail
def evOpsD (C : Ctx) (B : List Nat) (ops : Array Oper) : List Nat → St → List (Nat × Bool) → List Id → List Log → Tr Lg
  | [], S, _, ids, _ => .leaf ⟨S, ids⟩
  | i :: rest, S, kn, ids, lg =>
    match ops[i]? with
    | none => .fail
    | some o => guardD ops o S kn
      (fun kn => ((evOp C o).runL (refine S kn) (guardR ops o)).bind fun r =>
        let x : Log := ⟨i, r.2, dstL o ++ r.1.2.map fun q => .o q.1⟩
        bif logOk B x lg then evOpsD C B ops rest (S.put o.dst r.1) (unknow o.dst kn) (ids ++ r.1.2.map (·.1)) (x :: lg) else .fail)
      (fun kn =>
        let x : Log := ⟨i, guardR ops o, dstL o⟩
        bif logOk B x lg then evOpsD C B ops rest (skipS o S) (unknow o.dst kn) ids (x :: lg) else .fail)
/-- edges go back -/
def backE (ops : Array Oper) : Bool := ops.toList.zipIdx.all fun (o, i) => o.after.toList.all fun e => Nat.blt e.on i

def backA (ops : Array Oper) : Bool := ops.toList.zipIdx.all fun (o, i) => o.after.toList.all fun e => !Region.binds .any e || Nat.blt e.on i
/-- the edges that bind go back -/
def backC (P : Program) (ops : Array Oper) : Bool := backE ops || (P.follows .mixedOrders && backA ops)

/-! ### ways that come together again -/
def mergeF (c : Bool) : Bool → Bool → Bool
  | true, true => true
  | false, false => false
  | f, g => bif c then f else g
def mergeL (c : Bool) (a b : L) : L :=
  match a, b with
  | .d (.fz f) sh v, .d (.fz g) _sh' v' => match castV (c := sh) v' with
    | some v' => .d (.fz (mergeF c f g)) sh (bif c then v else v')
    | none => bif c then a else b
  | .k u, .k v => .d (.fz true) .b (bif c then u else v)
  | .k u, .d (.fz true) .b v => .d (.fz true) .b (bif c then u else v)
  | .d (.fz true) .b u, .k v => .d (.fz true) .b (bif c then u else v)
  | .nl, .nl => .nl
  | .np, .np => .np
  | .nm, .nm => .nm
  | .ud, .ud => .ud
  | .rw o, .rw o' => bif o.eqb o' then .rw o else (bif c then a else b)
  | .pv o j, .pv o' j' => bif o.eqb o' && j.beq j' then .pv o j else (bif c then a else b)
  | .mp o, .mp o' => bif o.eqb o' then .mp o else (bif c then a else b)
  | a, b => bif c then a else b
def mergeLs (c : Bool) : List L → List L → Option (List L)
  | [], [] => some []
  | a :: as, b :: bs => match mergeLs c as bs with | some r => some (mergeL c a b :: r) | none => none
  | _, _ => none
def mergePt (c : Bool) (a b : Pt) : Pt :=
  match a, b with
  | .one x, .one y => .one (mergeL c x y)
  | .agg as, .agg bs => match mergeLs c as bs with
    | some ls => .agg ls
    | none => bif c then a else b
  | _, _ => bif c then a else b
def mergePts (c : Bool) : List Pt → List Pt → Option (List Pt)
  | [], [] => some []
  | a :: as, b :: bs => match mergePts c as bs with | some r => some (mergePt c a b :: r) | none => none
  | _, _ => none
def mergeD (c : Bool) (a b : D) : D :=
  match a, b with
  | .p x, .p y => .p (mergePt c x y)
  | .tup as, .tup bs => match mergePts c as bs with
    | some xs => .tup xs
    | none => bif c then a else b
  | _, _ => bif c then a else b
structure Mg where
  g : Option Bool
  ds : List D
def mergeG (c : Bool) : Option Bool → Option Bool → Option Bool
  | none, none => none
  | a, b => some (bif c then a.getD true else b.getD true)
/-- the slots of a region, all ways in one; none: a way writes what was there before -/
def collapse (dsts : List Nat) : Tr Lg → Option (Option Mg)
  | .leaf x => bif x.ids.all (fun y => Nat.blt y.j 4 && dsts.any fun t => y.t.beq (t + 2)) then some (some ⟨none, dsts.map x.S.d⟩) else none
  | .fail => some none
  | .br c a b => match collapse dsts a, collapse dsts b with
    | some (some x), some (some y) => some (some ⟨mergeG c x.g y.g, x.ds.zipWith (mergeD c) y.ds⟩)
    | some (some x), some none => some (some ⟨some (c && x.g.getD true), x.ds⟩)
    | some none, some (some y) => some (some ⟨some (!c && y.g.getD true), y.ds⟩)
    | some none, some none => some none
    | _, _ => none
  | .any _ _ => none
def dstsOf (ops : Array Oper) : List Nat := ops.toList.filterMap (·.dst)
def setDs (S : St) : List Nat → List D → St
  | t :: ts, d :: ds => setDs (S.setD t d) ts ds
  | _, _ => S
/-- objects that were made within a region are gone behind it -/
def goneB (S : St) : List Nat → St
  | [] => S
  | t :: ts => goneB { S with hp := padSet ([.gone, .gone, .gone, .gone] ++ (S.hp.getD (t + 2) []).drop 4) [] S.hp (t + 2) } ts
def isBr {α : Type} : Tr α → Bool
  | .br .. => true
  | _ => false
/-- is there more than one way? -/
def forks {α : Type} : Tr α → Bool
  | .br _ a b => (forks' a && forks' b) || forks a || forks b
  | .any _ _ => true
  | _ => false
where
  forks' {α : Type} : Tr α → Bool
    | .fail => false
    | _ => true
noncomputable def regionK (ρ : Type) (mg : Bool) (dsts : List Nat) (S : St) (t : Tr Lg) (K : St → Option ρ) : Option ρ :=
  if mg && forks t then
    match collapse dsts t with
    | some (some m) =>
      let S' := setDs (goneB S dsts) dsts m.ds
      match m.g with
      | none => K S'
      | some g => bif g then K S' else none
    | _ => t.walk fun x => K x.S
  else t.walk fun x => K x.S

/-! ### names anew -/
def rnId (order : List Id) (x : Id) : Option Id :=
  match x.t with
  | 0 => some x
  | _ => (idxOf x order 0).map fun k => ⟨1, k⟩
def rnCps (order : List Id) : List Cp → Option (List Cp)
  | [] => some []
  | .b o :: cs => match rnId order o, rnCps order cs with
    | some o, some cs => some (.b o :: cs)
    | _, _ => none
  | c :: cs => match rnCps order cs with
    | some cs => some (c :: cs)
    | none => none
def verOf : Ob → Option Nat
  | .ro _ v _ _ _ _ _ => some v
  | .fz _ v _ _ => some v
  | _ => none
def onEq : Option Nat → Nat → Bool
  | some a, b => a.beq b
  | none, _ => false
def rnL (S : St) (order : List Id) (l : L) : L :=
  match l with
  | .rw o => match rnId order o with | some o => .rw o | none => .un 1
  | .sl o off n => match rnId order o with | some o => .sl o off n | none => .un 1
  | .pe o i j => match rnId order o with | some o => .pe o i j | none => .un 1
  | .pv o j => match rnId order o with | some o => .pv o j | none => .un 1
  | .px o j q sh i c => match rnId order o with | some o => .px o j q sh i c | none => .un 1
  | .mp o => match rnId order o with | some o => .mp o | none => .un 1
  | .d (.bw o ver) sh v => match rnId order o with
    | some o' => bif onEq (verOf (S.o o)) ver then .d (.bw o' 0) sh v else .un sh.sz
    | none => .un sh.sz
  | .fn g cs => match rnCps order cs with | some cs => .fn g cs | none => .un 1
  | .k c => .d (.fz true) .b c
  | l => l
def rnPt (S : St) (order : List Id) : Pt → Pt
  | .one l => .one (rnL S order l)
  | .agg ls => .agg (ls.map (rnL S order))
def rnD (S : St) (order : List Id) : D → D
  | .p x => .p (rnPt S order x)
  | .tup xs => .tup (xs.map (rnPt S order))
def rnO (S : St) (order : List Id) : Ob → Ob
  | .va ls => .va (ls.map (rnL S order))
  | .ro f _ e sh ow v none => .ro f 0 e sh ow v none
  | .ro f _ e sh ow v (some c) => .ro f 0 e sh ow v (some ⟨c.i, c.ls.map (rnL S order)⟩)
  | .fz f _ sh v => .fz f 0 sh v
  | ob => ob
def rnEnv (S : St) (order : List Id) (lv : List Nat) : Nat → List D → List D
  | _, [] => []
  | t, d :: env => (if lv.any (·.beq t) then rnD S order d else dead) :: rnEnv S order lv (t + 1) env
def rename (S : St) (order : List Id) (lv : List Nat) : St :=
  ⟨rnEnv S order lv 0 S.env, [(S.hp.getD 0 []).map (rnO S order), order.map fun x => rnO S order (S.o x)]⟩

/-- the objects that leaves lead to, in their order -/
def idsPt : Pt → List Id
  | .one l => idsL l
  | .agg ls => ls.flatMap idsL
def idsD : D → List Id
  | .p x => idsPt x
  | .tup xs => xs.flatMap idsPt
def idsO : Ob → List Id
  | .va ls => ls.flatMap idsL
  | .ro _ _ _ _ _ _ (some c) => c.ls.flatMap idsL
  | _ => []
def isGone : Ob → Bool
  | .gone | .no => true
  | _ => false
/-- what can be come to, breadth first -/
def close (S : St) : Nat → List Id → List Id → List Id
  | 0, _, acc => acc
  | _, [], acc => acc
  | n + 1, x :: q, acc =>
    bif memId x acc || isGone (S.o x) then close S n q acc
    else bif x.t.beq 0 then close S n q acc
    else close S n (q ++ idsO (S.o x)) (acc ++ [x])
def norm (lv : List Nat) (S : St) : St :=
  rename S (close S 200 (lv.flatMap (fun t => idsD (S.d t)) ++ (S.hp.getD 0 []).flatMap idsO) []) lv

/-- nil becomes an empty row of our own; what is laid open in a variable is shut; the first part of a row becomes the row -/
structure Co where
  s : Nat
  j : Option Nat
  e : TypeId
  ow : Ow
def coId (c : Co) : Id := ⟨c.s + 2, 4 + c.j.getD 0⟩
def coRow (C : Ctx0) (c : Co) (S : St) : Option St :=
  match shOf C 20 c.e with
  | some sh => match S.o (coId c) with
    | .no => some (S.setO (coId c) (.ro (flatO sh c.ow) 0 c.e sh c.ow [] none))
    | _ => none
  | none => none
/-- a row becomes data for good -/
def frzO (S : St) (l : L) : St :=
  match l with
  | .rw o => match S.o o with
    | .ro f ver _ sh _ v none => S.setO o (.fz f ver sh v)
    | _ => S
  | _ => S
def frzL (S : St) (l : L) : L :=
  match l with
  | .rw o => match S.o o with
    | .fz f _ sh v => .d (.fz f) (.l sh) v
    | _ => .rw o
  | l => l
def frzPt (S : St) : Pt → Pt
  | .one l => .one (frzL S l)
  | .agg ls => .agg (ls.map (frzL S))
def frzD (S : St) : D → D
  | .p x => .p (frzPt S x)
  | .tup xs => .tup (xs.map (frzPt S))
def frzOs : List L → St → St
  | [], S => S
  | l :: ls, S => frzOs ls (frzO S l)
/-- the rows that a slot leads to, or the variable that it points to, become data for good (a coercion with j = 1000) -/
def frzS (s : Nat) (S : St) : St :=
  match slotLeaf (S.d s) with
  | .pv o 0 => match S.o o with
    | .va ls => let S' := frzOs ls S; match S'.o o with
      | .va ls' => S'.setO o (.va (ls'.map (frzL S')))
      | _ => S'
    | _ => S
  | _ => let S' := frzOs (lsAll (S.d s)) S; S'.setD s (frzD S' (S'.d s))
def coerce1 (C : Ctx0) (c : Co) (S : St) : St :=
  match c.j with
  | none => match slotLeaf (S.d c.s) with
    | .nl => match coRow C c S with
      | some S' => S'.setD c.s (one (.rw (coId c)))
      | none => S
    | .pv o 0 => (shutN 8 [o] ⟨S, []⟩).S
    | .sl o 0 k => match S.o o, S.o (coId c) with
      | .ro f _ e sh .z v none, .no => ((S.setO o .gone).setO (coId c) (.ro f 0 e sh .z (v.take k) none)).setD c.s (one (.rw (coId c)))
      | _, _ => S
    | _ => S
  | some j => bif j.beq 1000 then frzS c.s S else match slotLeaf (S.d c.s) with
    | .pv o 0 => match S.o o with
      | .va ls => match dropC ls j with
        | some (.nl :: _) => match coRow C c S, setC ls j [.rw (coId c)] with
          | some S', some ls' => S'.setO o (.va ls')
          | _, _ => S
        | _ => S
      | _ => S
    | _ => S
def coerce (C : Ctx0) : List Co → St → St
  | [], S => S
  | c :: cs, S => coerce C cs (coerce1 C c S)

/-! ### code -/
inductive Ex1 where
  | normal | exit (id : Nat) | ret

def firstId : Code → Nat
  | .region id _ _ => id
  | .seq a _ => firstId a
  | .block _ a | .loop a => firstId a
  | _ => 0
/-- what we say of a function's code: at the heads of loops what is live, and which rows are our own; which regions aren't to be told in one -/
structure Hn where
  lv : Nat → List Nat
  co : Nat → List Co
  sp : Nat → Bool

/-- rounds of a loop, from a state at its head -/
noncomputable def evLoop (ρ : Type) (body : St → (Ex1 → St → Option ρ) → Option ρ) (fg : St → St) (K : Ex1 → St → Option ρ) : Nat → St → Option ρ
  | 0, _ => none
  | m + 1, S => body S fun e S' => match e with
    | .normal => evLoop ρ body fg K m (fg S')
    | e => K e S'

/-- code behind which nothing comes again: told once, from a state in which only what is live is left (if 'lv' says so) -/
noncomputable def cutN (ρ : Type) (body : St → (Ex1 → St → Option ρ) → Option ρ) (K : Ex1 → St → Option ρ) : Nat → St → Option ρ
  | 0, _ => none
  | _ + 1, S => body S K
noncomputable def evCut (C : Ctx0) (ρ : Type) (lv : List Nat) (co : List Co) (body : St → (Ex1 → St → Option ρ) → Option ρ) (K : Ex1 → St → Option ρ) (n : Nat) (S : St) : Option ρ :=
  match lv with
  | [] => body S K
  | t :: lv => cutN ρ body K n (norm (t :: lv) (coerce C co S))

noncomputable def ev (C : Ctx) (h : Hn) (n : Nat) (ρ : Type) : Code → St → (Ex1 → St → Option ρ) → Option ρ
  | .skip, S, K => K .normal S
  | .region id ops draw, S, K =>
    regionK ρ (!h.sp id) (dstsOf ops) S (bif draw then (bif backC C.P ops then evOpsD C (bef ops.toList []) ops (List.range ops.size) S [] [] [] else .fail) else evOps C ops (List.range ops.size) S []) (K .normal)
  | .seq a b, S, K => ev C h n ρ a S fun e S => match e with
    | .normal => evCut C.toCtx0 ρ (h.lv (firstId b + 10000)) (h.co (firstId b + 10000)) (fun S K => ev C h n ρ b S K) K n S
    | e => K e S
  | .cond c a b, S, K => ((opL c).run S).walk fun l => match l with
    | .k c => bif c then ev C h n ρ a S K else ev C h n ρ b S K
    | .d (.fz _) .b c => bif c then ev C h n ρ a S K else ev C h n ρ b S K
    | _ => none
  | .block id a, S, K => ev C h n ρ a S fun e S => match e with
    | .exit i => bif i.beq id then K .normal S else K (.exit i) S
    | e => K e S
  | .loop a, S, K => evLoop ρ (fun S K => ev C h n ρ a S K) (fun S => norm (h.lv (firstId a)) (coerce C.toCtx0 (h.co (firstId a)) S)) K n (norm (h.lv (firstId a)) (coerce C.toCtx0 (h.co (firstId a)) S))
  | .exit id, S, K => K (.exit id) S
  | .ret, S, K => K .ret S
  | _, _, _ => none

/-! ### a function's results -/
def retPt (C : Ctx0) (S : St) : ResultVar → Option Pt
  | .tmp t => match S.d t with
    | .p x => some x
    | _ => none
  | .cell a t => match slotLeaf (S.d a), aggSz C.P t with
    | .pv o 0, some m => match S.o o with
      | .va ls => match m with
        | none => match ls with
          | [l] => bif l.wd.beq 1 then some (.one l) else none
          | _ => none
        | some q => bif (wds ls).beq q then some (.agg ls) else none
      | _ => none
    | _, _ => none
def retPts (C : Ctx0) (S : St) : List ResultVar → Option (List Pt)
  | [] => some []
  | r :: rs => match retPt C S r, retPts C S rs with
    | some x, some xs => some (x :: xs)
    | _, _ => none
/-- nil as data -/
def nilL (shs : Option Sh) (l : L) : L :=
  match l, shs with
  | .nl, some (.l a) => .d (.fz true) (.l a) []
  | l, _ => l
def nilLs : List (Option Sh) → List L → List L
  | _, [] => []
  | shs, l :: ls => nilL (shs.head?.bind id) l :: nilLs shs.tail ls
def nilPt (C : Ctx0) (t : TypeId) : Pt → Pt
  | .one l => .one (nilL (shOf C 20 t) l)
  | .agg ls => .agg (nilLs (leafSh C 20 t) ls)
def nilPts (C : Ctx0) : List TypeId → List Pt → List Pt
  | _, [] => []
  | ts, x :: xs => nilPt C (ts.headD 0) x :: nilPts C ts.tail xs
def cleanL : L → Bool
  | .d (.bw _ _) _ _ | .un _ | .ud => false
  | _ => true
def retK (C : Ctx0) (co : List Co) (ts : List TypeId) (rs : List ResultVar) (S : St) : Option Lf :=
  let S := coerce C co S
  match retPts C S rs with
  | some xs =>
    let xs := nilPts C ts xs
    let order := close S 200 (xs.flatMap idsPt ++ (S.hp.getD 0 []).flatMap idsO) []
    let S' := rename S order []
    some ⟨xs.map (rnPt S order), S'.hp.getD 0 [], S'.hp.getD 1 []⟩
  | none => none
noncomputable def evF (C : Ctx) (h : Hn) (n : Nat) (f : Func) (ds : List D) (os : List Ob) : Option Lf :=
  match f.body with
  | some c => ev C h n Lf c ⟨ds ++ List.replicate (f.ntmps - ds.length) dead, [os]⟩ fun e S => match e with
    | .ret => retK C.toCtx0 (h.co 1000000) f.resultTypes.toList f.results.toList S
    | .normal => retK C.toCtx0 (h.co 1000000) f.resultTypes.toList f.results.toList S
    | _ => none
  | none => none
end Go.En
end
section
/-
  The engine, part D: what it means that slots and objects stand for what the machine's temporaries and memory hold.
-/
namespace Go.En
open Go

/-- Data: a typed value, and the cells that hold it; what it leads to lies in blocks of K. -/
inductive Ro (E : Ctx0) (w : World) (K : Nat → Prop) : (sh : Sh) → Val sh → List Value → Prop where
  | i {k : IntKind} {n : Int} : Ro E w K (.i k) n [.int k n]
  | b {c : Bool} : Ro E w K .b c [.bool c]
  | s {x : ByteArray} : Ro E w K .s x [.string x]
  | enil : Ro E w K .e Er.nil [.nilIface]
  | eno {n : Int} : Ro E w K .e (Er.no n) [.iface E.noT (.int .i64 n)]
  | eat {pos : Int} {e : Er} {b o : Nat} {x : Value} : K b → Ro E w K .e e [x] → w.cell? ⟨b, o, none⟩ = some (.int .i64 pos) → w.cell? ⟨b, o + 1, none⟩ = some x →
      Ro E w K .e (Er.at pos e) [.iface E.atT (.pointer (some ⟨b, o, none⟩))]
  | u : Ro E w K .u () []
  | p {a c : Sh} {x : Val a} {y : Val c} {cs ds : List Value} : Ro E w K a x cs → Ro E w K c y ds → Ro E w K (.p a c) (x, y) (cs ++ ds)
  | l0 {a : Sh} {ad : Option Addr} {c : Nat} : Ro E w K (.l a) [] [.slice ad 0 c]
  | l {a : Sh} {v : List (Val a)} {b o n c : Nat} (css : Nat → List Value) (hn : n = v.length) (hK : K b) (hc : n ≤ c)
      (he : ∀ i (h : i < v.length), Ro E w K a v[i] (css i))
      (hw : ∀ i j x, i < v.length → (css i)[j]? = some x → w.cell? ⟨b, o + (i * a.sz + j), none⟩ = some x) :
      Ro E w K (.l a) v [.slice (some ⟨b, o, none⟩) n c]
  | v0 {a : Sh} : Ro E w K (.v 0 a) [] []
  | vs {q : Nat} {a : Sh} {x : Val a} {xs : List (Val a)} {cs ds : List Value} : Ro E w K a x cs → Ro E w K (.v q a) xs ds → Ro E w K (.v (q + 1) a) (x :: xs) (cs ++ ds)
  | r {a : Sh} {v : Val a} {b o : Nat} {cs : List Value} (hK : K b) (h : Ro E w K a v cs)
      (hw : ∀ j x, cs[j]? = some x → w.cell? ⟨b, o + j, none⟩ = some x) : Ro E w K (.r a) v [.pointer (some ⟨b, o, none⟩)]
  | o0 {a : Sh} : Ro E w K (.o a) none [.pointer none]
  | o1 {a : Sh} {v : Val a} {b o : Nat} {cs : List Value} (hK : K b) (h : Ro E w K a v cs)
      (hw : ∀ j x, cs[j]? = some x → w.cell? ⟨b, o + j, none⟩ = some x) : Ro E w K (.o a) (some v) [.pointer (some ⟨b, o, none⟩)]
  | n {k : Nat} {x : NT k} {cs : List Value} : Ro E w K (nbody k) (nout k x) cs → Ro E w K (.n k) x cs

theorem cell_of_heap {w w' : World} {a : Addr} (h : w'.heap[a.block]? = w.heap[a.block]?) : w'.cell? a = w.cell? a := by simp [World.cell?, h]

theorem Ro.mono {E : Ctx0} {w w' : World} {K K' : Nat → Prop} (hK : ∀ b, K b → K' b) (hw : ∀ b, K b → w'.heap[b]? = w.heap[b]?) :
    ∀ {sh : Sh} {v : Val sh} {cs : List Value}, Ro E w K sh v cs → Ro E w' K' sh v cs := by
  intro sh v cs h
  induction h with
  | i => exact .i
  | b => exact .b
  | s => exact .s
  | enil => exact .enil
  | eno => exact .eno
  | eat hk _ h1 h2 ih => exact .eat (hK _ hk) ih ((cell_of_heap (hw _ hk)).trans h1) ((cell_of_heap (hw _ hk)).trans h2)
  | u => exact .u
  | p _ _ ih1 ih2 => exact .p ih1 ih2
  | l0 => exact .l0
  | l css hn hk hc _ hcell ih => exact .l css hn (hK _ hk) hc ih (fun i j x hi hj => (cell_of_heap (hw _ hk)).trans (hcell i j x hi hj))
  | v0 => exact .v0
  | vs _ _ ih1 ih2 => exact .vs ih1 ih2
  | r hk _ hcell ih => exact .r (hK _ hk) ih (fun j x hj => (cell_of_heap (hw _ hk)).trans (hcell j x hj))
  | o0 => exact .o0
  | o1 hk _ hcell ih => exact .o1 (hK _ hk) ih (fun j x hj => (cell_of_heap (hw _ hk)).trans (hcell j x hj))
  | n _ ih => exact .n ih

theorem nsz_body (k : Nat) : (nbody k).sz = nsz k := by
  cases k <;> rfl

theorem Ro.length {E : Ctx0} {w : World} {K : Nat → Prop} {sh : Sh} {v : Val sh} {cs : List Value} (h : Ro E w K sh v cs) : cs.length = sh.sz := by
  induction h with
  | p _ _ ih1 ih2 => simp [Sh.sz, ih1, ih2]
  | v0 => simp [Sh.sz]
  | vs _ _ ih1 ih2 => simp only [Sh.sz, List.length_append] at *; rw [ih1, ih2, Nat.add_mul, Nat.one_mul, Nat.add_comm]
  | n _ ih => rw [ih]; exact nsz_body _
  | _ => rfl

theorem Ro.one {E : Ctx0} {w : World} {K : Nat → Prop} {sh : Sh} {v : Val sh} {cs : List Value} (h : Ro E w K sh v cs) : ∀ x ∈ cs, x.oneCell' = true := by
  induction h with
  | p _ _ ih1 ih2 => intro x hx; exact (List.mem_append.1 hx).elim (ih1 x) (ih2 x)
  | vs _ _ ih1 ih2 => intro x hx; exact (List.mem_append.1 hx).elim (ih1 x) (ih2 x)
  | u => intro x hx; cases hx
  | v0 => intro x hx; cases hx
  | n _ ih => exact ih
  | _ => intro x hx; rw [List.mem_singleton] at hx; subst hx; rfl

/-- A row in a block of its own. -/
def Row (w : World) (e : TypeId) (z n : Nat) (x : Value) (F : List Nat) (El : Nat → List Value → List Nat → Prop) : Prop :=
  (x = .slice none 0 0 ∧ n = 0 ∧ F = []) ∨
  ∃ (b c : Nat) (cur : Array Value) (css : Nat → List Value) (Fs : Nat → List Nat), x = .slice (some ⟨b, 0, none⟩) n c ∧ w.heap[b]? = some (.cells cur e (0, 0)) ∧ (n ≤ c ∧ c ≤ maxLen) ∧ cur.size = c * z ∧
    F = b :: (List.range n).flatMap Fs ∧ ∀ i, i < n → El i (css i) (Fs i) ∧ (css i).length = z ∧ ∀ j y, (css i)[j]? = some y → cur[i * z + j]? = some y

/-- An element of a row of ours: slices in it may be our own. -/
def Tv (E : Ctx0) (w : World) (K : Nat → Prop) : (sh : Sh) → Ow → Val sh → List Value → List Nat → Prop
  | .l a, .l e o, v, cs, F => ∃ x, cs = [x] ∧ Row w e a.sz v.length x F (fun i cs F => Tv E w K a o (v.getD i a.zero) cs F)
  | .p a c, .p oa oc, v, cs, F => ∃ c1 c2 F1 F2, cs = c1 ++ c2 ∧ F = F1 ++ F2 ∧ Tv E w K a oa v.1 c1 F1 ∧ Tv E w K c oc v.2 c2 F2
  | sh, .z, v, cs, F => Ro E w K sh v cs ∧ F = []
  | _, _, _, _, _ => False

theorem Row.mono {w w' : World} {e : TypeId} {z n : Nat} {x : Value} {F : List Nat} {El El' : Nat → List Value → List Nat → Prop} (h : Row w e z n x F El) (hw : ∀ b, b ∈ F → w'.heap[b]? = w.heap[b]?)
    (hel : ∀ i cs G, i < n → (∀ b, b ∈ G → b ∈ F) → El i cs G → El' i cs G) : Row w' e z n x F El' := by
  rcases h with h | ⟨b, c, cur, css, Fs, h1, h2, h3, h4, h5, h6⟩
  · exact .inl h
  · refine .inr ⟨b, c, cur, css, Fs, h1, ?_, h3, h4, h5, fun i hi => ?_⟩
    · rw [hw b (by rw [h5]; exact List.mem_cons_self ..)]; exact h2
    · obtain ⟨h7, h8, h9⟩ := h6 i hi
      exact ⟨hel i _ _ hi (fun b hb => by rw [h5]; exact List.mem_cons_of_mem _ (List.mem_flatMap.2 ⟨i, List.mem_range.2 hi, hb⟩)) h7, h8, h9⟩

theorem Tv.z_iff {E : Ctx0} {w : World} {K : Nat → Prop} {sh : Sh} {v : Val sh} {cs : List Value} {F : List Nat} : Tv E w K sh .z v cs F ↔ Ro E w K sh v cs ∧ F = [] := by
  cases sh <;> rfl

theorem Tv.mono {E : Ctx0} {w w' : World} {K K' : Nat → Prop} (hK : ∀ b, K b → K' b) (hk : ∀ b, K b → w'.heap[b]? = w.heap[b]?) :
    ∀ {ow : Ow} {sh : Sh} {v : Val sh} {cs : List Value} {F : List Nat}, (∀ b, b ∈ F → w'.heap[b]? = w.heap[b]?) → Tv E w K sh ow v cs F → Tv E w' K' sh ow v cs F := by
  intro ow
  induction ow with
  | z => intro sh v cs F _ h; rw [Tv.z_iff] at h ⊢; exact ⟨h.1.mono hK hk, h.2⟩
  | l e o ih =>
    intro sh v cs F hw h
    cases sh with
    | l a =>
      obtain ⟨x, h1, h2⟩ := h
      exact ⟨x, h1, h2.mono hw (fun i cs G _ hG hel => ih (fun b hb => hw b (hG b hb)) hel)⟩
    | _ => exact h.elim
  | p oa oc ih1 ih2 =>
    intro sh v cs F hw h
    cases sh with
    | p a c =>
      obtain ⟨c1, c2, F1, F2, h1, h2, h3, h4⟩ := h
      exact ⟨c1, c2, F1, F2, h1, h2, ih1 (fun b hb => hw b (by rw [h2]; exact List.mem_append_left _ hb)) h3, ih2 (fun b hb => hw b (by rw [h2]; exact List.mem_append_right _ hb)) h4⟩
    | _ => exact h.elim

theorem Tv.length {E : Ctx0} {w : World} {K : Nat → Prop} : ∀ {ow : Ow} {sh : Sh} {v : Val sh} {cs : List Value} {F : List Nat}, Tv E w K sh ow v cs F → cs.length = sh.sz := by
  intro ow
  induction ow with
  | z => intro sh v cs F h; rw [Tv.z_iff] at h; exact h.1.length
  | l e o ih =>
    intro sh v cs F h
    cases sh with
    | l a => obtain ⟨x, h1, _⟩ := h; rw [h1]; rfl
    | _ => exact h.elim
  | p oa oc ih1 ih2 =>
    intro sh v cs F h
    cases sh with
    | p a c =>
      obtain ⟨c1, c2, F1, F2, h1, _, h3, h4⟩ := h
      rw [h1, List.length_append, ih1 h3, ih2 h4]; rfl
    | _ => exact h.elim

/-- what slots and objects are -/
structure Sg where
  n : Nat
  d : Nat → D
  o : Id → Ob
def St.sg (S : St) : Sg := ⟨S.env.length, S.d, S.o⟩
/-- what objects are in the machine: the value by which one comes to it, its blocks -/
structure Gh where
  hd : Id → Value
  fp : Id → List Nat

def isVa : Ob → Bool
  | .va _ => true
  | _ => false
def isMa : Ob → Bool
  | .ma .. => true
  | _ => false
/-- does the frozen data of a row lead nowhere that we were lent? -/
def flOf : Ob → Bool
  | .ro f _ _ _ _ _ _ => f
  | .fz f _ _ _ => f
  | _ => false
/-- how long a row is, and its elements' cells -/
def rowSz : Ob → Option (Nat × Nat)
  | .ro _ _ _ sh _ v _ => some (v.length, sh.sz)
  | .fz _ _ sh v => some (v.length, sh.sz)
  | _ => none
/-- does a value lead to a part of a row? -/
def SlR (x : Value) (z off n : Nat) (y : Value) : Prop :=
  ∃ ad m c, x = .slice ad m c ∧ off + n ≤ m ∧ ∃ ad' c', y = .slice ad' n c' ∧ n ≤ c' ∧ (0 < n → ∃ b o, ad = some ⟨b, o, none⟩ ∧ ad' = some ⟨b, o + off * z, none⟩) ∧ (off = 0 → ad' = ad ∧ c' = c)

def CpR (E : Ctx0) (w : World) (K : Bool → Nat → Prop) (so : Id → Ob) (γ : Gh) : Cp → Value → Prop
  | .b o, x => (so o ≠ .no ∧ x.oneCell' = true) ∧ (isVa (so o) = true → x = γ.hd o)
  | .np, x => x = .pointer none
  | .d f sh v, x => Ro E w (K f) sh v [x]
def CpsR (E : Ctx0) (w : World) (K : Bool → Nat → Prop) (so : Id → Ob) (γ : Gh) : List Cp → List Value → Prop
  | [], [] => True
  | c :: cs, x :: xs => CpR E w K so γ c x ∧ CpsR E w K so γ cs xs
  | _, _ => False

def LR (E : Ctx0) (w : World) (K : Bool → Nat → Prop) (so : Id → Ob) (γ : Gh) : L → List Value → Prop
  | .un n, cs => cs.length = n
  | .ud, cs => cs = [undef]
  | .k c, cs => cs = [.bool c]
  | .nl, cs => cs = [.slice none 0 0]
  | .np, cs => cs = [.pointer none]
  | .nm, cs => cs = [.map none]
  | .d (.fz f) sh v, cs => Ro E w (K f) sh v cs
  | .d (.bw o ver) sh v, cs => cs.length = sh.sz ∧ (so o ≠ .no ∧ ∀ x ∈ cs, x.oneCell' = true) ∧ (∀ v', verOf (so o) = some v' → ver ≤ v') ∧ (verOf (so o) = some ver → Ro E w (fun b => b ∈ γ.fp o ∨ K (flOf (so o)) b) sh v cs)
  | .rw o, cs => ∃ x, cs = [x] ∧ (so o ≠ .no ∧ x.oneCell' = true) ∧ ((rowSz (so o)).isSome = true → x = γ.hd o)
  | .sl o off n, cs => ∃ x, cs = [x] ∧ (so o ≠ .no ∧ x.oneCell' = true) ∧ ∀ m z, rowSz (so o) = some (m, z) → SlR (γ.hd o) z off n x
  | .pe o i j, cs => ∃ x, cs = [x] ∧ (so o ≠ .no ∧ x.oneCell' = true) ∧ ∀ m z, rowSz (so o) = some (m, z) → i < m ∧ ∃ b p c, γ.hd o = .slice (some ⟨b, p, none⟩) m c ∧ x = .pointer (some ⟨b, p + (i * z + j), none⟩)
  | .pv o j, cs => ∃ x, cs = [x] ∧ (so o ≠ .no ∧ x.oneCell' = true) ∧ (isVa (so o) = true → ∃ b, γ.hd o = .pointer (some ⟨b, 0, none⟩) ∧ x = .pointer (some ⟨b, j, none⟩))
  | .px o j q sh i c, cs => ∃ x, cs = [x] ∧ (so o ≠ .no ∧ x.oneCell' = true) ∧ i < q ∧ (isVa (so o) = true → ∃ b, γ.hd o = .pointer (some ⟨b, 0, none⟩) ∧ x = .pointer (some ⟨b, j + (i * sh.sz + c), none⟩))
  | .mp o, cs => ∃ x, cs = [x] ∧ (so o ≠ .no ∧ x.oneCell' = true) ∧ (isMa (so o) = true → x = γ.hd o)
  | .fn g caps, cs => ∃ vs : Array Value, cs = [.func (.func g) #[] vs] ∧ CpsR E w K so γ caps vs.toList
def LRs (E : Ctx0) (w : World) (K : Bool → Nat → Prop) (so : Id → Ob) (γ : Gh) : List L → List Value → Prop
  | [], cs => cs = []
  | l :: ls, cs => ∃ c1 c2, cs = c1 ++ c2 ∧ LR E w K so γ l c1 ∧ LRs E w K so γ ls c2
def PtR (E : Ctx0) (w : World) (K : Bool → Nat → Prop) (so : Id → Ob) (γ : Gh) : Pt → Value → Prop
  | .one l, x => LR E w K so γ l [x]
  | .agg ls, x => ∃ cs : Array Value, x = .agg cs ∧ LRs E w K so γ ls cs.toList
def PtsR (E : Ctx0) (w : World) (K : Bool → Nat → Prop) (so : Id → Ob) (γ : Gh) : List Pt → List Value → Prop
  | [], xs => xs = []
  | p :: ps, xs => ∃ y ys, xs = y :: ys ∧ PtR E w K so γ p y ∧ PtsR E w K so γ ps ys
def DR (E : Ctx0) (w : World) (K : Bool → Nat → Prop) (so : Id → Ob) (γ : Gh) : D → Value → Prop
  | .p x, y => PtR E w K so γ x y
  | .tup xs, y => ∃ vs : Array Value, y = .tuple vs ∧ PtsR E w K so γ xs vs.toList

/-- the cells of a value of a type -/
def valOf (sz : Option Nat) (cs : List Value) (x : Value) : Prop :=
  match sz with
  | none => cs = [x]
  | some _ => x = .agg cs.toArray
def cellsV (x : Value) : List Value := x.cells.toList
/-- a key, or an element, of a map: its value in the machine -/
def KV : (k : Sh) → Val k → Value → Prop
  | .i a, n, x => x = .int a n
  | .b, c, x => x = .bool c
  | .s, s, x => x = .string s
  | .p (.i a) (.p (.i c) .u), v, x => x = .agg #[.int a v.1, .int c v.2.1]
  | .v _ (.i a), l, x => ∃ n m : Int, l = [n, m] ∧ x = .agg #[.int a n, .int a m]
  | _, _, _ => False
def EntR (k a : Sh) : List (Val k × Val a) → List MapEntry → Prop
  | [], es => es = []
  | v :: vs, es => ∃ m ms, es = m :: ms ∧ KV k v.1 m.key ∧ KV a v.2 m.val ∧ EntR k a vs ms

def ElR (E : Ctx0) (w : World) (K : Bool → Nat → Prop) (so : Id → Ob) (γ : Gh) (f : Bool) (sh : Sh) (ow : Ow) (v : List (Val sh)) (fc : Option Fc) (i : Nat) (cs : List Value) (F : List Nat) : Prop :=
  match fc with
  | some c => if c.i = i then LRs E w K so γ c.ls cs ∧ F = [] else Tv E w (K f) sh ow (v.getD i sh.zero) cs F
  | none => Tv E w (K f) sh ow (v.getD i sh.zero) cs F
def ObR (E : Ctx0) (w : World) (K : Bool → Nat → Prop) (so : Id → Ob) (γ : Gh) : Ob → Value → List Nat → Prop
  | .no, _, F => F = []
  | .gone, _, F => F = []
  | .va ls, x, F => ∃ b cs T, x = .pointer (some ⟨b, 0, none⟩) ∧ w.heap[b]? = some (.cells cs T (0, 0)) ∧ LRs E w K so γ ls cs.toList ∧ F = [b]
  | .ro f _ e sh ow v fc, x, F => Row w e sh.sz v.length x F (ElR E w K so γ f sh ow v fc) ∧ ∀ c, fc = some c → c.i < v.length
  | .fz f _ sh v, x, F => Ro E w (K f) (.l sh) v [x] ∧ F = []
  | .ma k a v, x, F => ∃ b es clk, x = .map (some b) ∧ w.heap[b]? = some (.map es clk) ∧ EntR k a v es.toList ∧ F = [b]

def tmv (tm : Array Value) (t : Nat) : Value := tm.getD t undef
/-- the package-level variable that is read -/
def Gl (E : Ctx0) (w : World) : Prop := ∀ v, E.gc = some v → w.cell? ⟨0, 0, none⟩ = some v
/-- what we were lent: the blocks to write (true) and to read; the objects, and by which values one comes to them -/
structure Ml where
  b : Bool → Nat → Prop
  n : Nat
  ob : Nat → Ob
  H : Nat → Value
instance : CoeFun Ml (fun _ => Bool → Nat → Prop) := ⟨Ml.b⟩
/-- what is known of an object that we were lent is what it was -/
def LentOk (M : Ml) (j : Nat) (ob : Ob) (hd : Value) : Prop :=
  ob ≠ .no ∧ (∀ q, rowSz ob = some q → rowSz (M.ob j) = some q ∧ hd = M.H j) ∧ (isVa ob = true → isVa (M.ob j) = true ∧ hd = M.H j) ∧ (isMa ob = true → isMa (M.ob j) = true ∧ hd = M.H j)
/-- the other package-level variables that are read -/
def GxAt (E : Ctx0) (w : World) : Prop := ∀ p, p ∈ E.gx → p.1 < w.heap.size ∧ ∀ i v, p.2[i]? = some v → w.cell? ⟨p.1, i, none⟩ = some v
structure G0 (E : Ctx0) (M : Ml) (w0 : World) : Prop where
  c : E.gc ≠ none → Gl E w0 ∧ 0 < w0.heap.size ∧ ¬ M true 0
  x : GxAt E w0 ∧ ∀ p, p ∈ E.gx → ¬ M true p.1
/-- M true: the blocks that we were lent to write; M false: to read. -/
structure Rel (E : Ctx0) (w0 : World) (M : Ml) (K : Bool → Nat → Prop) (γ : Gh) (σ : Sg) (tm : Array Value) (w : World) : Prop where
  n : tm.size = σ.n
  sl : ∀ t, DR E w K σ.o γ (σ.d t) (tmv tm t)
  ob : ∀ o, ObR E w K σ.o γ (σ.o o) (γ.hd o) (γ.fp o)
  dj : ∀ o o' b, b ∈ γ.fp o → b ∈ γ.fp o' → o = o'
  nd : ∀ o, (γ.fp o).Nodup
  ow : ∀ o b, b ∈ γ.fp o → (w0.heap.size ≤ b ∨ M true b) ∧ b < w.heap.size ∧ ¬ K false b
  kb : ∀ f b, K f b → b < w.heap.size
  kk : ∀ b, K true b → K false b
  k1 : ∀ b, K true b → w0.heap.size ≤ b ∨ M true b
  k0 : ∀ b, K false b → w0.heap.size ≤ b ∨ M true b ∨ M false b
  sz : w0.heap.size ≤ w.heap.size
  fr : ∀ b, b < w0.heap.size → ¬ M true b → w.heap[b]? = w0.heap[b]?
  os : w.os = w0.os
  tape : w.tape = w0.tape
  output : w.output = w0.output
  g0 : G0 E M w0
  h0 : ∀ j, j < M.n → LentOk M j (σ.o ⟨0, j⟩) (γ.hd ⟨0, j⟩)

/-- Slots and objects are seen no better than before. -/
structure Ext (w w' : World) (K K' : Bool → Nat → Prop) (so so' : Id → Ob) (γ γ' : Gh) : Prop where
  kK : ∀ f b, K f b → K' f b
  kw : ∀ f b, K f b → w'.heap[b]? = w.heap[b]?
  no : ∀ o, so o ≠ .no → so' o ≠ .no
  row : ∀ o q, so o ≠ .no → rowSz (so' o) = some q → rowSz (so o) = some q ∧ γ'.hd o = γ.hd o
  va : ∀ o, so o ≠ .no → isVa (so' o) = true → isVa (so o) = true ∧ γ'.hd o = γ.hd o
  ma : ∀ o, so o ≠ .no → isMa (so' o) = true → isMa (so o) = true ∧ γ'.hd o = γ.hd o
  ver : ∀ o v, so o ≠ .no → verOf (so' o) = some v → ∃ v0, verOf (so o) = some v0 ∧ v0 ≤ v ∧ (v0 = v → flOf (so' o) = flOf (so o) ∧ ∀ b, b ∈ γ.fp o → (b ∈ γ'.fp o ∨ K' (flOf (so o)) b) ∧ w'.heap[b]? = w.heap[b]?)

section ext
variable {E : Ctx0} {w w' : World} {K K' : Bool → Nat → Prop} {so so' : Id → Ob} {γ γ' : Gh}

theorem CpR.ext (h : Ext w w' K K' so so' γ γ') {c : Cp} {x : Value} (hc : CpR E w K so γ c x) : CpR E w' K' so' γ' c x := by
  cases c with
  | b o => exact ⟨⟨h.no o hc.1.1, hc.1.2⟩, fun hv => by obtain ⟨h1, h2⟩ := h.va o hc.1.1 hv; rw [h2]; exact hc.2 h1⟩
  | np => exact hc
  | d f sh v => exact Ro.mono (h.kK f) (h.kw f) hc
theorem CpsR.ext (h : Ext w w' K K' so so' γ γ') : ∀ {cs : List Cp} {xs : List Value}, CpsR E w K so γ cs xs → CpsR E w' K' so' γ' cs xs
  | [], [], _ => trivial
  | _c :: _cs, _x :: _xs, hc => ⟨hc.1.ext h, CpsR.ext h hc.2⟩
  | [], _ :: _, hc => hc.elim
  | _ :: _, [], hc => hc.elim
theorem LR.ext (h : Ext w w' K K' so so' γ γ') {l : L} {cs : List Value} (hl : LR E w K so γ l cs) : LR E w' K' so' γ' l cs := by
  cases l with
  | d pv sh v =>
    cases pv with
    | fz f => exact Ro.mono (h.kK f) (h.kw f) hl
    | bw o ver =>
      refine ⟨hl.1, ⟨h.no o hl.2.1.1, hl.2.1.2⟩, fun v' hv => ?_, fun hv => ?_⟩
      · obtain ⟨v0, h1, h2, _⟩ := h.ver o v' hl.2.1.1 hv
        exact Nat.le_trans (hl.2.2.1 v0 h1) h2
      obtain ⟨v0, h1, h2, h3⟩ := h.ver o ver hl.2.1.1 hv
      obtain rfl : v0 = ver := Nat.le_antisymm h2 (hl.2.2.1 v0 h1)
      obtain ⟨hfl, h2⟩ := h3 rfl
      rw [hfl]
      refine Ro.mono ?_ ?_ (hl.2.2.2 h1)
      · intro b hb
        rcases hb with hb | hb
        · exact (h2 b hb).1
        · exact .inr (h.kK _ b hb)
      · intro b hb
        rcases hb with hb | hb
        · exact (h2 b hb).2
        · exact h.kw _ b hb
  | rw o => obtain ⟨x, h1, h2, h3⟩ := hl; exact ⟨x, h1, ⟨h.no o h2.1, h2.2⟩, fun hv => by
      obtain ⟨q, hq⟩ := Option.isSome_iff_exists.1 hv
      obtain ⟨h4, h5⟩ := h.row o q h2.1 hq
      rw [h5]; exact h3 (by rw [h4]; rfl)⟩
  | sl o off n => obtain ⟨x, h1, h2, h3⟩ := hl; exact ⟨x, h1, ⟨h.no o h2.1, h2.2⟩, fun m z hv => by
      obtain ⟨h4, h5⟩ := h.row o _ h2.1 hv
      rw [h5]; exact h3 m z h4⟩
  | pe o i j => obtain ⟨x, h1, h2, h3⟩ := hl; exact ⟨x, h1, ⟨h.no o h2.1, h2.2⟩, fun m z hv => by
      obtain ⟨h4, h5⟩ := h.row o _ h2.1 hv
      rw [h5]; exact h3 m z h4⟩
  | pv o j => obtain ⟨x, h1, h2, h3⟩ := hl; exact ⟨x, h1, ⟨h.no o h2.1, h2.2⟩, fun hv => by
      obtain ⟨h4, h5⟩ := h.va o h2.1 hv
      rw [h5]; exact h3 h4⟩
  | px o j q sh i c => obtain ⟨x, h1, h2, h2', h3⟩ := hl; exact ⟨x, h1, ⟨h.no o h2.1, h2.2⟩, h2', fun hv => by
      obtain ⟨h4, h5⟩ := h.va o h2.1 hv
      rw [h5]; exact h3 h4⟩
  | mp o => obtain ⟨x, h1, h2, h3⟩ := hl; exact ⟨x, h1, ⟨h.no o h2.1, h2.2⟩, fun hv => by
      obtain ⟨h4, h5⟩ := h.ma o h2.1 hv
      rw [h5]; exact h3 h4⟩
  | fn g caps => obtain ⟨vs, h1, h2⟩ := hl; exact ⟨vs, h1, h2.ext h⟩
  | _ => exact hl
theorem LRs.ext (h : Ext w w' K K' so so' γ γ') : ∀ {ls : List L} {cs : List Value}, LRs E w K so γ ls cs → LRs E w' K' so' γ' ls cs
  | [], _, hl => hl
  | _ :: _, _, ⟨c1, c2, h1, h2, h3⟩ => ⟨c1, c2, h1, h2.ext h, LRs.ext h h3⟩
theorem PtR.ext (h : Ext w w' K K' so so' γ γ') {p : Pt} {x : Value} (hp : PtR E w K so γ p x) : PtR E w' K' so' γ' p x := by
  cases p with
  | one l => exact LR.ext h hp
  | agg ls => obtain ⟨cs, h1, h2⟩ := hp; exact ⟨cs, h1, h2.ext h⟩
theorem PtsR.ext (h : Ext w w' K K' so so' γ γ') : ∀ {ps : List Pt} {xs : List Value}, PtsR E w K so γ ps xs → PtsR E w' K' so' γ' ps xs
  | [], _, hl => hl
  | _ :: _, _, ⟨c1, c2, h1, h2, h3⟩ => ⟨c1, c2, h1, h2.ext h, PtsR.ext h h3⟩
theorem DR.ext (h : Ext w w' K K' so so' γ γ') {d : D} {x : Value} (hd : DR E w K so γ d x) : DR E w' K' so' γ' d x := by
  cases d with
  | p y => exact PtR.ext h hd
  | tup xs => obtain ⟨vs, h1, h2⟩ := hd; exact ⟨vs, h1, h2.ext h⟩
/-- an object stays as it is -/
theorem ObR.ext (h : Ext w w' K K' so so' γ γ') {ob : Ob} {x : Value} {F : List Nat} (ho : ObR E w K so γ ob x F) (hF : ∀ b, b ∈ F → w'.heap[b]? = w.heap[b]?) : ObR E w' K' so' γ' ob x F := by
  cases ob with
  | no => exact ho
  | gone => exact ho
  | va ls =>
    obtain ⟨b, cs, T, h1, h2, h3, h4⟩ := ho
    exact ⟨b, cs, T, h1, by rw [hF b (by rw [h4]; exact List.mem_singleton.2 rfl)]; exact h2, h3.ext h, h4⟩
  | ro f ver e sh ow v fc =>
    refine ⟨ho.1.mono hF (fun i cs G _ hG hel => ?_), ho.2⟩
    unfold ElR at hel ⊢
    cases fc with
    | none => exact hel.mono (h.kK f) (h.kw f) (fun b hb => hF b (hG b hb))
    | some c =>
      simp only at hel ⊢
      split
      · rename_i hi
        rw [if_pos hi] at hel; exact ⟨hel.1.ext h, hel.2⟩
      · rename_i hi
        rw [if_neg hi] at hel; exact hel.mono (h.kK f) (h.kw f) (fun b hb => hF b (hG b hb))
  | fz f ver sh v => exact ⟨ho.1.mono (h.kK f) (h.kw f), ho.2⟩
  | ma k a v =>
    obtain ⟨b, es, clk, h1, h2, h3, h4⟩ := ho
    exact ⟨b, es, clk, h1, by rw [hF b (by rw [h4]; exact List.mem_singleton.2 rfl)]; exact h2, h3, h4⟩
end ext
end Go.En
end
section
/-
  The engine, part E: running what looks at slots and objects; changes of what is known.
-/
namespace Go.En
open Go

/-! ### running -/
def Rd.ok {α : Type} (d : Nat → D) (o : Id → Ob) : Rd α → (α → Prop) → Prop
  | .ret a, P => P a
  | .fail, _ => False
  | .s t k, P => (k (d t)).ok d o P
  | .o x k, P => (k (o x)).ok d o P
  | .br c a b, P => match c with
    | true => a.ok d o P
    | false => b.ok d o P
  | .any k, P => (k true).ok d o P ∧ (k false).ok d o P

section ok
variable {α β : Type} {d : Nat → D} {o : Id → Ob}
theorem ok_bind (x : Rd α) (f : α → Rd β) (P : β → Prop) : (x >>= f).ok d o P ↔ x.ok d o (fun a => (f a).ok d o P) := by
  show (x.bind f).ok d o P ↔ _
  induction x with
  | ret a => rfl
  | fail => rfl
  | s t k ih => exact ih _
  | o x k ih => exact ih _
  | br c a b iha ihb => cases c <;> assumption
  | any k ih => exact and_congr (ih _) (ih _)
theorem ok_pure (a : α) (P : α → Prop) : (pure a : Rd α).ok d o P ↔ P a := Iff.rfl
theorem ok_ret (a : α) (P : α → Prop) : (Rd.ret a).ok d o P ↔ P a := Iff.rfl
theorem ok_fail (P : α → Prop) : (Rd.fail : Rd α).ok d o P ↔ False := Iff.rfl
theorem ok_chk (c : Bool) (P : Unit → Prop) : (chk c).ok d o P ↔ c = true ∧ P () := by
  cases c
  · constructor
    · intro h; exact h.elim
    · intro h; cases h.1
  · constructor
    · intro h; exact ⟨rfl, h⟩
    · intro h; exact h.2
theorem ok_opt (x : Option α) (P : α → Prop) : (opt x).ok d o P ↔ ∃ a, x = some a ∧ P a := by
  cases x with
  | none => constructor
            · intro h; exact h.elim
            · rintro ⟨a, h, _⟩; cases h
  | some a => constructor
              · intro h; exact ⟨a, rfl, h⟩
              · rintro ⟨b, h, h2⟩; cases h; exact h2
theorem ok_getO (x : Id) (P : Ob → Prop) : (getO x).ok d o P ↔ P (o x) := Iff.rfl
theorem ok_getS (t : Nat) (P : D → Prop) : (getS t).ok d o P ↔ P (d t) := Iff.rfl
theorem ok_br (c : Bool) (a b : Rd α) (P : α → Prop) : (Rd.br c a b).ok d o P ↔ (c = true ∧ a.ok d o P) ∨ (c = false ∧ b.ok d o P) := by
  cases c
  · constructor
    · intro h; exact .inr ⟨rfl, h⟩
    · rintro (⟨h, _⟩ | ⟨_, h⟩)
      · cases h
      · exact h
  · constructor
    · intro h; exact .inl ⟨rfl, h⟩
    · rintro (⟨_, h⟩ | ⟨h, _⟩)
      · exact h
      · cases h
theorem ok_mono {x : Rd α} {P Q : α → Prop} (h : x.ok d o P) (hpq : ∀ a, P a → Q a) : x.ok d o Q := by
  induction x with
  | ret a => exact hpq _ h
  | fail => exact h
  | s t k ih => exact ih _ h
  | o x k ih => exact ih _ h
  | br c a b iha ihb =>
    cases c
    · exact ihb h
    · exact iha h
  | any k ih => exact ⟨ih _ h.1, ih _ h.2⟩
theorem ok_fresh (dst : Option Tmp) (j : Nat) (P : Id → Prop) (h : (fresh dst j).ok d o P) : ∃ t, dst = some t ∧ o ⟨t + 2, j⟩ = .no ∧ P ⟨t + 2, j⟩ := by
  unfold fresh at h
  cases dst with
  | none => exact h.elim
  | some t =>
    simp only [ok_bind, ok_getO] at h
    split at h
    · rename_i hn; exact ⟨t, rfl, hn, h⟩
    · exact h.elim
end ok

/-! ### changes -/
def Sg.setO (σ : Sg) (x : Id) (ob : Ob) : Sg := { σ with o := fun y => if y = x then ob else σ.o y }
def Sg.setW (σ : Sg) : Wo → Sg
  | [] => σ
  | (x, ob) :: ws => (σ.setO x ob).setW ws
def Sg.setD (σ : Sg) (t : Nat) (d : D) : Sg := { σ with d := fun s => if s = t ∧ t < σ.n then d else σ.d s }
def Sg.put (σ : Sg) (dst : Option Tmp) (r : Re) : Sg :=
  match dst with
  | some t => (σ.setW r.2).setD t r.1
  | none => σ.setW r.2

theorem padSet_getD {α : Type} (x e : α) : ∀ (l : List α) (i j : Nat), (padSet x e l i).getD j e = if j = i then x else l.getD j e
  | [], 0, j => by
    cases j with
    | zero => rfl
    | succ j => simp [padSet]
  | [], i + 1, j => by
    cases j with
    | zero => simp [padSet]
    | succ j => have := padSet_getD x e [] i j; simp only [padSet, List.getD_cons_succ, this, Nat.add_right_cancel_iff]; simp
  | y :: l, 0, j => by
    cases j with
    | zero => rfl
    | succ j => simp [padSet]
  | y :: l, i + 1, j => by
    cases j with
    | zero => simp [padSet]
    | succ j => have := padSet_getD x e l i j; simp only [padSet, List.getD_cons_succ, this, Nat.add_right_cancel_iff]
theorem St.o_setO (S : St) (x : Id) (ob : Ob) (y : Id) : (S.setO x ob).o y = if y = x then ob else S.o y := by
  obtain ⟨t, j⟩ := x
  obtain ⟨t', j'⟩ := y
  simp only [St.o, St.setO, padSet_getD]
  by_cases ht : t' = t
  · subst ht
    simp only [if_true, padSet_getD]
    by_cases hj : j' = j
    · subst hj; simp
    · rw [if_neg hj, if_neg (by intro e; injection e with _ e2; exact hj e2)]
  · rw [if_neg ht, if_neg (by intro e; injection e with e1 _; exact ht e1)]
theorem St.sg_setO (S : St) (x : Id) (ob : Ob) : (S.setO x ob).sg = S.sg.setO x ob := by
  unfold St.sg Sg.setO
  congr 1
  funext y
  exact St.o_setO S x ob y
theorem St.sg_setW (S : St) : ∀ (ws : Wo), (S.setW ws).sg = S.sg.setW ws := by
  intro ws
  induction ws generalizing S with
  | nil => rfl
  | cons q ws ih => obtain ⟨x, ob⟩ := q; simp only [St.setW, Sg.setW]; rw [ih, St.sg_setO]
theorem St.sg_setD (S : St) (t : Nat) (d : D) : (S.setD t d).sg = S.sg.setD t d := by
  unfold St.sg Sg.setD St.setD
  simp only [List.length_set]
  congr 1
  funext s
  simp only [St.d, List.getD_eq_getElem?_getD, List.getElem?_set]
  by_cases hs : t = s
  · subst hs
    by_cases hl : t < S.env.length
    · simp [hl]
    · simp [hl]
  · have hs' : ¬ s = t := fun e => hs e.symm
    simp [hs, hs']
theorem St.sg_put (S : St) (dst : Option Tmp) (r : Re) : (S.put dst r).sg = S.sg.put dst r := by
  cases dst with
  | none => exact S.sg_setW r.2
  | some t => simp only [St.put, Sg.put]; rw [St.sg_setD, St.sg_setW]

def Gh.set (γ : Gh) (x : Id) (hd : Value) (F : List Nat) : Gh := ⟨fun y => if y = x then hd else γ.hd y, fun y => if y = x then F else γ.fp y⟩

section rel
variable {E : Ctx0} {w0 w w' : World} {M : Ml} {K K' : Bool → Nat → Prop} {γ γ' : Gh} {σ : Sg} {tm : Array Value}

theorem Ext.refl : Ext w w K K σ.o σ.o γ γ :=
  ⟨fun _ _ h => h, fun _ _ _ => rfl, fun _ h => h, fun _ _ _ h => ⟨h, rfl⟩, fun _ _ h => ⟨h, rfl⟩, fun _ _ h => ⟨h, rfl⟩, fun _ v _ h => ⟨v, h, Nat.le_refl _, fun _ => ⟨rfl, fun _ hb => ⟨.inl hb, rfl⟩⟩⟩⟩

theorem Rel.chg (h : Rel E w0 M K γ σ tm w) {so' : Id → Ob} (hx : Ext w w' K K' σ.o so' γ γ')
    (hob : ∀ o, (so' o = σ.o o ∧ γ'.hd o = γ.hd o ∧ γ'.fp o = γ.fp o ∧ ∀ b, b ∈ γ.fp o → w'.heap[b]? = w.heap[b]?) ∨ ObR E w' K' so' γ' (so' o) (γ'.hd o) (γ'.fp o))
    (hdj : ∀ o o' b, b ∈ γ'.fp o → b ∈ γ'.fp o' → o = o') (hnd : ∀ o, (γ'.fp o).Nodup)
    (hown : ∀ o b, b ∈ γ'.fp o → (w0.heap.size ≤ b ∨ M true b) ∧ b < w'.heap.size ∧ ¬ K' false b)
    (hkb : ∀ f b, K' f b → b < w'.heap.size) (hkk : ∀ b, K' true b → K' false b) (hk1 : ∀ b, K' true b → w0.heap.size ≤ b ∨ M true b) (hk0 : ∀ b, K' false b → w0.heap.size ≤ b ∨ M true b ∨ M false b)
    (hsz : w.heap.size ≤ w'.heap.size) (hfr : ∀ b, b < w0.heap.size → ¬ M true b → w'.heap[b]? = w.heap[b]?) (hos : w'.os = w.os) (htape : w'.tape = w.tape) (hout : w'.output = w.output) :
    Rel E w0 M K' γ' { σ with o := so' } tm w' where
  n := h.n
  sl t := (h.sl t).ext hx
  ob o := by
    rcases hob o with ⟨h1, h2, h3, h4⟩ | h1
    · show ObR E w' K' so' γ' (so' o) (γ'.hd o) (γ'.fp o)
      rw [h1, h2, h3]; exact (h.ob o).ext hx h4
    · exact h1
  dj := hdj
  nd := hnd
  ow := hown
  kb := hkb
  kk := hkk
  k1 := hk1
  k0 := hk0
  sz := Nat.le_trans h.sz hsz
  fr b hb hm := (hfr b hb hm).trans (h.fr b hb hm)
  os := hos.trans h.os
  tape := htape.trans h.tape
  output := hout.trans h.output
  g0 := h.g0
  h0 j hj := by
    obtain ⟨h1, h2, h3, h4⟩ := h.h0 j hj
    refine ⟨hx.no _ h1, fun q hq => ?_, fun hq => ?_, fun hq => ?_⟩
    · obtain ⟨a1, a2⟩ := hx.row _ q h1 hq
      rw [a2]; exact h2 q a1
    · obtain ⟨a1, a2⟩ := hx.va _ h1 hq
      rw [a2]; exact h3 a1
    · obtain ⟨a1, a2⟩ := hx.ma _ h1 hq
      rw [a2]; exact h4 a1

/-- memory has grown: what was there is as it was -/
structure Grow (w w' : World) : Prop where
  os : w'.os = w.os
  tape : w'.tape = w.tape
  output : w'.output = w.output
  size : w.heap.size ≤ w'.heap.size
  block : ∀ b, b < w.heap.size → w'.heap[b]? = w.heap[b]?
theorem Grow.refl (w : World) : Grow w w := ⟨rfl, rfl, rfl, Nat.le_refl _, fun _ _ => rfl⟩
theorem Grow.trans {w1 w2 w3 : World} (h : Grow w1 w2) (h' : Grow w2 w3) : Grow w1 w3 :=
  ⟨h'.os.trans h.os, h'.tape.trans h.tape, h'.output.trans h.output, Nat.le_trans h.size h'.size, fun b hb => (h'.block b (Nat.lt_of_lt_of_le hb h.size)).trans (h.block b hb)⟩
theorem Grow.alloc (w : World) (o : Obj) : Grow w (w.alloc o) := ⟨rfl, rfl, rfl, by simp, fun b hb => heap_alloc_old w o b hb⟩
theorem Grow.drew (w : World) : Grow w w.drew := ⟨rfl, rfl, rfl, Nat.le_refl _, fun _ _ => rfl⟩

theorem Rel.ext_grow (h : Rel E w0 M K γ σ tm w) (hg : Grow w w') : Ext w w' K K σ.o σ.o γ γ :=
  ⟨fun _ _ h => h, fun f b hb => hg.block b (h.kb f b hb), fun _ h => h, fun _ _ _ h => ⟨h, rfl⟩, fun _ _ h => ⟨h, rfl⟩, fun _ _ h => ⟨h, rfl⟩,
    fun o v _ hv => ⟨v, hv, Nat.le_refl _, fun _ => ⟨rfl, fun b hb => ⟨.inl hb, hg.block b (h.ow o b hb).2.1⟩⟩⟩⟩
theorem Rel.grow (h : Rel E w0 M K γ σ tm w) (hg : Grow w w') : Rel E w0 M K γ σ tm w' :=
  h.chg (h.ext_grow hg) (fun o => .inl ⟨rfl, rfl, rfl, fun b hb => hg.block b (h.ow o b hb).2.1⟩) h.dj h.nd
    (fun o b hb => ⟨(h.ow o b hb).1, Nat.lt_of_lt_of_le (h.ow o b hb).2.1 hg.size, (h.ow o b hb).2.2⟩) (fun f b hb => Nat.lt_of_lt_of_le (h.kb f b hb) hg.size) h.kk h.k1 h.k0 hg.size
    (fun b hb _ => hg.block b (Nat.lt_of_lt_of_le hb h.sz)) hg.os hg.tape hg.output

theorem Rel.setSlot (h : Rel E w0 M K γ σ tm w) (t : Nat) {d : D} {v : Value} (hd : DR E w K σ.o γ d v) : Rel E w0 M K γ (σ.setD t d) (tm.setIfInBounds t v) w := by
  refine { h with n := by simp [h.n, Sg.setD], sl := fun s => ?_ }
  show DR E w K σ.o γ (if s = t ∧ t < σ.n then d else σ.d s) _
  by_cases hs : s = t
  · subst hs
    by_cases hl : s < σ.n
    · rw [if_pos ⟨rfl, hl⟩]
      have : tmv (tm.setIfInBounds s v) s = v := by
        have hl' : s < tm.size := by rw [h.n]; exact hl
        simp [tmv, Array.getD_eq_getD_getElem?, hl']
      rw [this]; exact hd
    · rw [if_neg (fun e => hl e.2)]
      have : tmv (tm.setIfInBounds s v) s = tmv tm s := by
        have hl' : ¬ s < tm.size := by rw [h.n]; exact hl
        simp [tmv, Array.getD_eq_getD_getElem?, hl']
      rw [this]; exact h.sl s
  · rw [if_neg (fun e => hs e.1)]
    have : tmv (tm.setIfInBounds t v) s = tmv tm s := by
      have hs' : ¬ t = s := fun e => hs e.symm
      simp [tmv, Array.getD_eq_getD_getElem?, hs']
    rw [this]; exact h.sl s

/-- what an operation came to -/
def Pos (E : Ctx0) (w0 : World) (M : Ml) (σ : Sg) (tm : Array Value) (r : Re) (v : Value) (w' : World) : Prop :=
  ∃ K γ, Rel E w0 M K γ (σ.setW r.2) tm w' ∧ DR E w' K (σ.setW r.2).o γ r.1 v
theorem Pos.put {r : Re} {v : Value} (h : Pos E w0 M σ tm r v w') (a : Act) (ha : a.tmps = tm) (dst : Option Tmp) : ∃ K γ, Rel E w0 M K γ (σ.put dst r) (a.put dst v).tmps w' := by
  obtain ⟨K, γ, h1, h2⟩ := h
  subst ha
  refine ⟨K, γ, ?_⟩
  cases dst with
  | none => exact h1
  | some t => exact h1.setSlot t h2
/-- a value that is there -/
theorem Rel.pos (h : Rel E w0 M K γ σ tm w) {d : D} {v : Value} (hd : DR E w K σ.o γ d v) : Pos E w0 M σ tm (d, []) v w := ⟨K, γ, h, hd⟩
theorem Rel.posL (h : Rel E w0 M K γ σ tm w) {l : L} {v : Value} (hd : LR E w K σ.o γ l [v]) : Pos E w0 M σ tm (one l, []) v w := ⟨K, γ, h, hd⟩

theorem constL_sound (v : Value) : LR E w K σ.o γ (constL v) [v] := by
  unfold constL
  split <;> first | exact .i | exact .s | exact .enil | rfl
theorem Rel.oper (h : Rel E w0 M K γ σ tm w) (x : Operand) (a : Act) (ha : a.tmps = tm) {P : D → Prop} (hp : (opD x).ok σ.d σ.o P) : ∃ d, P d ∧ DR E w K σ.o γ d (a.eval x) := by
  subst ha
  cases x with
  | tmp t => exact ⟨_, hp, h.sl t⟩
  | const v => exact ⟨_, hp, constL_sound v⟩
  | global g => exact ⟨_, hp, rfl⟩
  | func f => exact ⟨_, hp, ⟨#[], rfl, trivial⟩⟩
theorem ok_lf {d : D} {so : Id → Ob} {sd : Nat → D} {P : L → Prop} (h : (lf d).ok sd so P) : ∃ l, d = one l ∧ P l := by
  unfold lf at h
  split at h
  · exact ⟨_, rfl, h⟩
  · exact h.elim
theorem Rel.operL (h : Rel E w0 M K γ σ tm w) (x : Operand) (a : Act) (ha : a.tmps = tm) {P : L → Prop} (hp : (opL x).ok σ.d σ.o P) : ∃ l, P l ∧ LR E w K σ.o γ l [a.eval x] := by
  unfold opL at hp
  rw [ok_bind] at hp
  obtain ⟨d, h1, h2⟩ := h.oper x a ha hp
  obtain ⟨l, rfl, h3⟩ := ok_lf h1
  exact ⟨l, h3, h2⟩
theorem ok_intL {l : L} {so : Id → Ob} {sd : Nat → D} {P : IntKind × Int → Prop} (h : (intL l).ok sd so P) {x : Value} (hl : LR E w K σ.o γ l [x]) : ∃ k n, x = .int k n ∧ P (k, n) := by
  unfold intL at h
  split at h
  · rename_i f k n
    refine ⟨k, n, ?_, h⟩
    cases hl; rfl
  · exact h.elim
theorem Rel.operI (h : Rel E w0 M K γ σ tm w) (x : Operand) (a : Act) (ha : a.tmps = tm) {P : Int → Prop} (hp : (opI x).ok σ.d σ.o P) : ∃ k n, P n ∧ a.eval x = .int k n := by
  unfold opI at hp
  simp only [ok_bind, ok_pure] at hp
  obtain ⟨l, h1, h2⟩ := h.operL x a ha hp
  obtain ⟨k, n, h3, h4⟩ := ok_intL h1 h2
  exact ⟨k, n, h4, h3⟩

/-- what a leaf borrowed, is there -/
theorem ok_there {pv : Pv} {P : Unit → Prop} (h : (there pv).ok σ.d σ.o P) : P () ∧ ∃ Kf : Nat → Prop, (∀ {sh : Sh} {v : Val sh} {cs : List Value}, LR E w K σ.o γ (.d pv sh v) cs → Ro E w Kf sh v cs) ∧
    (∀ {sh : Sh} {v : Val sh} {cs : List Value}, Ro E w Kf sh v cs → LR E w K σ.o γ (.d pv sh v) cs) := by
  unfold there at h
  split at h
  · rename_i f
    exact ⟨h, K f, fun h => h, fun h => h⟩
  · rename_i o ver
    simp only [ok_bind, ok_getO] at h
    have key : ∀ v', verOf (σ.o o) = some v' → ver = v' → P () → P () ∧ ∃ Kf : Nat → Prop, (∀ {sh : Sh} {v : Val sh} {cs : List Value}, LR E w K σ.o γ (.d (.bw o ver) sh v) cs → Ro E w Kf sh v cs) ∧
        (∀ {sh : Sh} {v : Val sh} {cs : List Value}, Ro E w Kf sh v cs → LR E w K σ.o γ (.d (.bw o ver) sh v) cs) := by
      intro v' hv hvv hp
      subst hvv
      refine ⟨hp, fun b => b ∈ γ.fp o ∨ K (flOf (σ.o o)) b, fun hl => hl.2.2.2 hv, fun hr => ⟨hr.length, ⟨?_, hr.one⟩, ?_, fun _ => hr⟩⟩
      · intro e; rw [e] at hv; cases hv
      · intro v'' h''; rw [hv] at h''; cases h''; exact Nat.le_refl _
    split at h
    · rename_i ver' _ _ _ _ _ hob
      rw [ok_chk] at h
      exact key ver' (by rw [hob]; rfl) (by simpa using h.1) h.2
    · rename_i ver' _ _ hob
      rw [ok_chk] at h
      exact key ver' (by rw [hob]; rfl) (by simpa using h.1) h.2
    · exact h.elim
end rel
end Go.En
end
section
/-
  The engine, part F: operations on numbers, texts, truths.
-/
namespace Go.En
open Go

section inv
variable {E : Ctx0} {w : World} {K : Nat → Prop}
theorem Ro.inv_i {k : IntKind} {n : Int} {cs : List Value} (h : Ro E w K (.i k) n cs) : cs = [.int k n] := by cases h; rfl
theorem Ro.inv_b {n : Bool} {cs : List Value} (h : Ro E w K .b n cs) : cs = [.bool n] := by cases h; rfl
theorem Ro.inv_s {n : ByteArray} {cs : List Value} (h : Ro E w K .s n cs) : cs = [.string n] := by cases h; rfl
theorem Ro.inv_e {n : Er} {x : Value} (h : Ro E w K .e n [x]) : (n = .nil ∧ x = .nilIface) ∨ (n.isNil = false ∧ ∃ t v, x = .iface t v) := by
  cases h
  · exact .inl ⟨rfl, rfl⟩
  · exact .inr ⟨rfl, _, _, rfl⟩
  · exact .inr ⟨rfl, _, _, rfl⟩
theorem Ro.inv_u {v : Unit} {cs : List Value} (h : Ro E w K .u v cs) : cs = [] := by cases h; rfl
theorem Ro.inv_p {a c : Sh} {v : Val (.p a c)} {cs : List Value} (h : Ro E w K (.p a c) v cs) : ∃ xs ys, cs = xs ++ ys ∧ Ro E w K a v.1 xs ∧ Ro E w K c v.2 ys := by
  cases h with
  | p h1 h2 => exact ⟨_, _, rfl, h1, h2⟩
theorem Ro.inv_l {a : Sh} {v : List (Val a)} {x : Value} (h : Ro E w K (.l a) v [x]) : (v = [] ∧ ∃ ad c, x = .slice ad 0 c) ∨
    ∃ b o c, ∃ css : Nat → List Value, x = .slice (some ⟨b, o, none⟩) v.length c ∧ K b ∧ v.length ≤ c ∧ (∀ i (h : i < v.length), Ro E w K a v[i] (css i)) ∧
      ∀ i j x, i < v.length → (css i)[j]? = some x → w.cell? ⟨b, o + (i * a.sz + j), none⟩ = some x := by
  cases h with
  | l0 => exact .inl ⟨rfl, _, _, rfl⟩
  | l css hn hK hc he hw => subst hn; exact .inr ⟨_, _, _, css, rfl, hK, hc, he, hw⟩
theorem Ro.inv_r {a : Sh} {v : Val a} {x : Value} (h : Ro E w K (.r a) v [x]) : ∃ b o cs, x = .pointer (some ⟨b, o, none⟩) ∧ K b ∧ Ro E w K a v cs ∧ ∀ j x, cs[j]? = some x → w.cell? ⟨b, o + j, none⟩ = some x := by
  cases h with
  | r hK h hw => exact ⟨_, _, _, rfl, hK, h, hw⟩
theorem Ro.inv_o {a : Sh} {v : Option (Val a)} {x : Value} (h : Ro E w K (.o a) v [x]) : (v = none ∧ x = .pointer none) ∨ ∃ u b o cs, v = some u ∧ x = .pointer (some ⟨b, o, none⟩) ∧ K b ∧ Ro E w K a u cs ∧ ∀ j x, cs[j]? = some x → w.cell? ⟨b, o + j, none⟩ = some x := by
  cases h with
  | o0 => exact .inl ⟨rfl, rfl⟩
  | o1 hK h hw => exact .inr ⟨_, _, _, _, rfl, rfl, hK, h, hw⟩
theorem Ro.inv_n {k : Nat} {v : NT k} {cs : List Value} (h : Ro E w K (.n k) v cs) : Ro E w K (nbody k) (nout k v) cs := by
  cases h with
  | n h => exact h
/-- the elements of an array, one by one -/
theorem Ro.inv_v {a : Sh} : ∀ {q : Nat} {v : List (Val a)} {cs : List Value}, Ro E w K (.v q a) v cs → v.length = q ∧ ∀ i (h : i < v.length), Ro E w K a v[i] ((cs.drop (i * a.sz)).take a.sz) := by
  intro q
  induction q with
  | zero => intro v cs h; cases h; exact ⟨rfl, fun i h => absurd h (Nat.not_lt_zero _)⟩
  | succ q ih =>
    intro v cs h
    cases h with
    | vs h1 h2 =>
      obtain ⟨h3, h4⟩ := ih h2
      refine ⟨by simp [h3], fun i hi => ?_⟩
      have hl := h1.length
      cases i with
      | zero =>
        simp only [Nat.zero_mul, List.drop_zero, List.getElem_cons_zero]
        rw [← hl, List.take_left]; exact h1
      | succ i =>
        simp only [List.getElem_cons_succ]
        have := h4 i (by simpa using hi)
        rw [Nat.add_mul, Nat.one_mul, ← hl, Nat.add_comm, ← List.drop_drop, List.drop_left, hl]
        exact this

end inv

section
variable {E : Ctx0} {w0 w : World} {M : Ml} {K : Bool → Nat → Prop} {γ : Gh} {σ : Sg} {tm : Array Value} {P : Program} {sd : Nat → D} {so : Id → Ob}

/-- a program of the machine comes to a value that is known -/
def Gets (P : Program) (E : Ctx0) (w0 : World) (M : Ml) (σ : Sg) (tm : Array Value) (w : World) (s : Sem Value) (Q : Re → Prop) : Prop :=
  ∃ y w', s.run P w = .ok y w' ∧ ∃ r, Q r ∧ Pos E w0 M σ tm r y w'

theorem Rel.gets (h : Rel E w0 M K γ σ tm w) {s : Sem Value} {l : L} {y : Value} {Q : Re → Prop} (hs : s.run P w = .ok y w) (hl : LR E w K σ.o γ l [y]) (hq : Q (one l, [])) : Gets P E w0 M σ tm w s Q :=
  ⟨y, w, hs, _, hq, h.posL hl⟩
theorem Rel.getsI (h : Rel E w0 M K γ σ tm w) {s : Sem Value} {k : IntKind} {n : Int} {Q : Re → Prop} (hs : s.run P w = .ok (.int k n) w) (hq : (reI k n).ok sd so Q) : Gets P E w0 M σ tm w s Q :=
  h.gets hs (l := .d (.fz true) (.i k) n) .i hq
theorem Rel.getsB (h : Rel E w0 M K γ σ tm w) {s : Sem Value} {c : Bool} {Q : Re → Prop} (hs : s.run P w = .ok (.bool c) w) (hq : (reB c).ok sd so Q) : Gets P E w0 M σ tm w s Q :=
  h.gets hs (l := .d (.fz true) .b c) .b hq
theorem Rel.getsK (h : Rel E w0 M K γ σ tm w) {s : Sem Value} {c : Bool} {Q : Re → Prop} (hs : s.run P w = .ok (.bool c) w) (hq : (re (.k c)).ok sd so Q) : Gets P E w0 M σ tm w s Q :=
  h.gets hs (l := .k c) rfl hq

theorem so_intOp (h : Rel E w0 M K γ σ tm w) {op : BinOp} {t : TypeId} {k : IntKind} {x : Int} {k2 : IntKind} {c : Int} {Q : Re → Prop} (hp : (intOp op k x k2 c).ok sd so Q) : Gets P E w0 M σ tm w (binOp op t (.int k x) (.int k2 c)) Q := by
  by_cases hk : ikEq k k2 = true
  · have hk' := ikEq_eq hk
    subst hk'
    have hkk : ikEq k k = true := hk
    cases op <;> simp only [intOp, hkk, if_true, ok_fail, ok_br, and_false, or_false, decide_eq_true_eq] at hp
    · exact h.getsI (by rw [binOp_add]; rfl) hp
    · exact h.getsI (by rw [binOp_sub]; rfl) hp
    · exact h.getsI (by rw [binOp_mul]; rfl) hp
    · exact h.getsI (by rw [binOp_quo]; simp [Op.intDiv, hp.1]) hp.2
    · exact h.getsI (by rw [binOp_rem]; simp [Op.intDiv, hp.1]) hp.2
    · exact h.getsI (by rw [binOp_and]; rfl) hp
    · exact h.getsI (by rw [binOp_or]; rfl) hp
    · exact h.getsI (by rw [binOp_xor]; rfl) hp
    · exact h.getsI (by rw [binOp_shl]; unfold Op.shift; rw [if_neg (show ¬ c < 0 by omega)]; rfl) hp.2
    · exact h.getsI (by rw [binOp_shr]; unfold Op.shift; rw [if_neg (show ¬ c < 0 by omega)]; rfl) hp.2
    · exact h.getsI (by rw [binOp_andNot]; rfl) hp
    · exact h.getsB (by rw [binOp_eql]; rfl) hp
    · exact h.getsB (by rw [binOp_neq]; rfl) hp
    · exact h.getsB (by rw [binOp_lss]; rfl) hp
    · exact h.getsB (by rw [binOp_leq]; rfl) hp
    · exact h.getsB (by rw [binOp_gtr]; rfl) hp
    · exact h.getsB (by rw [binOp_geq]; rfl) hp
  · cases op <;> simp only [intOp, if_neg hk, ok_fail, ok_br, and_false, or_false, decide_eq_true_eq] at hp
    · exact h.getsI (by rw [binOp_shl]; unfold Op.shift; rw [if_neg (show ¬ c < 0 by omega)]; rfl) hp.2
    · exact h.getsI (by rw [binOp_shr]; unfold Op.shift; rw [if_neg (show ¬ c < 0 by omega)]; rfl) hp.2

theorem so_strOp (h : Rel E w0 M K γ σ tm w) {op : BinOp} {t : TypeId} {x c : ByteArray} {Q : Re → Prop} (hp : (strOp op x c).ok sd so Q) : Gets P E w0 M σ tm w (binOp op t (.string x) (.string c)) Q := by
  cases op <;> simp only [strOp, ok_fail, ok_br, and_false, or_false, decide_eq_true_eq] at hp
  · refine h.gets (l := .d (.fz true) .s (x ++ c)) (y := .string (x ++ c)) ?_ .s hp.2
    have : binOp .add t (.string x) (.string c) = Op.stringOp .add x c := rfl
    rw [this]
    exact run_string_add_sum w x c (by have := hp.1; simpa [strMax] using this)
  · exact h.getsB rfl hp
  · exact h.getsB rfl hp
  · exact h.getsB rfl hp
  · exact h.getsB rfl hp
  · exact h.getsB rfl hp
  · exact h.getsB rfl hp

theorem run_eq_nil {ms : Array (String × TypeId)} {t : TypeId} (hu : P.underlying t = some (.interface ms)) (w : World) (n : Nat) : (Op.equalIn (n + 1) t .nilIface .nilIface).run P w = .ok true w := by
  simp [Op.equalIn, run_underlying hu]
theorem run_eq_iface {ms : Array (String × TypeId)} {t : TypeId} (hu : P.underlying t = some (.interface ms)) (w : World) (T : TypeId) (v : Value) (n : Nat) : (Op.equalIn (n + 1) t (.iface T v) .nilIface).run P w = .ok false w := by
  simp [Op.equalIn, run_underlying hu]
theorem run_eq_ptr {e : TypeId} {t : TypeId} (hu : P.underlying t = some (.pointer e)) (w : World) (p : Option Addr) (n : Nat) : (Op.equalIn (n + 1) t (.pointer p) (.pointer none)).run P w = .ok p.isNone w := by
  cases p <;> simp [Op.equalIn, run_underlying hu]
theorem run_eql_of {t : TypeId} {x y : Value} {b : Bool} (hb : binOp .eql t x y = (do pure (.bool (← Op.equal t x y)))) (h : (Op.equal t x y).run P w = .ok b w) : (binOp .eql t x y).run P w = .ok (.bool b) w := by
  rw [hb]
  simp only [Sem.run_bind, h, Result.andThen_ok, Sem.run_pure]
theorem run_neq_of {t : TypeId} {x y : Value} {b : Bool} (hb : binOp .neq t x y = (do pure (.bool !(← Op.equal t x y)))) (h : (Op.equal t x y).run P w = .ok b w) : (binOp .neq t x y).run P w = .ok (.bool !b) w := by
  rw [hb]
  simp only [Sem.run_bind, h, Result.andThen_ok, Sem.run_pure]
theorem isNilC_eq {y : Operand} (h : isNilC y = true) : y = .const .nilIface := by
  unfold isNilC at h; split at h
  · rfl
  · cases h
theorem isNilP_eq {y : Operand} (h : isNilP y = true) : y = .const (.pointer none) := by
  unfold isNilP at h; split at h
  · rfl
  · cases h
theorem isNilS_eq {y : Operand} (h : isNilS y = true) : y = .const (.slice none 0 0) := by
  unfold isNilS at h; split at h
  · rfl
  · cases h
theorem guard_int (op : BinOp) (t : TypeId) (x y : Operand) (k : IntKind) (n : Int) (v : Value) (s : Sem Value) : (do eqGuard op t x y (.int k n) v; s) = s := by rw [eqGuard_at_int]; rfl
theorem guard_bool (op : BinOp) (t : TypeId) (x y : Operand) (n : Bool) (v : Value) (s : Sem Value) : (do eqGuard op t x y (.bool n) v; s) = s := by rw [eqGuard_at_bool]; rfl
theorem guard_string (op : BinOp) (t : TypeId) (x y : Operand) (n : ByteArray) (v : Value) (s : Sem Value) : (do eqGuard op t x y (.string n) v; s) = s := by rw [eqGuard_at_string]; rfl
theorem guard_pointer (op : BinOp) (t : TypeId) (x y : Operand) (n : Option Addr) (v : Value) (s : Sem Value) : (do eqGuard op t x y (.pointer n) v; s) = s := by rw [eqGuard_at_pointer]; rfl
theorem guard_iface (op : BinOp) (t : TypeId) (x y : Operand) (n : TypeId) (m v : Value) (s : Sem Value) : (do eqGuard op t x y (.iface n m) v; s) = s := by rw [eqGuard_at_iface]; rfl
theorem guard_slice (op : BinOp) (t : TypeId) (x y : Operand) (ad : Option Addr) (n c : Nat) (v : Value) (s : Sem Value) : (do eqGuard op t x y (.slice ad n c) v; s) = s := by unfold eqGuard; split <;> rfl

theorem unary_run (_op : UnOp) (_x : Value) : True := trivial

theorem so_un (h : Rel E w0 M K γ σ tm w) {op : UnOp} {l : L} {x : Value} (hl : LR E w K σ.o γ l [x]) {Q : Re → Prop} (hp : (unF op l).ok sd so Q) : Gets P E w0 M σ tm w (Op.unary op x) Q := by
  unfold unF at hp
  split at hp
  · obtain rfl : x = _ := by have := Ro.inv_i hl; injection this
    exact h.getsI rfl hp
  · obtain rfl : x = _ := by have := Ro.inv_i hl; injection this
    exact h.getsI rfl hp
  · obtain rfl : x = _ := by have := Ro.inv_b hl; injection this
    exact h.getsB rfl hp
  · obtain rfl : x = _ := by injection hl
    exact h.getsK rfl hp
  · exact hp.elim

theorem so_eqOp (h : Rel E w0 M K γ σ tm w) {op : BinOp} {t : TypeId} {x y : Operand} {xv yv : Value} {c : Bool} (hg : eqGuard op t x y xv yv = pure ()) (hb1 : binOp .eql t xv yv = (do pure (.bool (← Op.equal t xv yv)))) (hb2 : binOp .neq t xv yv = (do pure (.bool !(← Op.equal t xv yv))))
    (he : (Op.equal t xv yv).run P w = .ok c w) {Q : Re → Prop} (hp : (eqOp op c).ok sd so Q) : Gets P E w0 M σ tm w (do eqGuard op t x y xv yv; binOp op t xv yv) Q := by
  rw [hg]
  unfold eqOp at hp
  split at hp
  · exact h.getsB (run_eql_of hb1 he) hp
  · exact h.getsB (run_neq_of hb2 he) hp
  · exact hp.elim
theorem so_eqK (h : Rel E w0 M K γ σ tm w) {op : BinOp} {t : TypeId} {x y : Operand} {xv yv : Value} {c : Bool} (hg : eqGuard op t x y xv yv = pure ()) (hb1 : binOp .eql t xv yv = (do pure (.bool (← Op.equal t xv yv)))) (hb2 : binOp .neq t xv yv = (do pure (.bool !(← Op.equal t xv yv))))
    (he : (Op.equal t xv yv).run P w = .ok c w) {Q : Re → Prop} (hp : (eqK op c).ok sd so Q) : Gets P E w0 M σ tm w (do eqGuard op t x y xv yv; binOp op t xv yv) Q := by
  rw [hg]
  unfold eqK at hp
  split at hp
  · exact h.getsK (run_eql_of hb1 he) hp
  · exact h.getsK (run_neq_of hb2 he) hp
  · exact hp.elim
end
end Go.En
end
section
/-
  The engine, part G: leaves and cells; what rows hold; addresses.
-/
namespace Go.En
open Go

section
variable {E : Ctx0} {w0 w : World} {M : Ml} {K : Bool → Nat → Prop} {γ : Gh} {σ : Sg} {tm : Array Value} {P : Program} {sd : Nat → D} {so : Id → Ob}

theorem LR.len {l : L} {cs : List Value} (h : LR E w K so γ l cs) : cs.length = l.wd := by
  cases l with
  | un n => exact h
  | d pv sh v => cases pv with
    | fz f => exact Ro.length h
    | bw o ver => exact h.1
  | rw o => obtain ⟨x, rfl, _⟩ := h; rfl
  | sl o off n => obtain ⟨x, rfl, _⟩ := h; rfl
  | pe o i j => obtain ⟨x, rfl, _⟩ := h; rfl
  | pv o j => obtain ⟨x, rfl, _⟩ := h; rfl
  | px o j q sh i c => obtain ⟨x, rfl, _⟩ := h; rfl
  | mp o => obtain ⟨x, rfl, _⟩ := h; rfl
  | fn g caps => obtain ⟨vs, rfl, _⟩ := h; rfl
  | _ => have h' := h; simp only [LR] at h'; rw [h']; rfl
theorem LRs.len : ∀ {ls : List L} {cs : List Value}, LRs E w K so γ ls cs → cs.length = wds ls
  | [], _, h => by rw [show _ = [] from h]; rfl
  | _ :: _, _, ⟨c1, c2, h1, h2, h3⟩ => by rw [h1, List.length_append, h2.len, LRs.len h3]; rfl
theorem LRs.drop : ∀ {ls : List L} {cs : List Value} {j : Nat} {ls' : List L}, LRs E w K so γ ls cs → dropC ls j = some ls' → LRs E w K so γ ls' (cs.drop j) ∧ j ≤ cs.length
  | ls, cs, 0, ls', h, hd => by
    have : ls' = ls := by cases ls <;> simpa [dropC] using hd.symm
    subst this; exact ⟨h, Nat.zero_le _⟩
  | [], _, _ + 1, _, _, hd => by cases hd
  | l :: ls, _, j + 1, ls', ⟨c1, c2, h1, h2, h3⟩, hd => by
    simp only [dropC] at hd
    cases hc : (Nat.ble l.wd (j + 1) && Nat.blt 0 l.wd) with
    | false => rw [hc] at hd; cases hd
    | true =>
      rw [hc] at hd
      rw [Bool.and_eq_true, Nat.ble_eq, Nat.blt_eq] at hc
      have hl := h2.len
      obtain ⟨h4, h5⟩ := LRs.drop h3 hd
      subst h1
      refine ⟨?_, by rw [List.length_append]; omega⟩
      rw [List.drop_append, hl, List.drop_eq_nil_of_le (by omega), List.nil_append]; exact h4
theorem LRs.take : ∀ {ls : List L} {cs : List Value} {j : Nat} {ls' : List L}, LRs E w K so γ ls cs → takeC ls j = some ls' → LRs E w K so γ ls' (cs.take j) ∧ j ≤ cs.length
  | ls, cs, 0, ls', h, hd => by
    have : ls' = [] := by cases ls <;> simpa [takeC] using hd.symm
    subst this; exact ⟨rfl, Nat.zero_le _⟩
  | [], _, _ + 1, _, _, hd => by cases hd
  | l :: ls, _, j + 1, ls', ⟨c1, c2, h1, h2, h3⟩, hd => by
    simp only [takeC] at hd
    cases hc : (Nat.ble l.wd (j + 1) && Nat.blt 0 l.wd) with
    | false => rw [hc] at hd; cases hd
    | true =>
      rw [hc] at hd
      rw [Bool.and_eq_true, Nat.ble_eq, Nat.blt_eq] at hc
      simp only [cond_true] at hd
      split at hd
      · rename_i r hr
        simp only [Option.some.injEq] at hd; subst hd
        have hl := h2.len
        obtain ⟨h4, h5⟩ := LRs.take h3 hr
        subst h1
        refine ⟨⟨c1, c2.take (j + 1 - l.wd), ?_, h2, h4⟩, by rw [List.length_append]; omega⟩
        rw [List.take_append, hl, List.take_of_length_le (by omega)]
      · cases hd
theorem LRs.append : ∀ {ls ls' : List L} {cs cs' : List Value}, LRs E w K so γ ls cs → LRs E w K so γ ls' cs' → LRs E w K so γ (ls ++ ls') (cs ++ cs')
  | [], _, _, _, h, h' => by rw [show _ = [] from h]; exact h'
  | _ :: _, _, _, _, ⟨c1, c2, h1, h2, h3⟩, h' => ⟨c1, c2 ++ _, by rw [h1, List.append_assoc], h2, LRs.append h3 h'⟩
theorem LRs.one {l : L} {cs : List Value} (h : LR E w K so γ l cs) : LRs E w K so γ [l] cs := ⟨cs, [], by simp, h, rfl⟩
theorem LRs.inv_one {l : L} {cs : List Value} (h : LRs E w K so γ [l] cs) : LR E w K so γ l cs := by
  obtain ⟨c1, c2, h1, h2, h3⟩ := h
  rw [show c2 = [] from h3, List.append_nil] at h1
  rw [h1]; exact h2
theorem LRs.set {ls new ls' : List L} {cs cn : List Value} {j : Nat} (h : LRs E w K so γ ls cs) (hn : LRs E w K so γ new cn) (hs : setC ls j new = some ls') :
    LRs E w K so γ ls' (cs.take j ++ cn ++ cs.drop (j + cn.length)) ∧ j + cn.length ≤ cs.length := by
  unfold setC at hs
  split at hs
  · rename_i x y hx hy
    simp only [Option.some.injEq] at hs; subst hs
    have h1 := h.take hx
    have h2 := h.drop hy
    rw [← hn.len] at h2
    exact ⟨(h1.1.append hn).append h2.1, h2.2⟩
  · cases hs

/-! ### typed values and their leaves -/
theorem lvsB_ok {pv : Pv} {Kf : Nat → Prop} (hc : ∀ {sh : Sh} {v : Val sh} {cs : List Value}, Ro E w Kf sh v cs → LR E w K so γ (.d pv sh v) cs) :
    ∀ {sh : Sh} {v : Val sh} {cs : List Value}, Ro E w Kf sh v cs → LRs E w K so γ (lvsB pv sh v) cs := by
  intro sh
  induction sh with
  | i k => intro v cs h; exact LRs.one (by rw [Ro.inv_i h]; exact .i)
  | b => intro v cs h; exact LRs.one (by rw [Ro.inv_b h]; exact .b)
  | s => intro v cs h; exact LRs.one (by rw [Ro.inv_s h]; exact .s)
  | u => intro v cs h; exact Ro.inv_u h
  | p a c ih1 ih2 =>
    intro v cs h
    obtain ⟨xs, ys, rfl, h1, h2⟩ := Ro.inv_p h
    exact (ih1 h1).append (ih2 h2)
  | e => intro v cs h; exact LRs.one (hc h)
  | l a => intro v cs h; exact LRs.one (hc h)
  | v q a => intro v cs h; exact LRs.one (hc h)
  | r a => intro v cs h; exact LRs.one (hc h)
  | o a => intro v cs h; exact LRs.one (hc h)
  | n k => intro v cs h; exact LRs.one (hc h)
theorem lvs_ok {pv : Pv} {Kf : Nat → Prop} (hc : ∀ {sh : Sh} {v : Val sh} {cs : List Value}, Ro E w Kf sh v cs → LR E w K so γ (.d pv sh v) cs) :
    ∀ {sh : Sh} {v : Val sh} {cs : List Value}, Ro E w Kf sh v cs → LRs E w K so γ (lvs pv sh v) cs := by
  intro sh
  induction sh with
  | i k => intro v cs h; exact LRs.one (by rw [Ro.inv_i h]; exact .i)
  | b => intro v cs h; exact LRs.one (by rw [Ro.inv_b h]; exact .b)
  | s => intro v cs h; exact LRs.one (by rw [Ro.inv_s h]; exact .s)
  | u => intro v cs h; exact Ro.inv_u h
  | p a c ih1 ih2 =>
    intro v cs h
    obtain ⟨xs, ys, rfl, h1, h2⟩ := Ro.inv_p h
    exact (ih1 h1).append (ih2 h2)
  | e => intro v cs h; exact LRs.one (hc h)
  | l a => intro v cs h; exact LRs.one (hc h)
  | v q a => intro v cs h; exact LRs.one (hc h)
  | r a => intro v cs h; exact LRs.one (hc h)
  | o a => intro v cs h; exact LRs.one (hc h)
  | n k => intro v cs h; exact lvsB_ok hc (Ro.inv_n h)

/-- an element of a row of ours, as data -/
theorem Row.ro {e : TypeId} {a : Sh} {v : List (Val a)} {x : Value} {F : List Nat} {El : Nat → List Value → List Nat → Prop} {Kf : Nat → Prop} (h : Row w e a.sz v.length x F El)
    (hel : ∀ i (hi : i < v.length) cs G, (∀ b, b ∈ G → b ∈ F) → El i cs G → Ro E w Kf a v[i] cs) (hF : ∀ b, b ∈ F → Kf b) : Ro E w Kf (.l a) v [x] := by
  rcases h with ⟨h1, h2, _⟩ | ⟨b, c, cur, css, Fs, h1, h2, h3, h4, h5, h6⟩
  · rw [h1, List.eq_nil_of_length_eq_zero h2]; exact .l0
  · rw [h1]
    refine .l css rfl (hF b (by rw [h5]; exact List.mem_cons_self ..)) h3.1 (fun i hi => ?_) (fun i j y hi hj => ?_)
    · exact hel i hi _ (Fs i) (fun b hb => by rw [h5]; exact List.mem_cons_of_mem _ (List.mem_flatMap.2 ⟨i, List.mem_range.2 hi, hb⟩)) (h6 i hi).1
    · have := (h6 i hi).2.2 j y hj
      simp only [World.cell?, h2]
      simpa using this
theorem getD_get {α : Type} {v : List α} {i : Nat} (h : i < v.length) (z : α) : v.getD i z = v[i] := by rw [List.getD_eq_getElem?_getD, List.getElem?_eq_getElem h]; rfl
theorem Tv.ro {Kz : Nat → Prop} : ∀ {ow : Ow} {sh : Sh} {v : Val sh} {cs : List Value} {F : List Nat}, Tv E w Kz sh ow v cs F → Ro E w (fun b => b ∈ F ∨ Kz b) sh v cs := by
  intro ow
  induction ow with
  | z => intro sh v cs F h; rw [Tv.z_iff] at h; exact h.1.mono (fun b hb => .inr hb) (fun _ _ => rfl)
  | l e o ih =>
    intro sh v cs F h
    cases sh with
    | l a =>
      obtain ⟨x, rfl, h2⟩ := h
      refine h2.ro (fun i hi cs G hG hel => ?_) (fun b hb => .inl hb)
      have := ih hel
      rw [getD_get hi] at this
      exact this.mono (fun b hb => hb.elim (fun h => .inl (hG b h)) .inr) (fun _ _ => rfl)
    | _ => exact h.elim
  | p oa oc ih1 ih2 =>
    intro sh v cs F h
    cases sh with
    | p a c =>
      obtain ⟨c1, c2, F1, F2, rfl, rfl, h3, h4⟩ := h
      obtain ⟨x, y⟩ := v
      exact .p ((ih1 h3).mono (fun b hb => hb.elim (fun h => .inl (List.mem_append_left _ h)) .inr) (fun _ _ => rfl))
        ((ih2 h4).mono (fun b hb => hb.elim (fun h => .inl (List.mem_append_right _ h)) .inr) (fun _ _ => rfl))
    | _ => exact h.elim
theorem lvsO_ok {f : Bool} {po : Pv} {F : List Nat} (hc : ∀ {a : Sh} {v : Val a} {cs : List Value}, Ro E w (fun b => b ∈ F ∨ K f b) a v cs → LR E w K so γ (.d po a v) cs) :
    ∀ {ow : Ow} {sh : Sh} {v : Val sh} {cs : List Value} {G : List Nat}, (∀ b, b ∈ G → b ∈ F) → Tv E w (K f) sh ow v cs G → LRs E w K so γ (lvsO (.fz f) po sh ow v) cs := by
  intro ow
  induction ow with
  | z =>
    intro sh v cs G _ h
    rw [Tv.z_iff] at h
    have : lvsO (.fz f) po sh .z v = lvs (.fz f) sh v := by cases sh <;> rfl
    rw [this]
    exact lvs_ok (E := E) (w := w) (K := K) (so := so) (γ := γ) (pv := .fz f) (Kf := K f) (fun h => h) h.1
  | l e o ih =>
    intro sh v cs G hG h
    cases sh with
    | l a => exact LRs.one (hc ((Tv.ro h).mono (fun b hb => hb.elim (fun h => .inl (hG b h)) .inr) (fun _ _ => rfl)))
    | _ => exact h.elim
  | p oa oc ih1 ih2 =>
    intro sh v cs G hG h
    cases sh with
    | p a c =>
      obtain ⟨c1, c2, F1, F2, rfl, rfl, h3, h4⟩ := h
      exact (ih1 (fun b hb => hG b (List.mem_append_left _ hb)) h3).append (ih2 (fun b hb => hG b (List.mem_append_right _ hb)) h4)
    | _ => exact h.elim

/-! ### loading -/
theorem aggSz_none {t : TypeId} (h : aggSz P t = some none) (w : World) : (isAgg t).run P w = .ok false w := by
  cases hu : P.underlying t with
  | none => simp [aggSz, hu] at h
  | some u =>
    cases u <;> simp only [aggSz, hu] at h
    case struct fs => cases hi : P.info? t <;> simp [hi] at h
    case array n e => cases hi : P.info? t <;> simp [hi] at h
    all_goals (unfold isAgg; simp [run_underlying hu])
theorem aggSz_some {t : TypeId} {n : Nat} (h : aggSz P t = some (some n)) (w : World) : (isAgg t).run P w = .ok true w ∧ (sizeOf t).run P w = .ok n w := by
  unfold aggSz at h
  split at h
  · rename_i fs hu
    cases hi : P.info? t with
    | none => simp [hi] at h
    | some i =>
      simp [hi] at h
      refine ⟨?_, by simp [sizeOf, typeInfo, hi, h]⟩
      unfold isAgg; simp [run_underlying hu]
  · rename_i m e hu
    cases hi : P.info? t with
    | none => simp [hi] at h
    | some i =>
      simp [hi] at h
      refine ⟨?_, by simp [sizeOf, typeInfo, hi, h]⟩
      unfold isAgg; simp [run_underlying hu]
  · cases h
  · cases h
theorem szOf_run {t : TypeId} {n : Nat} (h : szOf P t = some n) (w : World) : (sizeOf t).run P w = .ok n w := by
  unfold szOf at h
  cases hi : P.info? t with
  | none => simp [hi] at h
  | some i => simp [hi] at h; simp [sizeOf, typeInfo, hi, h]
theorem add0 (b o j : Nat) : (⟨b, o, none⟩ : Addr).add j = ⟨b, o + j, none⟩ := Addr.add_lit b o j

/-- the leaves of a value of a type, taken from some cells on -/
theorem ok_loadLs {m : Option Nat} {ls : List L} {cs : List Value} (hr : LRs E w K so γ ls cs) {so' : Id → Ob} {Q : D → Prop} (hp : (loadLs m ls).ok sd so' Q) :
    ∃ d, Q d ∧ ((m = none ∧ ∃ x rest, cs = x :: rest ∧ DR E w K so γ d x) ∨ ∃ n, m = some n ∧ n ≤ cs.length ∧ DR E w K so γ d (.agg (cs.take n).toArray)) := by
  unfold loadLs at hp
  cases m with
  | none =>
    simp only at hp
    cases ls with
    | nil => exact hp.elim
    | cons l ls =>
      simp only [ok_bind, ok_chk, ok_pure] at hp
      obtain ⟨hw, hq⟩ := hp
      obtain ⟨c1, c2, rfl, h2, _⟩ := hr
      have hl := h2.len
      replace hw : l.wd = 1 := Nat.eq_of_beq_eq_true hw
      match c1, hl, h2 with
      | [x], _, h2 => exact ⟨_, hq, .inl ⟨rfl, x, c2, rfl, h2⟩⟩
      | [], hl, _ => rw [hw] at hl; cases hl
      | _ :: _ :: _, hl, _ => rw [hw] at hl; simp at hl
  | some n =>
    simp only at hp
    split at hp
    · rename_i xs hx
      obtain ⟨h1, h2⟩ := hr.take hx
      exact ⟨_, hp, .inr ⟨n, rfl, h2, _, rfl, by simpa using h1⟩⟩
    · exact hp.elim
theorem ok_load {t : TypeId} {m : Option Nat} (hm : aggSz P t = some m) {ad : Addr} {cs : List Value} {ls : List L} (hc : ∀ j x, cs[j]? = some x → w.cell? (ad.add j) = some x)
    (hr : LRs E w K so γ ls cs) {so' : Id → Ob} {Q : D → Prop} (hp : (loadLs m ls).ok sd so' Q) : ∃ y d, (loadVar t ad).run P w = .ok y w ∧ Q d ∧ DR E w K so γ d y := by
  obtain ⟨d, hq, ⟨rfl, x, rest, rfl, hd⟩ | ⟨n, rfl, hn, hd⟩⟩ := ok_loadLs hr hp
  · have hag := aggSz_none hm
    have h0 := hc 0 x rfl
    rw [Addr.add_zero'] at h0
    exact ⟨x, d, by simp [loadVar, hag, h0], hq, hd⟩
  · have hag := fun w => (aggSz_some hm w).1
    have hsz := fun w => (aggSz_some hm w).2
    have hlc : (loadCells ad (cs.take n).length).run P w = .ok (cs.take n).toArray w := run_loadCells_list w ad (cs.take n) (fun j v hv => by
      rw [List.getElem?_take] at hv; split at hv
      · exact hc j v hv
      · cases hv)
    rw [List.length_take, Nat.min_eq_left hn] at hlc
    exact ⟨_, d, by simp [loadVar, hag, hsz, hlc], hq, hd⟩

theorem cell_drop {cs : List Value} {b o j : Nat} (h : ∀ i x, cs[i]? = some x → w.cell? ⟨b, o + i, none⟩ = some x) : ∀ i x, (cs.drop j)[i]? = some x → w.cell? ((⟨b, o + j, none⟩ : Addr).add i) = some x := by
  intro i x hi
  rw [List.getElem?_drop] at hi
  rw [add0, Nat.add_assoc]
  exact h _ _ hi

/-- what an element of a row of ours holds -/
theorem Rel.elem (h : Rel E w0 M K γ σ tm w) {o : Id} {f : Bool} {ver : Nat} {e : TypeId} {sh : Sh} {ow : Ow} {v : List (Val sh)} {fc : Option Fc} (ho : σ.o o = .ro f ver e sh ow v fc) {i : Nat} {b p c : Nat}
    (hh : γ.hd o = .slice (some ⟨b, p, none⟩) v.length c) (hi : i < v.length) :
    p = 0 ∧ ∃ cs G, (∀ b, b ∈ G → b ∈ γ.fp o) ∧ ElR E w K σ.o γ f sh ow v fc i cs G ∧ ∀ j x, cs[j]? = some x → w.cell? ⟨b, i * sh.sz + j, none⟩ = some x := by
  have hob := h.ob o
  rw [ho] at hob
  rcases hob.1 with ⟨h1, h2, _⟩ | ⟨b', c', cur, css, Fs, h1, h2, h3, h4, h5, h6⟩
  · omega
  · rw [hh] at h1
    injection h1 with e1 e2 e3
    injection e1 with e1; injection e1 with e1 e4
    subst e1
    refine ⟨e4, css i, Fs i, fun b hb => by rw [h5]; exact List.mem_cons_of_mem _ (List.mem_flatMap.2 ⟨i, List.mem_range.2 hi, hb⟩), (h6 i hi).1, fun j x hj => ?_⟩
    have := (h6 i hi).2.2 j x hj
    simp only [World.cell?, h2]
    simpa using this
theorem ElR.plain {f : Bool} {sh : Sh} {ow : Ow} {v : List (Val sh)} {fc : Option Fc} {i : Nat} {cs : List Value} {F : List Nat} (h : ElR E w K so γ f sh ow v fc i cs F) (hf : ∀ c, fc = some c → c.i ≠ i) : Tv E w (K f) sh ow (v.getD i sh.zero) cs F := by
  unfold ElR at h
  cases fc with
  | none => exact h
  | some c => simp only at h; rw [if_neg (hf c rfl)] at h; exact h
/-- leaves of an element of a row of ours that isn't laid open -/
theorem Rel.elem_lvs (_h : Rel E w0 M K γ σ tm w) {o : Id} {f : Bool} {ver : Nat} {e : TypeId} {sh : Sh} {ow : Ow} {v : List (Val sh)} {fc : Option Fc} (ho : σ.o o = .ro f ver e sh ow v fc) {i : Nat} {cs : List Value} {G : List Nat}
    (hG : ∀ b, b ∈ G → b ∈ γ.fp o) (ht : Tv E w (K f) sh ow (v.getD i sh.zero) cs G) : LRs E w K σ.o γ (lvsO (.fz f) (.bw o ver) sh ow (v.getD i sh.zero)) cs := by
  refine lvsO_ok (E := E) (w := w) (K := K) (so := σ.o) (γ := γ) (po := .bw o ver) (F := γ.fp o) (fun {a v cs} hr => ⟨hr.length, ⟨by rw [ho]; simp, hr.one⟩, fun v' hv => ?_, fun _ => by rw [ho]; exact hr⟩) hG ht
  rw [ho] at hv; cases hv; exact Nat.le_refl _

/-- cells of a variable of ours -/
theorem Rel.va (h : Rel E w0 M K γ σ tm w) {o : Id} {ls : List L} (ho : σ.o o = .va ls) {b : Nat} (hh : γ.hd o = .pointer (some ⟨b, 0, none⟩)) :
    ∃ cs : Array Value, ∃ T, w.heap[b]? = some (.cells cs T (0, 0)) ∧ LRs E w K σ.o γ ls cs.toList ∧ γ.fp o = [b] := by
  have hob := h.ob o
  rw [ho] at hob
  obtain ⟨b', cs, T, h1, h2, h3, h4⟩ := hob
  rw [hh] at h1
  injection h1 with e1; injection e1 with e1; injection e1 with e1
  subst e1
  exact ⟨cs, T, h2, h3, h4⟩
theorem cells_of {b : Nat} {cs : Array Value} {T : TypeId} {z : Nat × Nat} (hh : w.heap[b]? = some (.cells cs T z)) (i : Nat) (x : Value) (hi : cs.toList[i]? = some x) : w.cell? ⟨b, 0 + i, none⟩ = some x := by
  simp only [World.cell?, hh, Nat.zero_add]
  simpa using hi

theorem gets_load (h : Rel E w0 M K γ σ tm w) {t : TypeId} {m : Option Nat} (hm : aggSz P t = some m) {ad : Addr} {cs : List Value} {ls : List L} (hc : ∀ j x, cs[j]? = some x → w.cell? (ad.add j) = some x)
    (hr : LRs E w K σ.o γ ls cs) {Q : Re → Prop} (hp : (loadLs m ls).ok σ.d σ.o (fun d => Q (d, []))) : Gets P E w0 M σ tm w (Instr.loadAt t (.pointer (some ad))) Q := by
  obtain ⟨y, d, h1, h2, h3⟩ := ok_load hm hc hr hp
  exact ⟨y, w, by simp [Instr.loadAt, Instr.sureAddr, h1], _, h2, h.pos h3⟩
/-- loads that lay nothing open -/
theorem so_load (h : Rel E w0 M K γ σ tm w) {C : Ctx0} {dst : Option Tmp} (hC : opens C dst = false) {t : TypeId} {m : Option Nat} (hm : aggSz P t = some m) {l : L} {x : Value} (hl : LR E w K σ.o γ l [x]) {Q : Re → Prop}
    (hp : (loadF C dst m l).ok σ.d σ.o Q) : Gets P E w0 M σ tm w (Instr.loadAt t x) Q := by
  unfold loadF at hp
  split at hp
  · rename_i o j
    obtain ⟨y, hy, _, hva⟩ := hl
    injection hy with hy; subst hy
    simp only [ok_bind, ok_getO] at hp
    split at hp
    · rename_i ls ho
      simp only [ok_bind, ok_opt, ok_pure] at hp
      obtain ⟨ls', hd, hp⟩ := hp
      obtain ⟨b, hh, hx⟩ := hva (by rw [ho]; rfl)
      obtain ⟨cs, T, g1, g2, _⟩ := h.va ho hh
      rw [hx]
      have := cell_drop (w := w) (b := b) (o := 0) (j := j) (cells_of g1)
      rw [Nat.zero_add] at this
      exact gets_load h hm this (g2.drop hd).1 hp
    · exact hp.elim
  · rename_i o j q sh i c
    obtain ⟨y, hy, _, hiq, hva⟩ := hl
    injection hy with hy; subst hy
    simp only [ok_bind, ok_getO] at hp
    split at hp
    · rename_i ls ho
      split at hp
      · rename_i pv q' sh' v rest hd
        simp only [ok_bind] at hp
        obtain ⟨hp2, Kf, hto, hof⟩ := ok_there (K := K) (γ := γ) (w := w) (E := E) hp
        clear hp
        simp only [ok_chk, ok_opt, ok_pure, Bool.and_eq_true] at hp2
        obtain ⟨⟨hsh, hq⟩, ls', hd2, hp⟩ := hp2
        obtain ⟨b, hh, hx⟩ := hva (by rw [ho]; rfl)
        obtain ⟨cs, T, g1, g2, _⟩ := h.va ho hh
        obtain rfl := Sh.eqb_eq hsh
        obtain rfl : q = q' := by simpa using hq
        obtain ⟨g3, g4⟩ := g2.drop hd
        obtain ⟨c1, c2, g5, g6, _⟩ := g3
        obtain ⟨hlen, hel⟩ := Ro.inv_v (hto g6)
        have hi : i < v.length := by omega
        have hro := hel i hi
        rw [getD_get hi] at hd2
        have hlv := lvs_ok (K := K) (so := σ.o) (γ := γ) hof hro
        rw [hx]
        refine gets_load h hm (cs := ((c1.drop (i * sh.sz)).take sh.sz).drop c) ?_ (hlv.drop hd2).1 hp
        intro k y hk
        rw [List.getElem?_drop, List.getElem?_take] at hk
        split at hk
        · rw [List.getElem?_drop] at hk
          rw [add0]
          have hc1 : (cs.toList.drop j)[i * sh.sz + (c + k)]? = some y := by
            rw [g5, List.getElem?_append_left (List.getElem?_eq_some_iff.1 hk).1]; exact hk
          rw [List.getElem?_drop] at hc1
          have := cells_of g1 _ _ hc1
          rw [Nat.zero_add] at this
          rw [show j + (i * sh.sz + c) + k = j + (i * sh.sz + (c + k)) by omega]; exact this
        · cases hk
      · exact hp.elim
    · exact hp.elim
  · rename_i o i j
    obtain ⟨y, hy, _, hro⟩ := hl
    injection hy with hy; subst hy
    simp only [ok_bind, ok_getO] at hp
    split at hp
    · rename_i f ver e sh ow v fc ho
      rw [hC] at hp
      simp only [Bool.false_eq_true, if_false] at hp
      obtain ⟨hi, b, p, c, hh, hx⟩ := hro v.length sh.sz (by rw [ho]; rfl)
      obtain ⟨rfl, cs, G, hG, hel, hcell⟩ := h.elem ho hh hi
      rw [hx]
      have hc : ∀ k y, (cs.drop j)[k]? = some y → w.cell? ((⟨b, 0 + (i * sh.sz + j), none⟩ : Addr).add k) = some y := by
        rw [Nat.zero_add]; exact cell_drop (o := i * sh.sz) hcell
      have plain : (∀ c, fc = some c → c.i ≠ i) → (do return (← loadLs m (← opt (dropC (lvsO (.fz f) (.bw o ver) sh ow (v.getD i sh.zero)) j)), []) : Rd Re).ok σ.d σ.o Q → Gets P E w0 M σ tm w (Instr.loadAt t (.pointer (some ⟨b, 0 + (i * sh.sz + j), none⟩))) Q := by
        intro hf hp
        simp only [ok_bind, ok_opt, ok_pure] at hp
        obtain ⟨ls', hd, hp⟩ := hp
        exact gets_load h hm hc ((h.elem_lvs ho hG (hel.plain hf)).drop hd).1 hp
      cases fc with
      | none => exact plain (fun _ e => by cases e) hp
      | some cc =>
        simp only [ok_br] at hp
        rcases hp with ⟨he, hp⟩ | ⟨he, hp⟩
        · simp only [ok_bind, ok_opt, ok_pure] at hp
          obtain ⟨ls', hd, hp⟩ := hp
          have he' : cc.i = i := by simpa using he
          unfold ElR at hel
          simp only at hel
          rw [if_pos he'] at hel
          exact gets_load h hm hc (hel.1.drop hd).1 hp
        · have he' : cc.i ≠ i := by simpa using he
          exact plain (fun _ e => by cases e; exact he') hp
    · rename_i f ver sh v ho
      simp only [ok_bind, ok_opt, ok_pure] at hp
      obtain ⟨ls', hd, hp⟩ := hp
      obtain ⟨hi, b, p, c, hh, hx⟩ := hro v.length sh.sz (by rw [ho]; rfl)
      have hob := h.ob o
      rw [ho] at hob
      rcases Ro.inv_l hob.1 with ⟨h1, _⟩ | ⟨b', o', c', css, h1, hK, _, hel, hcell⟩
      · rw [h1] at hi; cases hi
      · rw [hh] at h1
        injection h1 with e1 e2 e3
        injection e1 with e1; injection e1 with e1 e4
        subst e1; subst e4
        rw [getD_get hi] at hd
        rw [hx]
        refine gets_load h hm (cs := (css i).drop j) ?_ ((lvs_ok (E := E) (w := w) (K := K) (so := σ.o) (γ := γ) (pv := .fz f) (Kf := K f) (fun h => h) (hel i hi)).drop hd).1 hp
        rw [← Nat.add_assoc]
        exact cell_drop (o := p + i * sh.sz) (fun k y hk => by rw [Nat.add_assoc]; exact hcell i k y hi hk)
    · exact hp.elim
  · rename_i pv sh v
    simp only [ok_bind] at hp
    obtain ⟨hp, Kf, hto, hof⟩ := ok_there (K := K) (γ := γ) hp
    obtain ⟨b, o, cs, hx, _, hro, hcell⟩ := Ro.inv_r (hto hl)
    rw [hx]
    exact gets_load h hm (cs := cs) (fun k y hk => by rw [add0]; exact hcell k y hk) (lvs_ok (K := K) (so := σ.o) (γ := γ) hof hro) hp
  · exact hp.elim
end
end Go.En
end
section
/-
  The engine, part H: addresses, slices, comparisons, conversions.
-/
namespace Go.En
open Go

section
variable {E : Ctx0} {w0 w : World} {M : Ml} {K : Bool → Nat → Prop} {γ : Gh} {σ : Sg} {tm : Array Value} {P : Program} {sd : Nat → D} {so : Id → Ob}

theorem sufx_ro {K : Nat → Prop} : ∀ {sh : Sh} {off : Nat} {v : Val sh} {cs : List Value} {q : V}, Ro E w K sh v cs → sufx off sh v = some q → Ro E w K q.sh q.v (cs.drop off) := by
  intro sh
  induction sh with
  | p x c ih1 ih2 =>
    intro off v cs q h hs
    obtain ⟨xs, ys, rfl, h1, h2⟩ := Ro.inv_p h
    have hlen := h1.length
    cases off with
    | zero => simp only [sufx, Option.some.injEq] at hs; subst hs; exact .p h1 h2
    | succ off =>
      simp only [sufx] at hs
      cases hc : Nat.ble x.sz (off + 1) with
      | true =>
        rw [hc] at hs
        rw [Nat.ble_eq] at hc
        have := ih2 h2 hs
        rwa [List.drop_append, List.drop_eq_nil_of_le (by omega), List.nil_append, hlen]
      | false =>
        rw [hc] at hs
        have hc' : ¬ x.sz ≤ off + 1 := by intro hh; rw [← Nat.ble_eq, hc] at hh; cases hh
        simp only [cond_false] at hs
        split at hs
        · rename_i w' hw'
          simp only [Option.some.injEq] at hs
          subst hs
          have := ih1 h1 hw'
          rw [List.drop_append, show off + 1 - xs.length = 0 from by omega, List.drop_zero]
          exact .p this h2
        · cases hs
  | _ =>
    intro off v cs q h hs
    cases off with
    | zero => simp only [sufx, Option.some.injEq] at hs; subst hs; exact h
    | succ off => simp [sufx] at hs

theorem fieldOff_run {t : TypeId} {f off : Nat} (h : fieldOff P t f = some off) (b o : Nat) (w : World) : (Instr.fieldAt t (.pointer (some ⟨b, o, none⟩)) f).run P w = .ok (.pointer (some ⟨b, o + off, none⟩)) w := by
  unfold fieldOff at h
  split at h
  · rename_i fs hu
    split at h
    · rename_i q hq
      split at h
      · rename_i n hn
        simp only [Option.some.injEq] at h; subst h
        unfold szOf at hn
        cases hi : P.info? q.type with
        | none => simp [hi] at hn
        | some i =>
          simp [hi] at hn
          simp [Instr.fieldAt, run_underlying hu, hq, Instr.sureAddr, fieldPlace, sizeOf, typeInfo, hi, hn, add0]
      · cases h
    · cases h
  · cases h

/-- pointers whose object is gone are no pointers that we may follow: only those that stand -/
theorem so_fieldAddr (h : Rel E w0 M K γ σ tm w) {t : TypeId} {f off : Nat} (hoff : fieldOff P t f = some off) {l : L} {x : Value} (hl : LR E w K σ.o γ l [x]) {Q : Re → Prop}
    (hp : (fieldAddrF off l).ok σ.d σ.o Q) : Gets P E w0 M σ tm w (Instr.fieldAt t x f) Q := by
  unfold fieldAddrF at hp
  split at hp
  · rename_i o j
    simp only [ok_bind, ok_getO] at hp
    split at hp
    · rename_i ls ho
      obtain ⟨y, hy, hno, hva⟩ := hl
      injection hy with hy; subst hy
      obtain ⟨b, hh, hx⟩ := hva (by rw [ho]; rfl)
      rw [hx]
      exact h.gets (l := .pv o (j + off)) (fieldOff_run hoff _ _ _) ⟨_, rfl, ⟨hno.1, rfl⟩, fun _ => ⟨b, hh, rfl⟩⟩ hp
    · exact hp.elim
  · rename_i o i j
    simp only [ok_bind, ok_getO] at hp
    have key : ∀ n z, rowSz (σ.o o) = some (n, z) → (re (.pe o i (j + off))).ok σ.d σ.o Q → Gets P E w0 M σ tm w (Instr.fieldAt t x f) Q := by
      intro n z hr hq
      obtain ⟨y, hy, hno, hro⟩ := hl
      injection hy with hy; subst hy
      obtain ⟨hi, b, p, c, hh, hx⟩ := hro n z hr
      rw [hx]
      refine h.gets (l := .pe o i (j + off)) (fieldOff_run hoff _ _ _) ⟨_, rfl, ⟨hno.1, rfl⟩, fun m z' hr' => ?_⟩ hq
      rw [hr] at hr'; cases hr'
      exact ⟨hi, b, p, c, hh, by rw [← Nat.add_assoc, ← Nat.add_assoc, ← Nat.add_assoc]⟩
    split at hp
    · rename_i ho; exact key _ _ (by rw [ho]; rfl) hp
    · rename_i ho; exact key _ _ (by rw [ho]; rfl) hp
    · exact hp.elim
  · rename_i o j q sh i c
    simp only [ok_bind, ok_getO] at hp
    split at hp
    · rename_i ls ho
      obtain ⟨y, hy, hno, hiq, hva⟩ := hl
      injection hy with hy; subst hy
      obtain ⟨b, hh, hx⟩ := hva (by rw [ho]; rfl)
      rw [hx]
      exact h.gets (l := .px o j q sh i (c + off)) (fieldOff_run hoff _ _ _) ⟨_, rfl, ⟨hno.1, rfl⟩, hiq, fun _ => ⟨b, hh, by rw [← Nat.add_assoc, ← Nat.add_assoc, ← Nat.add_assoc]⟩⟩ hp
    · exact hp.elim
  · rename_i pv k v
    split at hp
    · rename_i q hq
      simp only [ok_bind] at hp
      obtain ⟨hp, Kf, hto, hof⟩ := ok_there (K := K) (γ := γ) (w := w) (E := E) hp
      obtain ⟨b, o, cs, hx, hK, hro, hcell⟩ := Ro.inv_r (hto hl)
      rw [hx]
      refine h.gets (fieldOff_run hoff _ _ _) (hof (Ro.r hK (sufx_ro (Ro.inv_n hro) hq) (fun j y hj => ?_))) hp
      rw [List.getElem?_drop] at hj
      rw [Nat.add_assoc]; exact hcell _ _ hj
    · exact hp.elim
  · rename_i pv sh v _
    split at hp
    · rename_i q hq
      simp only [ok_bind] at hp
      obtain ⟨hp, Kf, hto, hof⟩ := ok_there (K := K) (γ := γ) (w := w) (E := E) hp
      obtain ⟨b, o, cs, hx, hK, hro, hcell⟩ := Ro.inv_r (hto hl)
      rw [hx]
      refine h.gets (fieldOff_run hoff _ _ _) (hof (Ro.r hK (sufx_ro hro hq) (fun j y hj => ?_))) hp
      rw [List.getElem?_drop] at hj
      rw [Nat.add_assoc]; exact hcell _ _ hj
    · exact hp.elim
  · exact hp.elim

theorem inb_iff {i : Int} {n : Nat} (h : inb i n = true) : 0 ≤ i ∧ i < (n : Int) := by simpa [inb] using h
theorem inb2_iff {lo hi : Int} {n : Nat} (h : inb2 lo hi n = true) : 0 ≤ lo ∧ lo ≤ hi ∧ hi ≤ (n : Int) := by simpa [inb2] using h
theorem slice_elem {t e : TypeId} (hu : P.underlying t = some (.slice e)) : P.elem t = e := by simp [Program.elem, hu]
theorem index_run {t e : TypeId} {z : Nat} (hu : P.underlying t = some (.slice e)) (hz : szOf P e = some z) (ad : Addr) (len cap : Nat) (k : IntKind) (i : Int) (h : 0 ≤ i ∧ i < (len : Int)) (w : World) :
    (Instr.indexAt t (.slice (some ad) len cap) (.int k i)).run P w = .ok (.pointer (some (ad.add (i.toNat * z)))) w := by
  have hel := slice_elem hu
  rw [run_indexAt_slice w t ad len cap k i (by rw [hel]; exact hu), if_pos h, hel, szOf_run hz]
  rfl
/-- a row of ours: its value, if it isn't empty -/
theorem Rel.row_val (h : Rel E w0 M K γ σ tm w) {o : Id} {n z : Nat} (hr : rowSz (σ.o o) = some (n, z)) : ∃ ad c, γ.hd o = .slice ad n c ∧ n ≤ c ∧ (0 < n → ∃ b p, ad = some ⟨b, p, none⟩) := by
  have hob := h.ob o
  cases ho : σ.o o with
  | ro f ver e sh ow v fc =>
    rw [ho] at hob hr
    cases hr
    rcases hob.1 with ⟨h1, h2, _⟩ | ⟨b, c, cur, css, Fs, h1, h2, h3, _⟩
    · exact ⟨none, 0, by rw [h1, h2], by omega, fun h => by omega⟩
    · exact ⟨_, c, h1, h3.1, fun _ => ⟨b, 0, rfl⟩⟩
  | fz f ver sh v =>
    rw [ho] at hob hr
    cases hr
    rcases Ro.inv_l hob.1 with ⟨rfl, ad, c, h1⟩ | ⟨b, p, c, css, h1, _, h3, _⟩
    · exact ⟨ad, c, h1, Nat.zero_le _, fun h => absurd h (Nat.lt_irrefl _)⟩
    · exact ⟨_, c, h1, h3, fun _ => ⟨b, p, rfl⟩⟩
  | _ => rw [ho] at hr; cases hr

theorem so_indexAddr (h : Rel E w0 M K γ σ tm w) {t e : TypeId} {z : Nat} (hu : P.underlying t = some (.slice e)) (hz : szOf P e = some z) {l : L} {x : Value} (hl : LR E w K σ.o γ l [x]) {k : IntKind} {i : Int} {Q : Re → Prop}
    (hp : (indexAddrF z l i).ok σ.d σ.o Q) : Gets P E w0 M σ tm w (Instr.indexAt t x (.int k i)) Q := by
  have data : ∀ {pv : Pv} {Kf : Nat → Prop} {sh : Sh} {v : List (Val sh)} {x : Value} {i j : Nat}, (∀ {sh : Sh} {v : Val sh} {cs : List Value}, Ro E w Kf sh v cs → LR E w K σ.o γ (.d pv sh v) cs) → Ro E w Kf (.l sh) v [x] → i < v.length → sh.sz = z →
      ∃ b p c, x = .slice (some ⟨b, p, none⟩) v.length c ∧ LR E w K σ.o γ (.d pv (.r sh) (v.getD i sh.zero)) [.pointer (some ⟨b, p + i * z, none⟩)] := by
    intro pv Kf sh v x i j hof hro hi hsz
    rcases Ro.inv_l hro with ⟨rfl, _⟩ | ⟨b, p, c, css, hx, hK, hc, hel, hcell⟩
    · simp at hi
    · refine ⟨b, p, c, hx, hof (Ro.r hK (by rw [getD_get hi]; exact hel i hi) (fun j y hj => ?_))⟩
      rw [Nat.add_assoc, ← hsz]; exact hcell _ _ _ hi hj
  unfold indexAddrF at hp
  split at hp
  · rename_i pv sh v
    simp only [ok_bind] at hp
    obtain ⟨hp, Kf, hto, hof⟩ := ok_there (K := K) (γ := γ) (w := w) (E := E) hp
    simp only [ok_chk] at hp
    obtain ⟨hsz, hin, hp⟩ := hp
    have hb := inb_iff hin
    have hi : i.toNat < v.length := by omega
    obtain ⟨b, p, c, hx, hlr⟩ := data (j := 0) hof (hto hl) hi (Nat.eq_of_beq_eq_true hsz)
    rw [hx]
    exact h.gets (by rw [index_run hu hz _ _ _ _ _ hb, add0]) hlr hp
  · rename_i o
    obtain ⟨y, hy, hno, hrw⟩ := hl
    injection hy with hy; subst hy
    simp only [ok_bind, ok_getO] at hp
    split at hp
    · rename_i f ver e' sh ow v fc ho
      simp only [ok_bind, ok_chk] at hp
      obtain ⟨hsz, hin, hp⟩ := hp
      have hb := inb_iff hin
      have hx := hrw (by rw [ho]; rfl)
      obtain ⟨ad, c, hh, _, hne⟩ := h.row_val (o := o) (n := v.length) (z := sh.sz) (by rw [ho]; rfl)
      obtain ⟨b, p, rfl⟩ := hne (by omega)
      rw [hx, hh]
      refine h.gets (l := .pe o i.toNat 0) (by rw [index_run hu hz _ _ _ _ _ hb, add0]) ⟨_, rfl, ⟨hno.1, rfl⟩, fun m z' hr => ?_⟩ hp
      rw [ho] at hr; cases hr
      exact ⟨by omega, b, p, c, hh, by rw [Nat.eq_of_beq_eq_true hsz]; rfl⟩
    · rename_i f ver sh v ho
      simp only [ok_bind, ok_chk] at hp
      obtain ⟨hsz, hin, hp⟩ := hp
      have hb := inb_iff hin
      have hx := hrw (by rw [ho]; rfl)
      have hob := h.ob o
      rw [ho] at hob
      have hi : i.toNat < v.length := by omega
      obtain ⟨b, p, c, hx', hlr⟩ := data (j := 0) (pv := .fz f) (fun h => h) hob.1 hi (Nat.eq_of_beq_eq_true hsz)
      rw [hx, hx']
      exact h.gets (by rw [index_run hu hz _ _ _ _ _ hb, add0]) hlr hp
    · exact hp.elim
  · rename_i o off n
    obtain ⟨y, hy, hno, hsl⟩ := hl
    injection hy with hy; subst hy
    simp only [ok_bind, ok_getO] at hp
    split at hp
    · rename_i f ver e' sh ow v fc ho
      simp only [ok_bind, ok_chk] at hp
      obtain ⟨hsz, hin, hp⟩ := hp
      have hb := inb_iff hin
      obtain ⟨ad, m, c, hh, hle, ad', c', hx, hnc, hpos, _⟩ := hsl v.length sh.sz (by rw [ho]; rfl)
      obtain ⟨b, p, rfl, rfl⟩ := hpos (by omega)
      obtain ⟨ad2, c2, hh2, _⟩ := h.row_val (o := o) (n := v.length) (z := sh.sz) (by rw [ho]; rfl)
      rw [hh] at hh2
      injection hh2 with e1 e2 e3
      subst e2
      rw [hx]
      refine h.gets (l := .pe o (off + i.toNat) 0) (by rw [index_run hu hz _ _ _ _ _ hb, add0]) ⟨_, rfl, ⟨hno.1, rfl⟩, fun m z' hr => ?_⟩ hp
      rw [ho] at hr; cases hr
      exact ⟨by omega, b, p, c, hh, by rw [Nat.eq_of_beq_eq_true hsz, Nat.add_mul, Nat.add_assoc, Nat.add_zero]⟩
    · rename_i f ver sh v ho
      simp only [ok_bind, ok_chk] at hp
      obtain ⟨hsz, hin, hp⟩ := hp
      have hb := inb_iff hin
      obtain ⟨ad, m, c, hh, hle, ad', c', hx, hnc, hpos, _⟩ := hsl v.length sh.sz (by rw [ho]; rfl)
      obtain ⟨b, p, rfl, rfl⟩ := hpos (by omega)
      have hob := h.ob o
      rw [ho, hh] at hob
      obtain ⟨ad2, c2, hh2, _⟩ := h.row_val (o := o) (n := v.length) (z := sh.sz) (by rw [ho]; rfl)
      rw [hh] at hh2
      injection hh2 with e1 e2 e3
      subst e2
      obtain ⟨b1, p1, c1, hx', hlr⟩ := data (j := 0) (pv := .fz f) (i := off + i.toNat) (fun h => h) hob.1 (by omega) (Nat.eq_of_beq_eq_true hsz)
      injection hx' with e1 e2 e3
      injection e1 with e1; injection e1 with e1 e4
      subst e1; subst e4
      rw [hx]
      refine h.gets (by rw [index_run hu hz _ _ _ _ _ hb, add0]) ?_ hp
      rw [Nat.eq_of_beq_eq_true hsz, Nat.add_assoc, ← Nat.add_mul]; exact hlr
    · exact hp.elim
  · exact hp.elim

theorem so_indexArr (h : Rel E w0 M K γ σ tm w) {t e : TypeId} {z k : Nat} (hu : P.underlying t = some (.array k e)) (hz : szOf P e = some z) {l : L} {x : Value} (hl : LR E w K σ.o γ l [x]) {ik : IntKind} {i : Int} {Q : Re → Prop}
    (hp : (indexArrF k z l i).ok σ.d σ.o Q) : Gets P E w0 M σ tm w (Instr.indexAt t x (.int ik i)) Q := by
  unfold indexArrF at hp
  split at hp
  · rename_i o j
    obtain ⟨y, hy, hno, hva⟩ := hl
    injection hy with hy; subst hy
    simp only [ok_bind, ok_getO] at hp
    split at hp
    · rename_i ls ho
      split at hp
      · rename_i q sh v rest hd
        simp only [ok_bind, ok_chk] at hp
        obtain ⟨hq, hsz, hin, hp⟩ := hp
        have hb := inb_iff hin
        obtain ⟨b, hh, hx⟩ := hva (by rw [ho]; rfl)
        rw [hx]
        refine h.gets (l := .px o j q sh i.toNat 0) (y := .pointer (some ⟨b, j + (i.toNat * sh.sz + 0), none⟩)) ?_ ⟨_, rfl, ⟨hno.1, rfl⟩, ?_, fun _ => ⟨b, hh, rfl⟩⟩ hp
        · have hs := szOf_run hz w
          simp [Instr.indexAt, asIntOf, run_underlying hu, Instr.sureAddr, hb.1, hb.2, hs, add0, Nat.eq_of_beq_eq_true hsz]
        · rw [Nat.eq_of_beq_eq_true hq]; omega
      · exact hp.elim
    · exact hp.elim
  · exact hp.elim
end
end Go.En
end
section
/-
  The engine, part I: slices of slices, parts, comparisons, conversions.
-/
namespace Go.En
open Go

section
variable {E : Ctx0} {w0 w : World} {M : Ml} {K : Bool → Nat → Prop} {γ : Gh} {σ : Sg} {tm : Array Value} {P : Program} {sd : Nat → D} {so : Id → Ob}

theorem bounds_run (b : Bool) (len cap : Nat) (lo hi : Option Value) (l hh : Int) (hlo : (lo = none ∧ l = 0) ∨ ∃ k, lo = some (.int k l)) (hhi : (hi = none ∧ hh = len) ∨ ∃ k, hi = some (.int k hh))
    (h0 : 0 ≤ l) (h1 : l ≤ hh) (h2 : hh ≤ len) (h3 : len ≤ cap) (w : World) : (Instr.sliceBounds b len cap lo hi none).run P w = .ok (l.toNat, hh.toNat, cap) w := by
  have e2 : (hh.toNat : Int) = hh := Int.toNat_of_nonneg (by omega)
  have hq : ∀ code, hh ≤ (cap : Int) := fun _ => by omega
  rcases hlo with ⟨rfl, rfl⟩ | ⟨k, rfl⟩ <;> rcases hhi with ⟨rfl, rfl⟩ | ⟨k', rfl⟩
  · simp [Instr.sliceBounds]
  · simp [Instr.sliceBounds, run_sliceBound w k' hh cap _ (by omega) (by omega)]
  · simp [Instr.sliceBounds, run_sliceBound w k l len _ (by omega) (by omega)]
  · simp [Instr.sliceBounds, run_sliceBound w k' hh cap _ (by omega) (by omega), run_sliceBound w k l hh.toNat _ (by omega) (by omega)]

theorem slice_run {t e : TypeId} {z : Nat} (hu : P.underlying t = some (.slice e)) (hz : szOf P e = some z) (ad : Option Addr) (len cap : Nat) (lo hi : Option Value) (l hh : Int)
    (hlo : (lo = none ∧ l = 0) ∨ ∃ k, lo = some (.int k l)) (hhi : (hi = none ∧ hh = len) ∨ ∃ k, hi = some (.int k hh)) (h0 : 0 ≤ l) (h1 : l ≤ hh) (h2 : hh ≤ len) (h3 : len ≤ cap) (w : World) :
    (Instr.sliceAt t (.slice ad len cap) lo hi none).run P w = .ok (sliced ad l.toNat hh.toNat cap z) w := by
  have hel : P.elem t = e := by simp [Program.elem, hu]
  have hu' : P.underlying t = some (.slice (P.elem t)) := by rw [hel]; exact hu
  rw [run_sliceAt_slice w t _ lo hi none hu', run_slice_any w t ad len cap hu', bounds_run true len cap lo hi l hh hlo hhi h0 h1 h2 h3, hel]
  simp [szOf_run hz]
theorem sliceStr_run {t : TypeId} (hu : P.underlying t = some .string) (s : ByteArray) (lo hi : Option Value) (l hh : Int)
    (hlo : (lo = none ∧ l = 0) ∨ ∃ k, lo = some (.int k l)) (hhi : (hi = none ∧ hh = s.size) ∨ ∃ k, hi = some (.int k hh)) (h0 : 0 ≤ l) (h1 : l ≤ hh) (h2 : hh ≤ s.size) (w : World) :
    (Instr.sliceAt t (.string s) lo hi none).run P w = .ok (.string (s.extract l.toNat hh.toNat)) w := by
  rw [run_sliceAt_string w t _ lo hi none hu]
  simp [Instr.slice, run_underlying hu, bounds_run false s.size s.size lo hi l hh hlo hhi h0 h1 h2 (Nat.le_refl _)]

theorem Ro.cut {K : Nat → Prop} {sh : Sh} {v : List (Val sh)} {x : Value} (h : Ro E w K (.l sh) v [x]) {l hh : Nat} (h1 : l ≤ hh) (h2 : hh ≤ v.length) :
    ∃ ad len cap, x = .slice ad len cap ∧ len = v.length ∧ (len ≤ cap → Ro E w K (.l sh) ((v.take hh).drop l) [sliced ad l hh cap sh.sz]) := by
  rcases Ro.inv_l h with ⟨rfl, ad, c, hxe⟩ | ⟨b, o, c, css, hxe, hK, hc, hel, hcell⟩
  · refine ⟨ad, 0, c, hxe, rfl, fun _ => ?_⟩
    have : hh = 0 := by simpa using h2
    subst this
    have : l = 0 := by omega
    subst this
    simp only [List.take_nil, List.drop_nil, sliced]
    exact .l0
  · refine ⟨_, _, c, hxe, rfl, fun _ => ?_⟩
    by_cases hlh : l = hh
    · subst hlh
      have : (v.take l).drop l = [] := by simp
      rw [this]
      simp only [sliced, Nat.sub_self]
      exact .l0
    · have hcl : c ≠ l := by omega
      simp only [sliced, if_neg hcl, Option.map_some, add0]
      refine .l (fun i => css (l + i)) (by simp; omega) hK (by omega) (fun i hi => ?_) (fun i j y hi hj => ?_)
      · simp only [List.length_drop, List.length_take] at hi
        have : ((v.take hh).drop l)[i]'(by simp only [List.length_drop, List.length_take]; exact hi) = v[l + i]'(by omega) := by simp [List.getElem_take, List.getElem_drop]
        rw [this]; exact hel (l + i) (by omega)
      · simp only [List.length_drop, List.length_take] at hi
        have := hcell (l + i) j y (by omega) hj
        rw [show o + l * sh.sz + (i * sh.sz + j) = o + ((l + i) * sh.sz + j) from by rw [Nat.add_mul]; omega]
        exact this


/-- bounds as they are handed in -/
def LoR (lo : Option Value) (l : Int) : Prop := (lo = none ∧ l = 0) ∨ ∃ k, lo = some (.int k l)
def HiR (hi : Option Value) (h : Option Int) : Prop := (hi = none ∧ h = none) ∨ ∃ k n, hi = some (.int k n) ∧ h = some n
theorem HiR.get {hi : Option Value} {h : Option Int} (hh : HiR hi h) (n : Nat) : (hi = none ∧ h.getD n = n) ∨ ∃ k, hi = some (.int k (h.getD n)) := by
  rcases hh with ⟨rfl, rfl⟩ | ⟨k, n, rfl, rfl⟩
  · exact .inl ⟨rfl, rfl⟩
  · exact .inr ⟨k, rfl⟩

theorem so_sliceS (h : Rel E w0 M K γ σ tm w) {t : TypeId} (hu : P.underlying t = some .string) {x : Value} {l : L} (hl : LR E w K σ.o γ l [x]) {lo hi : Option Value} {lv : Int} {hv : Option Int} (hlo : LoR lo lv) (hhi : HiR hi hv) {z : Nat} {Q : Re → Prop}
    (hs : ∃ f v, l = .d (.fz f) .s v) (hp : (sliceF z l lv hv).ok σ.d σ.o Q) : Gets P E w0 M σ tm w (Instr.sliceAt t x lo hi none) Q := by
  obtain ⟨f, v, rfl⟩ := hs
  simp only [sliceF, ok_bind, ok_chk] at hp
  obtain ⟨hin, hp⟩ := hp
  have hb := inb2_iff hin
  obtain rfl : x = .string v := by have := Ro.inv_s hl; injection this
  exact h.gets (sliceStr_run hu v lo hi lv _ hlo (hhi.get v.size) hb.1 hb.2.1 hb.2.2 w) (l := .d (.fz true) .s _) .s hp

theorem so_sliceR (h : Rel E w0 M K γ σ tm w) {t e : TypeId} {z : Nat} (hu : P.underlying t = some (.slice e)) (hz : szOf P e = some z) {x : Value} {l : L} (hl : LR E w K σ.o γ l [x]) {lo hi : Option Value} {lv : Int} {hv : Option Int} (hlo : LoR lo lv) (hhi : HiR hi hv) {Q : Re → Prop}
    (hs : ∀ f v, l ≠ .d (.fz f) .s v) (hp : (sliceF z l lv hv).ok σ.d σ.o Q) : Gets P E w0 M σ tm w (Instr.sliceAt t x lo hi none) Q := by
  have data : ∀ {pv : Pv} {Kf : Nat → Prop} {sh : Sh} {v : List (Val sh)} {x : Value}, (∀ {sh : Sh} {v : Val sh} {cs : List Value}, Ro E w Kf sh v cs → LR E w K σ.o γ (.d pv sh v) cs) → Ro E w Kf (.l sh) v [x] → sh.sz = z →
      inb2 lv (hv.getD v.length) v.length = true → (re (.d pv (.l sh) ((v.take (hv.getD v.length).toNat).drop lv.toNat))).ok σ.d σ.o Q → Gets P E w0 M σ tm w (Instr.sliceAt t x lo hi none) Q := by
    intro pv Kf sh v x hof hro hsz hin hq
    have hb := inb2_iff hin
    obtain ⟨ad, len, cap, hxe, hlen, hcut⟩ := Ro.cut hro (l := lv.toNat) (hh := (hv.getD v.length).toNat) (by omega) (by omega)
    subst hlen
    have hcap : v.length ≤ cap := by
      rcases Ro.inv_l hro with ⟨hv0, ad', c, h1⟩ | ⟨b, o, c, css, h1, hK, hc, _⟩
      · rw [hv0]; exact Nat.zero_le _
      · rw [hxe] at h1; injection h1 with _ _ h3; rw [h3]; exact hc
    rw [hxe]
    refine h.gets (slice_run hu hz ad v.length cap lo hi lv _ hlo (hhi.get v.length) hb.1 hb.2.1 hb.2.2 hcap w) ?_ hq
    rw [← hsz]
    exact hof (hcut hcap)
  have part : ∀ {o : Id} {n zz : Nat} {ad : Option Addr} {m c : Nat} {off : Nat}, (σ.o o ≠ .no ∧ x.oneCell' = true) → zz = z → inb2 lv (hv.getD n) n = true → n ≤ c →
      (∀ m' z', rowSz (σ.o o) = some (m', z') → z' = zz ∧ ∃ ad0 c0, γ.hd o = .slice ad0 m' c0 ∧ off + n ≤ m' ∧ (0 < n → ∃ b p, ad0 = some ⟨b, p, none⟩ ∧ ad = some ⟨b, p + off * zz, none⟩) ∧ (off = 0 → ad = ad0 ∧ c = c0)) →
      x = .slice ad n c → (re (.sl o (off + lv.toNat) ((hv.getD n).toNat - lv.toNat))).ok σ.d σ.o Q → Gets P E w0 M σ tm w (Instr.sliceAt t x lo hi none) Q := by
    intro o n zz ad m c off hno hzz hin hnc hrow hx hq
    have hb := inb2_iff hin
    subst hzz
    rw [hx]
    refine h.gets (l := .sl o (off + lv.toNat) ((hv.getD n).toNat - lv.toNat)) (slice_run hu hz ad n c lo hi lv _ hlo (hhi.get n) hb.1 hb.2.1 hb.2.2 hnc w) ⟨_, rfl, ⟨hno.1, rfl⟩, fun m' z' hr => ?_⟩ hq
    obtain ⟨rfl, ad0, c0, g1, g2, g3, g4⟩ := hrow m' z' hr
    refine ⟨ad0, m', c0, g1, by omega, _, _, rfl, by omega, fun hpos => ?_, fun h0 => ?_⟩
    · obtain ⟨b, p, g5, g6⟩ := g3 (by omega)
      refine ⟨b, p, g5, ?_⟩
      rw [if_neg (by omega), g6]
      simp only [Option.map_some, add0, Nat.add_mul, Nat.add_assoc]
    · have hoff : off = 0 := by omega
      have hl0 : lv.toNat = 0 := by omega
      obtain ⟨g5, g6⟩ := g4 hoff
      rw [hl0]
      refine ⟨?_, by omega⟩
      rw [← g5]
      split
      · rfl
      · cases ad with
        | none => rfl
        | some ad => simp [Addr.add_zero']
  unfold sliceF at hp
  split at hp
  · exact absurd rfl (hs _ _)
  · rename_i pv sh v
    simp only [ok_bind] at hp
    obtain ⟨hp, Kf, hto, hof⟩ := ok_there (K := K) (γ := γ) (w := w) (E := E) hp
    simp only [ok_chk] at hp
    exact data hof (hto hl) (Nat.eq_of_beq_eq_true hp.1) hp.2.1 hp.2.2
  · rename_i o
    obtain ⟨y, hy, hno, hrw⟩ := hl
    injection hy with hy; subst hy
    simp only [ok_bind, ok_getO] at hp
    split at hp
    · rename_i f ver e' sh ow v fc ho
      simp only [ok_bind, ok_chk] at hp
      have hx := hrw (by rw [ho]; rfl)
      obtain ⟨ad, c, hh, hnc, hne⟩ := h.row_val (o := o) (n := v.length) (z := sh.sz) (by rw [ho]; rfl)
      refine part (off := 0) (m := 0) hno (Nat.eq_of_beq_eq_true hp.1) hp.2.1 hnc ?_ (hx.trans hh) (by rw [Nat.zero_add]; exact hp.2.2)
      intro m' z' hr
      rw [ho] at hr; cases hr
      refine ⟨rfl, ad, c, hh, by omega, fun hpos => ?_, fun _ => ⟨rfl, rfl⟩⟩
      obtain ⟨b, p, rfl⟩ := hne hpos
      exact ⟨b, p, rfl, by rw [Nat.zero_mul]; rfl⟩
    · rename_i f ver sh v ho
      simp only [ok_bind, ok_chk] at hp
      have hx := hrw (by rw [ho]; rfl)
      have hob := h.ob o
      rw [ho] at hob
      rw [hx]
      exact data (pv := .fz f) (fun h => h) hob.1 (Nat.eq_of_beq_eq_true hp.1) hp.2.1 hp.2.2
    · exact hp.elim
  · rename_i o off n
    obtain ⟨y, hy, hno, hsl⟩ := hl
    injection hy with hy; subst hy
    simp only [ok_bind, ok_getO] at hp
    split at hp
    · rename_i f ver e' sh ow v fc ho
      simp only [ok_bind, ok_chk] at hp
      obtain ⟨ad, m, c, hh, hle, ad', c', hx, hnc, hpos, h0⟩ := hsl v.length sh.sz (by rw [ho]; rfl)
      obtain ⟨ad2, c2, hh2, _⟩ := h.row_val (o := o) (n := v.length) (z := sh.sz) (by rw [ho]; rfl)
      rw [hh] at hh2
      injection hh2 with e1 e2 e3
      subst e2
      refine part (off := off) (m := 0) hno (Nat.eq_of_beq_eq_true hp.1) hp.2.1 hnc ?_ hx hp.2.2
      intro m' z' hr
      rw [ho] at hr; cases hr
      exact ⟨rfl, ad, c, hh, hle, hpos, h0⟩
    · exact hp.elim
  · simp only [ok_bind, ok_chk] at hp
    obtain ⟨hin, hp⟩ := hp
    have hb := inb2_iff hin
    obtain rfl : x = .slice none 0 0 := by injection hl
    refine h.gets (l := .nl) (slice_run hu hz none 0 0 lo hi lv (hv.getD 0) hlo (hhi.get 0) hb.1 hb.2.1 hb.2.2 (Nat.le_refl _) w) ?_ hp
    have h1 : lv.toNat = 0 := by have := hb.1; have := hb.2.1; have := hb.2.2; omega
    have h2 : (hv.getD 0).toNat = 0 := by have := hb.2.2; omega
    rw [h1, h2]
    simp [sliced, LR]
  · exact hp.elim
theorem so_slice (h : Rel E w0 M K γ σ tm w) {C : Ctx0} {t : TypeId} {x : Value} {l : L} (hl : LR E w K σ.o γ l [x]) {lo hi : Option Value} {lv : Int} {hv : Option Int} (hlo : LoR lo lv) (hhi : HiR hi hv) {Q : Re → Prop}
    (hp : (sliceO C t l lv hv).ok σ.d σ.o Q) : Gets C.P E w0 M σ tm w (Instr.sliceAt t x lo hi none) Q := by
  unfold sliceO at hp
  split at hp
  · rename_i hu
    split at hp
    · rename_i f v
      exact so_sliceS h hu hl hlo hhi (z := 0) ⟨f, v, rfl⟩ (by simp only [sliceF]; exact hp)
    · exact hp.elim
  · rename_i e hu
    split at hp
    · rename_i z hz
      split at hp
      · exact hp.elim
      · rename_i hs
        exact so_sliceR h hu hz hl hlo hhi (fun f v e => hs f v e) hp
    · exact hp.elim
  · exact hp.elim

/-! ### parts of values -/
theorem PtsR.get {xs : List Pt} : ∀ {vs : List Value} {ix : Nat} {p : Pt}, PtsR E w K so γ xs vs → xs[ix]? = some p → ∃ v, vs[ix]? = some v ∧ PtR E w K so γ p v := by
  induction xs with
  | nil => intro vs ix p _ h; simp at h
  | cons x xs ih =>
    intro vs ix p h hx
    obtain ⟨y, ys, rfl, h1, h2⟩ := h
    cases ix with
    | zero => simp only [List.getElem?_cons_zero, Option.some.injEq] at hx; subst hx; exact ⟨y, rfl, h1⟩
    | succ ix => simp only [List.getElem?_cons_succ] at hx ⊢; exact ih h2 hx
theorem so_extract (h : Rel E w0 M K γ σ tm w) {d : D} {x : Value} (hd : DR E w K σ.o γ d x) {ix : Nat} {Q : Re → Prop} (hp : (extractF d ix).ok σ.d σ.o Q) : Gets P E w0 M σ tm w (Instr.extract x ix) Q := by
  unfold extractF at hp
  split at hp
  · rename_i xs
    split at hp
    · rename_i p hx
      obtain ⟨vs, rfl, hvs⟩ := hd
      obtain ⟨v, h1, h2⟩ := hvs.get hx
      exact ⟨v, w, by simp [Instr.extract, show vs[ix]? = some v by simpa using h1], _, hp, h.pos (d := .p p) h2⟩
    · exact hp.elim
  · exact hp.elim

theorem part_run {t : TypeId} {m : Option Nat} (hm : aggSz P t = some m) {cs : Array Value} {off : Nat} {ls : List L} (hr : LRs E w K so γ ls (cs.toList.drop off)) (_hoff : off ≤ cs.size) {Q : D → Prop} (hp : (loadLs m ls).ok sd so Q) :
    ∃ y d, (part t cs off).run P w = .ok y w ∧ Q d ∧ DR E w K so γ d y := by
  obtain ⟨d, hq, ⟨rfl, x, rest, hcs, hd⟩ | ⟨n, rfl, hn, hd⟩⟩ := ok_loadLs hr hp
  · have hag := aggSz_none hm
    have h0 : cs[off]? = some x := by
      have : (cs.toList.drop off)[0]? = some x := by rw [hcs]; rfl
      rw [List.getElem?_drop] at this; simpa using this
    exact ⟨x, d, by simp [part, hag, h0], hq, hd⟩
  · have hag := fun w => (aggSz_some hm w).1
    have hsz := fun w => (aggSz_some hm w).2
    refine ⟨.agg (cs.extract off (off + n)), d, by simp [part, hag, hsz], hq, ?_⟩
    have : ((cs.toList.drop off).take n).toArray = cs.extract off (off + n) := by
      apply Array.ext'
      simp [List.extract_eq_take_drop]
    rw [← this]; exact hd
theorem so_field (h : Rel E w0 M K γ σ tm w) {C : Ctx0} {t : TypeId} {f : Nat} {d : D} {x : Value} (hd : DR E w K σ.o γ d x) {Q : Re → Prop} (hp : (fieldF C t f d).ok σ.d σ.o Q) : Gets C.P E w0 M σ tm w (Instr.field t x f) Q := by
  unfold fieldF at hp
  split at hp
  · rename_i fs ls hu
    split at hp
    · rename_i q hq
      split at hp
      · rename_i m hm
        simp only [ok_bind, ok_opt, ok_pure] at hp
        obtain ⟨ls', hdr, hp⟩ := hp
        obtain ⟨cs, rfl, hcs⟩ := hd
        obtain ⟨h1, h2⟩ := hcs.drop hdr
        obtain ⟨y, d', h3, h4, h5⟩ := part_run hm h1 (by simpa using h2) hp
        exact ⟨y, w, by simp [Instr.field, run_underlying hu, hq, asAgg, h3], _, h4, h.pos h5⟩
      · exact hp.elim
    · exact hp.elim
  · exact hp.elim
theorem so_index (h : Rel E w0 M K γ σ tm w) {C : Ctx0} {t : TypeId} {d : D} {x : Value} (hd : DR E w K σ.o γ d x) {k : IntKind} {i : Int} {Q : Re → Prop} (hp : (indexF C t d i).ok σ.d σ.o Q) : Gets C.P E w0 M σ tm w (Instr.index t x (.int k i)) Q := by
  unfold indexF at hp
  split at hp
  · rename_i f s hu
    simp only [ok_bind, ok_chk] at hp
    obtain ⟨hin, hp⟩ := hp
    have hb := inb_iff hin
    have hlt : i.toNat < s.size := by omega
    obtain rfl : x = .string s := by have := Ro.inv_s hd; injection this
    exact h.getsI (by simp [Instr.index, asIntOf, run_underlying hu, hb.1, byteAt, hlt]) hp
  · rename_i n e pv q sh v hu
    simp only [ok_bind] at hp
    obtain ⟨hp1, Kf, hto, hof⟩ := ok_there (K := K) (γ := γ) (w := w) (E := E) hp
    clear hp
    simp only [ok_chk, Bool.and_eq_true] at hp1
    obtain ⟨⟨hq, hse⟩, hin, hp⟩ := hp1
    have hb := inb_iff hin
    obtain rfl : q = n := by simpa using hq
    obtain ⟨cs, rfl, hcs⟩ := hd
    have hcs' := LRs.inv_one hcs
    obtain ⟨hlen, hel⟩ := Ro.inv_v (hto hcs')
    have hi : i.toNat < v.length := by omega
    split at hse
    · rename_i z hz
      obtain rfl : z = sh.sz := by simpa using hse
      split at hp
      · rename_i m hm
        simp only [ok_bind, ok_pure] at hp
        rw [getD_get hi] at hp
        have hro := hel _ hi
        have hsz : cs.size = q * sh.sz := by have := (hto hcs').length; simpa [Sh.sz] using this
        have hmul : (i.toNat + 1) * sh.sz ≤ q * sh.sz := Nat.mul_le_mul_right _ (by omega)
        rw [Nat.add_mul, Nat.one_mul] at hmul
        have hlv := lvs_ok (K := K) (so := σ.o) (γ := γ) hof hro
        obtain ⟨y, d', h3, h4, h5⟩ : ∃ y d, (part e cs (i.toNat * sh.sz)).run C.P w = .ok y w ∧ Q (d, []) ∧ DR E w K σ.o γ d y := by
          obtain ⟨d, hq, ⟨rfl, x, rest, hcx, hd⟩ | ⟨n, rfl, hn, hd⟩⟩ := ok_loadLs hlv hp
          · have hag := aggSz_none hm
            have h0 : cs[i.toNat * sh.sz]? = some x := by
              have : ((cs.toList.drop (i.toNat * sh.sz)).take sh.sz)[0]? = some x := by rw [hcx]; rfl
              rw [List.getElem?_take] at this
              split at this
              · rw [List.getElem?_drop] at this; simpa using this
              · cases this
            exact ⟨x, d, by simp [part, hag, h0], hq, hd⟩
          · have hag := fun w => (aggSz_some hm w).1
            have hsz' := fun w => (aggSz_some hm w).2
            have hnz : n = sh.sz := by
              have := szOf_run hz w
              rw [hsz' w] at this; injection this
            subst hnz
            refine ⟨.agg (cs.extract (i.toNat * sh.sz) (i.toNat * sh.sz + sh.sz)), d, by simp [part, hag, hsz'], hq, ?_⟩
            have : (((cs.toList.drop (i.toNat * sh.sz)).take sh.sz).take sh.sz).toArray = cs.extract (i.toNat * sh.sz) (i.toNat * sh.sz + sh.sz) := by
              apply Array.ext'
              simp [List.extract_eq_take_drop, List.take_take]
            rw [← this]; exact hd
        refine ⟨y, w, ?_, _, h4, h.pos h5⟩
        have hs := szOf_run hz w
        simp [Instr.index, asIntOf, run_underlying hu, hb.1, hb.2, hs, h3]
      · exact hp.elim
    · cases hse
  · exact hp.elim

/-! ### lengths, comparisons, conversions -/
theorem ok_lenL (h : Rel E w0 M K γ σ tm w) {l : L} {x : Value} (hl : LR E w K σ.o γ l [x]) {Q : Int → Prop} (hp : (lenL l).ok σ.d σ.o Q) :
    ∃ n : Nat, Q n ∧ ∃ ad c, x = .slice ad n c ∧ (0 < n → ad.isSome = true) := by
  have row : ∀ {o : Id} {n z : Nat}, rowSz (σ.o o) = some (n, z) → x = γ.hd o → ∃ ad c, x = .slice ad n c ∧ (0 < n → ad.isSome = true) := by
    intro o n z hr hx
    obtain ⟨ad, c, hh, _, hne⟩ := h.row_val hr
    exact ⟨ad, c, hx.trans hh, fun hp => by obtain ⟨b, p, rfl⟩ := hne hp; rfl⟩
  unfold lenL at hp
  split at hp
  · exact ⟨0, hp, none, 0, by injection hl, fun h => absurd h (Nat.lt_irrefl _)⟩
  · rename_i pv a v
    simp only [ok_bind, ok_pure] at hp
    obtain ⟨hp, Kf, hto, hof⟩ := ok_there (K := K) (γ := γ) (w := w) (E := E) hp
    refine ⟨v.length, hp, ?_⟩
    rcases Ro.inv_l (hto hl) with ⟨rfl, ad, c, hx⟩ | ⟨b, o, c, css, hx, _⟩
    · exact ⟨ad, c, hx, fun h => absurd h (Nat.lt_irrefl _)⟩
    · exact ⟨_, c, hx, fun _ => rfl⟩
  · rename_i o
    obtain ⟨y, hy, hno, hrw⟩ := hl
    injection hy with hy; subst hy
    simp only [ok_bind, ok_getO] at hp
    split at hp
    · rename_i f ver e sh ow v fc ho
      exact ⟨v.length, hp, row (o := o) (z := sh.sz) (by rw [ho]; rfl) (hrw (by rw [ho]; rfl))⟩
    · rename_i f ver sh v ho
      exact ⟨v.length, hp, row (o := o) (z := sh.sz) (by rw [ho]; rfl) (hrw (by rw [ho]; rfl))⟩
    · exact hp.elim
  · rename_i o off n
    obtain ⟨y, hy, hno, hsl⟩ := hl
    injection hy with hy; subst hy
    simp only [ok_bind, ok_getO] at hp
    have key : ∀ m z, rowSz (σ.o o) = some (m, z) → Q n → ∃ n : Nat, Q n ∧ ∃ ad c, x = .slice ad n c ∧ (0 < n → ad.isSome = true) := by
      intro m z hr hq
      obtain ⟨ad, m', c, hh, hle, ad', c', hx, hnc, hpos, _⟩ := hsl m z hr
      exact ⟨n, hq, ad', c', hx, fun hp => by obtain ⟨b, p, _, rfl⟩ := hpos hp; rfl⟩
    split at hp
    · rename_i ho; exact key _ _ (by rw [ho]; rfl) hp
    · rename_i ho; exact key _ _ (by rw [ho]; rfl) hp
    · exact hp.elim
  · exact hp.elim
theorem EntR.len {k a : Sh} : ∀ {v : List (Val k × Val a)} {es : List MapEntry}, EntR k a v es → v.length = es.length := by
  intro v
  induction v with
  | nil => intro es h; rw [show es = [] from h]; rfl
  | cons x v ih => intro es ⟨m, ms, h5, _, _, h6⟩; rw [h5]; simp [ih h6]
theorem ok_lenM (h : Rel E w0 M K γ σ tm w) {l : L} {x : Value} (hl : LR E w K σ.o γ l [x]) {Q : Int → Prop} (hp : (lenM l).ok σ.d σ.o Q) :
    ∃ n : Nat, Q n ∧ ((x = .map none ∧ n = 0) ∨ ∃ b es clk, x = .map (some b) ∧ w.heap[b]? = some (.map es clk) ∧ n = es.size) := by
  unfold lenM at hp
  split at hp
  · exact ⟨0, hp, .inl ⟨by injection hl, rfl⟩⟩
  · rename_i o
    obtain ⟨y, hy, hno, hm⟩ := hl
    injection hy with hy; subst hy
    simp only [ok_bind, ok_getO] at hp
    split at hp
    · rename_i k a v ho
      have hx := hm (by rw [ho]; rfl)
      have hob := h.ob o
      rw [ho] at hob
      obtain ⟨b, es, clk, h1, h2, h3, h4⟩ := hob
      exact ⟨v.length, hp, .inr ⟨b, es, clk, hx.trans h1, h2, by have := h3.len; simpa using this⟩⟩
    · exact hp.elim
  · exact hp.elim

theorem so_len (h : Rel E w0 M K γ σ tm w) {C : Ctx0} {l : L} {x : Value} (hl : LR E w K σ.o γ l [x]) {ts : Array TypeId} {ty : TypeId} {Q : Re → Prop} (hp : (lenO C ts.toList.head? l).ok σ.d σ.o Q) : Gets C.P E w0 M σ tm w (Builtin.len_ ts ty #[x]) Q := by
  unfold lenO at hp
  have ht0 : ts.toList.head? = ts[0]? := by rw [List.head?_eq_getElem?]; simp
  rw [ht0] at hp
  cases ht : ts[0]? with
  | none => rw [ht] at hp; exact hp.elim
  | some t =>
    rw [ht] at hp
    simp only [Option.bind_some] at hp
    split at hp
    · rename_i hu
      split at hp
      · rename_i f v
        obtain rfl : x = .string v := by have := Ro.inv_s hl; injection this
        exact h.getsI (by simp [Builtin.len_, ht, run_underlying hu, goInt]) hp
      · exact hp.elim
    · rename_i e hu
      rw [ok_bind] at hp
      obtain ⟨n, hq, ad, c, rfl, _⟩ := ok_lenL h hl hp
      exact h.getsI (by simp [Builtin.len_, ht, run_underlying hu, goInt]) hq
    · rename_i k e hu
      rw [ok_bind] at hp
      obtain ⟨n, hq, ⟨rfl, rfl⟩ | ⟨b, es, clk, rfl, hb, rfl⟩⟩ := ok_lenM h hl hp
      · exact h.getsI (by simp [Builtin.len_, ht, run_underlying hu, goInt]) hq
      · exact h.getsI (by simp [Builtin.len_, ht, run_underlying hu, goInt, getObj, Sem.run, hb]) hq
    · exact hp.elim

theorem so_bool (h : Rel E w0 M K γ σ tm w) {op : BinOp} {t : TypeId} (hu : P.underlying t = some .bool) {x y : Operand} {u v : Bool} {Q : Re → Prop} (hp : (eqOp op (u == v)).ok σ.d σ.o Q) :
    Gets P E w0 M σ tm w (do eqGuard op t x y (.bool u) (.bool v); binOp op t (.bool u) (.bool v)) Q :=
  so_eqOp h (eqGuard_at_bool ..) rfl rfl ((by simp [Op.equalIn, run_underlying hu] : ∀ n, (Op.equalIn (n + 1) t (.bool u) (.bool v)).run P w = .ok (u == v) w) 9999) hp

theorem so_binO (h : Rel E w0 M K γ σ tm w) {C : Ctx0} {op : BinOp} {t : TypeId} {x y : Operand} {a : Act} (ha : a.tmps = tm) {Q : Re → Prop} (hp : (binO C op t x y).ok σ.d σ.o Q) :
    Gets C.P E w0 M σ tm w (do eqGuard op t x y (a.eval x) (a.eval y); binOp op t (a.eval x) (a.eval y)) Q := by
  unfold binO at hp
  split at hp
  · rename_i hn
    obtain rfl := isNilC_eq hn
    split at hp
    · rename_i ms hu
      rw [ok_bind] at hp
      obtain ⟨l, hp, hl⟩ := h.operL x a ha hp
      have hev : a.eval (.const .nilIface) = .nilIface := rfl
      rw [hev]
      unfold errF at hp
      split at hp
      · rename_i pv v
        rw [ok_bind] at hp
        obtain ⟨hp, Kf, hto, hof⟩ := ok_there (K := K) (γ := γ) (w := w) (E := E) hp
        rcases Ro.inv_e (hto hl) with ⟨rfl, he⟩ | ⟨hv, T, u, he⟩
        · rw [he]
          exact so_eqOp h (eqGuard_nil_constR ..) rfl rfl (run_eq_nil hu w 9999) hp
        · rw [he]
          exact so_eqOp h (eqGuard_at_iface ..) rfl rfl (by rw [hv]; exact run_eq_iface hu w T u 9999) hp
      · exact hp.elim
    · exact hp.elim
  · rename_i hn _
    obtain rfl := isNilP_eq hn
    split at hp
    · rename_i e hu
      rw [ok_bind] at hp
      obtain ⟨l, hp, hl⟩ := h.operL x a ha hp
      have hev : a.eval (.const (.pointer none)) = .pointer none := rfl
      rw [hev]
      have key : ∀ (p : Option Addr) (c : Bool), a.eval x = .pointer p → p.isNone = c → (eqK op c).ok σ.d σ.o Q ∨ (eqOp op c).ok σ.d σ.o Q → Gets C.P E w0 M σ tm w (do eqGuard op t x (.const (.pointer none)) (a.eval x) (.pointer none); binOp op t (a.eval x) (.pointer none)) Q := by
        intro p c hpx hc hq
        rw [hpx]
        rcases hq with hq | hq
        · exact so_eqK h (eqGuard_at_pointer ..) (by cases p <;> rfl) (by cases p <;> rfl) (by rw [← hc]; exact run_eq_ptr hu w p 9999) hq
        · exact so_eqOp h (eqGuard_at_pointer ..) (by cases p <;> rfl) (by cases p <;> rfl) (by rw [← hc]; exact run_eq_ptr hu w p 9999) hq
      unfold ptrF at hp
      split at hp
      · exact key none true (by injection hl) rfl (.inl hp)
      · rename_i o j
        rw [ok_bind, ok_getO] at hp
        split at hp
        · rename_i ls ho
          obtain ⟨z, hz, _, hva⟩ := hl
          injection hz with hz; subst hz
          obtain ⟨b, _, hx⟩ := hva (by rw [ho]; rfl)
          exact key _ false hx rfl (.inl hp)
        · exact hp.elim
      · rename_i o i j
        rw [ok_bind, ok_getO] at hp
        obtain ⟨z, hz, _, hro⟩ := hl
        injection hz with hz; subst hz
        split at hp
        · rename_i ho
          obtain ⟨_, b, p, c, _, hx⟩ := hro _ _ (by rw [ho]; rfl)
          exact key _ false hx rfl (.inl hp)
        · rename_i ho
          obtain ⟨_, b, p, c, _, hx⟩ := hro _ _ (by rw [ho]; rfl)
          exact key _ false hx rfl (.inl hp)
        · exact hp.elim
      · rename_i pv sh v
        rw [ok_bind] at hp
        obtain ⟨hp, Kf, hto, hof⟩ := ok_there (K := K) (γ := γ) (w := w) (E := E) hp
        obtain ⟨b, o, cs, hx, _⟩ := Ro.inv_r (hto hl)
        exact key _ false hx rfl (.inl hp)
      · rename_i pv sh v
        rw [ok_bind] at hp
        obtain ⟨hp, Kf, hto, hof⟩ := ok_there (K := K) (γ := γ) (w := w) (E := E) hp
        rcases Ro.inv_o (hto hl) with ⟨rfl, hx⟩ | ⟨u, b, o, cs, rfl, hx, _⟩
        · exact key _ true hx rfl (.inr hp)
        · exact key _ false hx rfl (.inr hp)
      · exact hp.elim
    · exact hp.elim
  · rename_i hn _ _
    obtain rfl := isNilS_eq hn
    split at hp
    · rename_i e hu
      rw [ok_bind] at hp
      obtain ⟨l, hp, hl⟩ := h.operL x a ha hp
      have hev : a.eval (.const (.slice none 0 0)) = .slice none 0 0 := rfl
      rw [hev]
      have eq : ∀ (ad : Option Addr) (n c : Nat), (Op.equal t (.slice ad n c) (.slice none 0 0)).run C.P w = .ok ad.isNone w := by
        intro ad n c
        have : ∀ m, (Op.equalIn (m + 1) t (.slice ad n c) (.slice none 0 0)).run C.P w = .ok ad.isNone w := by
          intro m; cases ad <;> simp [Op.equalIn, run_underlying hu]
        exact this 9999
      have hg : ∀ (ad : Option Addr) (n c : Nat), eqGuard op t x (.const (.slice none 0 0)) (.slice ad n c) (.slice none 0 0) = pure () := by
        intro ad n c; unfold eqGuard; split <;> rfl
      unfold nilF at hp
      split at hp
      · rw [show a.eval x = .slice none 0 0 by injection hl]
        exact so_eqK h (hg ..) rfl rfl (eq none 0 0) hp
      · rw [ok_bind] at hp
        obtain ⟨n, hq, ad, c, hx, hpos⟩ := ok_lenL h hl hp
        rw [hx]
        rw [ok_br] at hq
        rcases hq with ⟨_, h1⟩ | ⟨hn0, h1⟩
        · obtain ⟨h2, h3⟩ := h1
          cases had : ad.isNone with
          | true => exact so_eqOp h (hg ..) (by cases ad <;> rfl) (by cases ad <;> rfl) (by rw [eq, had]) h2
          | false => exact so_eqOp h (hg ..) (by cases ad <;> rfl) (by cases ad <;> rfl) (by rw [eq, had]) h3
        · have : 0 < n := by
            have : ¬ (n : Int) = 0 := by simpa using hn0
            omega
          have had := hpos this
          refine so_eqK h (hg ..) (by cases ad <;> rfl) (by cases ad <;> rfl) ?_ h1
          rw [eq]; cases ad <;> first | rfl | cases had
    · exact hp.elim
  · rw [ok_bind] at hp
    obtain ⟨d1, hp1, hd1⟩ := h.oper x a ha hp
    clear hp
    rw [ok_bind] at hp1
    obtain ⟨d2, hp, hd2⟩ := h.oper y a ha hp1
    clear hp1
    unfold bin2 at hp
    split at hp
    · rename_i l l'
      replace hd1 : LR E w K σ.o γ l [a.eval x] := hd1
      replace hd2 : LR E w K σ.o γ l' [a.eval y] := hd2
      split at hp
      · rename_i hb
        have hu : C.P.underlying t = some .bool := by
          unfold boolT at hb; split at hb
          · assumption
          · cases hb
        split at hp
        · have e1 := Ro.inv_b hd1; have e2 := Ro.inv_b hd2
          injection e1 with e1; injection e2 with e2
          rw [e1, e2]; exact so_bool h hu hp
        · have e2 := Ro.inv_b hd2
          injection hd1 with e1; injection e2 with e2
          rw [e1, e2]; exact so_bool h hu hp
        · have e1 := Ro.inv_b hd1
          injection e1 with e1; injection hd2 with e2
          rw [e1, e2]; exact so_bool h hu hp
        · injection hd1 with e1; injection hd2 with e2
          rw [e1, e2]; exact so_bool h hu hp
        · exact hp.elim
      · unfold binF at hp
        split at hp
        · have e1 := Ro.inv_i hd1; have e2 := Ro.inv_i hd2
          injection e1 with e1; injection e2 with e2
          rw [e1, e2, guard_int]
          exact so_intOp h hp
        · have e1 := Ro.inv_s hd1; have e2 := Ro.inv_s hd2
          injection e1 with e1; injection e2 with e2
          rw [e1, e2, guard_string]
          exact so_strOp h hp
        · exact hp.elim
    · exact hp.elim

theorem so_convert (h : Rel E w0 M K γ σ tm w) {C : Ctx0} {src dst : TypeId} {l : L} {x : Value} (hl : LR E w K σ.o γ l [x]) {Q : Re → Prop} (hp : (convertF C src dst l).ok σ.d σ.o Q) : Gets C.P E w0 M σ tm w (convert src dst x) Q := by
  unfold convertF at hp
  split at hp
  · split at hp
    · rename_i q k hu1 hu2
      have e1 := Ro.inv_i hl; injection e1 with e1
      rw [e1]
      have hk : C.P.intKind dst = k := by simp [Program.intKind, hu2]
      refine h.getsI ?_ hp
      rw [run_convert_int w src dst _ _ (by simp [hu1]) (by rw [hk]; exact hu2), hk]
    · exact hp.elim
  · exact hp.elim
end
end Go.En
end
section
/-
  The engine, part J: objects change; leaves become data, or parts of an object.
-/
namespace Go.En
open Go

section
variable {E : Ctx0} {w0 w w' : World} {M : Ml} {K : Bool → Nat → Prop} {γ : Gh} {σ : Sg} {tm : Array Value} {P : Program} {sd : Nat → D} {so : Id → Ob}

/-- blocks that nobody has -/
def Free (w0 : World) (M : Ml) (K : Bool → Nat → Prop) (γ : Gh) (b : Nat) : Prop := (w0.heap.size ≤ b ∨ M true b) ∧ ¬ K false b ∧ ∀ o, ¬ b ∈ γ.fp o
theorem Rel.free_new (h : Rel E w0 M K γ σ tm w) {b : Nat} (hb : w.heap.size ≤ b) : Free w0 M K γ b :=
  ⟨.inl (Nat.le_trans h.sz hb), fun hk => absurd (h.kb false b hk) (by omega), fun o ho => absurd (h.ow o b ho).2.1 (by omega)⟩

/-- an object is new, or changes -/
theorem Rel.upd (h : Rel E w0 M K γ σ tm w) (x : Id) {ob : Ob} {hd : Value} {F : List Nat} (hw : ∀ b, b < w.heap.size → ¬ b ∈ γ.fp x → ¬ Free w0 M K γ b → w'.heap[b]? = w.heap[b]?)
    (hsz : w.heap.size ≤ w'.heap.size) (hos : w'.os = w.os) (htape : w'.tape = w.tape) (hout : w'.output = w.output) (hF : ∀ b, b ∈ F → (b ∈ γ.fp x ∨ Free w0 M K γ b) ∧ b < w'.heap.size) (hnd : F.Nodup)
    (hvis : σ.o x = .no ∨ ((∀ q, rowSz ob = some q → rowSz (σ.o x) = some q ∧ hd = γ.hd x) ∧ (isVa ob = true → isVa (σ.o x) = true ∧ hd = γ.hd x) ∧ (isMa ob = true → isMa (σ.o x) = true ∧ hd = γ.hd x) ∧ (∀ v, verOf ob = some v → ∃ v0, verOf (σ.o x) = some v0 ∧ v0 < v) ∧ ob ≠ .no))
    (hob : ObR E w' K (σ.setO x ob).o (γ.set x hd F) ob hd F) : Rel E w0 M K (γ.set x hd F) (σ.setO x ob) tm w' := by
  have hfp : ∀ o, o ≠ x → (γ.set x hd F).fp o = γ.fp o := fun o ho => by simp only [Gh.set, if_neg ho]
  have hhd : ∀ o, o ≠ x → (γ.set x hd F).hd o = γ.hd o := fun o ho => by simp only [Gh.set, if_neg ho]
  have hso : ∀ o, o ≠ x → (σ.setO x ob).o o = σ.o o := fun o ho => by simp only [Sg.setO, if_neg ho]
  have hxo : (σ.setO x ob).o x = ob := by simp [Sg.setO]
  have hxf : (γ.set x hd F).fp x = F := by simp [Gh.set]
  have hxh : (γ.set x hd F).hd x = hd := by simp [Gh.set]
  have hother : ∀ o, o ≠ x → ∀ b, b ∈ γ.fp o → w'.heap[b]? = w.heap[b]? := by
    intro o ho b hb
    exact hw b (h.ow o b hb).2.1 (fun hb' => ho (h.dj o x b hb hb')) (fun hf => hf.2.2 o hb)
  have hK : ∀ f b, K f b → w'.heap[b]? = w.heap[b]? := by
    intro f b hb
    have hb' : K false b := by cases f; exact hb; exact h.kk b hb
    exact hw b (h.kb f b hb) (fun hm => (h.ow x b hm).2.2 hb') (fun hf => hf.2.1 hb')
  have hx : Ext w w' K K σ.o (σ.setO x ob).o γ (γ.set x hd F) := by
    refine ⟨fun _ _ h => h, hK, ?_, ?_, ?_, ?_, ?_⟩
    · intro o ho
      by_cases e : o = x
      · subst e
        rcases hvis with hv | hv
        · exact absurd hv ho
        · rw [hxo]; exact hv.2.2.2.2
      · rw [hso o e]; exact ho
    · intro o q ho hr
      by_cases e : o = x
      · subst e
        rcases hvis with hv | hv
        · exact absurd hv ho
        · rw [hxo] at hr; rw [hxh]; exact hv.1 q hr
      · rw [hso o e] at hr; exact ⟨hr, hhd o e⟩
    · intro o ho hr
      by_cases e : o = x
      · subst e
        rcases hvis with hv | hv
        · exact absurd hv ho
        · rw [hxo] at hr; rw [hxh]; exact hv.2.1 hr
      · rw [hso o e] at hr; exact ⟨hr, hhd o e⟩
    · intro o ho hr
      by_cases e : o = x
      · subst e
        rcases hvis with hv | hv
        · exact absurd hv ho
        · rw [hxo] at hr; rw [hxh]; exact hv.2.2.1 hr
      · rw [hso o e] at hr; exact ⟨hr, hhd o e⟩
    · intro o v ho hr
      by_cases e : o = x
      · subst e
        rcases hvis with hv | hv
        · exact absurd hv ho
        · rw [hxo] at hr
          obtain ⟨v0, h1, h2⟩ := hv.2.2.2.1 v hr
          exact ⟨v0, h1, by omega, fun e => by omega⟩
      · rw [hso o e] at hr
        exact ⟨v, hr, Nat.le_refl _, fun _ => ⟨by rw [hso o e], fun b hb => ⟨.inl (by rw [hfp o e]; exact hb), hother o e b hb⟩⟩⟩
  refine h.chg hx ?_ ?_ ?_ ?_ (fun f b hb => Nat.lt_of_lt_of_le (h.kb f b hb) hsz) h.kk h.k1 h.k0 hsz ?_ hos htape hout
  · intro o
    by_cases e : o = x
    · subst e
      right
      show ObR E w' K (σ.setO o ob).o (γ.set o hd F) ((σ.setO o ob).o o) ((γ.set o hd F).hd o) ((γ.set o hd F).fp o)
      rw [hxo, hxh, hxf]; exact hob
    · exact .inl ⟨hso o e, hhd o e, hfp o e, hother o e⟩
  · intro o o' b hb hb'
    by_cases e : o = x
    · by_cases e' : o' = x
      · rw [e, e']
      · subst e
        rw [hxf] at hb; rw [hfp o' e'] at hb'
        rcases (hF b hb).1 with h1 | h1
        · exact h.dj o o' b h1 hb'
        · exact absurd hb' (h1.2.2 o')
    · by_cases e' : o' = x
      · subst e'
        rw [hxf] at hb'; rw [hfp o e] at hb
        rcases (hF b hb').1 with h1 | h1
        · exact h.dj o o' b hb h1
        · exact absurd hb (h1.2.2 o)
      · rw [hfp o e] at hb; rw [hfp o' e'] at hb'; exact h.dj o o' b hb hb'
  · intro o
    by_cases e : o = x
    · subst e; rw [hxf]; exact hnd
    · rw [hfp o e]; exact h.nd o
  · intro o b hb
    by_cases e : o = x
    · subst e
      rw [hxf] at hb
      obtain ⟨h1, h2⟩ := hF b hb
      rcases h1 with h1 | h1
      · exact ⟨(h.ow o b h1).1, h2, (h.ow o b h1).2.2⟩
      · exact ⟨h1.1, h2, h1.2.1⟩
    · rw [hfp o e] at hb
      exact ⟨(h.ow o b hb).1, Nat.lt_of_lt_of_le (h.ow o b hb).2.1 hsz, (h.ow o b hb).2.2⟩
  · intro b hb hm
    refine hw b (Nat.lt_of_lt_of_le hb h.sz) (fun hx' => ?_) (fun hf => ?_)
    · rcases (h.ow x b hx').1 with h1 | h1
      · omega
      · exact hm h1
    · rcases hf.1 with h1 | h1
      · omega
      · exact hm h1

/-! ### what is taken: rows become parts of others, or data -/
/-- one entry: a row is gone, or it is data -/
def WOk (σ : Sg) (q : Id × Ob) : Prop :=
  ∃ f ver e sh ow v, σ.o q.1 = .ro f ver e sh ow v none ∧ (q.2 = .gone ∨ q.2 = .fz f ver sh v)
def isFz : Ob → Bool
  | .fz .. => true
  | _ => false
def Zof (γ : Gh) (ws : Wo) (b : Nat) : Prop := ∃ q, q ∈ ws ∧ isFz q.2 = true ∧ b ∈ γ.fp q.1
def absF (γ : Gh) : Wo → List Nat
  | [] => []
  | (k, .gone) :: ws => γ.fp k ++ absF γ ws
  | _ :: ws => absF γ ws
theorem absF_append (γ : Gh) : ∀ (a b : Wo), absF γ (a ++ b) = absF γ a ++ absF γ b
  | [], b => rfl
  | (k, ob) :: a, b => by
    cases ob <;> simp only [List.cons_append, absF, absF_append γ a b, List.append_assoc]
theorem absF_mem {γ : Gh} : ∀ {ws : Wo} {b : Nat}, b ∈ absF γ ws ↔ ∃ k, (k, Ob.gone) ∈ ws ∧ b ∈ γ.fp k
  | [], b => by simp [absF]
  | (k, ob) :: ws, b => by
    have ih := @absF_mem γ ws b
    cases ob with
    | gone =>
      simp only [absF, List.mem_append, ih, List.mem_cons]
      constructor
      · rintro (h | ⟨k', h1, h2⟩)
        · exact ⟨k, .inl rfl, h⟩
        · exact ⟨k', .inr h1, h2⟩
      · rintro ⟨k', h1 | h1, h2⟩
        · injection h1 with e1; subst e1; exact .inl h2
        · exact .inr ⟨k', h1, h2⟩
    | _ =>
      simp only [absF, ih, List.mem_cons]
      constructor
      · rintro ⟨k', h1, h2⟩; exact ⟨k', .inr h1, h2⟩
      · rintro ⟨k', h1 | h1, h2⟩
        · injection h1 with _ e2; cases e2
        · exact ⟨k', h1, h2⟩
theorem Zof_append {γ : Gh} {a b : Wo} {x : Nat} : Zof γ (a ++ b) x ↔ Zof γ a x ∨ Zof γ b x := by
  constructor
  · rintro ⟨q, hq, h⟩
    rcases List.mem_append.1 hq with h1 | h1
    · exact .inl ⟨q, h1, h⟩
    · exact .inr ⟨q, h1, h⟩
  · rintro (⟨q, hq, h⟩ | ⟨q, hq, h⟩)
    · exact ⟨q, List.mem_append_left _ hq, h⟩
    · exact ⟨q, List.mem_append_right _ hq, h⟩

/-- the state behind it -/
def Gh.take (γ : Gh) : Wo → Gh
  | [] => γ
  | (k, _) :: ws => (γ.set k (γ.hd k) []).take ws
theorem Gh.take_hd : ∀ (ws : Wo) (γ : Gh) (o : Id), (γ.take ws).hd o = γ.hd o
  | [], _, _ => rfl
  | (k, _) :: ws, γ, o => by
    rw [Gh.take, Gh.take_hd ws]
    simp only [Gh.set]
    by_cases h : o = k
    · subst h; simp
    · rw [if_neg h]
theorem Gh.take_fp : ∀ (ws : Wo) (γ : Gh) (o : Id), (γ.take ws).fp o = if (∃ q, q ∈ ws ∧ q.1 = o) then [] else γ.fp o
  | [], _, _ => by rw [if_neg (by rintro ⟨q, hq, _⟩; cases hq)]; rfl
  | (k, ob) :: ws, γ, o => by
    rw [Gh.take, Gh.take_fp ws]
    by_cases h1 : ∃ q, q ∈ ws ∧ q.1 = o
    · obtain ⟨q, hq, he⟩ := h1
      rw [if_pos ⟨q, hq, he⟩, if_pos ⟨q, List.mem_cons_of_mem _ hq, he⟩]
    · rw [if_neg h1]
      simp only [Gh.set]
      by_cases h : o = k
      · subst h; rw [if_pos rfl, if_pos ⟨(o, ob), List.mem_cons_self .., rfl⟩]
      · rw [if_neg h, if_neg (by
          rintro ⟨q, hq, he⟩
          rcases List.mem_cons.1 hq with rfl | hq
          · exact h he.symm
          · exact h1 ⟨q, hq, he⟩)]
theorem setW_o : ∀ (ws : Wo) (σ : Sg) (o : Id), (∀ q, q ∈ ws → q.1 ≠ o) → (σ.setW ws).o o = σ.o o
  | [], _, _, _ => rfl
  | (k, ob) :: ws, σ, o, h => by
    rw [Sg.setW, setW_o ws _ o (fun q hq => h q (List.mem_cons_of_mem _ hq))]
    simp only [Sg.setO]
    rw [if_neg (fun e => h (k, ob) (List.mem_cons_self ..) e.symm)]
theorem setW_d : ∀ (ws : Wo) (σ : Sg), (σ.setW ws).d = σ.d ∧ (σ.setW ws).n = σ.n
  | [], _ => ⟨rfl, rfl⟩
  | (k, ob) :: ws, σ => by obtain ⟨h1, h2⟩ := setW_d ws (σ.setO k ob); exact ⟨h1, h2⟩
theorem setW_append (σ : Sg) : ∀ (a b : Wo), σ.setW (a ++ b) = (σ.setW a).setW b := by
  intro a
  induction a generalizing σ with
  | nil => intro b; rfl
  | cons q a ih => intro b; obtain ⟨k, ob⟩ := q; exact ih (σ.setO k ob) b
theorem okW_append {a b : Wo} (h : okW (a ++ b) = true) : okW a = true ∧ okW b = true := by
  induction a with
  | nil => exact ⟨rfl, h⟩
  | cons q a ih =>
    obtain ⟨k, ob⟩ := q
    simp only [List.cons_append, okW, Bool.and_eq_true, List.all_eq_true] at h ⊢
    obtain ⟨h1, h2⟩ := ih h.2
    exact ⟨⟨fun q hq => h.1 q (List.mem_append_left _ hq), h1⟩, h2⟩
/-- what is written of an object that is named more than once -/
theorem okW_same {k : Id} {ob : Ob} {ws : Wo} (h : okW ((k, ob) :: ws) = true) {q : Id × Ob} (hq : q ∈ ws) (hk : q.1 = k) : isFz ob = true ∧ isFz q.2 = true := by
  simp only [okW, Bool.and_eq_true, List.all_eq_true] at h
  have := h.1 q hq
  rw [hk, Id.eqb_iff.2 rfl] at this
  simp only [Bool.not_true, Bool.false_or] at this
  split at this
  · rename_i h1 h2
    rw [h2]; exact ⟨rfl, rfl⟩
  · cases this
theorem setW_mem : ∀ (ws : Wo) (σ : Sg), okW ws = true → (∀ q, q ∈ ws → WOk σ q) → ∀ q, q ∈ ws → (σ.setW ws).o q.1 = q.2 := by
  intro ws
  induction ws with
  | nil => intro σ _ _ q hq; cases hq
  | cons p ws ih =>
    intro σ ho hw q hq
    obtain ⟨k, ob⟩ := p
    have ho' : okW ws = true := by simp only [okW, Bool.and_eq_true] at ho; exact ho.2
    by_cases hex : ∃ q', q' ∈ ws ∧ q'.1 = k
    · -- it is named again: both are the same data
      obtain ⟨q', hq', hk'⟩ := hex
      obtain ⟨g1, g2⟩ := okW_same ho hq' hk'
      have all : ∀ q'', q'' ∈ (k, ob) :: ws → q''.1 = k → q''.2 = ob := by
        intro q'' h1 h2
        obtain ⟨f, ver, e, sh, ow, v, a1, a2⟩ := hw (k, ob) (List.mem_cons_self ..)
        obtain ⟨f', ver', e', sh', ow', v', b1, b2⟩ := hw q'' h1
        rw [h2] at b1
        have a1' : σ.o k = .ro f ver e sh ow v none := a1
        rw [a1'] at b1
        have hz : isFz q''.2 = true := by
          rcases List.mem_cons.1 h1 with rfl | h1
          · exact g1
          · exact (okW_same ho h1 h2).2
        injection b1 with c1 c2 c3 c4 c5 c6
        subst c1; subst c2; subst c4
        have c6' := eq_of_heq c6
        subst c6'
        rcases b2 with b2 | b2
        · rw [b2] at hz; cases hz
        · rcases a2 with a2 | a2
          · rw [show ob = .gone from a2] at g1; cases g1
          · rw [b2]; exact a2.symm
      have stays : ∀ (ws' : Wo) (σ' : Sg), (∀ q, q ∈ ws' → q.1 = k → q.2 = ob) → σ'.o k = ob → (σ'.setW ws').o k = ob := by
        intro ws'
        induction ws' with
        | nil => intro σ' _ h; exact h
        | cons p' ws' ih' =>
          intro σ' hall h
          obtain ⟨k', ob'⟩ := p'
          refine ih' _ (fun q hq => hall q (List.mem_cons_of_mem _ hq)) ?_
          simp only [Sg.setO]
          split
          · rename_i e; exact hall (k', ob') (List.mem_cons_self ..) e.symm
          · exact h
      by_cases hqk : q.1 = k
      · rw [hqk, all q hq hqk]
        exact stays ws _ (fun q h1 h2 => all q (List.mem_cons_of_mem _ h1) h2) (by simp [Sg.setO])
      · rcases List.mem_cons.1 hq with rfl | hq
        · exact absurd rfl hqk
        · -- others: drop the entries of k
          have gen : ∀ (ws' : Wo) (σ1 σ2 : Sg), (∀ o, o ≠ k → σ1.o o = σ2.o o) → ∀ o, o ≠ k → (σ1.setW ws').o o = (σ2.setW ws').o o := by
            intro ws'
            induction ws' with
            | nil => intro σ1 σ2 h o ho; exact h o ho
            | cons p' ws' ih' =>
              intro σ1 σ2 h o ho
              obtain ⟨k', ob'⟩ := p'
              refine ih' _ _ (fun o ho => ?_) o ho
              simp only [Sg.setO]
              split
              · rfl
              · exact h o ho
          rw [Sg.setW, gen ws (σ.setO k ob) σ (fun o ho => by simp only [Sg.setO, if_neg ho]) q.1 hqk]
          exact ih σ ho' (fun q hq => hw q (List.mem_cons_of_mem _ hq)) q hq
    · rcases List.mem_cons.1 hq with rfl | hq
      · rw [Sg.setW, setW_o ws _ _ (fun q hq e => hex ⟨q, hq, e⟩)]
        simp [Sg.setO]
      · refine ih (σ.setO k ob) ho' (fun q' hq' => ?_) q hq
        obtain ⟨f, ver, e, sh, ow, v, a1, a2⟩ := hw q' (List.mem_cons_of_mem _ hq')
        refine ⟨f, ver, e, sh, ow, v, ?_, a2⟩
        simp only [Sg.setO]
        rw [if_neg (fun e => hex ⟨q', hq', e⟩)]; exact a1
end
end Go.En
end
