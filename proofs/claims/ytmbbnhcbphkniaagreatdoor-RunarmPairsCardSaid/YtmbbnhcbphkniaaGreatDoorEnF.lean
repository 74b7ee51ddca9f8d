/-
  The engine, part A: simple values V, the abstract heap, the evaluator of operations and of code without loops. Conditions: none (definitions).
-/
import Derived.Calls
import Derived.Orders
import Derived.KernelRfl
import GoSem.ClaimData
import Derived.Laws.World
import Derived.Laws.Sem
import Derived.Laws.Cells
import Derived.Laws.Rows
import Derived.MapKept
import Derived.Laws.StructEq
import Derived.Laws.Strings
import Derived.Laws.CopyRow
import Derived.Laws.AppendOwn
import Derived.Laws.Tables
import Derived.Laws.Slices
namespace Go.Ab

/-- What lies in a slice that nobody writes any more: a code of its elements. -/
inductive EC where
  | int (k : IntKind)
  | bool
  | str
  | sl (c : EC)
  | prod (cs : List EC)
  deriving Inhabited

mutual
/-- The elements of a code, as Lean has them. -/
def EC.ty : EC → Type
  | .int _ => Int
  | .bool => Bool
  | .str => List UInt8
  | .sl c => Option (List c.ty)
  | .prod cs => EC.tys cs
def EC.tys : List EC → Type
  | [] => Unit
  | [c] => c.ty
  | c :: d :: cs => c.ty × EC.tys (d :: cs)
end

mutual
def EC.dflt : (c : EC) → c.ty
  | .int _ => (0 : Int)
  | .bool => false
  | .str => ([] : List UInt8)
  | .sl c => (none : Option (List c.ty))
  | .prod cs => EC.dflts cs
def EC.dflts : (cs : List EC) → EC.tys cs
  | [] => ()
  | [c] => c.dflt
  | c :: d :: cs => (c.dflt, EC.dflts (d :: cs))
end

mutual
def EC.size : EC → Nat
  | .prod cs => EC.sizes cs
  | _ => 1
def EC.sizes : List EC → Nat
  | [] => 0
  | [c] => c.size
  | c :: d :: cs => c.size + EC.sizes (d :: cs)
end

mutual
def EC.same : (c d : EC) → Option (PLift (c = d))
  | .int k, .int l => if h : k = l then some ⟨by rw [h]⟩ else none
  | .bool, .bool => some ⟨rfl⟩
  | .str, .str => some ⟨rfl⟩
  | .sl c, .sl d => match EC.same c d with
    | some ⟨h⟩ => some ⟨by rw [h]⟩
    | none => none
  | .prod cs, .prod ds => match EC.sames cs ds with
    | some ⟨h⟩ => some ⟨by rw [h]⟩
    | none => none
  | _, _ => none
def EC.sames : (cs ds : List EC) → Option (PLift (cs = ds))
  | [], [] => some ⟨rfl⟩
  | c :: cs, d :: ds => match EC.same c d, EC.sames cs ds with
    | some ⟨h⟩, some ⟨g⟩ => some ⟨by rw [h, g]⟩
    | _, _ => none
  | _, _ => none
end

/-- What is known of a slice's block: nothing; that it may be written; likewise and that the slice has no spare room. -/
inductive Fl where
  | ro | rw | full | may
  deriving DecidableEq, Inhabited
/-- That the block may be written, is known. -/
def Fl.fixed : Fl → Bool
  | .ro | .may => true
  | _ => false
/-- That the slice may be nil where it is empty. -/
def Fl.isMay : Fl → Bool
  | .may => true
  | _ => false

/-- A value, simply. -/
inductive V where
  | int (k : IntKind) (n : Int)
  | bool (b : Bool)
  | str (s : List UInt8)
  | val (x : Value)
  | pin (cells : List V)
  | sl (c : EC) (l spare : List c.ty) (fl : Fl)
  | gro (id : Nat) (c : EC) (l : List c.ty)
  | ptr (id off : Nat)
  | ref (id sz off len : Nat)
  | agg (cells : List V)
  | tup (vs : List V)
  | ifc (t : TypeId) (v : V)
  | clo (fn : Fn) (first captured : List V)
  | mp (id : Nat)
  | rng (k : IntKind) (lo hi : Int)
  | any
  deriving Inhabited

/-- An object that is no row of cells: a map with such keys (its values stand beside), an iterator over a string;
or a row of numbers behind n cells that stand beside. -/
inductive Shape where
  | map (keys : List Int)
  | siter (s : List UInt8) (pos : Nat)
  | page (n : Nat) (k : IntKind) (l : List Int)
  deriving Inhabited
def Shape.isPage : Shape → Bool
  | .page _ _ _ => true
  | _ => false

/-- An object that may be written: a row of cells; the room behind a slice that grows (its n elements of sz cells are fixed). -/
inductive O where
  | cells (cs : List V) (elem : TypeId)
  | tok (n sz : Nat)
  | obj (sh : Shape) (vs : List V)
  | dead
  deriving Inhabited

abbrev T := List (Nat × V)

/-- What comes out, by conditions that may hold variables. -/
inductive Tree (β : Type) where
  | leaf (b : β)
  | fail
  | br (c : Bool) (x y : Tree β)

namespace Tree
def bind {β γ : Type} : Tree β → (β → Tree γ) → Tree γ
  | .leaf b, f => f b
  | .fail, _ => .fail
  | .br c x y, f => .br c (x.bind f) (y.bind f)
def run {β : Type} : Tree β → Option β
  | .leaf b => some b
  | .fail => none
  | .br c x y => cond c x.run y.run
def ofOption {β : Type} : Option β → Tree β
  | some b => .leaf b
  | none => .fail
/-- a condition that must hold -/
def req {β : Type} (c : Bool) (x : Tree β) : Tree β := .br c x .fail
end Tree

def get (d : Nat) : T → V
  | [] => .any
  | (e, u) :: r => cond (Nat.beq d e) u (get d r)

def put (d : Nat) (v : V) : T → T
  | [] => [(d, v)]
  | (e, u) :: r => cond (Nat.blt d e) ((d, v) :: (e, u) :: r) (cond (Nat.beq d e) ((d, v) :: r) ((e, u) :: put d v r))

def hasN (n : Nat) : List Nat → Bool
  | [] => false
  | m :: r => cond (Nat.beq n m) true (hasN n r)

def keep (l : List Nat) : T → T
  | [] => []
  | (e, u) :: r => cond (hasN e l) ((e, u) :: keep l r) (keep l r)

def nilSl : V := .val (.slice none 0 0)
def vundef : V := .val (.tuple #[])

def ofVal1 : Value → V
  | .int k n => .int k n
  | .bool b => .bool b
  | .string s => .str s.data.toList
  | x => .val x

def ofVal : Value → V
  | .agg cs => .agg (cs.toList.map ofVal1)
  | x => ofVal1 x

def rd (t : T) : Operand → V
  | .tmp i => get i t
  | .const v => ofVal v
  | .global g => .val (.pointer (some ⟨g, 0, none⟩))
  | .func f => .val (.func (.func f) #[] #[])

/-- The type of what errors.New makes. -/
def errT (P : Program) : Nat := ((List.range P.types.size).find? fun t => P.typeName? 3 t == some "*errors.errorString").getD 0
/-- The library's variables that are known, by name: their cells. -/
def knownTabs (P : Program) : List (String × List V) :=
  [("strings.asciiSpace", (List.range 256).map fun i => V.int .u8 (cond (Nat.beq i 9 || (Nat.beq i 10 || (Nat.beq i 11 || (Nat.beq i 12 || (Nat.beq i 13 || Nat.beq i 32))))) 1 0)),
   ("strconv.ErrSyntax", [.ifc (errT P) .any])]
def tabsAt (P : Program) : List (String × List V) → List (Nat × List V)
  | [] => []
  | (nm, zs) :: r => match P.globalNamed nm with
    | some g => (g, zs) :: tabsAt P r
    | none => tabsAt P r
/-- What variables hold, where that is known. -/
def globsOf (P : Program) : List (Nat × List V) := tabsAt P (knownTabs P)
def globAt (g : Nat) : List (Nat × List V) → Option (List V)
  | [] => none
  | (e, cs) :: r => cond (Nat.beq g e) (some cs) (globAt g r)
/-- An operand where an address is wanted: a variable that is known, as what it holds. -/
def rdG (G : List (Nat × List V)) (t : T) : Operand → V
  | .global g => match globAt g G with
    | some cs => .pin cs
    | none => rd t (.global g)
  | x => rd t x

/-- One cell's value for sure (no struct, no tuple). -/
def V.one : V → Bool
  | .val (.agg _) | .val (.tuple _) | .agg _ | .tup _ | .any => false
  | _ => true

def allOne : List V → Bool
  | [] => true
  | v :: r => cond v.one (allOne r) false

/-- The cells that a value takes. -/
def V.cells? : V → Option (List V)
  | .agg cs => cond (allOne cs) (some cs) none
  | .tup _ => none
  | .any => none
  | .val x => cond (V.one (.val x)) (some [.val x]) none
  | v => some [v]

def toVal1 : V → Option Value
  | .int k n => some (.int k n)
  | .bool b => some (.bool b)
  | .str s => some (.string ⟨s.toArray⟩)
  | .val x => some x
  | _ => none

mutual
def enc : (c : EC) → c.ty → List V
  | .int k, n => [.int k n]
  | .bool, b => [.bool b]
  | .str, s => [.str s]
  | .sl c, o => [match o with | none => nilSl | some l => .sl c l [] .ro]
  | .prod cs, x => encs cs x
def encs : (cs : List EC) → EC.tys cs → List V
  | [], _ => []
  | [c], x => enc c x
  | c :: d :: cs, x => enc c x.1 ++ encs (d :: cs) x.2
end

def decInt (k : IntKind) : List V → Option (Int × List V)
  | .int k' n :: r => cond (decide (k = k')) (some (n, r)) none
  | _ => none
def decBool : List V → Option (Bool × List V)
  | .bool b :: r => some (b, r)
  | _ => none
def decStr : List V → Option (List UInt8 × List V)
  | .str s :: r => some (s, r)
  | _ => none
def castL {c d : EC} (h : d = c) (l : List d.ty) : List c.ty := h ▸ l
def sameL (c : EC) (d : EC) (l : List d.ty) : Option (List c.ty) :=
  match EC.same d c with
  | some ⟨h⟩ => some (castL h l)
  | none => none
def decSl (c : EC) : List V → Option (Option (List c.ty) × List V)
  | .val (.slice none 0 0) :: r => some (none, r)
  | .sl d l _ fl :: r => cond fl.isMay none ((sameL c d l).map fun l => (some l, r))
  | .gro _ d l :: r => (sameL c d l).map fun l => (some l, r)
  | _ => none

mutual
/-- An element out of the cells ahead; the rest. -/
def dec : (c : EC) → List V → Option (c.ty × List V)
  | .int k, l => decInt k l
  | .bool, l => decBool l
  | .str, l => decStr l
  | .sl c, l => decSl c l
  | .prod cs, l => decs cs l
def decs : (cs : List EC) → List V → Option (EC.tys cs × List V)
  | [], l => some ((), l)
  | [c], l => dec c l
  | c :: d :: cs, l => match dec c l with
    | some (x, r) => match decs (d :: cs) r with
      | some (y, r) => some ((x, y), r)
      | none => none
    | none => none
end

def dec1 (c : EC) (l : List V) : Option c.ty :=
  match dec c l with
  | some (x, []) => some x
  | _ => none

def decAll (c : EC) : List (List V) → Option (List c.ty)
  | [] => some []
  | l :: r => match dec1 c l, decAll c r with
    | some x, some xs => some (x :: xs)
    | _, _ => none

/-- A type, as far as the evaluator asks. -/
inductive TK where
  | scal
  | slice (e : TypeId)
  | st (offs : List (Nat × Nat × Bool))   -- of each field: its offset, its cells, whether it is a struct or an array
  | arr (n : Nat) (e : TypeId)
  deriving Inhabited

structure TI where
  k : TK
  size : Nat
  bytes : Nat
  zero : List V

def isAggB (P : Program) (t : TypeId) : Bool :=
  match P.underlying t with
  | some (.struct _) | some (.array _ _) => true
  | _ => false

def allKnown (P : Program) : List Field → Bool
  | [] => true
  | f :: r => cond (P.underlying f.type).isSome (allKnown P r) false

def knownFields (P : Program) : TypeDesc → Bool
  | .struct fs => allKnown P fs.toList
  | _ => true

def ti (P : Program) (t : TypeId) : Option TI :=
  match P.info? t, P.underlying t with
  | some i, some d =>
    let k : TK := match d with
      | .slice e => .slice e
      | .struct fs => .st (fs.toList.map fun f => (f.offset, P.cellsOf f.type, isAggB P f.type))
      | .array n e => .arr n e
      | _ => .scal
    match i.zero with
    | some z => cond (knownFields P d) (some { k, size := i.size, bytes := i.bytes, zero := (z.cells.toList.map ofVal1) }) none
    | none => none
  | _, _ => none

mutual
def ecOf (P : Program) : Nat → TypeId → Option EC
  | 0, _ => none
  | d + 1, t => match P.underlying t with
    | some (.int k) => some (.int k)
    | some .bool => some .bool
    | some .string => some .str
    | some (.slice e) => (ecOf P d e).map .sl
    | some (.struct fs) => (ecsOf P d (fs.toList.map (·.type))).map .prod
    | _ => none
def ecsOf (P : Program) : Nat → List TypeId → Option (List EC)
  | 0, _ => none
  | _ + 1, [] => some []
  | d + 1, t :: r => match ecOf P d t, ecsOf P d r with
    | some c, some cs => some (c :: cs)
    | _, _ => none
end

def aggTK : TK → Bool
  | .st _ | .arr _ _ => true
  | _ => false

/-- A variable's value out of cells. -/
def ofCells (i : TI) (cells : List V) : Option V :=
  cond (aggTK i.k)
    (cond (Nat.ble i.size cells.length) (some (.agg (cells.take i.size))) none)
    (match cells with | v :: _ => some v | [] => none)

def cellsAt (H : List O) : V → Option (List V)
  | .pin cells => some cells
  | .ptr id off => match H[id]? with
    | some (.cells cs _) => some (cs.drop off)
    | some (.obj (.page _ _ _) hd) => some (hd.drop off)
    | _ => none
  | _ => none

def oLoad (P : Program) (H : List O) (t : TypeId) (a : V) : Option V :=
  match ti P t, cellsAt H a with
  | some i, some cells => ofCells i cells
  | _, _ => none

/-- The number at a place of a row of cells; whether there is one of such a kind. -/
def intAt : List V → Nat → Int
  | [], _ => 0
  | v :: _, 0 => (match v with | .int _ n => n | _ => 0)
  | _ :: r, m + 1 => intAt r m
def isIntAt (k : IntKind) (cs : List V) (o : Nat) : Bool :=
  match cs[o]? with
  | some (.int l _) => decide (l = k)
  | _ => false
/-- A number set in a row of cells. -/
def setC (k : IntKind) (o : Nat) (x : Int) (j : Nat) : V → V
  | .int l n => cond (decide (l = k)) (.int k (cond (Nat.beq j o) x n)) (.int l n)
  | v => v
def setI (k : IntKind) (o : Nat) (x : Int) : Nat → List V → List V
  | _, [] => []
  | j, v :: r => setC k o x j v :: setI k o x (j + 1) r
def intOf (P : Program) (t : TypeId) : Option IntKind :=
  match ti P t, P.underlying t with
  | some i, some (.int k) => cond (!aggTK i.k && Nat.beq i.size 1) (some k) none
  | _, _ => none
/-- A number loaded, at a place that need not be known. -/
def oLoadZ (P : Program) (H : List O) (t : TypeId) (a : V) : Tree V :=
  match intOf P t, a with
  | some k, .ptr id off => match H[id]? with
    | some (.cells cs _) => .req (isIntAt k cs off) (.leaf (.int k (intAt cs off)))
    | some (.obj (.page n l xs) _) => cond (decide (l = k)) (.req (Nat.ble n off && Nat.blt (off - n) xs.length) (.leaf (.int k (xs.getD (off - n) 0)))) .fail
    | _ => .fail
  | _, _ => .fail
def oStoreZ (P : Program) (H : List O) (t : TypeId) (a v : V) : Tree (List O) :=
  match intOf P t, a, v with
  | some k, .ptr id off, .int l x => match H[id]? with
    | some (.cells cs e) => cond (decide (l = k)) (.req (isIntAt k cs off) (.leaf (H.set id (.cells (setI k off x 0 cs) e)))) .fail
    | some (.obj (.page n k' xs) hd) => cond (decide (l = k) && decide (k' = k)) (.req (Nat.ble n off && Nat.blt (off - n) xs.length) (.leaf (H.set id (.obj (.page n k' (xs.set (off - n) x)) hd)))) .fail
    | _ => .fail
  | _, _, _ => .fail
def isLz (l : List Nat) : Operand → Bool
  | .tmp d => hasN d l
  | _ => false

def splice (cs : List V) (off : Nat) (vs : List V) : List V := cs.take off ++ vs ++ cs.drop (off + vs.length)

def oStore (P : Program) (H : List O) (t : TypeId) (a v : V) : Option (List O) :=
  match ti P t, v.cells?, a with
  | some i, some vs, .ptr id off => match H[id]? with
    | some (.cells cs e) => cond (Nat.beq vs.length i.size && Nat.ble (off + vs.length) cs.length) (some (H.set id (.cells (splice cs off vs) e))) none
    | some (.obj (.page n k xs) hd) => cond (Nat.beq vs.length i.size && Nat.ble (off + vs.length) hd.length) (some (H.set id (.obj (.page n k xs) (splice hd off vs)))) none
    | _ => none
  | _, _, _ => none

/-- m times the same number. -/
def sameInts (k : IntKind) (x : Int) : Nat → List V → Bool
  | 0, [] => true
  | m + 1, .int l y :: r => cond (decide (l = k) && decide (y = x)) (sameInts k x m r) false
  | _, _ => false
/-- Where a struct's numbers begin, if it ends in a great many; how many. -/
def lastRow : List (Nat × Nat × Bool) → Option (Nat × Nat)
  | [] => none
  | [(off, size, agg)] => cond (agg && Nat.blt 64 size) (some (off, size)) none
  | _ :: r => lastRow r
def pageAt (P : Program) (t : TypeId) : Option (Nat × Nat) :=
  match ti P t with
  | some i => match i.k with
    | .st offs => lastRow offs
    | _ => none
  | none => none
/-- A new object with such cells: as a row of numbers, where its type ends in a great many and they are alike. -/
def newO (P : Program) (e : TypeId) (cs : List V) : O :=
  match pageAt P e with
  | some (n, m) => match cs.drop n with
    | .int k x :: r => cond (sameInts k x m (.int k x :: r) && Nat.ble n (cs.take n).length) (.obj (.page n k (List.replicate m x)) (cs.take n)) (.cells cs e)
    | _ => .cells cs e
  | none => .cells cs e

def part? (agg : Bool) (cells : List V) (off size : Nat) : Option V :=
  cond agg (some (.agg ((cells.drop off).take size))) cells[off]?

def oField (P : Program) (t : TypeId) (x : V) (f : Nat) : Option V :=
  match ti P t, x with
  | some i, .agg cells => match i.k with
    | .st offs => match offs[f]? with
      | some (off, size, agg) => part? agg cells off size
      | none => none
    | _ => none
  | _, _ => none

def oFieldAddr (P : Program) (t : TypeId) (x : V) (f : Nat) : Option V :=
  match ti P t with
  | some i => match i.k with
    | .st offs => match offs[f]? with
      | some (off, size, _) => cond (Nat.beq size 0) none (match x with
        | .ptr id o => some (.ptr id (o + off))
        | .pin cells => some (.pin (cells.drop off))
        | _ => none)
      | none => none
    | _ => none
  | none => none

/-- 0 ≤ i < n -/
def inside (i : Int) (n : Nat) : Bool := decide (0 ≤ i) && decide (i < n)

def oIndexAddr (P : Program) (t : TypeId) (x ix : V) : Tree V :=
  match ti P t, ix with
  | some i, .int _ n => match i.k with
    | .slice e => match ti P e with
      | some j => match x with
        | .sl c l _ _ => cond (Nat.beq c.size j.size) (.req (inside n l.length) (.leaf (.pin (enc c (l.getD n.toNat c.dflt))))) .fail
        | .gro _ c l => cond (Nat.beq c.size j.size) (.req (inside n l.length) (.leaf (.pin (enc c (l.getD n.toNat c.dflt))))) .fail
        | .ref id sz off len => cond (Nat.beq sz j.size) (.req (inside n len) (.leaf (.ptr id (off + n.toNat * sz)))) .fail
        | _ => .fail
      | none => .fail
    | .arr len e => match ti P e with
      | some j => match x with
        | .ptr id off => .req (inside n len) (.leaf (.ptr id (off + n.toNat * j.size)))
        | .pin cells => .req (inside n len) (.leaf (.pin (cells.drop (n.toNat * j.size))))
        | _ => .fail
      | none => .fail
    | _ => .fail
  | _, _ => .fail

/-- a slice expression's bound; absent: so many -/
def bound? (x : Option V) (dflt : Int) : Option Int :=
  match x with
  | none => some dflt
  | some (.int _ n) => some n
  | _ => none

def sub {α : Type} (l : List α) (lo hi : Nat) : List α := (l.take hi).drop lo

def oSlice (P : Program) (H : List O) (t : TypeId) (x : V) (lo hi : Option V) : Tree V :=
  match x with
  | .str s => match P.underlying t, bound? hi s.length, bound? lo 0 with
    | some .string, some h, some l => .req (decide (0 ≤ l) && decide (l ≤ h) && decide (h ≤ s.length)) (.leaf (.str (sub s l.toNat h.toNat)))
    | _, _, _ => .fail
  | x => match ti P t with
    | some i => match i.k with
      | .slice e => match ti P e with
        | some j => match x with
          | .sl c ls spare fl => match bound? hi ls.length, bound? lo 0, hi with
            | some h, some l, none => .req (decide (0 ≤ l) && decide (l ≤ h)) (cond (Nat.beq c.size j.size) (.leaf (.sl c (ls.drop l.toNat) spare fl)) .fail)
            | some h, some l, _ => .req (decide (0 ≤ l) && decide (l ≤ h) && decide (h ≤ (ls.length + spare.length : Nat)))
                (cond (Nat.beq c.size j.size) (.leaf (.sl c (sub (ls ++ spare) l.toNat h.toNat) ((ls ++ spare).drop h.toNat) fl)) .fail)
            | _, _, _ => .fail
          | .gro _ c ls => match bound? hi ls.length, bound? lo 0 with
            | some h, some l => .req (decide (0 ≤ l) && decide (l ≤ h) && decide (h ≤ ls.length))
                (cond (Nat.beq c.size j.size) (.leaf (.sl c (sub ls l.toNat h.toNat) (ls.drop h.toNat) .ro)) .fail)
            | _, _ => .fail
          | .ref id sz off len => match H[id]? with
            | some (.cells _ _) => match bound? hi len, bound? lo 0 with
              | some h, some l => .req (decide (0 ≤ l) && decide (l ≤ h) && decide (h ≤ len))
                  (cond (Nat.beq sz j.size) (.leaf (.ref id sz (off + l.toNat * sz) (h.toNat - l.toNat))) .fail)
              | _, _ => .fail
            | _ => .fail
          | .val (.slice none 0 0) => match bound? hi 0, bound? lo 0 with
            | some h, some l => .req (decide (l = 0) && decide (h = 0)) (.leaf nilSl)
            | _, _ => .fail
          | _ => .fail
        | none => .fail
      | _ => .fail
    | none => .fail

def chunks (sz : Nat) : Nat → List V → List (List V)
  | 0, _ => []
  | n + 1, l => l.take sz :: chunks sz n (l.drop sz)

def strElems (c : EC) (s : List UInt8) : Option (List c.ty) :=
  match c with
  | .int .u8 => some (s.map fun b => (b.toNat : Int))
  | _ => none

/-- A row of numbers, as elements. -/
def pageElems (c : EC) (k : IntKind) (l : List Int) : Option (List c.ty) :=
  match c with
  | .int k' => cond (decide (k' = k)) (some l) none
  | _ => none
/-- The elements of a slice (or of a string, as bytes) that is read. -/
def elemsOf (c : EC) (H : List O) : V → Option (List c.ty)
  | .sl d l _ _ => sameL c d l
  | .gro _ d l => sameL c d l
  | .ref id s off len => match H[id]? with
    | some (.cells cs _) => cond (Nat.beq s c.size && Nat.ble (off + len * s) cs.length) (decAll c (chunks s len (cs.drop off))) none
    | some (.obj (.page n k l) _) => cond (Nat.beq s 1 && (Nat.ble n off && Nat.ble (off - n + len) l.length)) (pageElems c k ((l.drop (off - n)).take len)) none
    | _ => none
  | .val (.slice none 0 0) => some []
  | .str s => strElems c s
  | _ => none

def roomy (n bytes : Nat) : Bool := decide (n * bytes ≤ 140737488355328)

/-- append: 's' grows by the elements 'xs'. Where nothing comes, the slice itself. -/
def grow (H : List O) (c : EC) (bytes : Nat) (s : V) (xs : List c.ty) : Tree (V × List O) :=
  match s with
  | .val (.slice none 0 0) =>
    .br xs.isEmpty (.leaf (s, H)) (.req (roomy xs.length bytes) (.leaf (.gro H.length c xs, H ++ [.tok xs.length c.size])))
  | .sl d l spare fl => match sameL c d l with
    | some l' => .br xs.isEmpty (.leaf (s, H)) (match spare, fl with
      | [], .full => .req (roomy (l'.length + xs.length) bytes) (.leaf (.gro H.length c (l' ++ xs), H ++ [.tok (l'.length + xs.length) c.size]))
      | _, _ => .fail)
    | none => .fail
  | .gro id d l => match sameL c d l, H[id]? with
    | some l', some (.tok n sz) => cond (Nat.beq sz c.size) (.req (decide (n = l'.length) && roomy (l'.length + xs.length) bytes)
        (.leaf (.gro id c (l' ++ xs), H.set id (.tok (l'.length + xs.length) c.size)))) .fail
    | _, _ => .fail
  | _ => .fail

def appendable (P : Program) (argTypes : Array TypeId) : Bool :=
  match argTypes[1]? with
  | some t => match P.underlying t with
    | some (.slice _) | some .string => true
    | _ => false
  | none => false

def oAppend (P : Program) (H : List O) (argTypes : Array TypeId) (s x : V) : Tree (V × List O) :=
  match argTypes[0]? with
  | some st => match ti P st with
    | some i => match i.k with
      | .slice e => match ti P e, ecOf P 20 e with
        | some j, some c => cond (Nat.beq c.size j.size && (Nat.blt 0 j.bytes && (Nat.beq j.zero.length j.size && appendable P argTypes))) (match elemsOf c H x with
          | some xs => grow H c j.bytes s xs
          | none => .fail) .fail
        | _, _ => .fail
      | _ => .fail
    | none => .fail
  | none => .fail

/-- the parts of a composite literal, each at its place. -/
def fillCells (offs : Nat → Option (Nat × Nat)) : List (Nat × V) → List V → Option (List V)
  | [], l => some l
  | (i, v) :: r, l => match v.cells?, offs i with
    | some cs, some (off, size) => cond (Nat.beq cs.length size && Nat.ble (off + cs.length) l.length) (fillCells offs r (splice l off cs)) none
    | _, _ => none

def oBuildSlice (P : Program) (H : List O) (ref : Bool) (t : TypeId) (len : Nat) (parts : List (Nat × V)) : Option (V × List O) :=
  match ti P t with
  | some i => match i.k with
    | .slice e => match ti P e with
      | some j => cond (Nat.ble (len * j.size) 16777216 && Nat.beq j.zero.length j.size) (match fillCells (fun i => some (i * j.size, j.size)) parts (List.replicate len j.zero).flatten with
        | some es => cond ref (some (.ref H.length j.size 0 len, H ++ [.cells es (e + 4294967296)]))
          (match ecOf P 20 e with
          | some c => cond (Nat.beq c.size j.size) ((decAll c (chunks j.size len es)).map fun l => (.sl c l [] .full, H)) none
          | none => none)
        | none => none) none
      | none => none
    | _ => none
  | none => none

def oBuild (P : Program) (t : TypeId) (parts : List (Nat × V)) : Option V :=
  match ti P t with
  | some i => match i.k with
    | .st offs => (fillCells (fun f => offs[f]?.map fun x => (x.1, x.2.1)) parts i.zero).map .agg
    | .arr _ e => match ti P e with
      | some j => (fillCells (fun f => some (f * j.size, j.size)) parts i.zero).map .agg
      | none => none
    | _ => none
  | none => none

def oMakeSlice (P : Program) (H : List O) (ref : Bool) (t : TypeId) (len cap : V) : Tree (V × List O) :=
  match ti P t, len, cap with
  | some i, .int _ l, .int _ c => match i.k with
    | .slice e => match ti P e with
      | some j => .req (decide (0 ≤ l) && decide (l ≤ c) && roomy c.toNat j.bytes) (cond (Nat.beq j.zero.length j.size && Nat.blt 0 j.bytes)
          (cond ref (.leaf (.ref H.length j.size 0 l.toNat, H ++ [.cells (List.replicate l.toNat j.zero).flatten 0]))
            (match ecOf P 20 e with
            | some d => cond (Nat.beq d.size j.size) (match dec1 d j.zero with
              | some z => .leaf (.gro H.length d (List.replicate l.toNat z), H ++ [.tok l.toNat d.size])
              | none => .fail) .fail
            | none => .fail)) .fail)
      | none => .fail
    | _ => .fail
  | _, _, _ => .fail

def isZeroK (k : IntKind) : List V → Bool
  | [.int l n] => decide (l = k) && n == 0
  | _ => false
/-- make, of numbers: as a row of numbers. -/
def oMakePage (P : Program) (H : List O) (t : TypeId) (len cap : V) : Tree (V × List O) :=
  match ti P t, len, cap with
  | some i, .int _ l, .int _ c => match i.k with
    | .slice e => match ti P e, intOf P e with
      | some j, some k => .req (decide (0 ≤ l) && decide (l ≤ c) && roomy c.toNat j.bytes) (cond (isZeroK k j.zero && Nat.blt 0 j.bytes)
          (.leaf (.ref H.length 1 0 l.toNat, H ++ [.obj (.page 0 k (List.replicate c.toNat 0)) []])) .fail)
      | _, _ => .fail
    | _ => .fail
  | _, _, _ => .fail

/-- The cells of a slice that may be written. -/
def refCells (H : List O) : V → Option (Nat × Nat × List V)
  | .ref id sz off len => match H[id]? with
    | some (.cells cs _) => cond (Nat.ble (off + len * sz) cs.length) (some (sz, len, (cs.drop off).take (len * sz))) none
    | _ => none
  | _ => none
/-- append, onto a slice that may be written: a new object; the old one is closed. -/
def oAppendR (P : Program) (H : List O) (argTypes : Array TypeId) (s x : V) : Option (V × List O) :=
  match argTypes[0]? with
  | some st => match ti P st with
    | some i => match i.k with
      | .slice e => match ti P e, refCells H x with
        | some j, some (sz, n, news) => cond (Nat.beq sz j.size && (Nat.blt 0 n && (allOne news && (Nat.blt 0 j.bytes && (Nat.beq j.zero.length j.size && appendable P argTypes))))) (match s with
          | .val (.slice none 0 0) => cond (roomy n j.bytes) (some (.ref H.length sz 0 n, H ++ [.cells news 0])) none
          | .ref id sz' 0 len => match H[id]? with
            | some (.cells cs _) => cond (Nat.beq sz' sz && (Nat.ble (len * sz) cs.length && roomy (len + n) j.bytes)) (some (.ref H.length sz 0 (len + n), H.set id .dead ++ [.cells (cs.take (len * sz) ++ news) 0])) none
            | _ => none
          | _ => none) none
        | _, _ => none
      | _ => none
    | none => none
  | none => none

def oConvert (P : Program) (H : List O) (src dst : TypeId) (x : V) : Option V :=
  match P.underlying src, P.underlying dst with
  | some (.slice e), some .string =>
    match P.underlying e with
    | some (.int .u8) => match x with
      | .str _ => none
      | x => (elemsOf (.int .u8) H x).map fun l => .str (List.map (fun (n : Int) => UInt8.ofNat n.toNat) l)
    | _ => none
  | some .string, some .string => match x with
    | .str s => some (.str s)
    | _ => none
  | some (.int _), some (.int k) => match x with
    | .int _ n => some (.int k (k.wrap n))
    | _ => none
  | some (.int _), some .string => match x with
    | .int _ n => cond (decide (0 ≤ n) && decide (n < 128)) (some (.str [UInt8.ofNat n.toNat])) none
    | _ => none
  | _, _ => none

/-- A text to bytes: these are made anew. -/
def isStrSl (P : Program) (src dst : TypeId) : Bool :=
  match P.underlying src, P.underlying dst with
  | some .string, some (.slice e) => match P.underlying e with
    | some (.int .u8) => true
    | _ => false
  | _, _ => false
def strBytes : V → Option V
  | .str s => some (.sl (.int .u8) (s.map fun b => (b.toNat : Int)) [] .ro)
  | _ => none

def lenOf? : V → Option Nat
  | .sl _ l _ _ => some l.length
  | .gro _ _ l => some l.length
  | .ref _ _ _ len => some len
  | .val (.slice none 0 0) => some 0
  | .str s => some s.length
  | _ => none

def intBin (op : BinOp) (k : IntKind) (a b : Int) : Tree V :=
  match op with
  | .add => .leaf (.int k (k.wrap (a + b)))
  | .sub => .leaf (.int k (k.wrap (a - b)))
  | .mul => .leaf (.int k (k.wrap (a * b)))
  | .quo => .req (!decide (b = 0)) (.leaf (.int k (k.wrap (a.tdiv b))))
  | .rem => .req (!decide (b = 0)) (.leaf (.int k (a.tmod b)))
  | .and => .leaf (.int k (k.wrap (BitVec.ofInt k.bits a &&& BitVec.ofInt k.bits b).toNat))
  | .or => .leaf (.int k (k.wrap (BitVec.ofInt k.bits a ||| BitVec.ofInt k.bits b).toNat))
  | .xor => .leaf (.int k (k.wrap (BitVec.ofInt k.bits a ^^^ BitVec.ofInt k.bits b).toNat))
  | .andNot => .leaf (.int k (k.wrap (BitVec.ofInt k.bits a &&& ~~~(BitVec.ofInt k.bits b)).toNat))
  | .eql => .leaf (.bool (a == b))
  | .neq => .leaf (.bool (a != b))
  | .lss => .leaf (.bool (decide (a < b)))
  | .leq => .leaf (.bool (decide (a ≤ b)))
  | .gtr => .leaf (.bool (decide (b < a)))
  | .geq => .leaf (.bool (decide (b ≤ a)))
  | _ => .fail

def intShift (op : BinOp) (k : IntKind) (a b : Int) : Tree V :=
  match op with
  | .shl => .req (decide (0 ≤ b)) (.leaf (.int k (k.wrap (a * 2 ^ (min b.toNat k.bits)))))
  | .shr => .req (decide (0 ≤ b)) (.leaf (.int k (a.fdiv (2 ^ (min b.toNat k.bits)))))
  | _ => .fail

def strBin (op : BinOp) (a b : List UInt8) : Tree V :=
  match op with
  | .add => .req (decide (((a.length + b.length : Nat) : Int) ≤ 9223372036854775807)) (.leaf (.str (a ++ b)))
  | .eql => .leaf (.bool (a == b))
  | .neq => .leaf (.bool (!(a == b)))
  | .lss => .leaf (.bool (Op.bytesLess a b))
  | .leq => .leaf (.bool (Op.bytesLess a b || a == b))
  | .gtr => .leaf (.bool (!(Op.bytesLess a b || a == b)))
  | .geq => .leaf (.bool (!(Op.bytesLess a b)))
  | _ => .fail

def cellEq : V → V → Option Bool
  | .int k a, .int l b => cond (decide (k = l)) (some (a == b)) none
  | .bool a, .bool b => some (a == b)
  | .str a, .str b => some (a == b)
  | _, _ => none

def fitT (P : Program) (t : TypeId) (a : V) : Bool :=
  match P.underlying t, a with
  | some (.int _), .int _ _ => true
  | some .bool, .bool _ => true
  | some .string, .str _ => true
  | _, _ => false

/-- rows of numbers, texts, bools -/
def eqCells (P : Program) (e : TypeId) : List V → List V → Option Bool
  | [], [] => some true
  | a :: r, b :: s => match eqCells P e r s with
    | some d => cond (fitT P e a) ((cellEq a b).map (· && d)) none
    | none => none
  | _, _ => none
/-- one field: a number, a text, a bool, or a row of such -/
def eqF (P : Program) (f : Field) (x y : List V) : Option Bool :=
  match P.underlying f.type with
  | some (.array n e) => cond (Nat.beq (P.cellsOf e) 1 && (Nat.beq (P.cellsOf f.type) n && (Nat.ble (f.offset + n) x.length && (Nat.ble (f.offset + n) y.length && (!isAggB P e && ((P.info? e).isSome && (P.info? f.type).isSome))))))
      (eqCells P e ((x.drop f.offset).take n) ((y.drop f.offset).take n)) none
  | _ => match x[f.offset]?, y[f.offset]? with
    | some a, some b => cond (fitT P f.type a) (cellEq a b) none
    | _, _ => none
/-- two structs whose fields are numbers, texts and bools, and rows of such -/
def eqBy (P : Program) (x y : List V) : List Field → Option Bool
  | [] => some true
  | f :: r => match eqF P f x y, eqBy P x y r with
    | some a, some d => cond (!(f.name == "_")) (some (a && d)) none
    | _, _ => none

def aggEq (P : Program) (t : TypeId) (x y : List V) : Option Bool :=
  match P.underlying t with
  | some (.struct fs) => cond (!P.stoodInHeld t && !P.eqGuardType P.depth t) (eqBy P x y fs.toList) none
  | _ => none

/-- Interface values of one type of integers. -/
def oIfc (P : Program) (op : BinOp) (t tx : TypeId) (k : IntKind) (a : Int) (ty : TypeId) (l : IntKind) (b : Int) : Tree V :=
  match P.underlying t, P.underlying tx, P.info? tx with
  | some (.interface _), some (.int _), some i => cond (Nat.beq tx ty && (i.comparable && decide (k = l))) (match op with
    | .eql => .leaf (.bool (a == b))
    | .neq => .leaf (.bool (!(a == b)))
    | _ => .fail) .fail
  | _, _, _ => .fail

def oBin (P : Program) (op : BinOp) (t : TypeId) (x y : V) : Tree V :=
  match x, y with
  | .int k a, .int l b => match op with
    | .shl | .shr => intShift op k a b
    | _ => cond (decide (k = l)) (intBin op k a b) .fail
  | .str a, .str b => strBin op a b
  | .bool a, .bool b => match P.underlying t, op with
    | some .bool, .eql => .leaf (.bool (a == b))
    | some .bool, .neq => .leaf (.bool (!(a == b)))
    | _, _ => .fail
  | .agg a, .agg b => match op, aggEq P t a b with
    | .eql, some c => .leaf (.bool c)
    | .neq, some c => .leaf (.bool (!c))
    | _, _ => .fail
  | x, .val (.slice none _ _) => match P.underlying t with
    | some (.slice _) => match x, op with
      | .sl _ _ _ .may, _ => .fail
      | .sl _ _ _ _, .eql | .gro _ _ _, .eql | .ref _ _ _ _, .eql => .leaf (.bool false)
      | .sl _ _ _ _, .neq | .gro _ _ _, .neq | .ref _ _ _ _, .neq => .leaf (.bool true)
      | .val (.slice none _ _), .eql => .leaf (.bool true)
      | .val (.slice none _ _), .neq => .leaf (.bool false)
      | _, _ => .fail
    | _ => .fail
  | x, .val (.pointer none) => match P.underlying t with
    | some (.pointer _) => match x, op with
      | .ptr _ _, .eql | .pin _, .eql => .leaf (.bool false)
      | .ptr _ _, .neq | .pin _, .neq => .leaf (.bool true)
      | .val (.pointer none), .eql => .leaf (.bool true)
      | .val (.pointer none), .neq => .leaf (.bool false)
      | _, _ => .fail
    | _ => .fail
  | x, .val .nilIface => match P.underlying t with
    | some (.interface ms) => cond ms.isEmpty (match x, op with
      | .ifc _ _, .eql => .leaf (.bool false)
      | .ifc _ _, .neq => .leaf (.bool true)
      | .val .nilIface, .eql => .leaf (.bool true)
      | .val .nilIface, .neq => .leaf (.bool false)
      | _, _ => .fail) .fail
    | _ => .fail
  | .ifc tx (.int k a), .ifc ty (.int l b) => oIfc P op t tx k a ty l b
  | _, _ => .fail

/-- A comparison with nil, as it is written. -/
def oNil (P : Program) (op : BinOp) (t : TypeId) (x : V) : Tree V :=
  match P.underlying t, x, op with
  | some (.interface _), .ifc _ _, .eql => .leaf (.bool false)
  | some (.interface _), .ifc _ _, .neq => .leaf (.bool true)
  | some (.interface _), .val .nilIface, .eql => .leaf (.bool true)
  | some (.interface _), .val .nilIface, .neq => .leaf (.bool false)
  | _, _, _ => .fail
def isNilC : Operand → Bool
  | .const .nilIface => true
  | _ => false
def oUn (op : UnOp) (x : V) : Option V :=
  match op, x with
  | .neg, .int k n => some (.int k (k.wrap (0 - n)))
  | .xor, .int k n => some (.int k (k.wrap (BitVec.ofInt k.bits (if k.signed then -1 else k.max) ^^^ BitVec.ofInt k.bits n).toNat))
  | .not, .bool b => some (.bool !b)
  | _, _ => none

def oIndex (P : Program) (t : TypeId) (x ix : V) : Tree V :=
  match x, ix with
  | .str s, .int _ n => match P.underlying t with
    | some .string => .req (inside n s.length) (.leaf (.int .u8 ((s.getD n.toNat 0).toNat : Int)))
    | _ => .fail
  | .agg cells, .int _ n => match ti P t with
    | some i => match i.k with
      | .arr len e => match ti P e with
        | some j => .req (inside n len) (match part? (aggTK j.k) cells (n.toNat * j.size) j.size with
          | some v => .leaf v
          | none => .fail)
        | none => .fail
      | _ => .fail
    | none => .fail
  | _, _ => .fail

mutual
/-- The value, with what grows taken as fixed; of what leads to what may be written nothing is told. -/
def V.pure? : V → Option V
  | .int k n => some (.int k n)
  | .bool b => some (.bool b)
  | .str s => some (.str s)
  | .val x => some (.val x)
  | .pin c => some (.pin c)
  | .sl a b c d => some (.sl a b c d)
  | .gro _ c l => some (.sl c l [] .ro)
  | .ptr _ _ => some .any
  | .ref _ _ _ _ => some .any
  | .mp _ => some .any
  | .rng _ _ _ => some .any
  | .agg cs => (V.pures? cs).map .agg
  | .tup cs => (V.pures? cs).map .tup
  | .ifc t v => (V.pure? v).map (.ifc t)
  | .clo f a b => match V.pures? a, V.pures? b with
    | some a, some b => some (.clo f a b)
    | _, _ => none
  | .any => some .any
def V.pures? : List V → Option (List V)
  | [] => some []
  | v :: r => match V.pure? v, V.pures? r with
    | some v, some r => some (v :: r)
    | _, _ => none
end

/-- How a call comes out: it returns, or it panics. -/
inductive Res where
  | ok (v : V) (H : List O)
  | pan (v : V) (H : List O)

abbrev Spec := List V → Tree V
abbrev MSpec := List V → List O → Tree Res
/-- Of a call that looks into what it is handed, and leaves it: its answer. -/
abbrev RSpec := List V → List O → Tree V

structure Cx where
  P : Program
  n : Nat
  tab : List (Nat × Spec)
  mtab : List (Nat × MSpec)
  refs : List Nat
  keeps : List Nat
  /-- How many rounds of a loop are run one by one. -/
  fuel : Nat := 0
  rtab : List (Nat × RSpec) := []
  /-- Of the variables those that are known. -/
  globs : List (Nat × List V) := []
  /-- Slots that hold addresses within rows of numbers, at places that need not be known. -/
  lz : List Nat := []

def look (f : Nat) : List (Nat × Spec) → Spec
  | [], _ => .fail
  | (g, s) :: r, as => cond (Nat.beq f g) (s as) (look f r as)

def lookM (f : Nat) : List (Nat × MSpec) → MSpec
  | [], _, _ => .fail
  | (g, s) :: r, as, H => cond (Nat.beq f g) (s as H) (lookM f r as H)

def lookR (f : Nat) : List (Nat × RSpec) → RSpec
  | [], _, _ => .fail
  | (g, s) :: r, as, H => cond (Nat.beq f g) (s as H) (lookR f r as H)

def hasKey {α : Type} (f : Nat) : List (Nat × α) → Bool
  | [] => false
  | (g, _) :: r => cond (Nat.beq f g) true (hasKey f r)

mutual
/-- The objects' numbers turned. -/
def V.ren? (f : Nat → Option Nat) : V → Option V
  | .int k n => some (.int k n)
  | .bool b => some (.bool b)
  | .str s => some (.str s)
  | .val x => some (.val x)
  | .pin c => some (.pin c)
  | .sl a b c d => some (.sl a b c d)
  | .gro id c l => match f id with
    | some j => some (.gro j c l)
    | none => none
  | .ptr id off => match f id with
    | some j => some (.ptr j off)
    | none => none
  | .ref id sz off len => match f id with
    | some j => some (.ref j sz off len)
    | none => none
  | .mp id => match f id with
    | some j => some (.mp j)
    | none => none
  | .agg cs => match V.rens? f cs with
    | some cs => some (.agg cs)
    | none => none
  | .tup cs => match V.rens? f cs with
    | some cs => some (.tup cs)
    | none => none
  | .ifc t v => match V.ren? f v with
    | some v => some (.ifc t v)
    | none => none
  | .clo g a b => match V.rens? f a, V.rens? f b with
    | some a, some b => some (.clo g a b)
    | _, _ => none
  | .rng k lo hi => some (.rng k lo hi)
  | .any => some .any
def V.rens? (f : Nat → Option Nat) : List V → Option (List V)
  | [] => some []
  | v :: r => match V.ren? f v, V.rens? f r with
    | some v, some r => some (v :: r)
    | _, _ => none
end

def O.ren? (f : Nat → Option Nat) : O → Option O
  | .cells cs e => match V.rens? f cs with
    | some cs => some (.cells cs e)
    | none => none
  | .tok n sz => some (.tok n sz)
  | .obj sh vs => match V.rens? f vs with
    | some vs => some (.obj sh vs)
    | none => none
  | .dead => some .dead

def rensO (f : Nat → Option Nat) : List O → Option (List O)
  | [] => some []
  | o :: r => match O.ren? f o, rensO f r with
    | some o, some r => some (o :: r)
    | _, _ => none

mutual
/-- The objects that a value names. -/
def V.ids : V → List Nat
  | .gro id _ _ => [id]
  | .ptr id _ => [id]
  | .ref id _ _ _ => [id]
  | .mp id => [id]
  | .agg cs => V.idss cs
  | .tup cs => V.idss cs
  | .ifc _ v => V.ids v
  | .clo _ a b => V.idss a ++ V.idss b
  | _ => []
def V.idss : List V → List Nat
  | [] => []
  | v :: r => V.ids v ++ V.idss r
end

def idsO : Option O → List Nat
  | some (.cells cs _) => V.idss cs
  | some (.obj _ vs) => V.idss vs
  | _ => []

def reach (H : List O) : Nat → List Nat → List Nat → List Nat
  | 0, _, acc => acc
  | _ + 1, [], acc => acc
  | f + 1, i :: r, acc => cond (hasN i acc) (reach H f r acc) (reach H f (r ++ idsO H[i]?) (acc ++ [i]))

/-- A number's place in a list. -/
def place (i : Nat) : List Nat → Option Nat
  | [] => none
  | j :: r => cond (Nat.beq i j) (some 0) (match place i r with | some k => some (k + 1) | none => none)

/-- From the callee's numbers back to the caller's. -/
def backTo (σ : List Nat) (n : Nat) (j : Nat) : Option Nat :=
  match σ[j]? with
  | some i => some i
  | none => some (n + (j - σ.length))

def pickO (H : List O) : List Nat → Option (List O)
  | [] => some []
  | i :: r => match H[i]?, pickO H r with
    | some o, some os => some (o :: os)
    | _, _ => none

def setAll {α : Type} : List α → List Nat → List α → List α
  | H, i :: σ, o :: os => setAll (H.set i o) σ os
  | H, _, os => H ++ os

def noDup : List Nat → Bool
  | [] => true
  | i :: r => cond (hasN i r) false (noDup r)

def backRes (H : List O) (σ : List Nat) (v : V) (H2 : List O) (k : V → List O → Res) : Tree Res :=
  match V.ren? (backTo σ H.length) v, rensO (backTo σ H.length) H2 with
  | some v, some H2 => cond (Nat.ble σ.length H2.length) (.leaf (k v (setAll H σ H2))) .fail
  | _, _ => .fail

/-- A call that may write to what it is handed. -/
def callM (cx : Cx) (H : List O) (f : Nat) (args : List V) : Tree Res :=
  let σ := reach H 64 (V.idss args) []
  match pickO H σ with
  | some os => match V.rens? (fun i => place i σ) args, rensO (fun i => place i σ) os with
    | some as, some Hs => cond (noDup σ) ((lookM f cx.mtab as Hs).bind fun r => match r with
      | .ok v H2 => backRes H σ v H2 .ok
      | .pan v H2 => backRes H σ v H2 .pan) .fail
    | _, _ => .fail
  | none => .fail

/-- A call that looks into what it is handed. -/
def callR (cx : Cx) (H : List O) (f : Nat) (args : List V) : Tree Res :=
  let σ := reach H 64 (V.idss args) []
  match pickO H σ with
  | some os => match V.rens? (fun i => place i σ) args, rensO (fun i => place i σ) os with
    | some as, some Hs => cond (noDup σ) ((lookR f cx.rtab as Hs).bind fun v => match V.ren? (fun j => σ[j]?) v with
      | some v => .leaf (.ok v H)
      | none => .fail) .fail
    | _, _ => .fail
  | none => .fail

def callP (cx : Cx) (H : List O) (f : Nat) (args : List V) : Tree Res :=
  match V.pures? args with
  | some as => (look f cx.tab as).bind fun v => .leaf (.ok v H)
  | none => .fail

def callF (cx : Cx) (H : List O) (f : Nat) (args : List V) : Tree Res :=
  cond (hasKey f cx.mtab) (callM cx H f args) (cond (hasKey f cx.rtab) (callR cx H f args) (callP cx H f args))

def oCall (cx : Cx) (H : List O) (f : V) (args : List V) : Tree Res :=
  match f with
  | .val (.func (.func g) first captured) => cond (Nat.beq first.size 0 && Nat.beq captured.size 0) (callF cx H g args) .fail
  | .clo (.func g) first captured => callF cx H g (first ++ args ++ captured)
  | _ => .fail

def vmax (x y : V) : Option V :=
  match x, y with
  | .int k a, .int l b => cond (decide (k = l)) (some (.int k (if b > a then b else a))) none
  | _, _ => none

def vmin (x y : V) : Option V :=
  match x, y with
  | .int k a, .int l b => cond (decide (k = l)) (some (.int k (if b < a then b else a))) none
  | _, _ => none

def hold (H : List O) (v : V) : Tree Res := .leaf (.ok v H)
def holdO (H : List O) (v : Option V) : Tree Res := match v with | some v => .leaf (.ok v H) | none => .fail
def both (x : V × List O) : Tree Res := .leaf (.ok x.1 x.2)
def bothO (x : Option (V × List O)) : Tree Res := match x with | some x => .leaf (.ok x.1 x.2) | none => .fail

def oLen (P : Program) (argTypes : Array TypeId) (x : V) : Option V :=
  match argTypes[0]? with
  | some t => match P.underlying t, x with
    | some .string, .str s => some (.int .i64 s.length)
    | some (.slice _), .str _ => none
    | some (.slice _), x => match lenOf? x with
      | some n => some (.int .i64 (n : Int))
      | none => none
    | some (.array n _), _ => some (.int .i64 n)
    | _, _ => none
  | none => none

def mapArg (P : Program) (argTypes : Array TypeId) : Bool :=
  match argTypes[0]? with
  | some t => match P.underlying t with
    | some (.map _ _) => true
    | _ => false
  | none => false
/-- Likewise, of a map too. -/
def oLenM (P : Program) (H : List O) (argTypes : Array TypeId) (x : V) : Option V :=
  cond (mapArg P argTypes) (match x with
    | .mp id => match H[id]? with
      | some (.obj (.map keys) _) => some (.int .i64 (keys.length : Int))
      | _ => none
    | _ => none) (oLen P argTypes x)

/-- How far a slice reaches, where that is known. -/
def oCap (P : Program) (H : List O) (argTypes : Array TypeId) (x : V) : Option V :=
  match argTypes[0]? with
  | some t => match P.underlying t with
    | some (.slice _) => match x with
      | .ref id sz off len => match H[id]? with
        | some (.cells cs e) => cond (Nat.ble 4294967296 e && (Nat.beq off 0 && (Nat.beq (len * sz) cs.length && Nat.blt 0 sz))) (some (.int .i64 (len : Int))) none
        | _ => none
      | .val (.slice none 0 0) => some (.int .i64 0)
      | _ => none
    | _ => none
  | none => none

def oBuiltin (cx : Cx) (H : List O) (b : Builtin) (argTypes : Array TypeId) (args : List V) : Tree Res :=
  match b, args with
  | .append, [s, x] => (oAppend cx.P H argTypes s x).bind both
  | .len, [x] => holdO H (oLenM cx.P H argTypes x)
  | .cap, [x] => holdO H (oCap cx.P H argTypes x)
  | .max, [x, y] => holdO H (vmax x y)
  | .min, [x, y] => holdO H (vmin x y)
  | .panic, [.ifc t v] => .leaf (.pan (.ifc t v) H)
  | _, _ => .fail

def dstIn (o : Oper) (l : List Nat) : Bool := match o.dst with | some d => hasN d l | none => false
/-- Is it an append onto what may be written? -/
def appR (cx : Cx) (o : Oper) : Builtin → Bool
  | .append => (match o.dst with | some d => hasN d cx.refs | none => false)
  | _ => false
def appB (cx : Cx) (H : List O) (argTypes : Array TypeId) : List V → Tree Res
  | [s, x] => bothO (oAppendR cx.P H argTypes s x)
  | _ => .fail

def pickV (c : Bool) (a b : V) : Tree V :=
  match a, b with
  | .bool a, .bool b => .leaf (.bool (cond c a b))
  | a, b => .br c (.leaf a) (.leaf b)

/-- A key's value in a map; where it lacks, z. -/
def lookK (z : V) (f : V → Bool → V) : List Int → List V → Int → Tree V
  | k :: ks, v :: vs, n => .br (n == k) (.leaf (f v true)) (lookK z f ks vs n)
  | [], [], _ => .leaf (f z false)
  | _, _, _ => .fail
def okV (ok : Bool) (v : V) (b : Bool) : V := cond ok (.tup [v, .bool b]) v
/-- Is a type's zero the nil pointer? -/
def zeroPtr (P : Program) (t : TypeId) : Bool :=
  match P.info? t with
  | some i => match i.zero with
    | some (.pointer none) => true
    | _ => false
  | none => false
def isU64 (P : Program) (t : TypeId) : Bool :=
  match P.underlying t with
  | some (.int .u64) => true
  | _ => false
def oLookup (P : Program) (H : List O) (t : TypeId) (x ix : V) (ok : Bool) : Tree V :=
  match P.underlying t with
  | some (.map kt et) => match ix, x with
    | .int .u64 n, .mp id => match H[id]? with
      | some (.obj (.map keys) vs) => cond (isU64 P kt && zeroPtr P et) (lookK (.val (.pointer none)) (okV ok) keys vs n) .fail
      | _ => .fail
    | _, _ => .fail
  | _ => .fail
/-- A map with a key's value set: its keys stay in order. -/
def setK (n : Int) (v : V) : List Int → List V → Tree (List Int × List V)
  | k :: ks, u :: us => .br (n == k) (.leaf (k :: ks, v :: us)) (.br (decide (n < k)) (.leaf (n :: k :: ks, v :: u :: us)) ((setK n v ks us).bind fun p => .leaf (k :: p.1, u :: p.2)))
  | [], [] => .leaf ([n], [v])
  | _, _ => .fail
def oMapUpdate (P : Program) (H : List O) (t : TypeId) (m k v : V) : Tree (List O) :=
  match P.underlying t with
  | some (.map kt _) => match k, m with
    | .int .u64 n, .mp id => match H[id]? with
      | some (.obj (.map keys) vs) => cond (isU64 P kt && Nat.beq vs.length keys.length) ((setK n v keys vs).bind fun p => .leaf (H.set id (.obj (.map p.1) p.2))) .fail
      | _ => .fail
    | _, _ => .fail
  | _ => .fail
def oRange (P : Program) (H : List O) (t : TypeId) (x : V) : Tree Res :=
  match P.underlying t, x with
  | some .string, .str s => .leaf (.ok (.ptr H.length 0) (H ++ [.obj (.siter s 0) []]))
  | _, _ => .fail
/-- The next byte of a text (ASCII alone). -/
def oNext (H : List O) (it : V) : Tree Res :=
  match it with
  | .ptr id off => match H[id]? with
    | some (.obj (.siter s pos) _) => cond (Nat.beq off 0) (.br (decide (pos < s.length))
        (.req (decide ((s.getD pos 0).toNat < 128)) (.leaf (.ok (.tup [.bool true, .int .i64 (pos : Int), .int .i32 ((s.getD pos 0).toNat : Int)]) (H.set id (.obj (.siter s (pos + 1)) [])))))
        (.leaf (.ok (.tup [.bool false]) H))) .fail
    | _ => .fail
  | _ => .fail

/-- What one operation comes to: its value and the heap. (A store: the value is 'any'.) -/
def dop (cx : Cx) (t : T) (H : List O) (o : Oper) : Tree Res :=
  match o.op with
  | .move x | .assign x => hold H (rd t x)
  | .pick c a b => match rd t c with
    | .bool c => (pickV c (rd t a) (rd t b)).bind (hold H)
    | _ => .fail
  | .alloc e => match ti cx.P e with
    | some i => .leaf (.ok (.ptr H.length 0) (H ++ [.cells i.zero e]))
    | none => .fail
  | .box e x => match (rd t x).cells? with
    | some cs => .leaf (.ok (.ptr H.length 0) (H ++ [newO cx.P e cs]))
    | none => .fail
  | .build ty parts => holdO H (oBuild cx.P ty (parts.toList.map fun p => (p.1, rd t p.2)))
  | .buildSlice ty len parts => bothO (oBuildSlice cx.P H (match o.dst with | some d => hasN d cx.refs | none => false) ty len (parts.toList.map fun p => (p.1, rd t p.2)))
  | .load ty a => cond (isLz cx.lz a) ((oLoadZ cx.P H ty (rd t a)).bind (hold H)) (holdO H (oLoad cx.P H ty (rdG cx.globs t a)))
  | .store ty a v => cond (isLz cx.lz a) ((oStoreZ cx.P H ty (rd t a) (rd t v)).bind fun H => .leaf (.ok .any H)) (match oStore cx.P H ty (rd t a) (rd t v) with
    | some H => .leaf (.ok .any H)
    | none => .fail)
  | .nilCheck x => match rd t x with
    | .ptr id off => hold H (.ptr id off)
    | .pin cells => hold H (.pin cells)
    | _ => .fail
  | .binOp op ty x y _ => (cond (isNilC y) (oNil cx.P op ty (rd t x)) (oBin cx.P op ty (rd t x) (rd t y))).bind (hold H)
  | .unOp op _ x => holdO H (oUn op (rd t x))
  | .convert src dst x => cond (isStrSl cx.P src dst) (holdO H (strBytes (rd t x))) (holdO H (oConvert cx.P H src dst (rd t x)))
  | .makeFunc fn first captured => hold H (.clo fn (first.toList.map (rd t)) (captured.toList.map (rd t)))
  | .makeSlice ty l c => cond (dstIn o cx.lz) ((oMakePage cx.P H ty (rd t l) (rd t c)).bind both) ((oMakeSlice cx.P H (match o.dst with | some d => hasN d cx.refs | none => false) ty (rd t l) (rd t c)).bind both)
  | .slice ty x lo hi none => (oSlice cx.P H ty (rd t x) (lo.map (rd t)) (hi.map (rd t))).bind (hold H)
  | .fieldAddr ty x f => holdO H (oFieldAddr cx.P ty (rd t x) f)
  | .field ty x f => holdO H (oField cx.P ty (rd t x) f)
  | .indexAddr ty x i => (oIndexAddr cx.P ty (rdG cx.globs t x) (rd t i)).bind (hold H)
  | .index ty x i => (oIndex cx.P ty (rd t x) (rd t i)).bind (hold H)
  | .extract x i => match rd t x with
    | .tup vs => holdO H vs[i]?
    | _ => .fail
  | .makeInterface ty x => match cx.P.underlying ty with
    | some (.interface _) => .fail
    | some _ => hold H (.ifc ty (rd t x))
    | none => .fail
  | .typeAssert x _ as ok => match rd t x, cx.P.underlying as with
    | .ifc _ _, some (.interface _) => .fail
    | .ifc ty v, some _ => cond (Nat.beq ty as) (hold H (cond ok (.tup [v, .bool true]) v)) .fail
    | _, _ => .fail
  | .panic x => match rd t x with
    | .ifc ty v => .leaf (.pan (.ifc ty v) H)
    | _ => .fail
  | .makeMap _ none => .leaf (.ok (.mp H.length) (H ++ [.obj (.map []) []]))
  | .lookup ty x i ok => (oLookup cx.P H ty (rd t x) (rd t i) ok).bind (hold H)
  | .mapUpdate ty m k x => (oMapUpdate cx.P H ty (rd t m) (rd t k) (rd t x)).bind fun H => .leaf (.ok .any H)
  | .range ty x => oRange cx.P H ty (rd t x)
  | .next it isString => cond isString (oNext H (rd t it)) .fail
  | .call { callee := .builtin b, args, argTypes } => cond (appR cx o b) (appB cx H argTypes (args.toList.map (rd t))) (oBuiltin cx H b argTypes (args.toList.map (rd t)))
  | .call { callee := .value f, args, .. } => oCall cx H (rd t f) (args.toList.map (rd t))
  | _ => .fail

def putO (n : Nat) (dst : Option Tmp) (v : V) (t : T) : Option T :=
  match dst with
  | some d => cond (Nat.blt d n) (some (put d v t)) none
  | none => some t

inductive AEx where
  | normal
  | exit (id : Nat)
  | ret
  | panic (v : V)

abbrev St := AEx × T × List O

def dputs (cx : Cx) (o : Oper) (v : V) (t : T) (H : List O) (k : T → List O → Tree St) : Tree St :=
  match putO cx.n o.dst v t with
  | some t => k t H
  | none => .fail

def dres (cx : Cx) (o : Oper) (t : T) (k : T → List O → Tree St) : Res → Tree St
  | .ok v H => dputs cx o v t H k
  | .pan v H => .leaf (.panic v, t, H)

/-- One operation, then the rest. -/
def dstep (cx : Cx) (ops : Array Oper) (o : Oper) (t : T) (H : List O) (k : T → List O → Tree St) : Tree St :=
  match o.guard with
  | none => (dop cx t H o).bind (dres cx o t k)
  | some (j, want) => match (ops[j]?).bind (·.dst) with
    | some d => match get d t with
      | .bool b => .br b
        (cond want ((dop cx (put d (.bool true) t) H o).bind (dres cx o (put d (.bool true) t) k)) (dputs cx o vundef (put d (.bool true) t) H k))
        (cond want (dputs cx o vundef (put d (.bool false) t) H k) ((dop cx (put d (.bool false) t) H o).bind (dres cx o (put d (.bool false) t) k)))
      | .val (.tuple _) => dputs cx o vundef t H k
      | _ => .fail
    | none => .fail

def druns (cx : Cx) (ops : Array Oper) : List Oper → T → List O → Tree St
  | [], t, H => .leaf (.normal, keep cx.keeps t, H)
  | o :: r, t, H => dstep cx ops o t H (druns cx ops r)

/-- Operations that leave the heap alone and do not look into it. -/
def calm (cx : Cx) (o : Oper) : Bool :=
  match o.op with
  | .move _ | .assign _ | .pick .. | .build .. | .nilCheck _ | .binOp .. | .unOp .. | .makeFunc .. | .fieldAddr .. | .field .. | .indexAddr .. | .index .. | .extract .. | .makeInterface .. => true
  | .buildSlice .. => (match o.dst with
    | some d => !(hasN d cx.refs)
    | none => true)
  | .call { callee := .value (.func g), .. } => !(hasKey g cx.mtab) && !(hasKey g cx.rtab)
  | .call { callee := .value _, .. } => Nat.beq cx.mtab.length 0 && Nat.beq cx.rtab.length 0
  | .call { callee := .builtin .len, argTypes, .. } => !(mapArg cx.P argTypes)
  | .call { callee := .builtin .max, .. } | .call { callee := .builtin .min, .. } => true
  | _ => false

/-- Operations that leave the heap alone, but may look into it. -/
def quiet (cx : Cx) (o : Oper) : Bool :=
  calm cx o || match o.op with
  | .load .. | .slice _ _ _ _ none => true
  | .call { callee := .builtin .len, .. } => true
  | .convert src dst _ => !(isStrSl cx.P src dst)
  | .call { callee := .value (.func g), .. } => !(hasKey g cx.mtab) && hasKey g cx.rtab
  | .call { callee := .value _, .. } => Nat.beq cx.mtab.length 0
  | _ => false

def isLoad (o : Oper) : Bool := match o.op with | .load .. => true | _ => false
def isNew (o : Oper) : Bool := match o.op with | .alloc _ | .box .. | .makeSlice .. | .buildSlice .. => true | _ => false
/-- A call that looks, at most. -/
def isLook (cx : Cx) (o : Oper) : Bool := match o.op with
  | .call { callee := .value _, .. } => Nat.beq cx.mtab.length 0
  | _ => false
def isApp (cx : Cx) (o : Oper) : Bool := match o.op with | .call { callee := .builtin .append, .. } => !(appR cx o .append) | _ => false

def mayTurn (cx : Cx) (x y : Oper) : Bool :=
  calm cx x || (calm cx y || ((quiet cx x && quiet cx y) || ((isLoad x && isNew y) || ((isLoad x && isApp cx y) || ((isApp cx x && isLoad y) || (isLook cx x && isNew y))))))

/-- of each operation, those that must come ahead of it -/
def aheads : List Oper → List (List Nat) → List (List Nat)
  | [], acc => acc
  | o :: r, acc => aheads r (acc ++ [o.after.toList.foldl (fun l e => cond (Region.binds .any e) (union1 (e.on :: acc.getD e.on []) l) l) []])
where
  union1 : List Nat → List Nat → List Nat
    | [], l => l
    | n :: r, l => cond (hasN n l) (union1 r l) (union1 r (n :: l))

def backs : Nat → List Oper → Bool
  | _, [] => true
  | j, o :: r => o.after.toList.all (fun e => !Region.binds .any e || Nat.blt e.on j) && backs (j + 1) r

def pairsOk (cx : Cx) (ops : Array Oper) (ah : List (List Nat)) : Nat → Bool
  | 0 => true
  | j + 1 => (List.range j).all (fun i => hasN i (ah.getD j []) || (match ops[i]?, ops[j]? with
    | some x, some y => x.apart ops y && mayTurn cx x y
    | _, _ => true)) && pairsOk cx ops ah j

/-- May the operations come in any order that their edges allow? -/
def drawOk (cx : Cx) (ops : Array Oper) : Bool :=
  cx.P.follows .mixedOrders && (backs 0 ops.toList && pairsOk cx ops (aheads ops.toList []) ops.size)

/-- Where an operation looks or writes in memory. -/
def memAt (o : Oper) : Option Operand := match o.op with
  | .store _ a _ => some a
  | .load _ a => some a
  | _ => none

/-- The slot whose object a slot is to point into, whatever the heap. -/
def fromSlot (o : Oper) : Option Nat :=
  match o.guard with
  | none => match o.op with
    | .fieldAddr _ (.tmp c) _ => some c
    | .nilCheck (.tmp c) => some c
    | .move (.tmp c) => some c
    | _ => none
  | some _ => none

/-- Slots that point into one object each. -/
abbrev Roots := List (Nat × Nat)
def rootOf (d : Nat) : Roots → Option Nat
  | [] => none
  | (e, i) :: r => cond (Nat.beq d e) (some i) (rootOf d r)
def rootV : V → Option Nat
  | .ptr i _ => some i
  | _ => none
def roots0 : T → Roots
  | [] => []
  | (d, v) :: r => match rootV v with
    | some i => (d, i) :: roots0 r
    | none => roots0 r
def roots1 : List Oper → Roots → Roots
  | [], S => S
  | o :: r, S => match o.dst, fromSlot o with
    | some d, some c => match rootOf c S with
      | some i => roots1 r ((d, i) :: S)
      | none => roots1 r S
    | _, _ => roots1 r S
def rootAt (i : Nat) : V → Bool
  | .any => true
  | .ptr j _ => Nat.beq j i
  | _ => false
def isRoot (S : Roots) (i : Nat) : Option Nat → Bool
  | some c => match rootOf c S with
    | some j => Nat.beq j i
    | none => false
  | none => false
def notDst (d : Nat) : Option Tmp → Bool
  | some e => !(Nat.beq e d)
  | none => true
def rootsOk (ops : Array Oper) (t : T) (S : Roots) : Bool :=
  S.all fun p => rootAt p.2 (get p.1 t) && ops.toList.all fun o => notDst p.1 o.dst || isRoot S p.2 (fromSlot o)
def sepB (S : Roots) (x y : Oper) : Bool :=
  match memAt x, memAt y with
  | some (.tmp a), some (.tmp b) => match rootOf a S, rootOf b S with
    | some i, some j => !(Nat.beq i j)
    | _, _ => false
  | _, _ => false
/-- A call of a function that may write: what it is handed. -/
def callAt (cx : Cx) (o : Oper) : Option (List Operand) := match o.op with
  | .call { callee := .value (.func g), args, .. } => cond (hasKey g cx.mtab) (some args.toList) none
  | _ => none
/-- An operand that no operation of these writes. -/
def fixedArg (ops : Array Oper) : Operand → Bool
  | .tmp d => ops.toList.all fun o => notDst d o.dst
  | _ => true
/-- What an operand may hold while these are carried out: what it held, what is moved into it. -/
def mayHold (ops : Array Oper) (t : T) : Operand → Option (List V)
  | .tmp d => ops.toList.foldr (fun o acc => match acc with
    | none => none
    | some l => cond (notDst d o.dst) (some l) (match o.guard, o.op with
      | none, .move y => cond (fixedArg ops y) (some (rd t y :: l)) none
      | _, _ => none)) (some [get d t])
  | x => some [rd t x]
/-- All rows of what operands may hold. -/
def mayHolds (ops : Array Oper) (t : T) : List Operand → Option (List (List V))
  | [] => some [[]]
  | x :: r => match mayHold ops t x, mayHolds ops t r with
    | some l, some m => some (l.flatMap fun v => m.map fun vs => v :: vs)
    | _, _ => none
/-- Is x a load of an object that the call y does not come to? -/
def callSep1 (cx : Cx) (ops : Array Oper) (S : Roots) (t : T) (H : List O) (x y : Oper) : Bool :=
  isLoad x && (match memAt x, callAt cx y with
    | some (.tmp a), some as => (match rootOf a S, mayHolds ops t as with
      | some i, some m => Nat.blt i H.length && m.all fun vs => !(hasN i (reach H 64 (V.idss vs) []))
      | _, _ => false)
    | _, _ => false)
/-- All that may come ahead of j, but for i, leaves the heap. -/
def quietTo (cx : Cx) (ops : Array Oper) (i j : Nat) : Bool :=
  (List.range j).all fun k => Nat.beq k i || (match ops[k]? with
    | some o => quiet cx o
    | none => true)
def callSepB (cx : Cx) (ops : Array Oper) (S : Roots) (t : T) (H : List O) (i j : Nat) (x y : Oper) : Bool :=
  quietTo cx ops i j && (callSep1 cx ops S t H x y || callSep1 cx ops S t H y x)
def pairsOkS (cx : Cx) (ops : Array Oper) (ah : List (List Nat)) (S : Roots) (t : T) (H : List O) : Nat → Bool
  | 0 => true
  | j + 1 => (List.range j).all (fun i => hasN i (ah.getD j []) || (match ops[i]?, ops[j]? with
    | some x, some y => x.apart ops y && (mayTurn cx x y || (sepB S x y || callSepB cx ops S t H i j x y))
    | _, _ => true)) && pairsOkS cx ops ah S t H j

/-- Likewise, as the slots stand: what lies in two objects is apart. -/
def drawOkT (cx : Cx) (ops : Array Oper) (t : T) (H : List O) : Bool :=
  cx.P.follows .mixedOrders && (backs 0 ops.toList && (rootsOk ops t (roots1 ops.toList (roots0 t)) && pairsOkS cx ops (aheads ops.toList []) (roots1 ops.toList (roots0 t)) t H ops.size))

def dnorm : St → Tree St
  | (.normal, t, H) => .leaf (.normal, t, H)
  | _ => .fail

def dseq (k : T → List O → Tree St) : St → Tree St
  | (.normal, t, H) => k t H
  | s => .leaf s

def dblock (id : Nat) : St → Tree St
  | (.exit j, t, H) => .leaf (cond (Nat.beq j id) .normal (.exit j), t, H)
  | s => .leaf s

/-- A loop's rounds, one by one. -/
def dloop (f : T → List O → Tree St) : Nat → T → List O → Tree St
  | 0, _, _ => .fail
  | n + 1, t, H => (f t H).bind (dseq (dloop f n))

/-- Code; of a loop as many rounds as there is fuel for. -/
def dcode (cx : Cx) : Code → T → List O → Tree St
  | .skip, t, H => .leaf (.normal, t, H)
  | .region _ ops draw, t, H => cond draw (cond (drawOk cx ops || drawOkT cx ops t H) ((druns cx ops ops.toList t H).bind dnorm) .fail) (druns cx ops ops.toList t H)
  | .seq a b, t, H => (dcode cx a t H).bind (dseq (dcode cx b))
  | .cond c a b, t, H => match c with
    | .tmp d => (match get d t with
      | .bool v => .br v (dcode cx a (put d (.bool true) t) H) (dcode cx b (put d (.bool false) t) H)
      | _ => .fail)
    | c => match rd t c with
      | .bool v => .br v (dcode cx a t H) (dcode cx b t H)
      | _ => .fail
  | .block id c, t, H => (dcode cx c t H).bind (dblock id)
  | .exit id, t, H => .leaf (.exit id, t, H)
  | .ret, t, H => .leaf (.ret, t, H)
  | .loop c, t, H => dloop (dcode cx c) cx.fuel t H
  | _, _, _ => .fail

def resV (P : Program) (H : List O) (t : T) : List ResultVar → Option (List V)
  | [] => some []
  | .tmp i :: r => (resV P H t r).map (get i t :: ·)
  | .cell a ty :: r => match oLoad P H ty (get a t), resV P H t r with
    | some v, some vs => some (v :: vs)
    | _, _ => none

/-- What a function answers where it ends: its results, nothing that may be written among them. -/
def answerV (P : Program) (rs : List ResultVar) (H : List O) (t : T) : Option V :=
  match (resV P H t rs).bind V.pures? with
  | some [v] => some v
  | some vs => some (.tup vs)
  | none => none

def answer (P : Program) (rs : List ResultVar) : St → Tree V
  | (.ret, t, H) | (.normal, t, H) => match answerV P rs H t with
    | some v => .leaf v
    | none => .fail
  | _ => .fail

def initT : Nat → List V → T
  | _, [] => []
  | i, v :: r => (i, v) :: initT (i + 1) r

/-- A function without loops, called with such values. -/
def dfun (cx : Cx) (fn : Func) (args : List V) : Tree V :=
  match fn.body with
  | some c => (dcode { cx with n := fn.ntmps } c (initT 0 args) []).bind (answer cx.P fn.results.toList)
  | none => .fail

end Go.Ab

namespace Go.Ab

structure Loc where
  kind : Bool
  block : Nat
  base : Nat
  n : Nat
  size : Nat

inductive R (w : World) (X : Nat → Nat → Prop) : List Loc → V → Value → Prop where
  | int (β k n) : R w X β (.int k n) (.int k n)
  | bool (β b) : R w X β (.bool b) (.bool b)
  | str (β s) : R w X β (.str s) (.string ⟨List.toArray s⟩)
  | val (β x) : R w X β (.val x) x
  | any (β x) : R w X β .any x
  | rng (β k lo hi n) (h : lo ≤ n ∧ n < hi) : R w X β (.rng k lo hi) (.int k n)
  | pin (β) (cells : List V) (b o) (f : Nat → Value) (hc : ∀ k, k < cells.length → ¬ X b (o + k) ∧ w.cell? ⟨b, o + k, none⟩ = some (f k))
      (hr : ∀ (k : Nat) (v : V), cells[k]? = some v → R w X [] v (f k)) : R w X β (.pin cells) (.pointer (some ⟨b, o, none⟩))
  | sl (β) (c : EC) (l spare : List c.ty) (fl b o cap) (f : Nat → Nat → Value) (hcap : l.length + spare.length ≤ cap)
      (hfull : fl = .full → cap = l.length + spare.length) (hrw : fl.fixed = false → ∃ (cs : Array Value) (e : TypeId), w.heap[b]? = some (.cells cs e (0, 0)))
      (hc : ∀ i k, i < l.length + spare.length → k < c.size → ¬ X b (o + i * c.size + k) ∧ w.cell? ⟨b, o + i * c.size + k, none⟩ = some (f i k))
      (hr : ∀ (i : Nat) (x : c.ty) (k : Nat) (v : V), (l ++ spare)[i]? = some x → (enc c x)[k]? = some v → R w X [] v (f i k)) :
      R w X β (.sl c l spare fl) (.slice (some ⟨b, o, none⟩) l.length cap)
  | nil (β) (c : EC) : R w X β (.sl c [] [] .may) (.slice none 0 0)
  | gro (β) (id) (c : EC) (l : List c.ty) (b o cap loc) (f : Nat → Nat → Value) (hid : β[id]? = some loc) (hk : loc.kind = true) (hn : l.length ≤ loc.n)
      (hl : loc.n = l.length → b = loc.block ∧ o = loc.base ∧ o + cap * c.size ≤ loc.size) (hcap : l.length ≤ cap)
      (hc : ∀ i k, i < l.length → k < c.size → ¬ X b (o + i * c.size + k) ∧ w.cell? ⟨b, o + i * c.size + k, none⟩ = some (f i k))
      (hr : ∀ (i : Nat) (x : c.ty) (k : Nat) (v : V), l[i]? = some x → (enc c x)[k]? = some v → R w X [] v (f i k)) :
      R w X β (.gro id c l) (.slice (some ⟨b, o, none⟩) l.length cap)
  | ptr (β id off loc) (hid : β[id]? = some loc) (hk : loc.kind = false) : R w X β (.ptr id off) (.pointer (some ⟨loc.block, loc.base + off, none⟩))
  | ref (β id sz off len loc b o cap) (hid : β[id]? = some loc) (hk : loc.kind = false) (hlen : len ≤ cap)
      (ha : 0 < cap → b = loc.block ∧ o = loc.base + off) (hcap : loc.base + off + cap * sz ≤ loc.size) :
      R w X β (.ref id sz off len) (.slice (some ⟨b, o, none⟩) len cap)
  | mp (β id loc) (hid : β[id]? = some loc) (hk : loc.kind = false) : R w X β (.mp id) (.map (some loc.block))
  | agg (β) (cells : List V) (xs : List Value) (hl : xs.length = cells.length) (h : ∀ (k : Nat) (v : V) (x : Value), cells[k]? = some v → xs[k]? = some x → R w X β v x) :
      R w X β (.agg cells) (.agg xs.toArray)
  | tup (β) (cells : List V) (xs : List Value) (hl : xs.length = cells.length) (h : ∀ (k : Nat) (v : V) (x : Value), cells[k]? = some v → xs[k]? = some x → R w X β v x) :
      R w X β (.tup cells) (.tuple xs.toArray)
  | ifc (β t v x) (h : R w X β v x) : R w X β (.ifc t v) (.iface t x)
  | clo (β fn) (as bs : List V) (xs ys : List Value) (hl : xs.length = as.length) (hm : ys.length = bs.length)
      (h : ∀ (k : Nat) (v : V) (x : Value), as[k]? = some v → xs[k]? = some x → R w X β v x) (h' : ∀ (k : Nat) (v : V) (x : Value), bs[k]? = some v → ys[k]? = some x → R w X β v x) :
      R w X β (.clo fn as bs) (.func fn xs.toArray ys.toArray)

/-- What is known of variables, as it lies. -/
def Gs (P : Program) (w : World) (X : Nat → Nat → Prop) : Prop := ∀ p ∈ globsOf P, R w X [] (.pin p.2) (.pointer (some ⟨p.1, 0, none⟩))

def LocLe (β β' : List Loc) : Prop :=
  ∀ (id : Nat) (loc : Loc), β[id]? = some loc → ∃ loc', β'[id]? = some loc' ∧ (loc' = loc ∨ (loc.kind = true ∧ loc'.kind = true ∧ loc.n < loc'.n))

theorem LocLe.refl (β : List Loc) : LocLe β β := fun _ loc h => ⟨loc, h, .inl rfl⟩
theorem LocLe.nil (β : List Loc) : LocLe [] β := fun _ _ h => by simp at h
theorem LocLe.trans {a b c : List Loc} (h : LocLe a b) (k : LocLe b c) : LocLe a c := by
  intro id loc e
  obtain ⟨l1, e1, h1⟩ := h id loc e
  obtain ⟨l2, e2, h2⟩ := k id l1 e1
  refine ⟨l2, e2, ?_⟩
  rcases h1 with rfl | ⟨a1, a2, a3⟩
  · exact h2
  · rcases h2 with rfl | ⟨b1, b2, b3⟩
    · exact .inr ⟨a1, a2, a3⟩
    · exact .inr ⟨a1, b2, by omega⟩

structure Stab (w : World) (X : Nat → Nat → Prop) (w' : World) (X' : Nat → Nat → Prop) : Prop where
  cell : ∀ b o v, ¬ X b o → w.cell? ⟨b, o, none⟩ = some v → ¬ X' b o ∧ w'.cell? ⟨b, o, none⟩ = some v
  blk : ∀ (b : Nat) (cs : Array Value) (e : TypeId), w.heap[b]? = some (.cells cs e (0, 0)) → ∃ (cs' : Array Value) (e' : TypeId), w'.heap[b]? = some (.cells cs' e' (0, 0))

theorem R.stab {w w' : World} {X X' : Nat → Nat → Prop} (s : Stab w X w' X') {β : List Loc} {v : V} {x : Value} (h : R w X β v x) :
    ∀ β', LocLe β β' → R w' X' β' v x := by
  induction h with
  | int => exact fun β' _ => .int β' _ _
  | bool => exact fun β' _ => .bool β' _
  | str => exact fun β' _ => .str β' _
  | val => exact fun β' _ => .val β' _
  | any => exact fun β' _ => .any β' _
  | rng β k lo hi n h => exact fun β' _ => .rng β' k lo hi n h
  | pin β cells b o f hc hr ih =>
    exact fun β' _ => .pin β' cells b o f (fun k hk => s.cell _ _ _ (hc k hk).1 (hc k hk).2) (fun k v hv => ih k v hv [] (.nil _))
  | sl β c l spare fl b o cap f hcap hfull hrw hc hr ih =>
    exact fun β' _ => .sl β' c l spare fl b o cap f hcap hfull (fun e => let ⟨cs, t, h⟩ := hrw e; s.blk _ _ _ h)
      (fun i k hi hk => s.cell _ _ _ (hc i k hi hk).1 (hc i k hi hk).2) (fun i x k v h1 h2 => ih i x k v h1 h2 [] (.nil _))
  | nil β c => exact fun β' _ => .nil β' c
  | gro β id c l b o cap loc f hid hk hn hl hcap hc hr ih =>
    intro β' hle
    obtain ⟨loc', hid', h⟩ := hle id loc hid
    refine .gro β' id c l b o cap loc' f hid' ?_ ?_ ?_ hcap (fun i k hi hk => s.cell _ _ _ (hc i k hi hk).1 (hc i k hi hk).2) (fun i x k v h1 h2 => ih i x k v h1 h2 [] (.nil _))
    · rcases h with rfl | ⟨_, h, _⟩ <;> assumption
    · rcases h with rfl | ⟨_, _, h⟩ <;> omega
    · rcases h with rfl | ⟨_, _, h⟩
      · exact hl
      · intro e; omega
  | ptr β id off loc hid hk =>
    intro β' hle
    obtain ⟨loc', hid', h⟩ := hle id loc hid
    rcases h with rfl | ⟨h, _⟩
    · exact .ptr β' id off _ hid' hk
    · simp [hk] at h
  | ref β id sz off len loc b o cap hid hk hlen ha hcap =>
    intro β' hle
    obtain ⟨loc', hid', h⟩ := hle id loc hid
    rcases h with rfl | ⟨h, _⟩
    · exact .ref β' id sz off len _ b o cap hid' hk hlen ha hcap
    · simp [hk] at h
  | mp β id loc hid hk =>
    intro β' hle
    obtain ⟨loc', hid', h⟩ := hle id loc hid
    rcases h with rfl | ⟨h, _⟩
    · exact .mp β' id _ hid' hk
    · simp [hk] at h
  | agg β cells xs hl h ih => exact fun β' hle => .agg β' cells xs hl (fun k v x h1 h2 => ih k v x h1 h2 β' hle)
  | tup β cells xs hl h ih => exact fun β' hle => .tup β' cells xs hl (fun k v x h1 h2 => ih k v x h1 h2 β' hle)
  | ifc β t v x h ih => exact fun β' hle => .ifc β' t v x (ih β' hle)
  | clo β fn as bs xs ys hl hm h h' ih ih' =>
    exact fun β' hle => .clo β' fn as bs xs ys hl hm (fun k v x h1 h2 => ih k v x h1 h2 β' hle) (fun k v x h1 h2 => ih' k v x h1 h2 β' hle)

/-- What may be written: the objects' cells. -/
def Own (H : List O) (β : List Loc) (b o : Nat) : Prop :=
  ∃ (id : Nat) (loc : Loc), β[id]? = some loc ∧ loc.block = b ∧ ((∃ cs e, H[id]? = some (.cells cs e)) ∨ (∃ n sz, H[id]? = some (.tok n sz) ∧ loc.base + n * sz ≤ o) ∨ (∃ sh vs, H[id]? = some (.obj sh vs)))

/-- How an object that is no row of cells lies, and the values in it. -/
def Shp : Shape → Obj → List Value → Prop
  | .map keys, ob, xs => ∃ (arr : Array MapEntry) (clock : Nat) (l : List MapEntry), ob = .map arr clock ∧ Go.MapKept.Stamped arr clock ∧ keys.Pairwise (· < ·) ∧ l.Perm arr.toList ∧
      l.map (·.key) = keys.map (Value.int .u64) ∧ l.map (·.val) = xs
  | .siter s pos, ob, xs => ob = .stringIter ⟨s.toArray⟩ pos ∧ xs = []
  | .page n k l, ob, xs => xs.length = n ∧ ∃ e, ob = .cells (xs ++ l.map (Value.int k)).toArray e (0, 0)
/-- No row of cells, and none to be read so. -/
def special : Obj → Bool
  | .map _ _ | .stringIter _ _ | .mapIter _ _ _ _ => true
  | _ => false
theorem Shp.special {sh : Shape} {ob : Obj} {xs : List Value} (h : Shp sh ob xs) (hp : sh.isPage = false) : special ob = true := by
  cases sh with
  | page n k l => cases hp
  | map keys => obtain ⟨arr, clock, l, rfl, _⟩ := h; rfl
  | siter s pos => obtain ⟨rfl, _⟩ := h; rfl

def Xs (E : Nat → Nat → Prop) (H : List O) (β : List Loc) (b o : Nat) : Prop := E b o ∨ Own H β b o

def live (H : List O) (id : Nat) : Prop := ∃ o, H[id]? = some o ∧ o ≠ .dead

structure Rel (w : World) (X : Nat → Nat → Prop) (H : List O) (β : List Loc) : Prop where
  len : H.length = β.length
  cells : ∀ (id : Nat) cs e (loc : Loc), H[id]? = some (.cells cs e) → β[id]? = some loc → loc.kind = false ∧ ∃ (c : Array Value) (e' : TypeId),
    w.heap[loc.block]? = some (.cells c e' (0, 0)) ∧ c.size = loc.size ∧ (loc.base + cs.length ≤ loc.size ∧ (4294967296 ≤ e → loc.size = loc.base + cs.length)) ∧
    ∀ (k : Nat) v, cs[k]? = some v → ∃ x, c[loc.base + k]? = some x ∧ R w X β v x
  tok : ∀ (id : Nat) n sz (loc : Loc), H[id]? = some (.tok n sz) → β[id]? = some loc → loc.kind = true ∧ loc.n = n ∧ ∃ (c : Array Value) (e' : TypeId),
    w.heap[loc.block]? = some (.cells c e' (0, 0)) ∧ c.size = loc.size
  objs : ∀ (id : Nat) sh vs (loc : Loc), H[id]? = some (.obj sh vs) → β[id]? = some loc → loc.kind = false ∧ loc.base = 0 ∧ ∃ (ob : Obj) (xs : List Value),
    w.heap[loc.block]? = some ob ∧ Shp sh ob xs ∧ ∀ (k : Nat) v, vs[k]? = some v → ∃ x, xs[k]? = some x ∧ R w X β v x
  disj : ∀ (i j : Nat) (l l' : Loc), live H i → live H j → β[i]? = some l → β[j]? = some l' → l.block = l'.block → i = j

structure Step (E : Nat → Nat → Prop) (H : List O) (β : List Loc) (w : World) (H' : List O) (β' : List Loc) (w' : World) : Prop where
  rel : Rel w' (Xs E H' β') H' β'
  os : w'.os = w.os
  tape : w'.tape = w.tape
  output : w'.output = w.output
  size : w.heap.size ≤ w'.heap.size
  pres : ∀ (b : Nat), b < w.heap.size → w'.heap[b]? = w.heap[b]? ∨ ((∃ o, Own H β b o) ∧ ∃ (c c' : Array Value) (e : TypeId), w.heap[b]? = some (.cells c e (0, 0)) ∧
    w'.heap[b]? = some (.cells c' e (0, 0)) ∧ c'.size = c.size ∧ ∀ (o : Nat), ¬ Own H β b o → c'[o]? = c[o]?) ∨
    ((∃ o, Own H β b o) ∧ ∃ (x y : Obj), w.heap[b]? = some x ∧ w'.heap[b]? = some y ∧ special x = true ∧ special y = true)
  own : ∀ b o, Own H' β' b o → Own H β b o ∨ w.heap.size ≤ b
  locs : LocLe β β'

theorem cell_lt {w : World} {b o : Nat} {v : Value} (h : w.cell? ⟨b, o, none⟩ = some v) : b < w.heap.size := block_lt_of_cell h

theorem cell_special {w : World} {b o : Nat} {x : Obj} (h : w.heap[b]? = some x) (hs : special x = true) : w.cell? ⟨b, o, none⟩ = none := by
  unfold World.cell?
  rw [h]
  cases x <;> simp_all [special]

theorem Step.stab {E H β w H' β' w'} (s : Step E H β w H' β' w') : Stab w (Xs E H β) w' (Xs E H' β') := by
  constructor
  · intro b o v hx hv
    have hlt := cell_lt hv
    have hE : ¬ E b o := fun h => hx (.inl h)
    have hO : ¬ Own H β b o := fun h => hx (.inr h)
    refine ⟨fun h => ?_, ?_⟩
    · rcases h with h | h
      · exact hE h
      · rcases s.own b o h with h | h
        · exact hO h
        · omega
    · rcases s.pres b hlt with h | ⟨_, c, c', e, h1, h2, _, h4⟩ | ⟨_, x, y, h1, h2, h3, h4⟩
      · unfold World.cell? at hv ⊢; rw [h]; exact hv
      · rw [cell_of_row w b o c e (0, 0) h1] at hv
        rw [cell_of_row w' b o c' e (0, 0) h2, h4 o hO, hv]
      · rw [cell_special h1 h3] at hv; cases hv
  · intro b cs e h
    have hlt : b < w.heap.size := by
      rcases Nat.lt_or_ge b w.heap.size with h' | h'
      · exact h'
      · simp [Array.getElem?_eq_none h'] at h
    rcases s.pres b hlt with h' | ⟨_, c, c', e', h1, h2, _⟩ | ⟨_, x, y, h1, h2, h3, h4⟩
    · exact ⟨cs, e, by rw [h', h]⟩
    · exact ⟨c', e', h2⟩
    · rw [h] at h1; cases h1; cases h3

theorem Step.keepR {E H β w H' β' w' v x} (s : Step E H β w H' β' w') (h : R w (Xs E H β) β v x) : R w' (Xs E H' β') β' v x := h.stab s.stab β' s.locs

theorem Step.refl {E H β w} (h : Rel w (Xs E H β) H β) : Step E H β w H β w :=
  ⟨h, rfl, rfl, rfl, Nat.le_refl _, fun _ _ => .inl rfl, fun _ _ h => .inl h, .refl _⟩

theorem Step.trans {E H β w H' β' w' H'' β'' w''} (s : Step E H β w H' β' w') (t : Step E H' β' w' H'' β'' w'') : Step E H β w H'' β'' w'' := by
  refine ⟨t.rel, t.os.trans s.os, t.tape.trans s.tape, t.output.trans s.output, Nat.le_trans s.size t.size, fun b hb => ?_, fun b o h => ?_, s.locs.trans t.locs⟩
  · have hown : ∀ o, Own H' β' b o → Own H β b o := fun o h => by
      rcases s.own b o h with h | h
      · exact h
      · omega
    rcases t.pres b (Nat.lt_of_lt_of_le hb s.size) with h | ⟨⟨o, ho⟩, c, c', e, h1, h2, h3, h4⟩ | ⟨⟨o, ho⟩, x, y, h1, h2, h3, h4⟩
    · rcases s.pres b hb with g | ⟨g0, c, c', e, g1, g2, g3, g4⟩ | ⟨g0, x, y, g1, g2, g3, g4⟩
      · exact .inl (h.trans g)
      · exact .inr (.inl ⟨g0, c, c', e, g1, h.trans g2, g3, g4⟩)
      · exact .inr (.inr ⟨g0, x, y, g1, h.trans g2, g3, g4⟩)
    · rcases s.pres b hb with g | ⟨_, d, d', e', g1, g2, g3, g4⟩ | ⟨_, x, y, g1, g2, g3, g4⟩
      · exact .inr (.inl ⟨⟨o, hown o ho⟩, c, c', e, g ▸ h1, h2, h3, fun o ho => h4 o (fun h => ho (hown o h))⟩)
      · refine .inr (.inl ⟨⟨o, hown o ho⟩, ?_⟩)
        rw [g2] at h1
        simp only [Option.some.injEq, Obj.cells.injEq, and_true] at h1
        obtain ⟨rfl, rfl⟩ := h1
        exact ⟨d, c', e', g1, h2, h3.trans g3, fun o ho => (h4 o (fun h => ho (hown o h))).trans (g4 o ho)⟩
      · rw [g2] at h1; cases h1; cases g4
    · rcases s.pres b hb with g | ⟨_, d, d', e', g1, g2, g3, g4⟩ | ⟨_, x', y', g1, g2, g3, g4⟩
      · exact .inr (.inr ⟨⟨o, hown o ho⟩, x, y, g ▸ h1, h2, h3, h4⟩)
      · rw [g2] at h1; cases h1; cases h3
      · exact .inr (.inr ⟨⟨o, hown o ho⟩, x', y, g1, h2, g3, h4⟩)
  · rcases t.own b o h with h | h
    · rcases s.own b o h with h | h
      · exact .inl h
      · exact .inr h
    · exact .inr (Nat.le_trans s.size h)

/-- The frame: what is known of the slots. -/
structure FR (w : World) (X : Nat → Nat → Prop) (β : List Loc) (n : Nat) (t : T) (a : Act) : Prop where
  size : a.tmps.size = n
  slot : ∀ d, R w X β (get d t) (a.tmps.getD d undef)

theorem FR.step {E H β w H' β' w' n t a} (s : Step E H β w H' β' w') (h : FR w (Xs E H β) β n t a) : FR w' (Xs E H' β') β' n t a :=
  ⟨h.size, fun d => s.keepR (h.slot d)⟩

theorem nbeq_ne {d e : Nat} (h : ¬ d = e) : Nat.beq d e = false := by
  cases hh : Nat.beq d e
  · rfl
  · exact absurd (Nat.eq_of_beq_eq_true hh) h

theorem get_put (d e : Nat) (v : V) (t : T) : get d (put e v t) = if d = e then v else get d t := by
  induction t with
  | nil =>
    simp only [put, get]
    by_cases h : d = e
    · simp [h]
    · simp [h, nbeq_ne h]
  | cons p r ih =>
    obtain ⟨f, u⟩ := p
    unfold put
    cases hb : Nat.blt e f
    · cases hq : Nat.beq e f
      · simp only [cond_false, get, ih]
        by_cases h : d = e
        · subst h
          simp [hq]
        · simp [h]
      · have : e = f := Nat.eq_of_beq_eq_true hq
        subst this
        simp only [cond_true, cond_false, get]
        by_cases h : d = e
        · simp [h]
        · have : Nat.beq d e = false := by cases hh : Nat.beq d e; rfl; exact absurd (Nat.eq_of_beq_eq_true hh) h
          simp [h, this]
    · simp only [cond_true, get]
      by_cases h : d = e
      · simp [h]
      · have : Nat.beq d e = false := by cases hh : Nat.beq d e; rfl; exact absurd (Nat.eq_of_beq_eq_true hh) h
        simp [h, this]

theorem get_keep (l : List Nat) (d : Nat) (t : T) : get d (keep l t) = get d t ∨ get d (keep l t) = .any := by
  induction t with
  | nil => exact .inl rfl
  | cons p r ih =>
    obtain ⟨e, u⟩ := p
    unfold keep
    cases h : hasN e l
    · simp only [cond_false, get]
      cases hq : Nat.beq d e
      · simpa using ih
      · right
        have : d = e := Nat.eq_of_beq_eq_true hq
        subst this
        -- not among the kept
        clear ih hq u
        induction r with
        | nil => rfl
        | cons q r ih =>
          obtain ⟨f, u⟩ := q
          unfold keep
          cases h' : hasN f l
          · simpa using ih
          · simp only [cond_true, get]
            cases hq : Nat.beq d f
            · simpa using ih
            · have : d = f := Nat.eq_of_beq_eq_true hq
              subst this
              rw [h] at h'; cases h'
    · simp only [cond_true, get]
      cases hq : Nat.beq d e
      · simpa using ih
      · simp

theorem FR.keep {w X β n t a} (l : List Nat) (h : FR w X β n t a) : FR w X β n (keep l t) a :=
  ⟨h.size, fun d => by rcases get_keep l d t with e | e <;> rw [e]; exact h.slot d; exact .any _ _⟩

theorem FR.put {w X β n t a d v x} (h : FR w X β n t a) (hd : d < n) (hv : R w X β v x) : FR w X β n (put d v t) { a with tmps := a.tmps.setIfInBounds d x } := by
  refine ⟨by simp [h.size], fun e => ?_⟩
  rw [get_put]
  by_cases he : e = d
  · subst he
    have : e < a.tmps.size := by rw [h.size]; exact hd
    simp [Array.getD_eq_getD_getElem?, this, hv]
  · have hs := h.slot e
    simp only [he, if_false]
    simpa [Array.getD_eq_getD_getElem?, Array.getElem?_setIfInBounds, Ne.symm he] using hs

end Go.Ab

namespace Go.Ab

theorem Stab.refl (w : World) (X : Nat → Nat → Prop) : Stab w X w X := ⟨fun _ _ _ h1 h2 => ⟨h1, h2⟩, fun _ cs e h => ⟨cs, e, h⟩⟩

theorem R.up {w X v x} (β : List Loc) (h : R w X [] v x) : R w X β v x := h.stab (Stab.refl w X) β (.nil β)

theorem ofVal1_R (w X β) (x : Value) : R w X β (ofVal1 x) x := by
  cases x with
  | int k n => exact .int _ _ _
  | bool b => exact .bool _ _
  | string s => obtain ⟨⟨l⟩⟩ := s; exact .str β l
  | _ => exact .val _ _

theorem ofVal_R (w X β) (x : Value) : R w X β (ofVal x) x := by
  cases x with
  | agg cs =>
    obtain ⟨l⟩ := cs
    refine .agg β _ l (by simp) ?_
    intro k v x h1 h2
    simp only [List.getElem?_map, h2, Option.map_some, Option.some.injEq] at h1
    subst h1
    exact ofVal1_R _ _ _ _
  | _ => simp only [ofVal]; exact ofVal1_R _ _ _ _

section
variable {w : World} {X : Nat → Nat → Prop} {β : List Loc} {n : Nat} {t : T} {a : Act}

theorem rd_R (h : FR w X β n t a) (x : Operand) : R w X β (rd t x) (a.eval x) := by
  cases x with
  | tmp i => exact h.slot i
  | const v => exact ofVal_R _ _ _ _
  | global g => exact .val _ _
  | func f => exact .val _ _

theorem globAt_mem {g : Nat} {cs : List V} : ∀ {l : List (Nat × List V)}, globAt g l = some cs → (g, cs) ∈ l
  | [], h => by cases h
  | (e, ds) :: r, h => by
    unfold globAt at h
    cases hb : Nat.beq g e
    · rw [hb] at h
      exact List.mem_cons_of_mem _ (globAt_mem h)
    · rw [hb] at h
      have := Nat.eq_of_beq_eq_true hb
      subst this
      cases h
      exact List.mem_cons_self
theorem rdG_R {P : Program} {G : List (Nat × List V)} (hG : Gs P w X) (hg : ∀ p ∈ G, p ∈ globsOf P) (h : FR w X β n t a) (x : Operand) : R w X β (rdG G t x) (a.eval x) := by
  cases x with
  | tmp i => exact rd_R h (.tmp i)
  | const v => exact rd_R h (.const v)
  | func f => exact rd_R h (.func f)
  | global g =>
    show R w X β (match globAt g G with | some cs => .pin cs | none => rd t (.global g)) (a.eval (.global g))
    cases he : globAt g G with
    | none => exact rd_R h (.global g)
    | some cs => exact (hG _ (hg _ (globAt_mem he))).up β

/-- What is told of a type. -/
structure TIs (P : Program) (t : TypeId) (i : TI) : Prop where
  info : ∃ (j : TypeInfo) (d : TypeDesc), P.info? t = some j ∧ P.underlying t = some d ∧ j.size = i.size ∧ j.bytes = i.bytes ∧
    (∃ z, j.zero = some z ∧ i.zero = z.cells.toList.map ofVal1) ∧
    i.k = (match d with
      | .slice e => .slice e
      | .struct fs => .st (fs.toList.map fun f => (f.offset, P.cellsOf f.type, isAggB P f.type))
      | .array n e => .arr n e
      | _ => .scal) ∧ knownFields P d = true

theorem ti_spec {P : Program} {t : TypeId} {i : TI} (h : ti P t = some i) : TIs P t i := by
  unfold ti at h
  split at h
  · rename_i j d h1 h2
    dsimp only at h
    split at h
    · rename_i z hz
      cases hk : knownFields P d
      · simp [hk] at h
      · simp only [hk, cond_true, Option.some.injEq] at h
        subst h
        exact ⟨j, d, h1, h2, rfl, rfl, ⟨z, hz, rfl⟩, rfl, hk⟩
    · cases h
  · cases h

theorem run_typeInfo' {P : Program} {t : TypeId} {j : TypeInfo} (w : World) (h : P.info? t = some j) : (typeInfo t).run P w = .ok j w := by
  simp [typeInfo, h]

theorem run_sizeOf' {P : Program} {t : TypeId} {j : TypeInfo} (w : World) (h : P.info? t = some j) : (sizeOf t).run P w = .ok j.size w := by
  simp [sizeOf, typeInfo, h]

theorem run_und {P : Program} {t : TypeId} {d : TypeDesc} (w : World) (h : P.underlying t = some d) : (underlying t).run P w = .ok d w := by
  simp [underlying, h]

theorem ti_size {P : Program} {t : TypeId} {i : TI} (w : World) (h : ti P t = some i) : (sizeOf t).run P w = .ok i.size w := by
  obtain ⟨j, d, h1, _, h3, _⟩ := (ti_spec h).info
  rw [run_sizeOf' w h1, h3]

theorem ti_isAgg {P : Program} {t : TypeId} {i : TI} (w : World) (h : ti P t = some i) : (isAgg t).run P w = .ok (aggTK i.k) w := by
  obtain ⟨j, d, h1, h2, _, _, _, h6, _⟩ := (ti_spec h).info
  rw [h6]
  cases d <;> simp [isAgg, run_und w h2, aggTK]

theorem cell_ptr {H : List O} {x : V} {y : Value} {cells : List V} (hR : Rel w X H β) (hx : R w X β x y) (h : cellsAt H x = some cells) :
    ∃ b o, y = .pointer (some ⟨b, o, none⟩) ∧ ∀ (k : Nat) v, cells[k]? = some v → ∃ z, w.cell? ⟨b, o + k, none⟩ = some z ∧ R w X β v z := by
  cases hx with
  | pin _ cs b o f hc hr =>
    simp only [cellsAt, Option.some.injEq] at h
    subst h
    refine ⟨b, o, rfl, fun k v hv => ⟨f k, (hc k ?_).2, (hr k v hv).up β⟩⟩
    exact (List.getElem?_eq_some_iff.1 hv).1
  | ptr _ id off loc hid hk =>
    simp only [cellsAt] at h
    split at h
    · rename_i cs e hH
      simp only [Option.some.injEq] at h
      subst h
      obtain ⟨_, c, e', h1, h2, h3, h4⟩ := hR.cells id cs e loc hH hid
      refine ⟨loc.block, loc.base + off, rfl, fun k v hv => ?_⟩
      rw [List.getElem?_drop] at hv
      obtain ⟨z, hz, hz'⟩ := h4 (off + k) v hv
      refine ⟨z, ?_, hz'⟩
      rw [cell_of_row w _ _ c e' (0, 0) h1, ← hz, Nat.add_assoc]
    · rename_i n' k' l' hd hH
      simp only [Option.some.injEq] at h
      subst h
      obtain ⟨_, hb0, ob, xs, h1, ⟨hn, e', rfl⟩, h4⟩ := hR.objs id _ _ loc hH hid
      refine ⟨loc.block, loc.base + off, rfl, fun k v hv => ?_⟩
      rw [List.getElem?_drop] at hv
      obtain ⟨z, hz, hz'⟩ := h4 (off + k) v hv
      refine ⟨z, ?_, hz'⟩
      rw [cell_of_row w _ _ _ e' (0, 0) h1, hb0, Nat.zero_add, List.getElem?_toArray, List.getElem?_append_left (List.getElem?_eq_some_iff.1 hz).1, hz]
    · cases h
  | _ => cases h

theorem addr_add (b o k : Nat) : (⟨b, o, none⟩ : Addr).add k = ⟨b, o + k, none⟩ := by
  unfold Addr.add; split <;> simp_all

theorem R_cells_agg {l : List V} (f : Nat → Value) (h : ∀ k v, l[k]? = some v → R w X β v (f k)) :
    R w X β (.agg l) (.agg ((List.range l.length).map f).toArray) := by
  refine .agg β l _ (by simp) ?_
  intro k v x h1 h2
  have hk := (List.getElem?_eq_some_iff.1 h1).1
  simp only [List.getElem?_map, List.getElem?_range hk, Option.map_some, Option.some.injEq] at h2
  subst h2
  exact h k v h1

theorem sound_loadVar {P : Program} {H : List O} {ty : TypeId} {x v : V} {y : Value} (hR : Rel w X H β) (hx : R w X β x y) (h : oLoad P H ty x = some v) :
    ∃ b o z, y = .pointer (some ⟨b, o, none⟩) ∧ (loadVar ty ⟨b, o, none⟩).run P w = .ok z w ∧ R w X β v z := by
  unfold oLoad at h
  split at h
  · rename_i i cells h1 h2
    obtain ⟨b, o, rfl, hc⟩ := cell_ptr hR hx h2
    refine ⟨b, o, ?_⟩
    unfold ofCells at h
    cases hk : aggTK i.k
    · simp only [hk, cond_false] at h
      cases cells with
      | nil => cases h
      | cons u r =>
        simp only [Option.some.injEq] at h
        subst h
        obtain ⟨z, hz, hz'⟩ := hc 0 u rfl
        refine ⟨z, rfl, ?_, hz'⟩
        simp only [Nat.add_zero] at hz
        simp [loadVar, ti_isAgg w h1, hk, hz]
    · simp only [hk, cond_true] at h
      cases hb : Nat.ble i.size cells.length
      · simp [hb] at h
      · simp only [hb, cond_true, Option.some.injEq] at h
        subst h
        have hle : i.size ≤ cells.length := Nat.le_of_ble_eq_true hb
        let f : Nat → Value := fun k => (w.cell? ⟨b, o + k, none⟩).getD undef
        have hf : ∀ k, k < i.size → w.cell? ((⟨b, o, none⟩ : Addr).add k) = some (f k) := by
          intro k hk
          obtain ⟨z, hz, _⟩ := hc k cells[k] (by simp [List.getElem?_eq_getElem (Nat.lt_of_lt_of_le hk hle)])
          rw [addr_add, hz]; simp [f, hz]
        have hl : (cells.take i.size).length = i.size := by simp [hle]
        refine ⟨.agg ((List.range i.size).map f).toArray, rfl, ?_, ?_⟩
        · simp [loadVar, ti_isAgg w h1, hk, ti_size w h1, run_loadCells (P := P) w ⟨b, o, none⟩ i.size f hf]
        · have := R_cells_agg (w := w) (X := X) (β := β) (l := cells.take i.size) f ?_
          · rwa [hl] at this
          · intro k v hv
            rw [List.getElem?_take] at hv
            split at hv
            · obtain ⟨z, hz, hz'⟩ := hc k v hv
              simpa [f, hz] using hz'
            · cases hv
  · cases h

theorem sound_load {P : Program} {H : List O} {ty : TypeId} {x v : V} {y : Value} (hR : Rel w X H β) (hx : R w X β x y) (h : oLoad P H ty x = some v) :
    ∃ z, (Instr.loadAt ty y).run P w = .ok z w ∧ R w X β v z := by
  obtain ⟨b, o, z, rfl, h1, h2⟩ := sound_loadVar hR hx h
  exact ⟨z, by simp [Instr.loadAt, Instr.sureAddr, h1], h2⟩

/-! Numbers at places that need not be known. -/

theorem req_runZ {β : Type} {c : Bool} {x : Tree β} {b : β} (h : (Tree.req c x).run = some b) : c = true ∧ x.run = some b := by
  cases c
  · simp [Tree.req, Tree.run] at h
  · exact ⟨rfl, h⟩

theorem intOf_spec {P : Program} {ty : TypeId} {k : IntKind} (h : intOf P ty = some k) : ∃ i, ti P ty = some i ∧ aggTK i.k = false ∧ i.size = 1 := by
  unfold intOf at h
  split at h
  · rename_i i k' h1 h2
    cases hc : (!aggTK i.k && Nat.beq i.size 1)
    · rw [hc] at h; cases h
    · obtain ⟨g1, g2⟩ := Bool.and_eq_true_iff.1 hc
      exact ⟨i, h1, by simpa using g1, Nat.eq_of_beq_eq_true g2⟩
  · cases h
theorem isIntAt_spec {k : IntKind} {cs : List V} {o : Nat} (h : isIntAt k cs o = true) : ∃ n, cs[o]? = some (.int k n) := by
  unfold isIntAt at h
  split at h
  · rename_i l n hn
    have := of_decide_eq_true h
    subst this
    exact ⟨n, hn⟩
  · cases h
theorem intAt_get {k : IntKind} {n : Int} : ∀ {cs : List V} {o : Nat}, cs[o]? = some (.int k n) → intAt cs o = n
  | [], o, h => by simp at h
  | v :: r, 0, h => by
    simp only [List.getElem?_cons_zero, Option.some.injEq] at h
    subst h
    rfl
  | v :: r, o + 1, h => by
    simp only [List.getElem?_cons_succ] at h
    exact intAt_get (cs := r) (o := o) h
theorem setC_ne {k : IntKind} {x : Int} {o j : Nat} (h : j ≠ o) (v : V) : setC k o x j v = v := by
  have hb : Nat.beq j o = false := by
    cases hb : Nat.beq j o
    · rfl
    · exact absurd (Nat.eq_of_beq_eq_true hb) h
  unfold setC
  split
  · rename_i l n
    rw [hb]
    cases hd : decide (l = k)
    · rfl
    · have := of_decide_eq_true hd
      subst this
      rfl
  · rfl
theorem setI_past {k : IntKind} {x : Int} {o : Nat} : ∀ (l : List V) (i : Nat), o < i → setI k o x i l = l
  | [], _, _ => rfl
  | v :: l, i, h => by
    unfold setI
    rw [setI_past l (i + 1) (by omega), setC_ne (by omega)]
theorem setI_eq {k : IntKind} {x n : Int} : ∀ {cs : List V} {o j m : Nat}, o = j + m → cs[m]? = some (.int k n) → setI k o x j cs = splice cs m [.int k x]
  | [], o, j, m, _, h => by simp at h
  | v :: r, o, j, 0, ho, h => by
    simp only [List.getElem?_cons_zero, Option.some.injEq] at h
    subst h
    have : o = j := by omega
    subst this
    unfold setI
    rw [setI_past r _ (Nat.lt_succ_self o)]
    have e : setC k o x o (.int k n) = .int k x := by
      show cond (decide (k = k)) (V.int k (cond (Nat.beq o o) x n)) (.int k n) = _
      rw [decide_eq_true rfl, cond_true, Nat.beq_refl]
      rfl
    rw [e]
    simp [splice]
  | v :: r, o, j, m + 1, ho, h => by
    simp only [List.getElem?_cons_succ] at h
    unfold setI
    rw [setI_eq (o := o) (j := j + 1) (m := m) (by omega) h, setC_ne (by omega)]
    simp [splice]
theorem sound_loadZ {P : Program} {H : List O} {ty : TypeId} {x v : V} {y : Value} (hR : Rel w X H β) (hx : R w X β x y) (h : (oLoadZ P H ty x).run = some v) :
    ∃ z, (Instr.loadAt ty y).run P w = .ok z w ∧ R w X β v z := by
  unfold oLoadZ at h
  split at h
  rotate_left
  · cases h
  rename_i k id off hk
  obtain ⟨i, hi, g1, g2⟩ := intOf_spec hk
  split at h
  · rename_i cs e hH
    obtain ⟨h1, h2⟩ := req_runZ h
    obtain ⟨n, hn⟩ := isIntAt_spec h1
    cases h2
    refine sound_load (ty := ty) hR hx ?_
    unfold oLoad
    simp only [hi, cellsAt, hH]
    unfold ofCells
    rw [g1, cond_false, intAt_get hn]
    have hd : cs.drop off = .int k n :: cs.drop (off + 1) := by
      obtain ⟨hlt, he⟩ := List.getElem?_eq_some_iff.1 hn
      rw [List.drop_eq_getElem_cons hlt, he]
    rw [hd]
  · rename_i n l xs hd hH
    cases hl : decide (l = k)
    · rw [hl] at h; cases h
    rw [hl, cond_true] at h
    have := of_decide_eq_true hl
    subst this
    obtain ⟨h1, h2⟩ := req_runZ h
    cases h2
    obtain ⟨h1, h3⟩ := Bool.and_eq_true_iff.1 h1
    have h1 := Nat.le_of_ble_eq_true h1
    rw [Nat.blt_eq] at h3
    cases hx with
    | ptr _ _ _ loc hid hkd =>
    obtain ⟨_, hb0, ob, ys, a1, ⟨hn, e', rfl⟩, _⟩ := hR.objs id _ _ loc hH hid
    refine ⟨.int l (xs.getD (off - n) 0), ?_, .int _ _ _⟩
    have hc : w.cell? ⟨loc.block, loc.base + off, none⟩ = some (.int l (xs.getD (off - n) 0)) := by
      rw [cell_of_row w _ _ _ e' (0, 0) a1, hb0, Nat.zero_add, List.getElem?_toArray, List.getElem?_append_right (by omega), hn, List.getElem?_map, List.getElem?_eq_getElem h3]
      rw [List.getD_eq_getElem?_getD, List.getElem?_eq_getElem h3]
      rfl
    simp [Instr.loadAt, Instr.sureAddr, loadVar, ti_isAgg w hi, g1, hc]
  · cases h
theorem oStoreZ_spec {P : Program} {H H' : List O} {ty : TypeId} {a v : V} (h : (oStoreZ P H ty a v).run = some H') :
    oStore P H ty a v = some H' ∨ ∃ id off n k xs hd x i, a = .ptr id off ∧ v = .int k x ∧ H[id]? = some (.obj (.page n k xs) hd) ∧ n ≤ off ∧ off - n < xs.length ∧ H' = H.set id (.obj (.page n k (xs.set (off - n) x)) hd) ∧ ti P ty = some i ∧ i.size = 1 := by
  unfold oStoreZ at h
  split at h
  rotate_left
  · cases h
  rename_i k id off l x hk
  obtain ⟨i, hi, g1, g2⟩ := intOf_spec hk
  split at h
  · rename_i cs e hH
    left
    cases hl : decide (l = k)
    · rw [hl] at h; cases h
    rw [hl, cond_true] at h
    have := of_decide_eq_true hl
    subst this
    obtain ⟨h1, h2⟩ := req_runZ h
    obtain ⟨n, hn⟩ := isIntAt_spec h1
    cases h2
    have hlt := (List.getElem?_eq_some_iff.1 hn).1
    unfold oStore
    simp only [hi, V.cells?, hH, g2]
    have : (Nat.beq [V.int l x].length 1 && Nat.ble (off + [V.int l x].length) cs.length) = true := by
      simp only [List.length_cons, List.length_nil]
      rw [Bool.and_eq_true_iff]
      exact ⟨rfl, Nat.ble_eq_true_of_le (by omega)⟩
    rw [this, cond_true, setI_eq (j := 0) (m := off) (by omega) hn]
  · rename_i n k' xs hd hH
    right
    cases hl : (decide (l = k) && decide (k' = k))
    · rw [hl] at h; cases h
    rw [hl, cond_true] at h
    obtain ⟨e1, e2⟩ := Bool.and_eq_true_iff.1 hl
    have e1 := of_decide_eq_true e1
    have e2 := of_decide_eq_true e2
    subst e1
    subst e2
    obtain ⟨h1, h2⟩ := req_runZ h
    cases h2
    obtain ⟨h1, h3⟩ := Bool.and_eq_true_iff.1 h1
    have h1 := Nat.le_of_ble_eq_true h1
    rw [Nat.blt_eq] at h3
    exact ⟨id, off, n, k', xs, hd, x, i, rfl, rfl, hH, h1, h3, rfl, hi, g2⟩
  · cases h

end
end Go.Ab

namespace Go.Ab
section
variable {E : Nat → Nat → Prop} {H : List O} {β : List Loc} {w : World}

theorem heap_lt {w : World} {b : Nat} {o : Obj} (h : w.heap[b]? = some o) : b < w.heap.size := by
  rcases Nat.lt_or_ge b w.heap.size with h' | h'
  · exact h'
  · simp [Array.getElem?_eq_none h'] at h

theorem cell_heap {w w' : World} {b : Nat} (h : w'.heap[b]? = w.heap[b]?) (o : Nat) : w'.cell? ⟨b, o, none⟩ = w.cell? ⟨b, o, none⟩ := by
  unfold World.cell?; rw [h]

/-- Nothing but draws. -/
theorem Step.heap_same {w' : World} (hR : Rel w (Xs E H β) H β) (hh : w'.heap = w.heap) (h1 : w'.os = w.os) (h2 : w'.tape = w.tape) (h3 : w'.output = w.output) : Step E H β w H β w' := by
  have st : Stab w (Xs E H β) w' (Xs E H β) := ⟨fun b o v hx hv => ⟨hx, (cell_heap (w := w) (w' := w') (by rw [hh]) o).trans hv⟩, fun b cs e h => ⟨cs, e, by rw [hh]; exact h⟩⟩
  refine ⟨⟨hR.len, fun id cs e loc g1 g2 => ?_, fun id n sz loc g1 g2 => ?_, fun id sh vs loc g1 g2 => ?_, hR.disj⟩, h1, h2, h3, by rw [hh]; exact Nat.le_refl _, fun b _ => .inl (by rw [hh]), fun b o h => .inl h, .refl _⟩
  · obtain ⟨k, c, e', a1, a2, a3, a4⟩ := hR.cells id cs e loc g1 g2
    exact ⟨k, c, e', by rw [hh]; exact a1, a2, a3, fun k v hv => let ⟨x, hx, hr⟩ := a4 k v hv; ⟨x, hx, hr.stab st _ (.refl _)⟩⟩
  · obtain ⟨k, m, c, e', a1, a2⟩ := hR.tok id n sz loc g1 g2
    exact ⟨k, m, c, e', by rw [hh]; exact a1, a2⟩
  · obtain ⟨k, kb, ob, xs, a1, a2, a3⟩ := hR.objs id sh vs loc g1 g2
    exact ⟨k, kb, ob, xs, by rw [hh]; exact a1, a2, fun k v hv => let ⟨x, hx, hr⟩ := a3 k v hv; ⟨x, hx, hr.stab st _ (.refl _)⟩⟩

theorem own_lt (hR : Rel w (Xs E H β) H β) {b o : Nat} (h : Own H β b o) : b < w.heap.size := by
  obtain ⟨id, loc, h1, rfl, h2⟩ := h
  rcases h2 with ⟨cs, e, h2⟩ | ⟨n, sz, h2, _⟩ | ⟨sh, vs, h2⟩
  · obtain ⟨_, c, e', h3, _⟩ := hR.cells id cs e loc h2 h1
    exact heap_lt h3
  · obtain ⟨_, _, c, e', h3, _⟩ := hR.tok id n sz loc h2 h1
    exact heap_lt h3
  · obtain ⟨_, _, ob, xs, h3, _⟩ := hR.objs id sh vs loc h2 h1
    exact heap_lt h3

theorem live_lt (hR : Rel w (Xs E H β) H β) {id : Nat} {loc : Loc} (hl : live H id) (h1 : β[id]? = some loc) : loc.block < w.heap.size := by
  obtain ⟨o, h2, h3⟩ := hl
  cases o with
  | cells cs e => obtain ⟨_, c, e', h3, _⟩ := hR.cells id cs e loc h2 h1; exact heap_lt h3
  | tok n sz => obtain ⟨_, _, c, e', h3, _⟩ := hR.tok id n sz loc h2 h1; exact heap_lt h3
  | obj sh vs => obtain ⟨_, _, ob, xs, h3, _⟩ := hR.objs id sh vs loc h2 h1; exact heap_lt h3
  | dead => exact absurd rfl h3

theorem live_cells {id : Nat} {cs e} (h : H[id]? = some (.cells cs e)) : live H id := ⟨_, h, by simp⟩
theorem live_obj {id : Nat} {sh vs} (h : H[id]? = some (.obj sh vs)) : live H id := ⟨_, h, by simp⟩
theorem live_tok {id n sz : Nat} (h : H[id]? = some (.tok n sz)) : live H id := ⟨_, h, by simp⟩

/-- A new block that no object is. -/
theorem Step.alloc (hR : Rel w (Xs E H β) H β) (ob : Obj) : Step E H β w H β (w.alloc ob) := by
  have hold : ∀ b, b < w.heap.size → (w.alloc ob).heap[b]? = w.heap[b]? := fun b hb => heap_alloc_old w ob b hb
  have st : Stab w (Xs E H β) (w.alloc ob) (Xs E H β) :=
    ⟨fun b o v hx hv => ⟨hx, by rw [cell_heap (hold b (cell_lt hv))]; exact hv⟩, fun b cs e h => ⟨cs, e, by rw [hold b (heap_lt h)]; exact h⟩⟩
  refine ⟨⟨hR.len, fun id cs e loc g1 g2 => ?_, fun id n sz loc g1 g2 => ?_, fun id sh vs loc g1 g2 => ?_, hR.disj⟩, rfl, rfl, rfl, by simp, fun b hb => .inl (hold b hb), fun b o h => .inl h, .refl _⟩
  · obtain ⟨k, c, e', a1, a2, a3, a4⟩ := hR.cells id cs e loc g1 g2
    exact ⟨k, c, e', by rw [hold _ (heap_lt a1)]; exact a1, a2, a3, fun k v hv => let ⟨x, hx, hr⟩ := a4 k v hv; ⟨x, hx, hr.stab st _ (.refl _)⟩⟩
  · obtain ⟨k, m, c, e', a1, a2⟩ := hR.tok id n sz loc g1 g2
    exact ⟨k, m, c, e', by rw [hold _ (heap_lt a1)]; exact a1, a2⟩
  · obtain ⟨k, kb, ob, xs, a1, a2, a3⟩ := hR.objs id sh vs loc g1 g2
    exact ⟨k, kb, ob, xs, by rw [hold _ (heap_lt a1)]; exact a1, a2, fun k v hv => let ⟨x, hx, hr⟩ := a3 k v hv; ⟨x, hx, hr.stab st _ (.refl _)⟩⟩

theorem getElem?_concat {α : Type} (l : List α) (x : α) (i : Nat) : (l ++ [x])[i]? = if i < l.length then l[i]? else if i = l.length then some x else none := by
  rw [List.getElem?_append]
  split
  · rfl
  · split
    · subst i; simp
    · rw [List.getElem?_eq_none]; simp; omega

/-- A new object in a new block. -/
theorem Step.push (hR : Rel w (Xs E H β) H β) (c : Array Value) (e' : TypeId) (ob : O) (loc : Loc)
    (hloc : loc.block = w.heap.size) (hsize : c.size = loc.size)
    (hcells : ∀ cs e, ob = .cells cs e → loc.kind = false ∧ (loc.base + cs.length ≤ loc.size ∧ (4294967296 ≤ e → loc.size = loc.base + cs.length)) ∧ ∀ (k : Nat) v, cs[k]? = some v → ∃ x, c[loc.base + k]? = some x ∧ R w (Xs E H β) β v x)
    (htok : ∀ n sz, ob = .tok n sz → loc.kind = true ∧ loc.n = n) (hobj : ∀ sh vs, ob ≠ .obj sh vs := by intro _ _ h; cases h) :
    Step E H β w (H ++ [ob]) (β ++ [loc]) (w.alloc (.cells c e')) := by
  have hold : ∀ b, b < w.heap.size → (w.alloc (.cells c e')).heap[b]? = w.heap[b]? := fun b hb => heap_alloc_old w _ b hb
  have hnew : (w.alloc (.cells c e')).heap[w.heap.size]? = some (.cells c e' (0, 0)) := heap_alloc_new w _
  have hH : ∀ id, (H ++ [ob])[id]? = if id < H.length then H[id]? else if id = H.length then some ob else none := getElem?_concat H ob
  have hB : ∀ id, (β ++ [loc])[id]? = if id < H.length then β[id]? else if id = H.length then some loc else none := fun id => by rw [hR.len]; exact getElem?_concat β loc id
  have hown : ∀ b o, Own (H ++ [ob]) (β ++ [loc]) b o → Own H β b o ∨ w.heap.size ≤ b := by
    rintro b o ⟨id, l, h1, rfl, h2⟩
    rw [hB] at h1
    rw [hH] at h2
    by_cases hlt : id < H.length
    · simp only [hlt, if_true] at h1 h2
      exact .inl ⟨id, l, h1, rfl, h2⟩
    · simp only [hlt, if_false] at h1
      split at h1
      · simp only [Option.some.injEq] at h1
        subst h1
        exact .inr (by omega)
      · cases h1
  have hle : LocLe β (β ++ [loc]) := fun id l h => ⟨l, by
    have : id < β.length := (List.getElem?_eq_some_iff.1 h).1
    rw [List.getElem?_append_left this]; exact h, .inl rfl⟩
  have st : Stab w (Xs E H β) (w.alloc (.cells c e')) (Xs E (H ++ [ob]) (β ++ [loc])) := by
    refine ⟨fun b o v hx hv => ⟨fun h => ?_, by rw [cell_heap (hold b (cell_lt hv))]; exact hv⟩, fun b cs e h => ⟨cs, e, by rw [hold b (heap_lt h)]; exact h⟩⟩
    have := cell_lt hv
    rcases h with h | h
    · exact hx (.inl h)
    · rcases hown b o h with h | h
      · exact hx (.inr h)
      · omega
  refine ⟨⟨by simp [hR.len], fun id cs e l g1 g2 => ?_, fun id n sz l g1 g2 => ?_, fun id sh vs l g1 g2 => ?_, fun i j l l' hi hj g1 g2 hb => ?_⟩, rfl, rfl, rfl, by simp, fun b hb => .inl (hold b hb), hown, hle⟩
  · rw [hH] at g1
    rw [hB] at g2
    by_cases hlt : id < H.length
    · simp only [hlt, if_true] at g1 g2
      obtain ⟨k, c, e', a1, a2, a3, a4⟩ := hR.cells id cs e l g1 g2
      exact ⟨k, c, e', by rw [hold _ (heap_lt a1)]; exact a1, a2, a3, fun k v hv => let ⟨x, hx, hr⟩ := a4 k v hv; ⟨x, hx, hr.stab st _ hle⟩⟩
    · simp only [hlt, if_false] at g1 g2
      split at g1
      · simp only [Option.some.injEq, *] at g1 g2
        simp only [if_true, Option.some.injEq] at g2
        subst g2
        obtain ⟨h1, h2, h3⟩ := hcells cs e (by simpa using g1)
        exact ⟨h1, c, e', by rw [hloc]; exact hnew, hsize, h2, fun k v hv => let ⟨x, hx, hr⟩ := h3 k v hv; ⟨x, hx, hr.stab st _ hle⟩⟩
      · cases g1
  · rw [hH] at g1
    rw [hB] at g2
    by_cases hlt : id < H.length
    · simp only [hlt, if_true] at g1 g2
      obtain ⟨k, m, c, e', a1, a2⟩ := hR.tok id n sz l g1 g2
      exact ⟨k, m, c, e', by rw [hold _ (heap_lt a1)]; exact a1, a2⟩
    · simp only [hlt, if_false] at g1 g2
      split at g1
      · simp only [Option.some.injEq, *] at g1 g2
        simp only [if_true, Option.some.injEq] at g2
        subst g2
        obtain ⟨h1, h2⟩ := htok n sz (by simpa using g1)
        exact ⟨h1, h2, c, e', by rw [hloc]; exact hnew, hsize⟩
      · cases g1
  · rw [hH] at g1
    rw [hB] at g2
    by_cases hlt : id < H.length
    · simp only [hlt, if_true] at g1 g2
      obtain ⟨k, kb, ob, xs, a1, a2, a3⟩ := hR.objs id sh vs l g1 g2
      exact ⟨k, kb, ob, xs, by rw [hold _ (heap_lt a1)]; exact a1, a2, fun k v hv => let ⟨x, hx, hr⟩ := a3 k v hv; ⟨x, hx, hr.stab st _ hle⟩⟩
    · simp only [hlt, if_false] at g1
      split at g1
      · exact absurd (Option.some.inj g1) (hobj sh vs)
      · cases g1
  · have hl : ∀ i l, live (H ++ [ob]) i → (β ++ [loc])[i]? = some l → (i < H.length ∧ live H i ∧ β[i]? = some l ∧ l.block < w.heap.size) ∨ (i = H.length ∧ l.block = w.heap.size) := by
      rintro i l ⟨o, h1, h2⟩ h3
      rw [hH] at h1
      rw [hB] at h3
      by_cases hlt : i < H.length
      · simp only [hlt, if_true] at h1 h3
        exact .inl ⟨hlt, ⟨o, h1, h2⟩, h3, live_lt hR ⟨o, h1, h2⟩ h3⟩
      · simp only [hlt, if_false] at h1 h3
        split at h3
        · simp only [Option.some.injEq] at h3
          subst h3
          exact .inr ⟨by assumption, hloc⟩
        · cases h3
    rcases hl i l hi g1 with ⟨_, a1, a2, a3⟩ | ⟨a1, a2⟩ <;> rcases hl j l' hj g2 with ⟨_, b1, b2, b3⟩ | ⟨b1, b2⟩
    · exact hR.disj i j l l' a1 b1 a2 b2 hb
    · omega
    · omega
    · omega

theorem get_set {α : Type} (l : List α) (i : Nat) (x : α) (j : Nat) : (l.set i x)[j]? = if i = j then (if i < l.length then some x else none) else l[j]? := by
  rw [List.getElem?_set]

/-- A store into an object's cells. -/
theorem Step.setCells (hR : Rel w (Xs E H β) H β) {id : Nat} {cs cs' : List V} {e e0 : TypeId} {loc : Loc} {c c' : Array Value}
    (hid : H[id]? = some (.cells cs e)) (hloc : β[id]? = some loc) (hb : w.heap[loc.block]? = some (.cells c e0 (0, 0))) (hsz : c'.size = c.size)
    (hl : cs'.length = cs.length) (hv : ∀ (k : Nat) v, cs'[k]? = some v → ∃ x, c'[loc.base + k]? = some x ∧ R w (Xs E H β) β v x) :
    Step E H β w (H.set id (.cells cs' e)) β (w.setRow loc.block c') := by
  have hne : ∀ b, b ≠ loc.block → (w.setRow loc.block c').heap[b]? = w.heap[b]? := fun b h => setRow_other w _ _ _ h
  have hsame : (w.setRow loc.block c').heap[loc.block]? = some (.cells c' e0 (0, 0)) := setRow_heap w _ c c' e0 (0, 0) hb
  have hilt : id < H.length := (List.getElem?_eq_some_iff.1 hid).1
  have hH : ∀ j, (H.set id (.cells cs' e))[j]? = if id = j then some (.cells cs' e) else H[j]? := fun j => by rw [get_set]; simp [hilt]
  have hown : ∀ b o, Own (H.set id (.cells cs' e)) β b o ↔ Own H β b o := by
    intro b o
    constructor
    · rintro ⟨j, l, h1, rfl, h2⟩
      rw [hH] at h2
      by_cases hj : id = j
      · subst hj; exact ⟨id, l, h1, rfl, .inl ⟨cs, e, hid⟩⟩
      · simp only [hj, if_false] at h2; exact ⟨j, l, h1, rfl, h2⟩
    · rintro ⟨j, l, h1, rfl, h2⟩
      refine ⟨j, l, h1, rfl, ?_⟩
      rw [hH]
      by_cases hj : id = j
      · subst hj; exact .inl ⟨cs', e, by simp⟩
      · simpa only [hj, if_false] using h2
  have hself : ∀ o, Own H β loc.block o := fun o => ⟨id, loc, hloc, rfl, .inl ⟨cs, e, hid⟩⟩
  have hblk : ∀ (b : Nat) (cs : Array Value) (e : TypeId), w.heap[b]? = some (Obj.cells cs e (0, 0)) → ∃ (cs' : Array Value) (e' : TypeId), (w.setRow loc.block c').heap[b]? = some (Obj.cells cs' e' (0, 0)) := by
    intro b cs e h
    by_cases hbb : b = loc.block
    · subst hbb; exact ⟨c', e0, hsame⟩
    · exact ⟨cs, e, by rw [hne b hbb]; exact h⟩
  have st : Stab w (Xs E H β) (w.setRow loc.block c') (Xs E (H.set id (.cells cs' e)) β) := by
    refine ⟨fun b o v hx hv => ?_, hblk⟩
    have hbb : b ≠ loc.block := fun h => hx (.inr (h ▸ hself o))
    refine ⟨fun h => hx ?_, by rw [cell_heap (hne b hbb)]; exact hv⟩
    rcases h with h | h
    · exact .inl h
    · exact .inr ((hown b o).1 h)
  have hlive : ∀ j, live (H.set id (.cells cs' e)) j → live H j := by
    rintro j ⟨o, h1, h2⟩
    rw [hH] at h1
    by_cases hj : id = j
    · subst hj; exact live_cells hid
    · simp only [hj, if_false] at h1; exact ⟨o, h1, h2⟩
  refine ⟨⟨by simp [hR.len], fun j cs1 e1 l g1 g2 => ?_, fun j n sz l g1 g2 => ?_, fun j sh vs l g1 g2 => ?_, fun i j l l' hi hj g1 g2 hb => hR.disj i j l l' (hlive i hi) (hlive j hj) g1 g2 hb⟩,
    rfl, rfl, rfl, by simp, fun b hb' => ?_, fun b o h => .inl ((hown b o).1 h), .refl _⟩
  · rw [hH] at g1
    by_cases hj : id = j
    · subst hj
      simp only [if_true, Option.some.injEq, O.cells.injEq] at g1
      obtain ⟨rfl, rfl⟩ := g1
      rw [hloc] at g2
      simp only [Option.some.injEq] at g2
      subst g2
      obtain ⟨h1, c2, e2, h2, h3, h4, _⟩ := hR.cells id cs e loc hid hloc
      rw [hb] at h2
      simp only [Option.some.injEq, Obj.cells.injEq, and_true] at h2
      obtain ⟨rfl, rfl⟩ := h2
      exact ⟨h1, c', e0, hsame, by omega, ⟨by have := h4.1; omega, fun he => by have := h4.2 he; omega⟩, fun k v hk => let ⟨x, hx, hr⟩ := hv k v hk; ⟨x, hx, hr.stab st _ (.refl _)⟩⟩
    · simp only [hj, if_false] at g1
      obtain ⟨k, c2, e2, a1, a2, a3, a4⟩ := hR.cells j cs1 e1 l g1 g2
      have : l.block ≠ loc.block := fun h => hj (hR.disj id j loc l (live_cells hid) (live_cells g1) hloc g2 h.symm)
      exact ⟨k, c2, e2, by rw [hne _ this]; exact a1, a2, a3, fun k v hv => let ⟨x, hx, hr⟩ := a4 k v hv; ⟨x, hx, hr.stab st _ (.refl _)⟩⟩
  · rw [hH] at g1
    by_cases hj : id = j
    · subst hj; simp at g1
    · simp only [hj, if_false] at g1
      obtain ⟨k, m, c2, e2, a1, a2⟩ := hR.tok j n sz l g1 g2
      have : l.block ≠ loc.block := fun h => hj (hR.disj id j loc l (live_cells hid) (live_tok g1) hloc g2 h.symm)
      exact ⟨k, m, c2, e2, by rw [hne _ this]; exact a1, a2⟩
  · rw [hH] at g1
    by_cases hj : id = j
    · subst hj; simp at g1
    · simp only [hj, if_false] at g1
      obtain ⟨k, kb, ob, xs, a1, a2, a3⟩ := hR.objs j sh vs l g1 g2
      have : l.block ≠ loc.block := fun h => hj (hR.disj id j loc l (live_cells hid) (live_obj g1) hloc g2 h.symm)
      exact ⟨k, kb, ob, xs, by rw [hne _ this]; exact a1, a2, fun k v hv => let ⟨x, hx, hr⟩ := a3 k v hv; ⟨x, hx, hr.stab st _ (.refl _)⟩⟩
  · by_cases hbb : b = loc.block
    · subst hbb
      exact .inr (.inl ⟨⟨0, hself 0⟩, c, c', e0, hb, hsame, hsz, fun o ho => absurd (hself o) ho⟩)
    · exact .inl (hne b hbb)

/-- A slice that grows, in its own room. -/
theorem Step.setTok (hR : Rel w (Xs E H β) H β) {id n n' sz : Nat} {e0 : TypeId} {loc : Loc} {c c' : Array Value}
    (hid : H[id]? = some (.tok n sz)) (hloc : β[id]? = some loc) (hb : w.heap[loc.block]? = some (.cells c e0 (0, 0))) (hsz : c'.size = c.size)
    (hn : n < n') (hc : ∀ o, o < loc.base + n * sz → c'[o]? = c[o]?) :
    Step E H β w (H.set id (.tok n' sz)) (β.set id { loc with n := n' }) (w.setRow loc.block c') := by
  have hne : ∀ b, b ≠ loc.block → (w.setRow loc.block c').heap[b]? = w.heap[b]? := fun b h => setRow_other w _ _ _ h
  have hsame : (w.setRow loc.block c').heap[loc.block]? = some (.cells c' e0 (0, 0)) := setRow_heap w _ c c' e0 (0, 0) hb
  have hilt : id < H.length := (List.getElem?_eq_some_iff.1 hid).1
  have hilt' : id < β.length := by rw [← hR.len]; exact hilt
  have hH : ∀ j, (H.set id (.tok n' sz))[j]? = if id = j then some (.tok n' sz) else H[j]? := fun j => by rw [get_set]; simp [hilt]
  have hB : ∀ j, (β.set id { loc with n := n' })[j]? = if id = j then some { loc with n := n' } else β[j]? := fun j => by rw [get_set]; simp [hilt']
  obtain ⟨hkind, hlocn, c0, e1, hb0, hsize⟩ := hR.tok id n sz loc hid hloc
  rw [hb] at hb0
  simp only [Option.some.injEq, Obj.cells.injEq, and_true] at hb0
  obtain ⟨rfl, rfl⟩ := hb0
  have hown : ∀ b o, Own (H.set id (.tok n' sz)) (β.set id { loc with n := n' }) b o → Own H β b o := by
    rintro b o ⟨j, l, h1, rfl, h2⟩
    rw [hH] at h2
    rw [hB] at h1
    by_cases hj : id = j
    · subst hj
      simp only [if_true, Option.some.injEq] at h1
      subst h1
      refine ⟨id, loc, hloc, rfl, .inr (.inl ⟨n, sz, hid, ?_⟩)⟩
      rcases h2 with ⟨_, _, h2⟩ | ⟨m, s, h2, h3⟩ | ⟨_, _, h2⟩
      · simp at h2
      rotate_left
      · simp at h2
      · simp only [if_true, Option.some.injEq, O.tok.injEq] at h2
        obtain ⟨rfl, rfl⟩ := h2
        have : n * sz ≤ n' * sz := Nat.mul_le_mul_right sz (Nat.le_of_lt hn)
        simp only at h3
        omega
    · simp only [hj, if_false] at h1 h2; exact ⟨j, l, h1, rfl, h2⟩
  have hself : ∀ o, ¬ Own H β loc.block o → o < loc.base + n * sz := fun o h => by
    rcases Nat.lt_or_ge o (loc.base + n * sz) with h' | h'
    · exact h'
    · exact absurd ⟨id, loc, hloc, rfl, .inr (.inl ⟨n, sz, hid, h'⟩)⟩ h
  have hle : LocLe β (β.set id { loc with n := n' }) := fun j l h => by
    rw [hB]
    by_cases hj : id = j
    · subst hj
      rw [hloc] at h
      simp only [Option.some.injEq] at h
      subst h
      exact ⟨{ loc with n := n' }, by simp, .inr ⟨hkind, hkind, by rw [hlocn]; exact hn⟩⟩
    · exact ⟨l, by simp [hj, h], .inl rfl⟩
  have hblk : ∀ (b : Nat) (cs : Array Value) (e : TypeId), w.heap[b]? = some (Obj.cells cs e (0, 0)) → ∃ (cs' : Array Value) (e' : TypeId), (w.setRow loc.block c').heap[b]? = some (Obj.cells cs' e' (0, 0)) := by
    intro b cs e h
    by_cases hbb : b = loc.block
    · subst hbb; exact ⟨c', e0, hsame⟩
    · exact ⟨cs, e, by rw [hne b hbb]; exact h⟩
  have st : Stab w (Xs E H β) (w.setRow loc.block c') (Xs E (H.set id (.tok n' sz)) (β.set id { loc with n := n' })) := by
    refine ⟨fun b o v hx hv => ⟨fun h => hx ?_, ?_⟩, hblk⟩
    · rcases h with h | h
      · exact .inl h
      · exact .inr (hown b o h)
    · by_cases hbb : b = loc.block
      · subst hbb
        rw [cell_of_row w _ _ c e0 (0, 0) hb] at hv
        rw [cell_of_row _ _ _ c' e0 (0, 0) hsame, hc o (hself o (fun h => hx (.inr h))), hv]
      · rw [cell_heap (hne b hbb)]; exact hv
  have hlive : ∀ j, live (H.set id (.tok n' sz)) j → live H j := by
    rintro j ⟨o, h1, h2⟩
    rw [hH] at h1
    by_cases hj : id = j
    · subst hj; exact live_tok hid
    · simp only [hj, if_false] at h1; exact ⟨o, h1, h2⟩
  have hblock : ∀ (j : Nat) l, (β.set id { loc with n := n' })[j]? = some l → ∃ l', β[j]? = some l' ∧ l'.block = l.block := by
    intro j l h
    rw [hB] at h
    by_cases hj : id = j
    · subst hj
      simp only [if_true, Option.some.injEq] at h
      subst h
      exact ⟨loc, hloc, rfl⟩
    · simp only [hj, if_false] at h; exact ⟨l, h, rfl⟩
  refine ⟨⟨by simp [hR.len], fun j cs1 e1 l g1 g2 => ?_, fun j m s l g1 g2 => ?_, fun j sh vs l g1 g2 => ?_, fun i j l l' hi hj g1 g2 hbk => ?_⟩,
    rfl, rfl, rfl, by simp, fun b hb' => ?_, fun b o h => .inl (hown b o h), hle⟩
  · rw [hH] at g1
    rw [hB] at g2
    by_cases hj : id = j
    · subst hj; simp at g1
    · simp only [hj, if_false] at g1 g2
      obtain ⟨k, c2, e2, a1, a2, a3, a4⟩ := hR.cells j cs1 e1 l g1 g2
      have : l.block ≠ loc.block := fun h => hj (hR.disj id j loc l (live_tok hid) (live_cells g1) hloc g2 h.symm)
      exact ⟨k, c2, e2, by rw [hne _ this]; exact a1, a2, a3, fun k v hv => let ⟨x, hx, hr⟩ := a4 k v hv; ⟨x, hx, hr.stab st _ hle⟩⟩
  · rw [hH] at g1
    rw [hB] at g2
    by_cases hj : id = j
    · subst hj
      simp only [if_true, Option.some.injEq, O.tok.injEq] at g1 g2
      obtain ⟨rfl, rfl⟩ := g1
      subst g2
      exact ⟨hkind, rfl, c', e0, hsame, by simp only; omega⟩
    · simp only [hj, if_false] at g1 g2
      obtain ⟨k, m, c2, e2, a1, a2⟩ := hR.tok j m s l g1 g2
      have : l.block ≠ loc.block := fun h => hj (hR.disj id j loc l (live_tok hid) (live_tok g1) hloc g2 h.symm)
      exact ⟨k, m, c2, e2, by rw [hne _ this]; exact a1, a2⟩
  · rw [hH] at g1
    rw [hB] at g2
    by_cases hj : id = j
    · subst hj; simp at g1
    · simp only [hj, if_false] at g1 g2
      obtain ⟨k, kb, ob, xs, a1, a2, a3⟩ := hR.objs j sh vs l g1 g2
      have : l.block ≠ loc.block := fun h => hj (hR.disj id j loc l (live_tok hid) (live_obj g1) hloc g2 h.symm)
      exact ⟨k, kb, ob, xs, by rw [hne _ this]; exact a1, a2, fun k v hv => let ⟨x, hx, hr⟩ := a3 k v hv; ⟨x, hx, hr.stab st _ hle⟩⟩
  · obtain ⟨m, h1, h2⟩ := hblock i l g1
    obtain ⟨m', h1', h2'⟩ := hblock j l' g2
    exact hR.disj i j m m' (hlive i hi) (hlive j hj) h1 h1' (by omega)
  · by_cases hbb : b = loc.block
    · subst hbb
      by_cases hex : ∃ o, Own H β loc.block o
      · exact .inr (.inl ⟨hex, c, c', e0, hb, hsame, hsz, fun o ho => hc o (hself o ho)⟩)
      · exact absurd ⟨loc.base + n * sz, id, loc, hloc, rfl, .inr (.inl ⟨n, sz, hid, Nat.le_refl _⟩)⟩ hex
    · exact .inl (hne b hbb)

/-- A slice that grows into a new block. -/
theorem Step.moveTok (hR : Rel w (Xs E H β) H β) {id n n' sz : Nat} {e' : TypeId} {loc : Loc} {c : Array Value}
    (hid : H[id]? = some (.tok n sz)) (hloc : β[id]? = some loc) (hn : n < n') :
    Step E H β w (H.set id (.tok n' sz)) (β.set id { kind := true, block := w.heap.size, base := 0, n := n', size := c.size }) (w.alloc (.cells c e')) := by
  have hold : ∀ b, b < w.heap.size → (w.alloc (.cells c e')).heap[b]? = w.heap[b]? := fun b hb => heap_alloc_old w _ b hb
  have hnew : (w.alloc (.cells c e')).heap[w.heap.size]? = some (.cells c e' (0, 0)) := heap_alloc_new w _
  have hilt : id < H.length := (List.getElem?_eq_some_iff.1 hid).1
  have hilt' : id < β.length := by rw [← hR.len]; exact hilt
  generalize hL : ({ kind := true, block := w.heap.size, base := 0, n := n', size := c.size } : Loc) = L
  have hH : ∀ j, (H.set id (.tok n' sz))[j]? = if id = j then some (.tok n' sz) else H[j]? := fun j => by rw [get_set]; simp [hilt]
  have hB : ∀ j, (β.set id L)[j]? = if id = j then some L else β[j]? := fun j => by rw [get_set]; simp [hilt']
  obtain ⟨hkind, hlocn, _⟩ := hR.tok id n sz loc hid hloc
  have hown : ∀ b o, Own (H.set id (.tok n' sz)) (β.set id L) b o → Own H β b o ∨ w.heap.size ≤ b := by
    rintro b o ⟨j, l, h1, rfl, h2⟩
    rw [hH] at h2
    rw [hB] at h1
    by_cases hj : id = j
    · subst hj
      simp only [if_true, Option.some.injEq] at h1
      subst h1
      exact .inr (by simp [← hL])
    · simp only [hj, if_false] at h1 h2; exact .inl ⟨j, l, h1, rfl, h2⟩
  have hle : LocLe β (β.set id L) := fun j l h => by
    rw [hB]
    by_cases hj : id = j
    · subst hj
      rw [hloc] at h
      simp only [Option.some.injEq] at h
      subst h
      exact ⟨L, by simp, .inr ⟨hkind, by simp [← hL], by rw [hlocn, ← hL]; exact hn⟩⟩
    · exact ⟨l, by simp [hj, h], .inl rfl⟩
  have st : Stab w (Xs E H β) (w.alloc (.cells c e')) (Xs E (H.set id (.tok n' sz)) (β.set id L)) := by
    refine ⟨fun b o v hx hv => ⟨fun h => ?_, by rw [cell_heap (hold b (cell_lt hv))]; exact hv⟩, fun b cs e h => ⟨cs, e, by rw [hold b (heap_lt h)]; exact h⟩⟩
    have := cell_lt hv
    rcases h with h | h
    · exact hx (.inl h)
    · rcases hown b o h with h | h
      · exact hx (.inr h)
      · omega
  refine ⟨⟨by simp [hR.len], fun j cs1 e1 l g1 g2 => ?_, fun j m s l g1 g2 => ?_, fun j sh vs l g1 g2 => ?_, fun i j l l' hi hj g1 g2 hbk => ?_⟩,
    rfl, rfl, rfl, by simp, fun b hb' => .inl (hold b hb'), hown, hle⟩
  · rw [hH] at g1
    rw [hB] at g2
    by_cases hj : id = j
    · subst hj; simp at g1
    · simp only [hj, if_false] at g1 g2
      obtain ⟨k, c2, e2, a1, a2, a3, a4⟩ := hR.cells j cs1 e1 l g1 g2
      exact ⟨k, c2, e2, by rw [hold _ (heap_lt a1)]; exact a1, a2, a3, fun k v hv => let ⟨x, hx, hr⟩ := a4 k v hv; ⟨x, hx, hr.stab st _ hle⟩⟩
  · rw [hH] at g1
    rw [hB] at g2
    by_cases hj : id = j
    · subst hj
      simp only [if_true, Option.some.injEq, O.tok.injEq] at g1 g2
      obtain ⟨rfl, rfl⟩ := g1
      subst g2
      exact ⟨by simp [← hL], by simp [← hL], c, e', by simpa [← hL] using hnew, by simp [← hL]⟩
    · simp only [hj, if_false] at g1 g2
      obtain ⟨k, m, c2, e2, a1, a2⟩ := hR.tok j m s l g1 g2
      exact ⟨k, m, c2, e2, by rw [hold _ (heap_lt a1)]; exact a1, a2⟩
  · rw [hH] at g1
    rw [hB] at g2
    by_cases hj : id = j
    · subst hj; simp at g1
    · simp only [hj, if_false] at g1 g2
      obtain ⟨k, kb, ob, xs, a1, a2, a3⟩ := hR.objs j sh vs l g1 g2
      exact ⟨k, kb, ob, xs, by rw [hold _ (heap_lt a1)]; exact a1, a2, fun k v hv => let ⟨x, hx, hr⟩ := a3 k v hv; ⟨x, hx, hr.stab st _ hle⟩⟩
  · have hl : ∀ i l, live (H.set id (.tok n' sz)) i → (β.set id L)[i]? = some l → (live H i ∧ β[i]? = some l ∧ l.block < w.heap.size) ∨ (i = id ∧ l.block = w.heap.size) := by
      rintro i l ⟨o, h1, h2⟩ h3
      rw [hH] at h1
      rw [hB] at h3
      by_cases hlt : id = i
      · subst hlt
        simp only [if_true, Option.some.injEq] at h3
        subst h3
        exact .inr ⟨rfl, by simp [← hL]⟩
      · simp only [hlt, if_false] at h1 h3
        exact .inl ⟨⟨o, h1, h2⟩, h3, live_lt hR ⟨o, h1, h2⟩ h3⟩
    rcases hl i l hi g1 with ⟨a1, a2, a3⟩ | ⟨a1, a2⟩ <;> rcases hl j l' hj g2 with ⟨b1, b2, b3⟩ | ⟨b1, b2⟩
    · exact hR.disj i j l l' a1 b1 a2 b2 hbk
    · omega
    · omega
    · omega

/-- An object that is no row of cells, or a row of numbers, changed. -/
theorem Step.setObjG (hR : Rel w (Xs E H β) H β) {id : Nat} {sh sh' : Shape} {vs vs' : List V} {loc : Loc} {ob' : Obj} {xs' : List Value}
    (hid : H[id]? = some (.obj sh vs)) (hloc : β[id]? = some loc) (hsh : Shp sh' ob' xs') (hv : ∀ (k : Nat) v, vs'[k]? = some v → ∃ x, xs'[k]? = some x ∧ R w (Xs E H β) β v x)
    (hkind : ∀ ob xs, w.heap[loc.block]? = some ob → Shp sh ob xs → (special ob = true ∧ special ob' = true) ∨ ∃ c c' e, ob = .cells c e (0, 0) ∧ ob' = .cells c' e (0, 0) ∧ c'.size = c.size) :
    Step E H β w (H.set id (.obj sh' vs')) β { w with heap := w.heap.setIfInBounds loc.block ob' } := by
  obtain ⟨hk0, hb0, ob, xs, hob, hsh0, _⟩ := hR.objs id sh vs loc hid hloc
  obtain ⟨hsame, hne⟩ := Go.MapKept.heap_set (o' := ob') hob
  have hilt : id < H.length := (List.getElem?_eq_some_iff.1 hid).1
  have hH : ∀ j, (H.set id (.obj sh' vs'))[j]? = if id = j then some (.obj sh' vs') else H[j]? := fun j => by rw [get_set]; simp [hilt]
  have hown : ∀ b o, Own (H.set id (.obj sh' vs')) β b o ↔ Own H β b o := by
    intro b o
    constructor
    · rintro ⟨j, l, h1, rfl, h2⟩
      rw [hH] at h2
      by_cases hj : id = j
      · subst hj; exact ⟨id, l, h1, rfl, .inr (.inr ⟨sh, vs, hid⟩)⟩
      · simp only [hj, if_false] at h2; exact ⟨j, l, h1, rfl, h2⟩
    · rintro ⟨j, l, h1, rfl, h2⟩
      refine ⟨j, l, h1, rfl, ?_⟩
      rw [hH]
      by_cases hj : id = j
      · subst hj; exact .inr (.inr ⟨sh', vs', by simp⟩)
      · simpa only [hj, if_false] using h2
  have hself : ∀ o, Own H β loc.block o := fun o => ⟨id, loc, hloc, rfl, .inr (.inr ⟨sh, vs, hid⟩)⟩
  have st : Stab w (Xs E H β) { w with heap := w.heap.setIfInBounds loc.block ob' } (Xs E (H.set id (.obj sh' vs')) β) := by
    refine ⟨fun b o v hx hv => ?_, fun b cs e h => ?_⟩
    · have hbb : b ≠ loc.block := fun h => hx (.inr (h ▸ hself o))
      refine ⟨fun h => hx ?_, by rw [cell_heap (hne b hbb)]; exact hv⟩
      rcases h with h | h
      · exact .inl h
      · exact .inr ((hown b o).1 h)
    · by_cases hbb : b = loc.block
      · subst hbb
        rcases hkind ob xs hob hsh0 with ⟨g, _⟩ | ⟨c, c', e2, _, g, _⟩
        · rw [hob] at h
          cases h
          cases g
        · subst g
          exact ⟨c', e2, hsame⟩
      · exact ⟨cs, e, by rw [hne b hbb]; exact h⟩
  have hlive : ∀ j, live (H.set id (.obj sh' vs')) j → live H j := by
    rintro j ⟨o, h1, h2⟩
    rw [hH] at h1
    by_cases hj : id = j
    · subst hj; exact live_obj hid
    · simp only [hj, if_false] at h1; exact ⟨o, h1, h2⟩
  refine ⟨⟨by simp [hR.len], fun j cs1 e1 l g1 g2 => ?_, fun j n sz l g1 g2 => ?_, fun j sh1 vs1 l g1 g2 => ?_, fun i j l l' hi hj g1 g2 hb => hR.disj i j l l' (hlive i hi) (hlive j hj) g1 g2 hb⟩,
    rfl, rfl, rfl, by simp, fun b hb' => ?_, fun b o h => .inl ((hown b o).1 h), .refl _⟩
  · rw [hH] at g1
    by_cases hj : id = j
    · subst hj; simp at g1
    · simp only [hj, if_false] at g1
      obtain ⟨k, c2, e2, a1, a2, a3, a4⟩ := hR.cells j cs1 e1 l g1 g2
      have : l.block ≠ loc.block := fun h => hj (hR.disj id j loc l (live_obj hid) (live_cells g1) hloc g2 h.symm)
      exact ⟨k, c2, e2, by rw [hne _ this]; exact a1, a2, a3, fun k v hv => let ⟨x, hx, hr⟩ := a4 k v hv; ⟨x, hx, hr.stab st _ (.refl _)⟩⟩
  · rw [hH] at g1
    by_cases hj : id = j
    · subst hj; simp at g1
    · simp only [hj, if_false] at g1
      obtain ⟨k, m, c2, e2, a1, a2⟩ := hR.tok j n sz l g1 g2
      have : l.block ≠ loc.block := fun h => hj (hR.disj id j loc l (live_obj hid) (live_tok g1) hloc g2 h.symm)
      exact ⟨k, m, c2, e2, by rw [hne _ this]; exact a1, a2⟩
  · rw [hH] at g1
    by_cases hj : id = j
    · subst hj
      simp only [if_true, Option.some.injEq, O.obj.injEq] at g1
      obtain ⟨rfl, rfl⟩ := g1
      rw [hloc] at g2
      simp only [Option.some.injEq] at g2
      subst g2
      exact ⟨hk0, hb0, ob', xs', hsame, hsh, fun k v hv' => let ⟨x, hx, hr⟩ := hv k v hv'; ⟨x, hx, hr.stab st _ (.refl _)⟩⟩
    · simp only [hj, if_false] at g1
      obtain ⟨k, kb, ob1, xs1, a1, a2, a3⟩ := hR.objs j sh1 vs1 l g1 g2
      have : l.block ≠ loc.block := fun h => hj (hR.disj id j loc l (live_obj hid) (live_obj g1) hloc g2 h.symm)
      exact ⟨k, kb, ob1, xs1, by rw [hne _ this]; exact a1, a2, fun k v hv => let ⟨x, hx, hr⟩ := a3 k v hv; ⟨x, hx, hr.stab st _ (.refl _)⟩⟩
  · by_cases hbb : b = loc.block
    · subst hbb
      rcases hkind ob xs hob hsh0 with ⟨g1, g2⟩ | ⟨c, c', e2, g1, g2, g3⟩
      · exact .inr (.inr ⟨⟨0, hself 0⟩, ob, ob', hob, hsame, g1, g2⟩)
      · subst g1
        subst g2
        exact .inr (.inl ⟨⟨0, hself 0⟩, c, c', e2, hob, hsame, g3, fun o ho => absurd (hself o) ho⟩)
    · exact .inl (hne b hbb)


/-- A row of numbers, one of them set; the cells ahead, some of them set. -/
theorem Step.setPage (hR : Rel w (Xs E H β) H β) {id n : Nat} {k : IntKind} {l l' : List Int} {hd hd' : List V} {loc : Loc} {arr' : Array Value} {e : TypeId} {xs xs' : List Value}
    (hid : H[id]? = some (.obj (.page n k l) hd)) (hloc : β[id]? = some loc) (hob : w.heap[loc.block]? = some (.cells (xs ++ l.map (Value.int k)).toArray e (0, 0)))
    (hn : xs'.length = n) (hxs : xs.length = n) (harr : arr' = (xs' ++ l'.map (Value.int k)).toArray) (hl : l'.length = l.length) (hv : ∀ (k : Nat) v, hd'[k]? = some v → ∃ x, xs'[k]? = some x ∧ R w (Xs E H β) β v x) :
    Step E H β w (H.set id (.obj (.page n k l') hd')) β (w.setRow loc.block arr') := by
  have hw : w.setRow loc.block arr' = { w with heap := w.heap.setIfInBounds loc.block (.cells arr' e (0, 0)) } := by
    unfold World.setRow
    congr 1
    apply Array.ext_getElem?
    intro i
    rw [Array.getElem?_modify, Array.getElem?_setIfInBounds]
    by_cases hi : loc.block = i
    · subst hi
      have hlt : loc.block < w.heap.size := heap_lt hob
      rw [if_pos rfl, if_pos rfl, hob, if_pos hlt]
      rfl
    · rw [if_neg hi, if_neg hi]
  rw [hw]
  refine Step.setObjG hR hid hloc (xs' := xs') ⟨hn, e, by rw [harr]⟩ hv fun ob ys h1 h2 => .inr ?_
  rw [hob] at h1
  cases h1
  refine ⟨_, arr', e, rfl, rfl, ?_⟩
  rw [harr]
  simp [hn, hxs, hl]


/-- A new object that is no row of cells. -/
theorem Step.pushObjD (hR : Rel w (Xs E H β) H β) (ob : Obj) {sh : Shape} {xs : List Value} {vs : List V} {loc : Loc} (hsh : Shp sh ob xs)
    (hv : ∀ (k : Nat) v, vs[k]? = some v → ∃ x, xs[k]? = some x ∧ R w (Xs E H β) β v x) (hloc : loc.block = w.heap.size) (hk : loc.kind = false) (hb : loc.base = 0) :
    Step E H β w (H ++ [.obj sh vs]) (β ++ [loc]) (w.alloc ob) := by
  have hold : ∀ b, b < w.heap.size → (w.alloc ob).heap[b]? = w.heap[b]? := fun b hb => heap_alloc_old w _ b hb
  have hnew : (w.alloc ob).heap[w.heap.size]? = some ob := heap_alloc_new w _
  have hH : ∀ id, (H ++ [O.obj sh vs])[id]? = if id < H.length then H[id]? else if id = H.length then some (.obj sh vs) else none := getElem?_concat H _
  have hB : ∀ id, (β ++ [loc])[id]? = if id < H.length then β[id]? else if id = H.length then some loc else none := fun id => by rw [hR.len]; exact getElem?_concat β loc id
  have hown : ∀ b o, Own (H ++ [.obj sh vs]) (β ++ [loc]) b o → Own H β b o ∨ w.heap.size ≤ b := by
    rintro b o ⟨id, l, h1, rfl, h2⟩
    rw [hB] at h1
    rw [hH] at h2
    by_cases hlt : id < H.length
    · simp only [hlt, if_true] at h1 h2
      exact .inl ⟨id, l, h1, rfl, h2⟩
    · simp only [hlt, if_false] at h1
      split at h1
      · simp only [Option.some.injEq] at h1
        subst h1
        exact .inr (by omega)
      · cases h1
  have hle : LocLe β (β ++ [loc]) := fun id l h => ⟨l, by
    have : id < β.length := (List.getElem?_eq_some_iff.1 h).1
    rw [List.getElem?_append_left this]; exact h, .inl rfl⟩
  have st : Stab w (Xs E H β) (w.alloc ob) (Xs E (H ++ [.obj sh vs]) (β ++ [loc])) := by
    refine ⟨fun b o v hx hv => ⟨fun h => ?_, by rw [cell_heap (hold b (cell_lt hv))]; exact hv⟩, fun b cs e h => ⟨cs, e, by rw [hold b (heap_lt h)]; exact h⟩⟩
    have := cell_lt hv
    rcases h with h | h
    · exact hx (.inl h)
    · rcases hown b o h with h | h
      · exact hx (.inr h)
      · omega
  refine ⟨⟨by simp [hR.len], fun id cs e l g1 g2 => ?_, fun id n sz l g1 g2 => ?_, fun id sh' vs' l g1 g2 => ?_, fun i j l l' hi hj g1 g2 hb => ?_⟩, rfl, rfl, rfl, by simp, fun b hb => .inl (hold b hb), hown, hle⟩
  · rw [hH] at g1
    rw [hB] at g2
    by_cases hlt : id < H.length
    · simp only [hlt, if_true] at g1 g2
      obtain ⟨k, c, e', a1, a2, a3, a4⟩ := hR.cells id cs e l g1 g2
      exact ⟨k, c, e', by rw [hold _ (heap_lt a1)]; exact a1, a2, a3, fun k v hv => let ⟨x, hx, hr⟩ := a4 k v hv; ⟨x, hx, hr.stab st _ hle⟩⟩
    · simp only [hlt, if_false] at g1
      split at g1 <;> cases g1
  · rw [hH] at g1
    rw [hB] at g2
    by_cases hlt : id < H.length
    · simp only [hlt, if_true] at g1 g2
      obtain ⟨k, m, c, e', a1, a2⟩ := hR.tok id n sz l g1 g2
      exact ⟨k, m, c, e', by rw [hold _ (heap_lt a1)]; exact a1, a2⟩
    · simp only [hlt, if_false] at g1
      split at g1 <;> cases g1
  · rw [hH] at g1
    rw [hB] at g2
    by_cases hlt : id < H.length
    · simp only [hlt, if_true] at g1 g2
      obtain ⟨k, kb, ob', xs', a1, a2, a3⟩ := hR.objs id sh' vs' l g1 g2
      exact ⟨k, kb, ob', xs', by rw [hold _ (heap_lt a1)]; exact a1, a2, fun k v hv => let ⟨x, hx, hr⟩ := a3 k v hv; ⟨x, hx, hr.stab st _ hle⟩⟩
    · simp only [hlt, if_false] at g1 g2
      split at g1
      · rename_i hid
        simp only [hid, if_true, Option.some.injEq] at g2
        simp only [Option.some.injEq, O.obj.injEq] at g1
        obtain ⟨rfl, rfl⟩ := g1
        subst g2
        exact ⟨hk, hb, ob, xs, by rw [hloc]; exact hnew, hsh, fun k v hv' => let ⟨x, hx, hr⟩ := hv k v hv'; ⟨x, hx, hr.stab st _ hle⟩⟩
      · cases g1
  · have hl : ∀ i l, live (H ++ [.obj sh vs]) i → (β ++ [loc])[i]? = some l → (i < H.length ∧ live H i ∧ β[i]? = some l ∧ l.block < w.heap.size) ∨ (i = H.length ∧ l.block = w.heap.size) := by
      rintro i l ⟨o, h1, h2⟩ h3
      rw [hH] at h1
      rw [hB] at h3
      by_cases hlt : i < H.length
      · simp only [hlt, if_true] at h1 h3
        exact .inl ⟨hlt, ⟨o, h1, h2⟩, h3, live_lt hR ⟨o, h1, h2⟩ h3⟩
      · simp only [hlt, if_false] at h1 h3
        split at h3
        · simp only [Option.some.injEq] at h3
          subst h3
          exact .inr ⟨by assumption, hloc⟩
        · cases h3
    rcases hl i l hi g1 with ⟨_, a1, a2, a3⟩ | ⟨a1, a2⟩ <;> rcases hl j l' hj g2 with ⟨_, b1, b2, b3⟩ | ⟨b1, b2⟩
    · exact hR.disj i j l l' a1 b1 a2 b2 hb
    · omega
    · omega
    · omega


end
end Go.Ab

namespace Go.Ab
section
variable {P : Program} {E : Nat → Nat → Prop} {H : List O} {β : List Loc} {w : World} {X : Nat → Nat → Prop}

theorem one_spec {v : V} {y : Value} (h : R w X β v y) (h1 : v.one = true) : y.oneCell' = true := by
  cases h <;> first | rfl | (simp [V.one] at h1; done) | skip
  cases y <;> first | rfl | (simp [V.one] at h1)

theorem allOne_spec {vs : List V} (h : allOne vs = true) : ∀ v ∈ vs, v.one = true := by
  induction vs with
  | nil => simp
  | cons u r ih =>
    unfold allOne at h
    cases hu : u.one
    · simp [hu] at h
    · simp only [hu, cond_true] at h
      intro v hv
      rcases List.mem_cons.1 hv with rfl | hv
      · exact hu
      · exact ih h v hv

theorem cells_spec {v : V} {y : Value} {vs : List V} (h : R w X β v y) (hc : v.cells? = some vs) :
    ∃ ys : List Value, y.cells = ys.toArray ∧ ys.length = vs.length ∧ (∀ (k : Nat) v z, vs[k]? = some v → ys[k]? = some z → R w X β v z) ∧ ∀ z ∈ ys, z.oneCell' = true := by
  have single : v.one = true → vs = [v] → y.cells = #[y] → ∃ ys : List Value, y.cells = ys.toArray ∧ ys.length = vs.length ∧ (∀ (k : Nat) v z, vs[k]? = some v → ys[k]? = some z → R w X β v z) ∧ ∀ z ∈ ys, z.oneCell' = true := by
    intro h1 h2 h3
    subst h2
    refine ⟨[y], h3, rfl, ?_, by simpa using one_spec h h1⟩
    intro k v' z hv hz
    cases k with
    | zero => simp at hv hz; subst hv; subst hz; exact h
    | succ k => simp at hv
  cases h with
  | agg _ cells xs hl hh =>
    simp only [V.cells?] at hc
    cases ha : allOne cells
    · simp [ha] at hc
    · simp only [ha, cond_true, Option.some.injEq] at hc
      subst hc
      refine ⟨xs, rfl, hl, hh, fun z hz => ?_⟩
      obtain ⟨k, hk, hk'⟩ := List.getElem_of_mem hz
      have hkc : k < cells.length := by omega
      exact one_spec (hh k cells[k] z (by simp [hkc]) (by simp [hk, hk'])) (allOne_spec ha _ (List.getElem_mem hkc))
  | val _ =>
    simp only [V.cells?] at hc
    cases ha : V.one (.val y)
    · simp [ha] at hc
    · simp only [ha, cond_true, Option.some.injEq] at hc
      refine single ha hc.symm ?_
      cases y <;> first | rfl | (simp [V.one] at ha)
  | tup => simp [V.cells?] at hc
  | any => simp [V.cells?] at hc
  | _ => exact single rfl (by simpa [V.cells?] using hc.symm) rfl

theorem sound_store {ty : TypeId} {a v : V} {x y : Value} {H' : List O} (hR : Rel w (Xs E H β) H β) (hx : R w (Xs E H β) β a x) (hy : R w (Xs E H β) β v y)
    (h : oStore P H ty a v = some H') : ∃ w', (Instr.storeAt ty x y).run P w = .ok () w' ∧ Step E H β w H' β w' := by
  unfold oStore at h
  split at h
  · rename_i i vs id off h1 h2
    split at h
    · rename_i cs e hH
      cases hcond : (Nat.beq vs.length i.size && Nat.ble (off + vs.length) cs.length)
      · simp [hcond] at h
      · simp only [hcond, cond_true, Option.some.injEq] at h
        subst h
        obtain ⟨hsz, hfit⟩ := Bool.and_eq_true_iff.1 hcond
        have hsz := Nat.eq_of_beq_eq_true hsz
        have hfit := Nat.le_of_ble_eq_true hfit
        cases hx with
        | ptr _ _ _ loc hid hk =>
          obtain ⟨_, c, e', a1, a2, a3, a4⟩ := hR.cells id cs e loc hH hid
          obtain ⟨ys, hys, hl, hr, hone⟩ := cells_spec hy h2
          have hrun := run_storeCells_at P loc.block (loc.base + off) e' ys 0 c w a1 (by simp; omega) hone
          simp only [Nat.add_zero] at hrun
          refine ⟨_, ?_, Step.setCells (e0 := e') hR hH hid a1 (c' := (c.toList.take (loc.base + off) ++ ys ++ c.toList.drop (loc.base + off + ys.length)).toArray) ?_ ?_ ?_⟩
          · simp [Instr.storeAt, Instr.sureAddr, storeVar, hys, ti_size w h1, hl, hsz]
            rw [← hl] at hsz
            simpa [hsz, hl] using hrun
          · simp; omega
          · simp [splice]; omega
          · intro k u hu
            unfold splice at hu
            rw [List.append_assoc] at hu
            by_cases hk1 : k < off
            · rw [List.getElem?_append_left (by simp; omega), List.getElem?_take, if_pos hk1] at hu
              obtain ⟨z, hz, hz'⟩ := a4 k u hu
              refine ⟨z, ?_, hz'⟩
              simp only [List.getElem?_toArray, List.append_assoc]
              rw [List.getElem?_append_left (by simp; omega), List.getElem?_take, if_pos (by omega)]
              simpa using hz
            · rw [List.getElem?_append_right (by simp; omega)] at hu
              have hmin : min off cs.length = off := by omega
              simp only [List.length_take, hmin] at hu
              by_cases hk2 : k - off < vs.length
              · rw [List.getElem?_append_left hk2] at hu
                have hky : k - off < ys.length := by omega
                refine ⟨ys[k - off], ?_, hr (k - off) u _ hu (by simp [hky])⟩
                simp only [List.getElem?_toArray, List.append_assoc]
                have hmin2 : min (loc.base + off) c.size = loc.base + off := by omega
                rw [List.getElem?_append_right (by simp; omega), List.getElem?_append_left (by simp [hmin2]; omega)]
                simp only [List.length_take, Array.length_toList, hmin2]
                rw [show loc.base + k - (loc.base + off) = k - off from by omega]
                simp [hky]
              · rw [List.getElem?_append_right (by omega), List.getElem?_drop] at hu
                have hkk : off + vs.length + (k - off - vs.length) = k := by omega
                rw [hkk] at hu
                obtain ⟨z, hz, hz'⟩ := a4 k u hu
                refine ⟨z, ?_, hz'⟩
                simp only [List.getElem?_toArray, List.append_assoc]
                have hmin2 : min (loc.base + off) c.size = loc.base + off := by omega
                rw [List.getElem?_append_right (by simp; omega), List.getElem?_append_right (by simp [hmin2]; omega), List.getElem?_drop]
                simp only [List.length_take, Array.length_toList, hmin2]
                rw [show loc.base + off + ys.length + (loc.base + k - (loc.base + off) - ys.length) = loc.base + k from by omega]
                simpa using hz
    · rename_i n k xs hd hH
      cases hcond : (Nat.beq vs.length i.size && Nat.ble (off + vs.length) hd.length)
      · simp [hcond] at h
      · simp only [hcond, cond_true, Option.some.injEq] at h
        subst h
        obtain ⟨hsz, hfit⟩ := Bool.and_eq_true_iff.1 hcond
        have hsz := Nat.eq_of_beq_eq_true hsz
        have hfit := Nat.le_of_ble_eq_true hfit
        cases hx with
        | ptr _ _ _ loc hid hk =>
          obtain ⟨_, hb0, ob, zs, a1, ⟨hn, e', rfl⟩, a4⟩ := hR.objs id _ _ loc hH hid
          obtain ⟨ys, hys, hl, hr, hone⟩ := cells_spec hy h2
          have hdn : hd.length ≤ n := by
            rcases Nat.lt_or_ge n hd.length with g | g
            · obtain ⟨z, hz, _⟩ := a4 n hd[n] (by simp [g])
              have := (List.getElem?_eq_some_iff.1 hz).1
              omega
            · exact g
          have hrun := run_storeCells_at P loc.block (loc.base + off) e' ys 0 (zs ++ xs.map (Value.int k)).toArray w a1 (by simp; omega) hone
          simp only [Nat.add_zero] at hrun
          have harr : ((zs ++ xs.map (Value.int k)).toArray.toList.take (loc.base + off) ++ ys ++ (zs ++ xs.map (Value.int k)).toArray.toList.drop (loc.base + off + ys.length)).toArray = ((zs.take off ++ ys ++ zs.drop (off + ys.length)) ++ xs.map (Value.int k)).toArray := by
            rw [hb0, Nat.zero_add]
            congr 1
            rw [List.toList_toArray, List.take_append_of_le_length (by omega), List.drop_append_of_le_length (by omega)]
            simp only [List.append_assoc]
          refine ⟨_, ?_, Step.setPage (n := n) (k := k) (l' := xs) (xs' := zs.take off ++ ys ++ zs.drop (off + ys.length)) hR hH hid a1 (by simp; omega) hn harr rfl fun q v hv => ?_⟩
          · simp [Instr.storeAt, Instr.sureAddr, storeVar, hys, ti_size w h1, hl, hsz]
            rw [← hl] at hsz
            simpa [hsz, hl] using hrun
          · unfold splice at hv
            rw [List.append_assoc] at hv ⊢
            by_cases hq1 : q < off
            · rw [List.getElem?_append_left (by simp; omega), List.getElem?_take, if_pos hq1] at hv
              obtain ⟨z, hz, hz'⟩ := a4 q v hv
              exact ⟨z, by rw [List.getElem?_append_left (by simp; omega), List.getElem?_take, if_pos hq1]; exact hz, hz'⟩
            · have hm1 : (hd.take off).length = off := by simp; omega
              have hm2 : (zs.take off).length = off := by simp; omega
              rw [List.getElem?_append_right (by omega), hm1] at hv
              by_cases hq2 : q - off < vs.length
              · rw [List.getElem?_append_left hq2] at hv
                have hky : q - off < ys.length := by omega
                exact ⟨ys[q - off], by rw [List.getElem?_append_right (by omega), hm2, List.getElem?_append_left hky]; simp [hky], hr (q - off) v _ hv (by simp [hky])⟩
              · rw [List.getElem?_append_right (by omega), List.getElem?_drop, show off + vs.length + (q - off - vs.length) = q by omega] at hv
                obtain ⟨z, hz, hz'⟩ := a4 q v hv
                exact ⟨z, by rw [List.getElem?_append_right (by omega), hm2, List.getElem?_append_right (by omega), List.getElem?_drop, show off + ys.length + (q - off - ys.length) = q by omega]; exact hz, hz'⟩
    · cases h
  · cases h

theorem sound_storeZ {ty : TypeId} {a v : V} {x y : Value} {H' : List O} (hR : Rel w (Xs E H β) H β) (hx : R w (Xs E H β) β a x) (hy : R w (Xs E H β) β v y)
    (h : (oStoreZ P H ty a v).run = some H') : ∃ w', (Instr.storeAt ty x y).run P w = .ok () w' ∧ Step E H β w H' β w' := by
  rcases oStoreZ_spec h with h | ⟨id, off, n, k, xs, hd, m, i, rfl, rfl, hH, h1, h2, rfl, hi, hs⟩
  · exact sound_store hR hx hy h
  · cases hy
    cases hx with
    | ptr _ _ _ loc hid hk =>
    obtain ⟨_, hb0, ob, zs, a1, ⟨hn, e', rfl⟩, a4⟩ := hR.objs id _ _ loc hH hid
    have hrun := run_storeCells_at P loc.block (loc.base + off) e' [.int k m] 0 (zs ++ xs.map (Value.int k)).toArray w a1 (by simp; omega) (by simp [Value.oneCell'])
    simp only [Nat.add_zero] at hrun
    have harr : ((zs ++ xs.map (Value.int k)).toArray.toList.take (loc.base + off) ++ [Value.int k m] ++ (zs ++ xs.map (Value.int k)).toArray.toList.drop (loc.base + off + [Value.int k m].length)).toArray = (zs ++ (xs.set (off - n) m).map (Value.int k)).toArray := by
      rw [hb0, Nat.zero_add]
      congr 1
      apply List.ext_getElem?
      intro q
      simp only [List.toList_toArray, List.length_cons, List.length_nil, Nat.zero_add, List.map_set]
      have hlen : (List.take off (zs ++ xs.map (Value.int k))).length = off := by simp; omega
      rw [List.append_assoc]
      by_cases hq : q < off
      · rw [List.getElem?_append_left (by omega), List.getElem?_take, if_pos hq]
        by_cases hq2 : q < n
        · rw [List.getElem?_append_left (by omega), List.getElem?_append_left (by omega)]
        · rw [List.getElem?_append_right (by omega), List.getElem?_append_right (by omega), List.getElem?_set_ne (by omega)]
      · rw [List.getElem?_append_right (by omega), hlen]
        by_cases hq2 : q = off
        · subst hq2
          rw [Nat.sub_self, List.getElem?_append_right (l₁ := zs) (by omega), hn, List.getElem?_set_self (by simp; omega)]
          rfl
        · rw [List.getElem?_append_right (by simp; omega), List.getElem?_drop]
          simp only [List.length_cons, List.length_nil, Nat.zero_add]
          rw [show off + 1 + (q - off - 1) = q by omega, List.getElem?_append_right (by omega), List.getElem?_append_right (by omega), List.getElem?_set_ne (by omega)]
    refine ⟨_, ?_, Step.setPage (n := n) (k := k) (l' := xs.set (off - n) m) (xs' := zs) hR hH hid a1 hn hn harr (by simp) a4⟩
    simp [Instr.storeAt, Instr.sureAddr, storeVar, Value.cells, ti_size w hi, hs]
    simpa using hrun

theorem sound_newVar {vs : List V} {y : Value} {ys : List Value} (e : TypeId) (hR : Rel w (Xs E H β) H β) (hys : y.cells = ys.toArray) (hl : ys.length = vs.length)
    (hr : ∀ (k : Nat) v z, vs[k]? = some v → ys[k]? = some z → R w (Xs E H β) β v z) :
    ∃ w' β', (newVar e y).run P w = .ok ⟨w.heap.size, 0, none⟩ w' ∧ Step E H β w (H ++ [.cells vs e]) β' w' ∧ R w' (Xs E (H ++ [.cells vs e]) β') β' (.ptr H.length 0) (.pointer (some ⟨w.heap.size, 0, none⟩)) := by
  refine ⟨w.alloc (.cells ys.toArray e), β ++ [{ kind := false, block := w.heap.size, base := 0, n := 0, size := ys.length }], ?_, ?_, ?_⟩
  · simp [newVar, newRow, hys]
  · refine Step.push hR ys.toArray e _ _ rfl (by simp) ?_ ?_
    · intro cs e' h
      simp only [O.cells.injEq] at h
      obtain ⟨rfl, rfl⟩ := h
      refine ⟨rfl, by simp [hl], fun k v hv => ?_⟩
      have hk : k < ys.length := by rw [hl]; exact (List.getElem?_eq_some_iff.1 hv).1
      exact ⟨ys[k], by simp [hk], hr k v _ hv (by simp [hk])⟩
    · intro n sz h; cases h
  · have := R.ptr (w := w.alloc (.cells ys.toArray e)) (X := Xs E (H ++ [.cells vs e]) (β ++ [{ kind := false, block := w.heap.size, base := 0, n := 0, size := ys.length }]))
      (β ++ [{ kind := false, block := w.heap.size, base := 0, n := 0, size := ys.length }]) H.length 0 { kind := false, block := w.heap.size, base := 0, n := 0, size := ys.length } (by rw [hR.len]; simp) rfl
    simpa using this

theorem zero_cells {t : TypeId} {i : TI} (h : ti P t = some i) : ∃ z, (∀ w, (zeroValue t).run P w = .ok z w) ∧ i.zero = z.cells.toList.map ofVal1 := by
  obtain ⟨j, d, h1, _, _, _, ⟨z, hz, hz'⟩, _⟩ := (ti_spec h).info
  exact ⟨z, fun w => by simp [zeroValue, typeInfo, h1, hz], hz'⟩

theorem sound_alloc {e : TypeId} {i : TI} (hR : Rel w (Xs E H β) H β) (h : ti P e = some i) :
    ∃ w' β', (Instr.alloc e true (.tuple #[])).run P w = .ok (.pointer (some ⟨w.heap.size, 0, none⟩)) w' ∧ Step E H β w (H ++ [.cells i.zero e]) β' w' ∧
      R w' (Xs E (H ++ [.cells i.zero e]) β') β' (.ptr H.length 0) (.pointer (some ⟨w.heap.size, 0, none⟩)) := by
  obtain ⟨z, hz, hz'⟩ := zero_cells h
  obtain ⟨w', β', h1, h2, h3⟩ := sound_newVar (P := P) (vs := i.zero) (y := z) (ys := z.cells.toList) e hR (by simp) (by simp [hz']) (by
    intro k v y hv hy
    rw [hz'] at hv
    simp only [List.getElem?_map, hy, Option.map_some, Option.some.injEq] at hv
    subst hv
    exact ofVal1_R _ _ _ _)
  exact ⟨w', β', by simp [Instr.alloc, hz, h1], h2, h3⟩

theorem sameInts_spec {k : IntKind} {x : Int} : ∀ {m : Nat} {cs : List V}, sameInts k x m cs = true → cs = (List.replicate m x).map (V.int k)
  | 0, [], _ => rfl
  | 0, _ :: _, h => by cases h
  | m + 1, [], h => by cases h
  | m + 1, v :: r, h => by
    cases v with
    | int l y =>
      unfold sameInts at h
      cases hl : decide (l = k) && decide (y = x)
      · rw [hl] at h; cases h
      rw [hl, cond_true] at h
      obtain ⟨h1, h2⟩ := Bool.and_eq_true_iff.1 hl
      have h1 := of_decide_eq_true h1
      have h2 := of_decide_eq_true h2
      subst h1 h2
      rw [List.replicate_succ, List.map_cons, ← sameInts_spec h]
    | _ => cases h
theorem newO_spec (P : Program) (e : TypeId) (cs : List V) : newO P e cs = .cells cs e ∨ ∃ n k l, newO P e cs = .obj (.page n k l) (cs.take n) ∧ cs = cs.take n ++ l.map (V.int k) ∧ n ≤ cs.length := by
  unfold newO
  split
  rotate_left
  · exact .inl rfl
  rename_i n m _
  split
  rotate_left
  · exact .inl rfl
  rename_i k x r hd
  cases hb : sameInts k x m (.int k x :: r) && Nat.ble n (cs.take n).length
  · exact .inl rfl
  · obtain ⟨h1, h2⟩ := Bool.and_eq_true_iff.1 hb
    refine .inr ⟨n, k, List.replicate m x, rfl, ?_, ?_⟩
    · rw [← sameInts_spec h1, ← hd, List.take_append_drop]
    · have h2 := Nat.le_of_ble_eq_true h2
      rw [List.length_take] at h2
      omega

theorem sound_box {e : TypeId} {v : V} {y : Value} {vs : List V} (hR : Rel w (Xs E H β) H β) (hy : R w (Xs E H β) β v y) (h : v.cells? = some vs) :
    ∃ w' β', (Instr.box e y).run P w = .ok (.pointer (some ⟨w.heap.size, 0, none⟩)) w' ∧ Step E H β w (H ++ [newO P e vs]) β' w' ∧
      R w' (Xs E (H ++ [newO P e vs]) β') β' (.ptr H.length 0) (.pointer (some ⟨w.heap.size, 0, none⟩)) := by
  obtain ⟨ys, hys, hl, hr, _⟩ := cells_spec hy h
  rcases newO_spec P e vs with h0 | ⟨n, k, l, h0, hvs, hn⟩
  · rw [h0]
    obtain ⟨w', β', h1, h2, h3⟩ := sound_newVar (P := P) e hR hys hl hr
    exact ⟨w', β', by simp [Instr.box, h1], h2, h3⟩
  · rw [h0]
    have hys2 : ys = ys.take n ++ l.map (Value.int k) := by
      apply List.ext_getElem?
      intro q
      have hlt : vs.length = n + l.length := by
        have := congrArg List.length hvs
        simp only [List.length_append, List.length_take, List.length_map] at this
        omega
      by_cases hq : q < n
      · rw [List.getElem?_append_left (by simp; omega), List.getElem?_take, if_pos hq]
      · rw [List.getElem?_append_right (by simp; omega)]
        have hm : (ys.take n).length = n := by simp; omega
        rw [hm, List.getElem?_map]
        by_cases hq2 : q - n < l.length
        · have hv : vs[q]? = some (.int k l[q - n]) := by
            rw [hvs, List.getElem?_append_right (by simp; omega), List.length_take, Nat.min_eq_left hn, List.getElem?_map, List.getElem?_eq_getElem hq2]
            rfl
          have hy' : ys[q]? = some ys[q] := List.getElem?_eq_getElem (by omega)
          have := hr q _ _ hv hy'
          rw [hy', List.getElem?_eq_getElem hq2]
          generalize ys[q] = z at this
          cases this
          rfl
        · rw [List.getElem?_eq_none (by omega), List.getElem?_eq_none (by omega)]
          rfl
    let loc : Loc := { kind := false, block := w.heap.size, base := 0, n := 0, size := ys.length }
    refine ⟨w.alloc (.cells ys.toArray e), β ++ [loc], by simp [Instr.box, newVar, newRow, hys], ?_, ?_⟩
    · refine Step.pushObjD hR (.cells ys.toArray e (0, 0)) (loc := loc) (xs := ys.take n) ⟨by simp; omega, e, by rw [← hys2]⟩ (fun q v hv => ?_) rfl rfl rfl
      have hq : q < n := by
        have := (List.getElem?_eq_some_iff.1 hv).1
        simp only [List.length_take] at this
        omega
      rw [List.getElem?_take, if_pos hq] at hv
      have hq2 : q < ys.length := by rw [hl]; exact (List.getElem?_eq_some_iff.1 hv).1
      exact ⟨ys[q], by rw [List.getElem?_take, if_pos hq]; simp [hq2], hr q v _ hv (by simp [hq2])⟩
    · have := R.ptr (w := w.alloc (.cells ys.toArray e)) (X := Xs E (H ++ [.obj (.page n k l) (vs.take n)]) (β ++ [loc])) (β ++ [loc]) H.length 0 loc (by rw [hR.len]; simp) rfl
      simpa [loc] using this

theorem pin_drop {cells : List V} {b o : Nat} (h : R w X β (.pin cells) (.pointer (some ⟨b, o, none⟩))) (k : Nat) : R w X β (.pin (cells.drop k)) (.pointer (some ⟨b, o + k, none⟩)) := by
  cases h with
  | pin _ _ _ _ f hc hr =>
    refine .pin β _ b (o + k) (fun j => f (k + j)) (fun j hj => ?_) (fun j v hv => ?_)
    · rw [Nat.add_assoc]
      exact hc (k + j) (by simp at hj; omega)
    · rw [List.getElem?_drop] at hv
      exact hr (k + j) v hv

theorem offs_spec {t : TypeId} {i : TI} {offs : List (Nat × Nat × Bool)} (h : ti P t = some i) (hk : i.k = .st offs) :
    ∃ fs : Array Field, P.underlying t = some (.struct fs) ∧ offs = fs.toList.map fun f => (f.offset, P.cellsOf f.type, isAggB P f.type) := by
  obtain ⟨j, d, h1, h2, _, _, _, h6, _⟩ := (ti_spec h).info
  rw [hk] at h6
  cases d with
  | struct fs => simp only [TK.st.injEq] at h6; exact ⟨fs, h2, h6⟩
  | _ => cases h6

theorem slice_spec {t : TypeId} {i : TI} {e : TypeId} (h : ti P t = some i) (hk : i.k = .slice e) : P.underlying t = some (.slice e) := by
  obtain ⟨j, d, h1, h2, _, _, _, h6, _⟩ := (ti_spec h).info
  rw [hk] at h6
  cases d with
  | slice e' => simp only [TK.slice.injEq] at h6; rw [h6]; exact h2
  | _ => cases h6

theorem arr_spec {t : TypeId} {i : TI} {n : Nat} {e : TypeId} (h : ti P t = some i) (hk : i.k = .arr n e) : P.underlying t = some (.array n e) := by
  obtain ⟨j, d, h1, h2, _, _, _, h6, _⟩ := (ti_spec h).info
  rw [hk] at h6
  cases d with
  | array n' e' => simp only [TK.arr.injEq] at h6; obtain ⟨rfl, rfl⟩ := h6; exact h2
  | _ => cases h6

theorem sound_fieldAddr {t : TypeId} {x v : V} {y : Value} {f : Nat} (hx : R w X β x y) (h : oFieldAddr P t x f = some v) :
    ∃ z, (Instr.fieldAt t y f).run P w = .ok z w ∧ R w X β v z := by
  unfold oFieldAddr at h
  split at h
  · rename_i i h1
    split at h
    · rename_i offs hk
      obtain ⟨fs, hu, hoffs⟩ := offs_spec h1 hk
      split at h
      · rename_i off size _ ho
        rw [hoffs] at ho
        simp only [List.getElem?_map, Option.map_eq_some_iff, Prod.mk.injEq] at ho
        obtain ⟨fl, hf, rfl, hsz, _⟩ := ho
        cases hb : Nat.beq size 0
        · simp only [hb, cond_false] at h
          have hne : size ≠ 0 := fun e => by subst e; simp at hb
          have hinfo : ∃ j, P.info? fl.type = some j ∧ j.size = size := by
            unfold Program.cellsOf at hsz
            cases hj : P.info? fl.type with
            | none => simp [hj] at hsz; omega
            | some j => exact ⟨j, rfl, by simpa [hj] using hsz⟩
          obtain ⟨j, hj, hjs⟩ := hinfo
          have hfa : fs[f]? = some fl := by simpa using hf
          have hrun : ∀ b o, (Instr.fieldAt t (.pointer (some ⟨b, o, none⟩)) f).run P w = .ok (.pointer (some ⟨b, o + fl.offset, none⟩)) w := by
            intro b o
            simp [Instr.fieldAt, run_und w hu, hfa, Instr.sureAddr, fieldPlace, run_sizeOf' w hj, hjs, hne, addr_add]
          split at h
          · rename_i id o
            simp only [Option.some.injEq] at h
            subst h
            cases hx with
            | ptr _ _ _ loc hid hk' =>
              refine ⟨_, hrun _ _, ?_⟩
              rw [Nat.add_assoc]
              exact .ptr β id (o + fl.offset) loc hid hk'
          · rename_i cells
            simp only [Option.some.injEq] at h
            subst h
            cases hx with
            | pin _ _ b o f' hc hr => exact ⟨_, hrun _ _, pin_drop (.pin β cells b o f' hc hr) _⟩
          · cases h
        · simp [hb] at h
      · cases h
    · cases h
  · cases h

theorem enc_size : ∀ (c : EC) (x : c.ty), (enc c x).length = c.size := by
  intro c
  refine EC.rec (motive_1 := fun c => ∀ x : c.ty, (enc c x).length = c.size) (motive_2 := fun cs => ∀ x : EC.tys cs, (encs cs x).length = EC.sizes cs) ?_ ?_ ?_ ?_ ?_ ?_ ?_ c
  · intro k x; rfl
  · intro x; rfl
  · intro x; rfl
  · intro c _ x; simp [enc, EC.size]
  · intro cs ih x; simpa [enc, EC.size] using ih x
  · intro x; rfl
  · intro c cs ih ihs x
    cases cs with
    | nil => simpa [encs, EC.sizes] using ih x
    | cons d cs =>
      simp only [encs, EC.sizes, List.length_append]
      rw [ih x.1, ihs x.2]

/-- An element's place. -/
theorem elem_pin {c : EC} {l : List c.ty} {m : Nat} {b o : Nat} {f : Nat → Nat → Value} {x : c.ty} (_hx : l[m]? = some x) (hc : ∀ k, k < c.size → ¬ X b (o + k) ∧ w.cell? ⟨b, o + k, none⟩ = some (f m k))
    (hr : ∀ (k : Nat) (v : V), (enc c x)[k]? = some v → R w X [] v (f m k)) : R w X β (.pin (enc c x)) (.pointer (some ⟨b, o, none⟩)) :=
  .pin β _ b o (f m) (fun k hk => hc k (by rw [enc_size] at hk; exact hk)) hr

theorem inside_spec {i : Int} {n : Nat} (h : inside i n = true) : 0 ≤ i ∧ i < n ∧ i.toNat < n := by
  simp only [inside, Bool.and_eq_true, decide_eq_true_eq] at h
  exact ⟨h.1, h.2, by omega⟩

theorem req_run {β : Type} {c : Bool} {x : Tree β} {b : β} (h : (Tree.req c x).run = some b) : c = true ∧ x.run = some b := by
  cases c
  · simp [Tree.req, Tree.run] at h
  · exact ⟨rfl, h⟩

theorem sound_indexAddr {t : TypeId} {x ix v : V} {y iy : Value} (hx : R w X β x y) (hi : R w X β ix iy) (h : (oIndexAddr P t x ix).run = some v) :
    ∃ z, (Instr.indexAt t y iy).run P w = .ok z w ∧ R w X β v z := by
  unfold oIndexAddr at h
  split at h
  · rename_i i k n h1
    cases hi
    split at h
    · rename_i e hk
      have hu := slice_spec h1 hk
      split at h
      · rename_i j hj
        split at h
        · rename_i c l sp fl
          cases hb : Nat.beq c.size j.size
          · simp [hb, Tree.run] at h
          · simp only [hb, cond_true] at h
            have hsz := Nat.eq_of_beq_eq_true hb
            obtain ⟨hin, h⟩ := req_run h
            simp only [Tree.run, Option.some.injEq] at h
            subst h
            obtain ⟨i0, i1, i2⟩ := inside_spec hin
            cases hx with
            | nil => simp at i2
            | sl _ _ _ _ _ b o cap f hcap hfull hrw hc hr =>
              refine ⟨.pointer (some ⟨b, o + n.toNat * j.size, none⟩), ?_, ?_⟩
              · simp [Instr.indexAt, asIntOf, run_und w hu, i0, i1, ti_size w hj, addr_add]
              · rw [List.getD_eq_getElem?_getD, List.getElem?_eq_getElem i2, Option.getD_some]
                refine elem_pin (l := l) (f := f) (m := n.toNat) (List.getElem?_eq_getElem i2) (fun k hk => ?_) (fun k u hu => ?_)
                · rw [← hsz]; exact hc n.toNat k (by omega) hk
                · exact hr n.toNat _ k u (by rw [List.getElem?_append_left i2]; exact List.getElem?_eq_getElem i2) hu
        · rename_i id c l
          cases hb : Nat.beq c.size j.size
          · simp [hb, Tree.run] at h
          · simp only [hb, cond_true] at h
            have hsz := Nat.eq_of_beq_eq_true hb
            obtain ⟨hin, h⟩ := req_run h
            simp only [Tree.run, Option.some.injEq] at h
            subst h
            obtain ⟨i0, i1, i2⟩ := inside_spec hin
            cases hx with
            | gro _ _ _ _ b o cap loc f hid hk hn hl hcap hc hr =>
              refine ⟨.pointer (some ⟨b, o + n.toNat * j.size, none⟩), ?_, ?_⟩
              · simp [Instr.indexAt, asIntOf, run_und w hu, i0, i1, ti_size w hj, addr_add]
              · rw [List.getD_eq_getElem?_getD, List.getElem?_eq_getElem i2, Option.getD_some]
                refine elem_pin (l := l) (f := f) (m := n.toNat) (List.getElem?_eq_getElem i2) (fun k hk => ?_) (fun k u hu => ?_)
                · rw [← hsz]; exact hc n.toNat k (by omega) hk
                · exact hr n.toNat _ k u (List.getElem?_eq_getElem i2) hu
        · rename_i id sz off len
          cases hb : Nat.beq sz j.size
          · simp [hb, Tree.run] at h
          · simp only [hb, cond_true] at h
            have hsz := Nat.eq_of_beq_eq_true hb
            obtain ⟨hin, h⟩ := req_run h
            simp only [Tree.run, Option.some.injEq] at h
            subst h
            obtain ⟨i0, i1, i2⟩ := inside_spec hin
            cases hx with
            | ref _ _ _ _ _ loc b o cap hid hk hlen ha hcap =>
              obtain ⟨rfl, rfl⟩ := ha (by omega)
              refine ⟨.pointer (some ⟨loc.block, loc.base + off + n.toNat * j.size, none⟩), ?_, ?_⟩
              · simp [Instr.indexAt, asIntOf, run_und w hu, i0, i1, ti_size w hj, addr_add]
              · rw [Nat.add_assoc, ← hsz]
                exact .ptr β id _ loc hid hk
        · cases h
      · cases h
    · rename_i len e hk
      have hu := arr_spec h1 hk
      split at h
      · rename_i j hj
        have hrun : ∀ b o, 0 ≤ n → n < len → (Instr.indexAt t (.pointer (some ⟨b, o, none⟩)) (.int k n)).run P w = .ok (.pointer (some ⟨b, o + n.toNat * j.size, none⟩)) w := by
          intro b o i0 i1
          simp [Instr.indexAt, asIntOf, run_und w hu, i0, i1, ti_size w hj, addr_add, Instr.sureAddr]
        split at h
        · rename_i id off
          obtain ⟨hin, h⟩ := req_run h
          simp only [Tree.run, Option.some.injEq] at h
          subst h
          obtain ⟨i0, i1, i2⟩ := inside_spec hin
          cases hx with
          | ptr _ _ _ loc hid hk' =>
            refine ⟨_, hrun _ _ i0 i1, ?_⟩
            rw [Nat.add_assoc]
            exact .ptr β id _ loc hid hk'
        · rename_i cells
          obtain ⟨hin, h⟩ := req_run h
          simp only [Tree.run, Option.some.injEq] at h
          subst h
          obtain ⟨i0, i1, i2⟩ := inside_spec hin
          cases hx with
          | pin _ _ b o f' hc hr => exact ⟨_, hrun _ _ i0 i1, pin_drop (.pin β cells b o f' hc hr) _⟩
        · cases h
      · cases h
    · cases h
  · cases h

end
end Go.Ab

namespace Go.Ab
section
variable {P : Program} {E : Nat → Nat → Prop} {H : List O} {β : List Loc} {w : World} {X : Nat → Nat → Prop}

theorem known_spec {fs : List Field} (h : allKnown P fs = true) : ∀ f ∈ fs, ∃ d, P.underlying f.type = some d := by
  induction fs with
  | nil => simp
  | cons f r ih =>
    unfold allKnown at h
    cases hu : P.underlying f.type with
    | none => simp [hu] at h
    | some d =>
      simp only [hu, Option.isSome_some, cond_true] at h
      intro g hg
      rcases List.mem_cons.1 hg with rfl | hg
      · exact ⟨d, hu⟩
      · exact ih h g hg

theorem und_info {t : TypeId} {d : TypeDesc} (h : P.underlying t = some d) : ∃ j, P.info? t = some j := by
  unfold Program.underlying at h
  cases hj : P.info? t with
  | none => simp [hj] at h
  | some j => exact ⟨j, rfl⟩

theorem run_isAgg' (w : World) {t : TypeId} {d : TypeDesc} (h : P.underlying t = some d) : (isAgg t).run P w = .ok (isAggB P t) w := by
  unfold isAggB
  rw [h]
  cases d <;> simp [isAgg, run_und w h]

theorem offs_known {t : TypeId} {i : TI} {fs : Array Field} (h : ti P t = some i) (hu : P.underlying t = some (.struct fs)) : ∀ f ∈ fs.toList, ∃ d, P.underlying f.type = some d := by
  obtain ⟨j, d, h1, h2, _, _, _, _, h7⟩ := (ti_spec h).info
  rw [hu] at h2
  simp only [Option.some.injEq] at h2
  subst h2
  exact known_spec h7

/-- A part of a struct's cells. -/
theorem sound_part {agg : Bool} {cells : List V} {xs : List Value} {off size : Nat} {v : V} {ft : TypeId} (hl : xs.length = cells.length)
    (hr : ∀ (k : Nat) v x, cells[k]? = some v → xs[k]? = some x → R w X β v x) (hagg : (isAgg ft).run P w = .ok agg w) (hsz : (sizeOf ft).run P w = .ok size w)
    (h : part? agg cells off size = some v) : ∃ z, (part ft xs.toArray off).run P w = .ok z w ∧ R w X β v z := by
  cases agg
  · simp only [part?, cond_false] at h
    have hk : off < xs.length := by rw [hl]; exact (List.getElem?_eq_some_iff.1 h).1
    refine ⟨xs[off], by simp [part, hagg, hk], hr off v _ h (by simp [hk])⟩
  · simp only [part?, cond_true, Option.some.injEq] at h
    subst h
    refine ⟨.agg (xs.toArray.extract off (off + size)), by simp [part, hagg, hsz], ?_⟩
    rw [List.extract_toArray]
    refine .agg β _ _ ?_ ?_
    · simp [List.extract_eq_take_drop, hl]
    · intro k v x h1 h2
      rw [List.getElem?_take] at h1
      rw [List.extract_eq_take_drop, List.getElem?_take] at h2
      split at h1
      · rw [if_pos (by omega), List.getElem?_drop] at h2
        rw [List.getElem?_drop] at h1
        exact hr _ v x h1 h2
      · cases h1

theorem sound_field {t : TypeId} {x v : V} {y : Value} {f : Nat} (hx : R w X β x y) (h : oField P t x f = some v) : ∃ z, (Instr.field t y f).run P w = .ok z w ∧ R w X β v z := by
  unfold oField at h
  split at h
  · rename_i i cells h1
    split at h
    · rename_i offs hk
      obtain ⟨fs, hu, hoffs⟩ := offs_spec h1 hk
      split at h
      · rename_i off size agg ho
        rw [hoffs] at ho
        simp only [List.getElem?_map, Option.map_eq_some_iff, Prod.mk.injEq] at ho
        obtain ⟨fl, hf, rfl, hsz, hag⟩ := ho
        obtain ⟨d, hd⟩ := offs_known h1 hu fl (List.mem_of_getElem? hf)
        obtain ⟨j, hj⟩ := und_info hd
        have hfa : fs[f]? = some fl := by simpa using hf
        cases hx with
        | agg _ _ xs hl hr =>
          have hsz' : (sizeOf fl.type).run P w = .ok size w := by rw [run_sizeOf' w hj, ← hsz]; simp [Program.cellsOf, hj]
          obtain ⟨z, hz, hz'⟩ := sound_part (ft := fl.type) hl hr (by rw [run_isAgg' w hd, hag]) hsz' h
          exact ⟨z, by simp [Instr.field, run_und w hu, hfa, asAgg, hz], hz'⟩
      · cases h
    · cases h
  · cases h

theorem splice_get {α : Type} (cs : List α) (off : Nat) (vs : List α) (h : off + vs.length ≤ cs.length) (k : Nat) :
    (cs.take off ++ vs ++ cs.drop (off + vs.length))[k]? = if off ≤ k ∧ k < off + vs.length then vs[k - off]? else cs[k]? := by
  have hmin : min off cs.length = off := by omega
  rw [List.append_assoc]
  by_cases h1 : k < off
  · rw [List.getElem?_append_left (by simp; omega), List.getElem?_take, if_pos h1, if_neg (by omega)]
  · rw [List.getElem?_append_right (by simp; omega)]
    simp only [List.length_take, hmin]
    by_cases h2 : k < off + vs.length
    · rw [List.getElem?_append_left (by omega), if_pos (by omega)]
    · rw [List.getElem?_append_right (by omega), List.getElem?_drop, if_neg (by omega)]
      congr 1
      omega

theorem foldl_set {vs : List Value} : ∀ (off j : Nat) (c : Array Value) , off + j + vs.length ≤ c.size →
    ((vs.zipIdx j).foldl (fun cs (p : Value × Nat) => cs.setIfInBounds (off + p.2) p.1) c).toList = c.toList.take (off + j) ++ vs ++ c.toList.drop (off + j + vs.length) := by
  induction vs with
  | nil => intro off j c _; simp
  | cons u r ih =>
    intro off j c h
    simp only [List.length_cons] at h
    simp only [List.zipIdx_cons, List.foldl_cons]
    rw [ih off (j + 1) _ (by simp; omega)]
    have e := list_seg_step c.toList (off + j) u r (by simp; omega)
    simpa [Array.toList_setIfInBounds, Nat.add_assoc] using e

/-- Filling: the parts of a composite literal. -/
theorem fill_R {place : Nat → Option (Nat × Nat)} {offs : Nat → Option (Nat × Nat)} (hp : ∀ i x, offs i = some x → place i = some x) :
    ∀ (ps : List (Nat × V)) (qs : List (Nat × Value)) (l l' : List V) (c : Array Value), ps.length = qs.length →
    (∀ (k : Nat) p q, ps[k]? = some p → qs[k]? = some q → p.1 = q.1 ∧ R w X β p.2 q.2) → c.size = l.length → (∀ (k : Nat) v x, l[k]? = some v → c[k]? = some x → R w X β v x) →
    fillCells offs ps l = some l' → ∃ c' : Array Value, Instr.fill place c qs = some c' ∧ c'.size = l'.length ∧ l'.length = l.length ∧ ∀ (k : Nat) v x, l'[k]? = some v → c'[k]? = some x → R w X β v x
  | [], qs, l, l', c, hlen, _, hs, hr, h => by
    have : qs = [] := List.length_eq_zero_iff.1 (by simpa using hlen.symm)
    subst this
    simp only [fillCells, Option.some.injEq] at h
    subst h
    exact ⟨c, rfl, hs, rfl, hr⟩
  | (i, v) :: ps, [], _, _, _, hlen, _, _, _, _ => by simp at hlen
  | (i, v) :: ps, (i', y) :: qs, l, l', c, hlen, hpq, hs, hr, h => by
    obtain ⟨e, hvy⟩ := hpq 0 _ _ rfl rfl
    simp only at e hvy
    subst e
    unfold fillCells at h
    split at h
    · rename_i cs off size hcs hoff
      cases hb : (Nat.beq cs.length size && Nat.ble (off + cs.length) l.length)
      · simp [hb] at h
      · simp only [hb, cond_true] at h
        obtain ⟨b1, b2⟩ := Bool.and_eq_true_iff.1 hb
        have b1 := Nat.eq_of_beq_eq_true b1
        have b2 := Nat.le_of_ble_eq_true b2
        obtain ⟨ys, hys, hyl, hyr, _⟩ := cells_spec hvy hcs
        have hl2 : (splice l off cs).length = l.length := by simp [splice]; omega
        have htl := foldl_set (vs := ys) off 0 c (by omega)
        simp only [Nat.add_zero] at htl
        obtain ⟨c', h1, h2, h3, h4⟩ := fill_R hp ps qs (splice l off cs) l' ((ys.zipIdx).foldl (fun cs (p : Value × Nat) => cs.setIfInBounds (off + p.2) p.1) c) (by simpa using hlen)
          (fun k p q hp hq => hpq (k + 1) p q (by simpa using hp) (by simpa using hq)) (by rw [hl2, ← hs, ← Array.length_toList, htl]; simp; omega)
          (by
            intro k u x hu hx
            rw [← Array.getElem?_toList, htl, splice_get c.toList off ys (by simp; omega)] at hx
            unfold splice at hu
            rw [splice_get l off cs (by omega)] at hu
            by_cases hk : off ≤ k ∧ k < off + cs.length
            · rw [if_pos hk] at hu
              rw [if_pos (by omega)] at hx
              exact hyr _ u x hu hx
            · rw [if_neg hk] at hu
              rw [if_neg (by omega)] at hx
              exact hr k u x hu (by simpa using hx)) h
        refine ⟨c', ?_, h2, by rw [h3, hl2], h4⟩
        unfold Instr.fill
        simp only [hp i _ hoff]
        have hcsz : y.cells.size = cs.length := by rw [hys]; simp [hyl]
        have hcond : (decide (y.cells.size ≠ size) || decide (off + y.cells.size > c.size)) = false := by
          simp only [Bool.or_eq_false_iff, decide_eq_false_iff_not]
          omega
        have e1 : (y.cells.zipIdx.foldl (fun cs (p : Value × Nat) => cs.setIfInBounds (off + p.2) p.1) c) = (ys.zipIdx).foldl (fun cs (p : Value × Nat) => cs.setIfInBounds (off + p.2) p.1) c := by
          rw [hys]; simp
        rw [← e1] at h1
        have hne : ¬ (y.cells.size ≠ size || off + y.cells.size > c.size) = true := by
          simp only [Bool.or_eq_true, decide_eq_true_eq]
          omega
        rw [if_neg hne]
        exact h1
    · cases h

theorem zero_R {t : TypeId} {i : TI} (h : ti P t = some i) : ∃ z, (∀ w, (zeroValue t).run P w = .ok z w) ∧ z.cells.size = i.zero.length ∧ ∀ (k : Nat) v x, i.zero[k]? = some v → z.cells[k]? = some x → R w X β v x := by
  obtain ⟨z, h1, h2⟩ := zero_cells h
  refine ⟨z, h1, by simp [h2], fun k v x hv hx => ?_⟩
  rw [h2] at hv
  have : z.cells.toList[k]? = some x := by simpa using hx
  simp only [List.getElem?_map, this, Option.map_some, Option.some.injEq] at hv
  subst hv
  exact ofVal1_R _ _ _ _

theorem mapM_offs {fs : List Field} (hk : ∀ f ∈ fs, ∃ d, P.underlying f.type = some d) :
    fs.mapM (fun f => (P.info? f.type).map fun i => (f.offset, i.size)) = some (fs.map fun f => (f.offset, P.cellsOf f.type)) := by
  induction fs with
  | nil => rfl
  | cons f r ih =>
    obtain ⟨d, hd⟩ := hk f (by simp)
    obtain ⟨j, hj⟩ := und_info hd
    simp [List.mapM_cons, hj, ih (fun g hg => hk g (by simp [hg])), Program.cellsOf]

theorem sound_build {t : TypeId} {ps : List (Nat × V)} {qs : Array (Nat × Value)} {v : V} (hlen : ps.length = qs.size)
    (hpq : ∀ (k : Nat) p q, ps[k]? = some p → qs.toList[k]? = some q → p.1 = q.1 ∧ R w X β p.2 q.2) (h : oBuild P t ps = some v) :
    ∃ z, (Instr.build t qs).run P w = .ok z w ∧ R w X β v z := by
  unfold oBuild at h
  split at h
  · rename_i i h1
    obtain ⟨z, hz, hzs, hzr⟩ := zero_R (w := w) (X := X) (β := β) h1
    split at h
    · rename_i offs hk
      obtain ⟨fs, hu, hoffs⟩ := offs_spec h1 hk
      obtain ⟨l', hl', rfl⟩ := Option.map_eq_some_iff.1 h
      have hmm := run_places (P := P) w _ _ (mapM_offs (offs_known h1 hu))
      obtain ⟨c', g1, g2, g3, g4⟩ := fill_R (w := w) (X := X) (β := β) (place := fun x => (fs.toList.map fun f => (f.offset, P.cellsOf f.type))[x]?)
        (by
          intro i x hx
          rw [hoffs] at hx
          simp only [List.getElem?_map, Option.map_map] at hx ⊢
          rw [← hx]; rfl) ps qs.toList i.zero l' z.cells (by simpa using hlen) hpq hzs hzr hl'
      refine ⟨.agg c', ?_, ?_⟩
      · have g1' : Instr.fill (fun x => Option.map (fun f => (f.offset, P.cellsOf f.type)) fs[x]?) z.cells qs.toList = some c' := by simpa using g1
        simp [Instr.build, hz, run_und w hu, Array.mapM_eq_mapM_toList, hmm, g1']
      · have : c' = c'.toList.toArray := by simp
        rw [this]
        exact .agg β l' c'.toList (by simpa using g2) (fun k v x h1 h2 => g4 k v x h1 (by simpa using h2))
    · rename_i n e hk
      have hu := arr_spec h1 hk
      split at h
      · rename_i j hj
        obtain ⟨l', hl', rfl⟩ := Option.map_eq_some_iff.1 h
        obtain ⟨c', g1, g2, g3, g4⟩ := fill_R (w := w) (X := X) (β := β) (place := fun i => some (i * j.size, j.size)) (fun i x hx => hx) ps qs.toList i.zero l' z.cells (by simpa using hlen) hpq hzs hzr hl'
        refine ⟨.agg c', ?_, ?_⟩
        · simp [Instr.build, hz, run_und w hu, ti_size w hj, g1]
        · have : c' = c'.toList.toArray := by simp
          rw [this]
          exact .agg β l' c'.toList (by simpa using g2) (fun k v x h1 h2 => g4 k v x h1 (by simpa using h2))
      · cases h
    · cases h
  · cases h

end
end Go.Ab
