/-
  The engine, part A: simple values V, the abstract heap, the evaluator of operations and of code without loops. Conditions: none (definitions).
-/
import Derived.Calls
import Derived.Orders
import Derived.KernelRfl
import GoSem.ClaimData
set_option linter.unusedVariables false
set_option linter.unusedSimpArgs false
namespace Go.Ab
inductive EC where
 | int (k:IntKind)
 | bool
 | str
 | sl (c:EC)
 | prod (cs:List EC)
 deriving Inhabited
mutual
def EC.ty:EC->Type
 | .int _=>Int
 | .bool=>Bool
 | .str=>List UInt8
 | .sl c=>Option (List c.ty)
 | .prod cs=>EC.tys cs
def EC.tys:List EC->Type
 | []=>Unit
 | [c]=>c.ty
 | c :: d :: cs=>c.ty × EC.tys (d :: cs)
end
mutual
def EC.dflt:(c:EC)->c.ty
 | .int _=>(0:Int)
 | .bool=>false
 | .str=>([]:List UInt8)
 | .sl c=>(none:Option (List c.ty))
 | .prod cs=>EC.dflts cs
def EC.dflts:(cs:List EC)->EC.tys cs
 | []=>()
 | [c]=>c.dflt
 | c :: d :: cs=>(c.dflt,EC.dflts (d :: cs))
end
mutual
def EC.size:EC->Nat
 | .prod cs=>EC.sizes cs
 | _=>1
def EC.sizes:List EC->Nat
 | []=>0
 | [c]=>c.size
 | c :: d :: cs=>c.size+EC.sizes (d :: cs)
end
mutual
def EC.same:(c d:EC)->Option (PLift (c=d))
 | .int k,.int l=>if h:k=l then some ⟨by rw [h]⟩ else none
 | .bool,.bool=>some ⟨rfl⟩
 | .str,.str=>some ⟨rfl⟩
 | .sl c,.sl d=>match EC.same c d with
  | some ⟨h⟩=>some ⟨by rw [h]⟩
  | none=>none
 | .prod cs,.prod ds=>match EC.sames cs ds with
  | some ⟨h⟩=>some ⟨by rw [h]⟩
  | none=>none
 | _,_=>none
def EC.sames:(cs a:List EC)->Option (PLift (cs=a))
 | [],[]=>some ⟨rfl⟩
 | c :: cs,d :: a=>match EC.same c d,EC.sames cs a with
  | some ⟨h⟩,some ⟨g⟩=>some ⟨by rw [h,g]⟩
  | _,_=>none
 | _,_=>none
end
inductive Fl where
 | ro | rw | full | may
 deriving DecidableEq,Inhabited
def Fl.fixed:Fl->Bool
 | .ro | .may=>true
 | _=>false
def Fl.isMay:Fl->Bool
 | .may=>true
 | _=>false
inductive V where
 | int (k:IntKind) (n:Int)
 | bool (b:Bool)
 | str (s:List UInt8)
 | val (x:Value)
 | pin (cells:List V)
 | sl (c:EC) (l spare:List c.ty) (fl:Fl)
 | gro (id:Nat) (c:EC) (l:List c.ty)
 | ptr (id off:Nat)
 | ref (id sz off len:Nat)
 | agg (cells:List V)
 | tup (vs:List V)
 | ifc (t:TypeId) (v:V)
 | clo (fn:Fn) (first captured:List V)
 | mp (id:Nat)
 | rng (k:IntKind) (lo hi:Int)
 | any
 deriving Inhabited
inductive Shape where
 | map (keys:List Int)
 | siter (s:List UInt8) (pos:Nat)
 | page (n:Nat) (k:IntKind) (l:List Int)
 deriving Inhabited
def Shape.isPage:Shape->Bool
 | .page _ _ _=>true
 | _=>false
inductive O where
 | cells (cs:List V) (elem:TypeId)
 | tok (n sz:Nat)
 | obj (sh:Shape) (vs:List V)
 | dead
 deriving Inhabited
abbrev T:=List (Nat × V)
inductive Tree (β:Type) where
 | leaf (b:β)
 | fail
 | br (c:Bool) (x y:Tree β)
namespace Tree
def bind {β a:Type}:Tree β->(β->Tree a)->Tree a
 | .leaf b,f=>f b
 | .fail,_=>.fail
 | .br c x y,f=>.br c (x.bind f) (y.bind f)
def run {β:Type}:Tree β->Option β
 | .leaf b=>some b
 | .fail=>none
 | .br c x y=>cond c x.run y.run
def ofOption {β:Type}:Option β->Tree β
 | some b=>.leaf b
 | none=>.fail
def aF {β:Type} (c:Bool) (x:Tree β):Tree β:=.br c x .fail
end Tree
def get (d:Nat):T->V
 | []=>.any
 | (e,u) :: r=>cond (Nat.beq d e) u (get d r)
def put (d:Nat) (v:V):T->T
 | []=>[(d,v)]
 | (e,u) :: r=>cond (Nat.blt d e) ((d,v) :: (e,u) :: r) (cond (Nat.beq d e) ((d,v) :: r) ((e,u) :: put d v r))
def cG (n:Nat):List Nat->Bool
 | []=>false
 | m :: r=>cond (Nat.beq n m) true (cG n r)
def bC (l:List Nat):T->T
 | []=>[]
 | (e,u) :: r=>cond (cG e l) ((e,u) :: bC l r) (bC l r)
def nilSl:V:=.val (.slice none 0 0)
def lJ:V:=.val (.tuple #[])
def ofVal1:Value->V
 | .int k n=>.int k n
 | .bool b=>.bool b
 | .string s=>.str s.data.toList
 | x=>.val x
def XL:Value->V
 | .agg cs=>.agg (cs.toList.map ofVal1)
 | x=>ofVal1 x
def rd (t:T):Operand->V
 | .tmp i=>get i t
 | .const v=>XL v
 | .global g=>.val (.pointer (some ⟨g,0,none⟩))
 | .func f=>.val (.func (.func f) #[] #[])
def akD (P : Program) : Nat := ((List.range P.types.size).find? fun t => P.typeName? 3 t==some "*errors.errorString").getD 0
def aXA (P:Program):List (String × List V):=
 [("strings.asciiSpace", (List.range 256).map fun i => V.int .u8 (cond (Nat.beq i 9 || (Nat.beq i 10 || (Nat.beq i 11 || (Nat.beq i 12 || (Nat.beq i 13 || Nat.beq i 32))))) 1 0)),
 ("strconv.ErrSyntax", [.ifc (akD P) .any])]
def WB (P:Program):List (String × List V)->List (Nat × List V)
 | []=>[]
 | (nm,zs) :: r=>match P.globalNamed nm with
  | some g=>(g,zs) :: WB P r
  | none=>WB P r
def rN (P:Program):List (Nat × List V):=WB P (aXA P)
def vT (g:Nat):List (Nat × List V)->Option (List V)
 | []=>none
 | (e,cs) :: r=>cond (Nat.beq g e) (some cs) (vT g r)
def nV (G:List (Nat × List V)) (t:T):Operand->V
 | .global g=>match vT g G with
  | some cs=>.pin cs
  | none=>rd t (.global g)
 | x=>rd t x
def V.one:V->Bool
 | .val (.agg _) | .val (.tuple _) | .agg _ | .tup _ | .any=>false
 | _=>true
def vR:List V->Bool
 | []=>true
 | v :: r=>cond v.one (vR r) false
def V.cells? : V->Option (List V)
 | .agg cs=>cond (vR cs) (some cs) none
 | .tup _=>none
 | .any=>none
 | .val x=>cond (V.one (.val x)) (some [.val x]) none
 | v=>some [v]
mutual
def enc:(c:EC)->c.ty->List V
 | .int k,n=>[.int k n]
 | .bool,b=>[.bool b]
 | .str,s=>[.str s]
 | .sl c,o=>[match o with | none=>nilSl | some l=>.sl c l [] .ro]
 | .prod cs,x=>encs cs x
def encs:(cs:List EC)->EC.tys cs->List V
 | [],_=>[]
 | [c],x=>enc c x
 | c :: d :: cs,x=>enc c x.1++encs (d :: cs) x.2
end
def decInt (k:IntKind):List V->Option (Int × List V)
 | .int a n :: r=>cond (decide (k=a)) (some (n,r)) none
 | _=>none
def decBool:List V->Option (Bool × List V)
 | .bool b :: r=>some (b,r)
 | _=>none
def decStr:List V->Option (List UInt8 × List V)
 | .str s :: r=>some (s,r)
 | _=>none
def C3 {c d:EC} (h:d=c) (l:List d.ty):List c.ty:=h ▸ l
def sG (c:EC) (d:EC) (l:List d.ty):Option (List c.ty):=
 match EC.same d c with
 | some ⟨h⟩=>some (C3 h l)
 | none=>none
def decSl (c:EC):List V->Option (Option (List c.ty) × List V)
 | .val (.slice none 0 0) :: r=>some (none,r)
 | .sl d l _ fl :: r=>cond fl.isMay none ((sG c d l).map fun l=>(some l,r))
 | .gro _ d l :: r=>(sG c d l).map fun l=>(some l,r)
 | _=>none
mutual
def dec:(c:EC)->List V->Option (c.ty × List V)
 | .int k,l=>decInt k l
 | .bool,l=>decBool l
 | .str,l=>decStr l
 | .sl c,l=>decSl c l
 | .prod cs,l=>decs cs l
def decs:(cs:List EC)->List V->Option (EC.tys cs × List V)
 | [],l=>some ((),l)
 | [c],l=>dec c l
 | c :: d :: cs,l=>match dec c l with
  | some (x,r)=>match decs (d :: cs) r with
   | some (y,r)=>some ((x,y),r)
   | none=>none
  | none=>none
end
def HG (c:EC) (l:List V):Option c.ty:=
 match dec c l with
 | some (x,[])=>some x
 | _=>none
def yY (c:EC):List (List V)->Option (List c.ty)
 | []=>some []
 | l :: r=>match HG c l,yY c r with
  | some x,some xs=>some (x :: xs)
  | _,_=>none
inductive TK where
 | scal
 | slice (e:TypeId)
 | st (offs : List (Nat × Nat × Bool))   -- of each field: its offset, its cells, whether it is a struct or an array
 | arr (n:Nat) (e:TypeId)
 deriving Inhabited
structure TI where
 k:TK
 size:Nat
 bytes:Nat
 zero:List V
def isAggB (P:Program) (t:TypeId):Bool:=
 match P.underlying t with
 | some (.struct _) | some (.array _ _)=>true
 | _=>false
def allKnown (P:Program):List Field->Bool
 | []=>true
 | f :: r=>cond (P.underlying f.type).isSome (allKnown P r) false
def knownFields (P:Program):TypeDesc->Bool
 | .struct fs=>allKnown P fs.toList
 | _=>true
def ti (P:Program) (t:TypeId):Option TI:=
 match P.info? t,P.underlying t with
 | some i,some d =>
  let k:TK:=match d with
   | .slice e=>.slice e
   | .struct fs=>.st (fs.toList.map fun f=>(f.offset,P.cellsOf f.type,isAggB P f.type))
   | .array n e=>.arr n e
   | _=>.scal
  match i.zero with
  | some z=>cond (knownFields P d) (some { k,size:=i.size,bytes:=i.bytes,zero:=(z.cells.toList.map ofVal1) }) none
  | none=>none
 | _,_=>none
mutual
def ecOf (P:Program):Nat->TypeId->Option EC
 | 0,_=>none
 | d+1,t=>match P.underlying t with
  | some (.int k)=>some (.int k)
  | some .bool=>some .bool
  | some .string=>some .str
  | some (.slice e)=>(ecOf P d e).map .sl
  | some (.struct fs)=>(ecsOf P d (fs.toList.map (·.type))).map .prod
  | _=>none
def ecsOf (P:Program):Nat->List TypeId->Option (List EC)
 | 0,_=>none
 | _+1,[]=>some []
 | d+1,t :: r=>match ecOf P d t,ecsOf P d r with
  | some c,some cs=>some (c :: cs)
  | _,_=>none
end
def wJ:TK->Bool
 | .st _ | .arr _ _=>true
 | _=>false
def S7 (i:TI) (cells:List V):Option V:=
 cond (wJ i.k)
  (cond (Nat.ble i.size cells.length) (some (.agg (cells.take i.size))) none)
  (match cells with | v :: _=>some v | []=>none)
def oE (H:List O):V->Option (List V)
 | .pin cells=>some cells
 | .ptr id off=>match H[id]? with
  | some (.cells cs _)=>some (cs.drop off)
  | some (.obj (.page _ _ _) a)=>some (a.drop off)
  | _=>none
 | _=>none
def nN (P:Program) (H:List O) (t:TypeId) (a:V):Option V:=
 match ti P t,oE H a with
 | some i,some cells=>S7 i cells
 | _,_=>none
def pJ:List V->Nat->Int
 | [],_=>0
 | v :: _,0=>(match v with | .int _ n=>n | _=>0)
 | _ :: r,m+1=>pJ r m
def n9 (k:IntKind) (cs:List V) (o:Nat):Bool:=
 match cs[o]? with
 | some (.int l _)=>decide (l=k)
 | _=>false
def uR (k:IntKind) (o:Nat) (x:Int) (j:Nat):V->V
 | .int l n=>cond (decide (l=k)) (.int k (cond (Nat.beq j o) x n)) (.int l n)
 | v=>v
def j9 (k:IntKind) (o:Nat) (x:Int):Nat->List V->List V
 | _,[]=>[]
 | j,v :: r=>uR k o x j v :: j9 k o x (j+1) r
def intOf (P:Program) (t:TypeId):Option IntKind:=
 match ti P t,P.underlying t with
 | some i,some (.int k)=>cond (!wJ i.k&&Nat.beq i.size 1) (some k) none
 | _,_=>none
def rV (P:Program) (H:List O) (t:TypeId) (a:V):Tree V:=
 match intOf P t,a with
 | some k,.ptr id off=>match H[id]? with
  | some (.cells cs _)=>.aF (n9 k cs off) (.leaf (.int k (pJ cs off)))
  | some (.obj (.page n l xs) _)=>cond (decide (l=k)) (.aF (Nat.ble n off&&Nat.blt (off - n) xs.length) (.leaf (.int k (xs.getD (off - n) 0)))) .fail
  | _=>.fail
 | _,_=>.fail
def FZ (P:Program) (H:List O) (t:TypeId) (a v:V):Tree (List O):=
 match intOf P t,a,v with
 | some k,.ptr id off,.int l x=>match H[id]? with
  | some (.cells cs e)=>cond (decide (l=k)) (.aF (n9 k cs off) (.leaf (H.set id (.cells (j9 k off x 0 cs) e)))) .fail
  | some (.obj (.page n b xs) c)=>cond (decide (l=k)&&decide (b = k)) (.aF (Nat.ble n off&&Nat.blt (off - n) xs.length) (.leaf (H.set id (.obj (.page n b (xs.set (off - n) x)) c)))) .fail
  | _=>.fail
 | _,_,_=>.fail
def oU (l:List Nat):Operand->Bool
 | .tmp d=>cG d l
 | _=>false
def mL (cs:List V) (off:Nat) (vs:List V):List V:=cs.take off++vs++cs.drop (off+vs.length)
def zD (P:Program) (H:List O) (t:TypeId) (a v:V):Option (List O):=
 match ti P t,v.cells?,a with
 | some i,some vs,.ptr id off=>match H[id]? with
  | some (.cells cs e)=>cond (Nat.beq vs.length i.size&&Nat.ble (off+vs.length) cs.length) (some (H.set id (.cells (mL cs off vs) e))) none
  | some (.obj (.page n k xs) b)=>cond (Nat.beq vs.length i.size&&Nat.ble (off+vs.length) b.length) (some (H.set id (.obj (.page n k xs) (mL b off vs)))) none
  | _=>none
 | _,_,_=>none
def FE (k:IntKind) (x:Int):Nat->List V->Bool
 | 0,[]=>true
 | m+1,.int l y :: r=>cond (decide (l=k)&&decide (y=x)) (FE k x m r) false
 | _,_=>false
def aII:List (Nat × Nat × Bool)->Option (Nat × Nat)
 | []=>none
 | [(off,size,agg)]=>cond (agg&&Nat.blt 64 size) (some (off,size)) none
 | _ :: r=>aII r
def adT (P:Program) (t:TypeId):Option (Nat × Nat):=
 match ti P t with
 | some i=>match i.k with
  | .st a=>aII a
  | _=>none
 | none=>none
def DI (P:Program) (e:TypeId) (cs:List V):O:=
 match adT P e with
 | some (n,m)=>match cs.drop n with
  | .int k x :: r=>cond (FE k x m (.int k x :: r)&&Nat.ble n (cs.take n).length) (.obj (.page n k (List.replicate m x)) (cs.take n)) (.cells cs e)
  | _=>.cells cs e
 | none=>.cells cs e
def GW (agg:Bool) (cells:List V) (off size:Nat):Option V:=
 cond agg (some (.agg ((cells.drop off).take size))) cells[off]?
def US (P:Program) (t:TypeId) (x:V) (f:Nat):Option V:=
 match ti P t,x with
 | some i,.agg cells=>match i.k with
  | .st a=>match a[f]? with
   | some (off,size,agg)=>GW agg cells off size
   | none=>none
  | _=>none
 | _,_=>none
def ES (P:Program) (t:TypeId) (x:V) (f:Nat):Option V:=
 match ti P t with
 | some i=>match i.k with
  | .st a=>match a[f]? with
   | some (off,size,_)=>cond (Nat.beq size 0) none (match x with
    | .ptr id o=>some (.ptr id (o+off))
    | .pin cells=>some (.pin (cells.drop off))
    | _=>none)
   | none=>none
  | _=>none
 | none=>none
def inside (i:Int) (n:Nat):Bool:=decide (0<=i)&&decide (i<n)
def QG (P:Program) (t:TypeId) (x b:V):Tree V:=
 match ti P t,b with
 | some i,.int _ n=>match i.k with
  | .slice e=>match ti P e with
   | some j=>match x with
    | .sl c l _ _=>cond (Nat.beq c.size j.size) (.aF (inside n l.length) (.leaf (.pin (enc c (l.getD n.toNat c.dflt))))) .fail
    | .gro _ c l=>cond (Nat.beq c.size j.size) (.aF (inside n l.length) (.leaf (.pin (enc c (l.getD n.toNat c.dflt))))) .fail
    | .ref id a off len=>cond (Nat.beq a j.size) (.aF (inside n len) (.leaf (.ptr id (off+n.toNat*a)))) .fail
    | _=>.fail
   | none=>.fail
  | .arr len e=>match ti P e with
   | some j=>match x with
    | .ptr id off=>.aF (inside n len) (.leaf (.ptr id (off+n.toNat*j.size)))
    | .pin cells=>.aF (inside n len) (.leaf (.pin (cells.drop (n.toNat*j.size))))
    | _=>.fail
   | none=>.fail
  | _=>.fail
 | _,_=>.fail
def jQ (x:Option V) (a:Int):Option Int:=
 match x with
 | none=>some a
 | some (.int _ n)=>some n
 | _=>none
def sub {α:Type} (l:List α) (lo hi:Nat):List α:=(l.take hi).drop lo
def VQ (P:Program) (H:List O) (t:TypeId) (x:V) (lo hi:Option V):Tree V:=
 match x with
 | .str s=>match P.underlying t,jQ hi s.length,jQ lo 0 with
  | some .string,some h,some l=>.aF (decide (0<=l)&&decide (l<=h)&&decide (h<=s.length)) (.leaf (.str (sub s l.toNat h.toNat)))
  | _,_,_=>.fail
 | x=>match ti P t with
  | some i=>match i.k with
   | .slice e=>match ti P e with
    | some j=>match x with
     | .sl c a spare fl=>match jQ hi a.length,jQ lo 0,hi with
      | some h,some l,none=>.aF (decide (0<=l)&&decide (l<=h)) (cond (Nat.beq c.size j.size) (.leaf (.sl c (a.drop l.toNat) spare fl)) .fail)
      | some h,some l,_=>.aF (decide (0<=l)&&decide (l<=h)&&decide (h<=(a.length+spare.length:Nat)))
        (cond (Nat.beq c.size j.size) (.leaf (.sl c (sub (a++spare) l.toNat h.toNat) ((a++spare).drop h.toNat) fl)) .fail)
      | _,_,_=>.fail
     | .gro _ c a=>match jQ hi a.length,jQ lo 0 with
      | some h,some l=>.aF (decide (0<=l)&&decide (l<=h)&&decide (h<=a.length))
        (cond (Nat.beq c.size j.size) (.leaf (.sl c (sub a l.toNat h.toNat) (a.drop h.toNat) .ro)) .fail)
      | _,_=>.fail
     | .ref id b off len=>match H[id]? with
      | some (.cells _ _)=>match jQ hi len,jQ lo 0 with
       | some h,some l=>.aF (decide (0<=l)&&decide (l<=h)&&decide (h<=len))
         (cond (Nat.beq b j.size) (.leaf (.ref id b (off+l.toNat*b) (h.toNat - l.toNat))) .fail)
       | _,_=>.fail
      | _=>.fail
     | .val (.slice none 0 0)=>match jQ hi 0,jQ lo 0 with
      | some h,some l=>.aF (decide (l=0)&&decide (h=0)) (.leaf nilSl)
      | _,_=>.fail
     | _=>.fail
    | none=>.fail
   | _=>.fail
  | none=>.fail
def chunks (a:Nat):Nat->List V->List (List V)
 | 0,_=>[]
 | n+1,l=>l.take a :: chunks a n (l.drop a)
def aGF (c:EC) (s:List UInt8):Option (List c.ty):=
 match c with
 | .int .u8=>some (s.map fun b=>(b.toNat:Int))
 | _=>none
def aEO (c:EC) (k:IntKind) (l:List Int):Option (List c.ty):=
 match c with
 | .int a => cond (decide (a = k)) (some l) none
 | _=>none
def qQ (c:EC) (H:List O):V->Option (List c.ty)
 | .sl d l _ _=>sG c d l
 | .gro _ d l=>sG c d l
 | .ref id s off len=>match H[id]? with
  | some (.cells cs _)=>cond (Nat.beq s c.size&&Nat.ble (off+len*s) cs.length) (yY c (chunks s len (cs.drop off))) none
  | some (.obj (.page n k l) _)=>cond (Nat.beq s 1&&(Nat.ble n off&&Nat.ble (off - n+len) l.length)) (aEO c k ((l.drop (off - n)).take len)) none
  | _=>none
 | .val (.slice none 0 0)=>some []
 | .str s=>aGF c s
 | _=>none
def roomy (n bytes:Nat):Bool:=decide (n*bytes<=140737488355328)
def grow (H:List O) (c:EC) (bytes:Nat) (s:V) (xs:List c.ty):Tree (V × List O):=
 match s with
 | .val (.slice none 0 0) =>
  .br xs.isEmpty (.leaf (s,H)) (.aF (roomy xs.length bytes) (.leaf (.gro H.length c xs,H++[.tok xs.length c.size])))
 | .sl d l spare fl=>match sG c d l with
  | some l' => .br xs.isEmpty (.leaf (s,H)) (match spare,fl with
   | [],.full=>.aF (roomy (l'.length+xs.length) bytes) (.leaf (.gro H.length c (l' ++ xs),H++[.tok (l'.length+xs.length) c.size]))
   | _,_=>.fail)
  | none=>.fail
 | .gro id d l=>match sG c d l,H[id]? with
  | some l',some (.tok n sz)=>cond (Nat.beq sz c.size) (.aF (decide (n=l'.length)&&roomy (l'.length+xs.length) bytes)
    (.leaf (.gro id c (l' ++ xs),H.set id (.tok (l'.length+xs.length) c.size)))) .fail
  | _,_=>.fail
 | _=>.fail
def yB (P:Program) (argTypes:Array TypeId):Bool:=
 match argTypes[1]? with
 | some t=>match P.underlying t with
  | some (.slice _) | some .string=>true
  | _=>false
 | none=>false
def KT (P:Program) (H:List O) (argTypes:Array TypeId) (s x:V):Tree (V × List O):=
 match argTypes[0]? with
 | some st=>match ti P st with
  | some i=>match i.k with
   | .slice e=>match ti P e,ecOf P 20 e with
    | some j,some c=>cond (Nat.beq c.size j.size&&(Nat.blt 0 j.bytes&&(Nat.beq j.zero.length j.size&&yB P argTypes))) (match qQ c H x with
     | some xs=>grow H c j.bytes s xs
     | none=>.fail) .fail
    | _,_=>.fail
   | _=>.fail
  | none=>.fail
 | none=>.fail
def yI (a:Nat->Option (Nat × Nat)):List (Nat × V)->List V->Option (List V)
 | [],l=>some l
 | (i,v) :: r,l=>match v.cells?,a i with
  | some cs,some (off,size)=>cond (Nat.beq cs.length size&&Nat.ble (off+cs.length) l.length) (yI a r (mL l off cs)) none
  | _,_=>none
def rJ (P:Program) (H:List O) (ref:Bool) (t:TypeId) (len:Nat) (parts:List (Nat × V)):Option (V × List O):=
 match ti P t with
 | some i=>match i.k with
  | .slice e=>match ti P e with
   | some j=>cond (Nat.ble (len*j.size) 16777216&&Nat.beq j.zero.length j.size) (match yI (fun i=>some (i*j.size,j.size)) parts (List.replicate len j.zero).flatten with
    | some es=>cond ref (some (.ref H.length j.size 0 len,H++[.cells es (e+4294967296)]))
     (match ecOf P 20 e with
     | some c=>cond (Nat.beq c.size j.size) ((yY c (chunks j.size len es)).map fun l=>(.sl c l [] .full,H)) none
     | none=>none)
    | none=>none) none
   | none=>none
  | _=>none
 | none=>none
def UD (P:Program) (t:TypeId) (parts:List (Nat × V)):Option V:=
 match ti P t with
 | some i=>match i.k with
  | .st a=>(yI (fun f=>a[f]?.map fun x=>(x.1,x.2.1)) parts i.zero).map .agg
  | .arr _ e=>match ti P e with
   | some j=>(yI (fun f=>some (f*j.size,j.size)) parts i.zero).map .agg
   | none=>none
  | _=>none
 | none=>none
def EO (P:Program) (H:List O) (ref:Bool) (t:TypeId) (len cap:V):Tree (V × List O):=
 match ti P t,len,cap with
 | some i,.int _ l,.int _ c=>match i.k with
  | .slice e=>match ti P e with
   | some j=>.aF (decide (0<=l)&&decide (l<=c)&&roomy c.toNat j.bytes) (cond (Nat.beq j.zero.length j.size&&Nat.blt 0 j.bytes)
     (cond ref (.leaf (.ref H.length j.size 0 l.toNat,H++[.cells (List.replicate l.toNat j.zero).flatten 0]))
      (match ecOf P 20 e with
      | some d=>cond (Nat.beq d.size j.size) (match HG d j.zero with
       | some z=>.leaf (.gro H.length d (List.replicate l.toNat z),H++[.tok l.toNat d.size])
       | none=>.fail) .fail
      | none=>.fail)) .fail)
   | none=>.fail
  | _=>.fail
 | _,_,_=>.fail
def KR (k:IntKind):List V->Bool
 | [.int l n]=>decide (l=k)&&n==0
 | _=>false
def E1 (P:Program) (H:List O) (t:TypeId) (len cap:V):Tree (V × List O):=
 match ti P t,len,cap with
 | some i,.int _ l,.int _ c=>match i.k with
  | .slice e=>match ti P e,intOf P e with
   | some j,some k=>.aF (decide (0<=l)&&decide (l<=c)&&roomy c.toNat j.bytes) (cond (KR k j.zero&&Nat.blt 0 j.bytes)
     (.leaf (.ref H.length 1 0 l.toNat,H++[.obj (.page 0 k (List.replicate c.toNat 0)) []])) .fail)
   | _,_=>.fail
  | _=>.fail
 | _,_,_=>.fail
def RY (H:List O):V->Option (Nat × Nat × List V)
 | .ref id a off len=>match H[id]? with
  | some (.cells cs _)=>cond (Nat.ble (off+len*a) cs.length) (some (a,len,(cs.drop off).take (len*a))) none
  | _=>none
 | .sl (.int k) l _ _=>some (1,l.length,List.map (V.int k) l)
 | _=>none
def R8 (P:Program) (H:List O) (argTypes:Array TypeId) (s x:V):Option (V × List O):=
 match argTypes[0]? with
 | some st=>match ti P st with
  | some i=>match i.k with
   | .slice e=>match ti P e,RY H x with
    | some j,some (sz,n,news)=>cond (Nat.beq sz j.size&&(Nat.blt 0 n&&(vR news&&(Nat.blt 0 j.bytes&&(Nat.beq j.zero.length j.size&&yB P argTypes))))) (match s with
     | .val (.slice none 0 0)=>cond (roomy n j.bytes) (some (.ref H.length sz 0 n,H++[.cells news 0])) none
     | .ref id a 0 len=>match H[id]? with
      | some (.cells cs _)=>cond (Nat.beq a sz&&(Nat.ble (len*sz) cs.length&&roomy (len+n) j.bytes)) (some (.ref H.length sz 0 (len+n),H.set id .dead++[.cells (cs.take (len*sz)++news) 0])) none
      | _=>none
     | _=>none) none
    | _,_=>none
   | _=>none
  | none=>none
 | none=>none
def BF (P:Program) (H:List O) (src dst:TypeId) (x:V):Option V:=
 match P.underlying src,P.underlying dst with
 | some (.slice e),some .string =>
  match P.underlying e with
  | some (.int .u8)=>match x with
   | .str _=>none
   | x=>(qQ (.int .u8) H x).map fun l=>.str (List.map (fun (n:Int)=>UInt8.ofNat n.toNat) l)
  | _=>none
 | some .string,some .string=>match x with
  | .str s=>some (.str s)
  | _=>none
 | some (.int _),some (.int k)=>match x with
  | .int _ n=>some (.int k (k.wrap n))
  | _=>none
 | some (.int _),some .string=>match x with
  | .int _ n=>cond (decide (0<=n)&&decide (n<128)) (some (.str [UInt8.ofNat n.toNat])) none
  | _=>none
 | _,_=>none
def aJ9 (H:List O):V->Option (IntKind × List Int × Bool)
 | .ref id s off len=>match H[id]? with
  | some (.obj (.page n k l) _)=>some (k,(l.drop (off - n)).take len,Nat.beq s 1&&(Nat.ble n off&&Nat.ble (off - n+len) l.length))
  | _=>none
 | _=>none
def al2 (x:Option V):Tree V:=match x with
 | some v=>.leaf v
 | none=>.fail
def QS (P:Program) (H:List O) (src dst:TypeId) (x:V):Tree V:=
 match aJ9 H x with
 | some (k,l,b)=>match P.underlying src,P.underlying dst with
  | some (.slice e),some .string=>match P.underlying e with
   | some (.int .u8)=>cond (decide (k = .u8)) (.aF b (.leaf (.str (List.map (fun (n:Int)=>UInt8.ofNat n.toNat) l)))) .fail
   | _=>.fail
  | _,_=>.fail
 | none=>al2 (BF P H src dst x)
def BW (P:Program) (src dst:TypeId):Bool:=
 match P.underlying src,P.underlying dst with
 | some .string,some (.slice e)=>match P.underlying e with
  | some (.int .u8)=>true
  | _=>false
 | _,_=>false
def RP:V->Option V
 | .str s=>some (.sl (.int .u8) (s.map fun b=>(b.toNat:Int)) [] .ro)
 | _=>none
def aM6 : V->Option Nat
 | .sl _ l _ _=>some l.length
 | .gro _ _ l=>some l.length
 | .ref _ _ _ len=>some len
 | .val (.slice none 0 0)=>some 0
 | .str s=>some s.length
 | _=>none
def L2 (c:BinOp) (k:IntKind) (a b:Int):Tree V:=
 match c with
 | .add=>.leaf (.int k (k.wrap (a+b)))
 | .sub=>.leaf (.int k (k.wrap (a - b)))
 | .mul=>.leaf (.int k (k.wrap (a*b)))
 | .quo=>.aF (!decide (b=0)) (.leaf (.int k (k.wrap (a.tdiv b))))
 | .rem=>.aF (!decide (b=0)) (.leaf (.int k (a.tmod b)))
 | .and=>.leaf (.int k (k.wrap (BitVec.ofInt k.bits a &&& BitVec.ofInt k.bits b).toNat))
 | .or=>.leaf (.int k (k.wrap (BitVec.ofInt k.bits a ||| BitVec.ofInt k.bits b).toNat))
 | .xor=>.leaf (.int k (k.wrap (BitVec.ofInt k.bits a ^^^ BitVec.ofInt k.bits b).toNat))
 | .andNot=>.leaf (.int k (k.wrap (BitVec.ofInt k.bits a &&& ~~~(BitVec.ofInt k.bits b)).toNat))
 | .eql=>.leaf (.bool (a==b))
 | .neq=>.leaf (.bool (a != b))
 | .lss=>.leaf (.bool (decide (a<b)))
 | .leq=>.leaf (.bool (decide (a<=b)))
 | .gtr=>.leaf (.bool (decide (b<a)))
 | .geq=>.leaf (.bool (decide (b<=a)))
 | _=>.fail
def JY (c:BinOp) (k:IntKind) (a b:Int):Tree V:=
 match c with
 | .shl=>.aF (decide (0<=b)) (.leaf (.int k (k.wrap (a*2 ^ (min b.toNat k.bits)))))
 | .shr=>.aF (decide (0<=b)) (.leaf (.int k (a.fdiv (2 ^ (min b.toNat k.bits)))))
 | _=>.fail
def MQ (c:BinOp) (a b:List UInt8):Tree V:=
 match c with
 | .add=>.aF (decide (((a.length+b.length:Nat):Int)<=9223372036854775807)) (.leaf (.str (a++b)))
 | .eql=>.leaf (.bool (a==b))
 | .neq=>.leaf (.bool (!(a==b)))
 | .lss=>.leaf (.bool (Op.bytesLess a b))
 | .leq=>.leaf (.bool (Op.bytesLess a b || a==b))
 | .gtr=>.leaf (.bool (!(Op.bytesLess a b || a==b)))
 | .geq=>.leaf (.bool (!(Op.bytesLess a b)))
 | _=>.fail
def GI:V->V->Option Bool
 | .int k a,.int l b=>cond (decide (k=l)) (some (a==b)) none
 | .bool a,.bool b=>some (a==b)
 | .str a,.str b=>some (a==b)
 | _,_=>none
def nP (P:Program) (t:TypeId) (a:V):Bool:=
 match P.underlying t,a with
 | some (.int _),.int _ _=>true
 | some .bool,.bool _=>true
 | some .string,.str _=>true
 | _,_=>false
def BS (P:Program) (e:TypeId):List V->List V->Option Bool
 | [],[]=>some true
 | a :: r,b :: s=>match BS P e r s with
  | some d=>cond (nP P e a) ((GI a b).map (· && d)) none
  | none=>none
 | _,_=>none
def eqF (P:Program) (f:Field) (x y:List V):Option Bool:=
 match P.underlying f.type with
 | some (.array n e)=>cond (Nat.beq (P.cellsOf e) 1&&(Nat.beq (P.cellsOf f.type) n&&(Nat.ble (f.offset+n) x.length&&(Nat.ble (f.offset+n) y.length&&(!isAggB P e&&((P.info? e).isSome&&(P.info? f.type).isSome))))))
   (BS P e ((x.drop f.offset).take n) ((y.drop f.offset).take n)) none
 | _=>match x[f.offset]?,y[f.offset]? with
  | some a,some b=>cond (nP P f.type a) (GI a b) none
  | _,_=>none
def HY (P:Program) (x y:List V):List Field->Option Bool
 | []=>some true
 | f :: r=>match eqF P f x y,HY P x y r with
  | some a, some d => cond (!(f.name == "_")) (some (a&&d)) none
  | _,_=>none
def X1 (P:Program) (t:TypeId) (x y:List V):Option Bool:=
 match P.underlying t with
 | some (.struct fs)=>cond (!P.stoodInHeld t&&!P.eqGuardType P.depth t) (HY P x y fs.toList) none
 | some (.array n e)=>cond (!P.eqGuardType P.depth t&&(Nat.beq (P.cellsOf e) 1&&(Nat.beq x.length n&&(Nat.beq y.length n&&(P.info? e).isSome)))) (BS P e x y) none
 | _=>none
def ID (P:Program) (d:BinOp) (t c:TypeId) (k:IntKind) (a:Int) (ty:TypeId) (l:IntKind) (b:Int):Tree V:=
 match P.underlying t,P.underlying c,P.info? c with
 | some (.interface _),some (.int _),some i=>cond (Nat.beq c ty&&(i.comparable&&decide (k=l))) (match d with
  | .eql=>.leaf (.bool (a==b))
  | .neq=>.leaf (.bool (!(a==b)))
  | _=>.fail) .fail
 | _,_,_=>.fail
def HJ (P:Program) (d:BinOp) (t:TypeId) (x y:V):Tree V:=
 match x,y with
 | .int k a,.int l b=>match d with
  | .shl | .shr=>JY d k a b
  | _=>cond (decide (k=l)) (L2 d k a b) .fail
 | .str a,.str b=>MQ d a b
 | .bool a,.bool b=>match P.underlying t,d with
  | some .bool,.eql=>.leaf (.bool (a==b))
  | some .bool,.neq=>.leaf (.bool (!(a==b)))
  | _,_=>.fail
 | .agg a,.agg b=>match d,X1 P t a b with
  | .eql,some c=>.leaf (.bool c)
  | .neq,some c=>.leaf (.bool (!c))
  | _,_=>.fail
 | x,.val (.slice none _ _)=>match P.underlying t with
  | some (.slice _)=>match x,d with
   | .sl _ _ _ .may,_=>.fail
   | .sl _ _ _ _,.eql | .gro _ _ _,.eql | .ref _ _ _ _,.eql=>.leaf (.bool false)
   | .sl _ _ _ _,.neq | .gro _ _ _,.neq | .ref _ _ _ _,.neq=>.leaf (.bool true)
   | .val (.slice none _ _),.eql=>.leaf (.bool true)
   | .val (.slice none _ _),.neq=>.leaf (.bool false)
   | _,_=>.fail
  | _=>.fail
 | x,.val (.pointer none)=>match P.underlying t with
  | some (.pointer _)=>match x,d with
   | .ptr _ _,.eql | .pin _,.eql=>.leaf (.bool false)
   | .ptr _ _,.neq | .pin _,.neq=>.leaf (.bool true)
   | .val (.pointer none),.eql=>.leaf (.bool true)
   | .val (.pointer none),.neq=>.leaf (.bool false)
   | _,_=>.fail
  | _=>.fail
 | x,.val .nilIface=>match P.underlying t with
  | some (.interface ms)=>cond ms.isEmpty (match x,d with
   | .ifc _ _,.eql=>.leaf (.bool false)
   | .ifc _ _,.neq=>.leaf (.bool true)
   | .val .nilIface,.eql=>.leaf (.bool true)
   | .val .nilIface,.neq=>.leaf (.bool false)
   | _,_=>.fail) .fail
  | _=>.fail
 | .ifc e (.int k a),.ifc ty (.int l b)=>ID P d t e k a ty l b
 | _,_=>.fail
def H5 (P:Program) (a:BinOp) (t:TypeId) (x:V):Tree V:=
 match P.underlying t,x,a with
 | some (.interface _),.ifc _ _,.eql=>.leaf (.bool false)
 | some (.interface _),.ifc _ _,.neq=>.leaf (.bool true)
 | some (.interface _),.val .nilIface,.eql=>.leaf (.bool true)
 | some (.interface _),.val .nilIface,.neq=>.leaf (.bool false)
 | _,_,_=>.fail
def LX:Operand->Bool
 | .const .nilIface=>true
 | _=>false
def oUn (a:UnOp) (x:V):Option V:=
 match a,x with
 | .neg,.int k n=>some (.int k (k.wrap (0 - n)))
 | .xor,.int k n=>some (.int k (k.wrap (BitVec.ofInt k.bits (if k.signed then -1 else k.max) ^^^ BitVec.ofInt k.bits n).toNat))
 | .not,.bool b=>some (.bool !b)
 | _,_=>none
def VM (P:Program) (t:TypeId) (x a:V):Tree V:=
 match x,a with
 | .str s,.int _ n=>match P.underlying t with
  | some .string=>.aF (inside n s.length) (.leaf (.int .u8 ((s.getD n.toNat 0).toNat:Int)))
  | _=>.fail
 | .agg cells,.int _ n=>match ti P t with
  | some i=>match i.k with
   | .arr len e=>match ti P e with
    | some j=>.aF (inside n len) (match GW (wJ j.k) cells (n.toNat*j.size) j.size with
     | some v=>.leaf v
     | none=>.fail)
    | none=>.fail
   | _=>.fail
  | none=>.fail
 | _,_=>.fail
mutual
def V.pure? : V->Option V
 | .int k n=>some (.int k n)
 | .bool b=>some (.bool b)
 | .str s=>some (.str s)
 | .val x=>some (.val x)
 | .pin c=>some (.pin c)
 | .sl a b c d=>some (.sl a b c d)
 | .gro _ c l=>some (.sl c l [] .ro)
 | .ptr _ _=>some .any
 | .ref _ _ _ _=>some .any
 | .mp _=>some .any
 | .rng _ _ _=>some .any
 | .agg cs=>(V.pures? cs).map .agg
 | .tup cs=>(V.pures? cs).map .tup
 | .ifc t v=>(V.pure? v).map (.ifc t)
 | .clo f a b=>match V.pures? a,V.pures? b with
  | some a,some b=>some (.clo f a b)
  | _,_=>none
 | .any=>some .any
def V.pures? : List V->Option (List V)
 | []=>some []
 | v :: r=>match V.pure? v,V.pures? r with
  | some v,some r=>some (v :: r)
  | _,_=>none
end
inductive Res where
 | ok (v:V) (H:List O)
 | pan (v:V) (H:List O)
abbrev Spec:=List V->Tree V
abbrev MSpec:=List V->List O->Tree Res
abbrev RSpec:=List V->List O->Tree V
structure Cx where
 P:Program
 n:Nat
 tab:List (Nat × Spec)
 mtab:List (Nat × MSpec)
 refs:List Nat
 keeps:List Nat
 fuel:Nat:=0
 rtab:List (Nat × RSpec):=[]
 globs:List (Nat × List V):=[]
 lz:List Nat:=[]
 nums:List Nat:=[]
 still:List Nat:=[]
def look (f:Nat):List (Nat × Spec)->Spec
 | [],_=>.fail
 | (g,s) :: r,as=>cond (Nat.beq f g) (s as) (look f r as)
def G1 (f:Nat):List (Nat × MSpec)->MSpec
 | [],_,_=>.fail
 | (g,s) :: r,as,H=>cond (Nat.beq f g) (s as H) (G1 f r as H)
def MZ (f:Nat):List (Nat × RSpec)->RSpec
 | [],_,_=>.fail
 | (g,s) :: r,as,H=>cond (Nat.beq f g) (s as H) (MZ f r as H)
def fR {α:Type} (f:Nat):List (Nat × α)->Bool
 | []=>false
 | (g,_) :: r=>cond (Nat.beq f g) true (fR f r)
mutual
def V.ren? (f:Nat->Option Nat):V->Option V
 | .int k n=>some (.int k n)
 | .bool b=>some (.bool b)
 | .str s=>some (.str s)
 | .val x=>some (.val x)
 | .pin c=>some (.pin c)
 | .sl a b c d=>some (.sl a b c d)
 | .gro id c l=>match f id with
  | some j=>some (.gro j c l)
  | none=>none
 | .ptr id off=>match f id with
  | some j=>some (.ptr j off)
  | none=>none
 | .ref id e off len=>match f id with
  | some j=>some (.ref j e off len)
  | none=>none
 | .mp id=>match f id with
  | some j=>some (.mp j)
  | none=>none
 | .agg cs=>match V.rens? f cs with
  | some cs=>some (.agg cs)
  | none=>none
 | .tup cs=>match V.rens? f cs with
  | some cs=>some (.tup cs)
  | none=>none
 | .ifc t v=>match V.ren? f v with
  | some v=>some (.ifc t v)
  | none=>none
 | .clo g a b=>match V.rens? f a,V.rens? f b with
  | some a,some b=>some (.clo g a b)
  | _,_=>none
 | .rng k lo hi=>some (.rng k lo hi)
 | .any=>some .any
def V.rens? (f:Nat->Option Nat):List V->Option (List V)
 | []=>some []
 | v :: r=>match V.ren? f v,V.rens? f r with
  | some v,some r=>some (v :: r)
  | _,_=>none
end
def O.ren? (f:Nat->Option Nat):O->Option O
 | .cells cs e=>match V.rens? f cs with
  | some cs=>some (.cells cs e)
  | none=>none
 | .tok n a=>some (.tok n a)
 | .obj sh vs=>match V.rens? f vs with
  | some vs=>some (.obj sh vs)
  | none=>none
 | .dead=>some .dead
def eA (f:Nat->Option Nat):List O->Option (List O)
 | []=>some []
 | o :: r=>match O.ren? f o,eA f r with
  | some o,some r=>some (o :: r)
  | _,_=>none
mutual
def V.ids:V->List Nat
 | .gro id _ _=>[id]
 | .ptr id _=>[id]
 | .ref id _ _ _=>[id]
 | .mp id=>[id]
 | .agg cs=>V.idss cs
 | .tup cs=>V.idss cs
 | .ifc _ v=>V.ids v
 | .clo _ a b=>V.idss a++V.idss b
 | _=>[]
def V.idss:List V->List Nat
 | []=>[]
 | v :: r=>V.ids v++V.idss r
end
def akQ:Option O->List Nat
 | some (.cells cs _)=>V.idss cs
 | some (.obj _ vs)=>V.idss vs
 | _=>[]
def reach (H:List O):Nat->List Nat->List Nat->List Nat
 | 0,_,acc=>acc
 | _+1,[],acc=>acc
 | f+1,i :: r,acc=>cond (cG i acc) (reach H f r acc) (reach H f (r++akQ H[i]?) (acc++[i]))
def place (i:Nat):List Nat->Option Nat
 | []=>none
 | j :: r=>cond (Nat.beq i j) (some 0) (match place i r with | some k=>some (k+1) | none=>none)
def eJ (σ:List Nat) (n:Nat) (j:Nat):Option Nat:=
 match σ[j]? with
 | some i=>some i
 | none=>some (n+(j - σ.length))
def gQ (H:List O):List Nat->Option (List O)
 | []=>some []
 | i :: r=>match H[i]?,gQ H r with
  | some o,some os=>some (o :: os)
  | _,_=>none
def bQ {α:Type}:List α->List Nat->List α->List α
 | H,i :: σ,o :: os=>bQ (H.set i o) σ os
 | H,_,os=>H++os
def fU:List Nat->Bool
 | []=>true
 | i :: r=>cond (cG i r) false (fU r)
def vO (H:List O) (σ:List Nat) (v:V) (a:List O) (k:V->List O->Res):Tree Res:=
 match V.ren? (eJ σ H.length) v,eA (eJ σ H.length) a with
 | some v,some a=>cond (Nat.ble σ.length a.length) (.leaf (k v (bQ H σ a))) .fail
 | _,_=>.fail
def NS (H:List O) (σ:List Nat):Res->Tree Res
 | .ok v a=>match V.ren? (fun j=>σ[j]?) v,eA (fun j=>σ[j]?) a with
  | some v,some a=>cond (Nat.beq σ.length a.length) (.leaf (.ok v (bQ H σ a))) .fail
  | _,_=>.fail
 | .pan _ _=>.fail
def G8 (cx:Cx) (H:List O) (f:Nat) (args:List V):Tree Res:=
 let σ:=reach H 64 (V.idss args) []
 match gQ H σ with
 | some os=>match V.rens? (fun i=>place i σ) args,eA (fun i=>place i σ) os with
  | some as,some Hs=>cond (fU σ) ((G1 f cx.mtab as Hs).bind (NS H σ)) .fail
  | _,_=>.fail
 | none=>.fail
def zA (cx:Cx) (H:List O) (f:Nat) (args:List V):Tree Res:=
 let σ:=reach H 64 (V.idss args) []
 match gQ H σ with
 | some os=>match V.rens? (fun i=>place i σ) args,eA (fun i=>place i σ) os with
  | some as,some Hs=>cond (fU σ) ((G1 f cx.mtab as Hs).bind fun r=>match r with
   | .ok v a=>vO H σ v a .ok
   | .pan v a=>vO H σ v a .pan) .fail
  | _,_=>.fail
 | none=>.fail
def zR (cx:Cx) (H:List O) (f:Nat) (args:List V):Tree Res:=cond (cG f cx.still) (G8 cx H f args) (zA cx H f args)
def V.isInt:V->Bool
 | .int _ _=>true
 | _=>false
def AA (cx:Cx) (f:Nat) (v:V) (H:List O):Tree Res:=cond (cG f cx.nums&&!V.isInt v) .fail (.leaf (.ok v H))
def lO (cx:Cx) (H:List O) (f:Nat) (args:List V):Tree Res:=
 let σ:=reach H 64 (V.idss args) []
 match gQ H σ with
 | some os=>match V.rens? (fun i=>place i σ) args,eA (fun i=>place i σ) os with
  | some as,some Hs=>cond (fU σ) ((MZ f cx.rtab as Hs).bind fun v=>match V.ren? (fun j=>σ[j]?) v with
   | some v=>AA cx f v H
   | none=>.fail) .fail
  | _,_=>.fail
 | none=>.fail
def zP (cx:Cx) (H:List O) (f:Nat) (args:List V):Tree Res:=
 match V.pures? args with
 | some as=>(look f cx.tab as).bind fun v=>.leaf (.ok v H)
 | none=>.fail
def lM (cx:Cx) (H:List O) (f:Nat) (args:List V):Tree Res:=
 cond (fR f cx.mtab) (zR cx H f args) (cond (fR f cx.rtab) (lO cx H f args) (zP cx H f args))
def oN (cx:Cx) (H:List O) (f:V) (args:List V):Tree Res:=
 match f with
 | .val (.func (.func g) first captured)=>cond (Nat.beq first.size 0&&Nat.beq captured.size 0) (lM cx H g args) .fail
 | .clo (.func g) first captured=>lM cx H g (first++args++captured)
 | _=>.fail
def ZD (x y:V):Option V:=
 match x,y with
 | .int k a,.int l b=>cond (decide (k=l)) (some (.int k (if b > a then b else a))) none
 | _,_=>none
def YU (x y:V):Option V:=
 match x,y with
 | .int k a,.int l b=>cond (decide (k=l)) (some (.int k (if b<a then b else a))) none
 | _,_=>none
def hold (H:List O) (v:V):Tree Res:=.leaf (.ok v H)
def kJ (H:List O) (v:Option V):Tree Res:=match v with | some v=>.leaf (.ok v H) | none=>.fail
def both (x:V × List O):Tree Res:=.leaf (.ok x.1 x.2)
def sB (x:Option (V × List O)):Tree Res:=match x with | some x=>.leaf (.ok x.1 x.2) | none=>.fail
def YG (P:Program) (argTypes:Array TypeId) (x:V):Option V:=
 match argTypes[0]? with
 | some t=>match P.underlying t,x with
  | some .string,.str s=>some (.int .i64 s.length)
  | some (.slice _),.str _=>none
  | some (.slice _),x=>match aM6 x with
   | some n=>some (.int .i64 (n:Int))
   | none=>none
  | some (.array n _),_=>some (.int .i64 n)
  | _,_=>none
 | none=>none
def mapArg (P:Program) (argTypes:Array TypeId):Bool:=
 match argTypes[0]? with
 | some t=>match P.underlying t with
  | some (.map _ _)=>true
  | _=>false
 | none=>false
def G5 (P:Program) (H:List O) (argTypes:Array TypeId) (x:V):Option V:=
 cond (mapArg P argTypes) (match x with
  | .mp id=>match H[id]? with
   | some (.obj (.map keys) _)=>some (.int .i64 (keys.length:Int))
   | _=>none
  | _=>none) (YG P argTypes x)
def ZS (P:Program) (H:List O) (argTypes:Array TypeId) (x:V):Option V:=
 match argTypes[0]? with
 | some t=>match P.underlying t with
  | some (.slice _)=>match x with
   | .ref id a off len=>match H[id]? with
    | some (.cells cs e)=>cond (Nat.ble 4294967296 e&&(Nat.beq off 0&&(Nat.beq (len*a) cs.length&&Nat.blt 0 a))) (some (.int .i64 (len:Int))) none
    | _=>none
   | .val (.slice none 0 0)=>some (.int .i64 0)
   | _=>none
  | _=>none
 | none=>none
def KB (cx:Cx) (H:List O) (b:Builtin) (argTypes:Array TypeId) (args:List V):Tree Res:=
 match b,args with
 | .append,[s,x]=>(KT cx.P H argTypes s x).bind both
 | .len,[x]=>kJ H (G5 cx.P H argTypes x)
 | .cap,[x]=>kJ H (ZS cx.P H argTypes x)
 | .max,[x,y]=>kJ H (ZD x y)
 | .min,[x,y]=>kJ H (YU x y)
 | .panic,[.ifc t v]=>.leaf (.pan (.ifc t v) H)
 | _,_=>.fail
def WQ (o:Oper) (l:List Nat):Bool:=match o.dst with | some d=>cG d l | none=>false
def IG (cx:Cx) (o:Oper):Builtin->Bool
 | .append=>(match o.dst with | some d=>cG d cx.refs | none=>false)
 | _=>false
def aOT (cx:Cx) (H:List O) (argTypes:Array TypeId):List V->Tree Res
 | [s,x]=>sB (R8 cx.P H argTypes s x)
 | _=>.fail
def aN9 (c:Bool) (a b:V):Tree V:=
 match a,b with
 | .bool a,.bool b=>.leaf (.bool (cond c a b))
 | a,b=>.br c (.leaf a) (.leaf b)
def G3 (z:V) (f:V->Bool->V):List Int->List V->Int->Tree V
 | k :: ks,v :: vs,n=>.br (n==k) (.leaf (f v true)) (G3 z f ks vs n)
 | [],[],_=>.leaf (f z false)
 | _,_,_=>.fail
def okV (ok:Bool) (v:V) (b:Bool):V:=cond ok (.tup [v,.bool b]) v
def KO (P:Program) (t:TypeId):Bool:=
 match P.info? t with
 | some i=>match i.zero with
  | some (.pointer none)=>true
  | _=>false
 | none=>false
def CZ (P:Program) (t:TypeId):Bool:=
 match P.underlying t with
 | some (.int .u64)=>true
 | _=>false
def TZ (P:Program) (H:List O) (t:TypeId) (x a:V) (ok:Bool):Tree V:=
 match P.underlying t with
 | some (.map kt et)=>match a,x with
  | .int .u64 n,.mp id=>match H[id]? with
   | some (.obj (.map keys) vs)=>cond (CZ P kt&&KO P et) (G3 (.val (.pointer none)) (okV ok) keys vs n) .fail
   | _=>.fail
  | _,_=>.fail
 | _=>.fail
def HO (n:Int) (v:V):List Int->List V->Tree (List Int × List V)
 | k :: ks,u :: us=>.br (n==k) (.leaf (k :: ks,v :: us)) (.br (decide (n<k)) (.leaf (n :: k :: ks,v :: u :: us)) ((HO n v ks us).bind fun p=>.leaf (k :: p.1,u :: p.2)))
 | [],[]=>.leaf ([n],[v])
 | _,_=>.fail
def QK (P:Program) (H:List O) (t:TypeId) (m k v:V):Tree (List O):=
 match P.underlying t with
 | some (.map kt _)=>match k,m with
  | .int .u64 n,.mp id=>match H[id]? with
   | some (.obj (.map keys) vs)=>cond (CZ P kt&&Nat.beq vs.length keys.length) ((HO n v keys vs).bind fun p=>.leaf (H.set id (.obj (.map p.1) p.2))) .fail
   | _=>.fail
  | _,_=>.fail
 | _=>.fail
def V9 (P:Program) (H:List O) (t:TypeId) (x:V):Tree Res:=
 match P.underlying t,x with
 | some .string,.str s=>.leaf (.ok (.ptr H.length 0) (H++[.obj (.siter s 0) []]))
 | _,_=>.fail
def W8 (H:List O) (it:V):Tree Res:=
 match it with
 | .ptr id off=>match H[id]? with
  | some (.obj (.siter s pos) _)=>cond (Nat.beq off 0) (.br (decide (pos<s.length))
    (.aF (decide ((s.getD pos 0).toNat<128)) (.leaf (.ok (.tup [.bool true,.int .i64 (pos:Int),.int .i32 ((s.getD pos 0).toNat:Int)]) (H.set id (.obj (.siter s (pos+1)) [])))))
    (.leaf (.ok (.tup [.bool false]) H))) .fail
  | _=>.fail
 | _=>.fail
def aP (cx:Cx) (t:T) (H:List O) (o:Oper):Tree Res:=
 match o.op with
 | .move x | .assign x=>hold H (rd t x)
 | .pick c a b=>match rd t c with
  | .bool c=>(aN9 c (rd t a) (rd t b)).bind (hold H)
  | _=>.fail
 | .alloc e=>match ti cx.P e with
  | some i=>.leaf (.ok (.ptr H.length 0) (H++[.cells i.zero e]))
  | none=>.fail
 | .box e x=>match (rd t x).cells? with
  | some cs=>.leaf (.ok (.ptr H.length 0) (H++[DI cx.P e cs]))
  | none=>.fail
 | .build ty parts=>kJ H (UD cx.P ty (parts.toList.map fun p=>(p.1,rd t p.2)))
 | .buildSlice ty len parts=>sB (rJ cx.P H (match o.dst with | some d=>cG d cx.refs | none=>false) ty len (parts.toList.map fun p=>(p.1,rd t p.2)))
 | .load ty a=>cond (oU cx.lz a) ((rV cx.P H ty (rd t a)).bind (hold H)) (kJ H (nN cx.P H ty (nV cx.globs t a)))
 | .store ty a v=>cond (oU cx.lz a) ((FZ cx.P H ty (rd t a) (rd t v)).bind fun H=>.leaf (.ok .any H)) (match zD cx.P H ty (rd t a) (rd t v) with
  | some H=>.leaf (.ok .any H)
  | none=>.fail)
 | .nilCheck x=>match rd t x with
  | .ptr id off=>hold H (.ptr id off)
  | .pin cells=>hold H (.pin cells)
  | _=>.fail
 | .binOp op ty x y _=>(cond (LX y) (H5 cx.P op ty (rd t x)) (HJ cx.P op ty (rd t x) (rd t y))).bind (hold H)
 | .unOp op _ x=>kJ H (oUn op (rd t x))
 | .convert src dst x=>cond (BW cx.P src dst) (kJ H (RP (rd t x))) ((QS cx.P H src dst (rd t x)).bind (hold H))
 | .makeFunc fn first captured=>hold H (.clo fn (first.toList.map (rd t)) (captured.toList.map (rd t)))
 | .makeSlice ty l c=>cond (WQ o cx.lz) ((E1 cx.P H ty (rd t l) (rd t c)).bind both) ((EO cx.P H (match o.dst with | some d=>cG d cx.refs | none=>false) ty (rd t l) (rd t c)).bind both)
 | .slice ty x lo hi none=>(VQ cx.P H ty (rd t x) (lo.map (rd t)) (hi.map (rd t))).bind (hold H)
 | .fieldAddr ty x f=>kJ H (ES cx.P ty (rd t x) f)
 | .field ty x f=>kJ H (US cx.P ty (rd t x) f)
 | .indexAddr ty x i=>(QG cx.P ty (nV cx.globs t x) (rd t i)).bind (hold H)
 | .index ty x i=>(VM cx.P ty (rd t x) (rd t i)).bind (hold H)
 | .extract x i=>match rd t x with
  | .tup vs=>kJ H vs[i]?
  | _=>.fail
 | .makeInterface ty x=>match cx.P.underlying ty with
  | some (.interface _)=>.fail
  | some _=>hold H (.ifc ty (rd t x))
  | none=>.fail
 | .typeAssert x _ as ok=>match rd t x,cx.P.underlying as with
  | .ifc _ _,some (.interface _)=>.fail
  | .ifc ty v,some _=>cond (Nat.beq ty as) (hold H (cond ok (.tup [v,.bool true]) v)) .fail
  | _,_=>.fail
 | .panic x=>match rd t x with
  | .ifc ty v=>.leaf (.pan (.ifc ty v) H)
  | _=>.fail
 | .makeMap _ none=>.leaf (.ok (.mp H.length) (H++[.obj (.map []) []]))
 | .lookup ty x i ok=>(TZ cx.P H ty (rd t x) (rd t i) ok).bind (hold H)
 | .mapUpdate ty m k x=>(QK cx.P H ty (rd t m) (rd t k) (rd t x)).bind fun H=>.leaf (.ok .any H)
 | .range ty x=>V9 cx.P H ty (rd t x)
 | .next it g=>cond g (W8 H (rd t it)) .fail
 | .call { callee:=.builtin b,args,argTypes }=>cond (IG cx o b) (aOT cx H argTypes (args.toList.map (rd t))) (KB cx H b argTypes (args.toList.map (rd t)))
 | .call { callee:=.value f,args,.. }=>oN cx H (rd t f) (args.toList.map (rd t))
 | _=>.fail
def wV (n:Nat) (dst:Option Tmp) (v:V) (t:T):Option T:=
 match dst with
 | some d=>cond (Nat.blt d n) (some (put d v t)) none
 | none=>some t
inductive AEx where
 | normal
 | exit (id:Nat)
 | ret
 | panic (v:V)
abbrev St:=AEx × T × List O
def kI (cx:Cx) (o:Oper) (v:V) (t:T) (H:List O) (k:T->List O->Tree St):Tree St:=
 match wV cx.n o.dst v t with
 | some t=>k t H
 | none=>.fail
def mV (cx:Cx) (o:Oper) (t:T) (k:T->List O->Tree St):Res->Tree St
 | .ok v H=>kI cx o v t H k
 | .pan v H=>.leaf (.panic v,t,H)
def zG (cx:Cx) (ops:Array Oper) (o:Oper) (t:T) (H:List O) (k:T->List O->Tree St):Tree St:=
 match o.guard with
 | none=>(aP cx t H o).bind (mV cx o t k)
 | some (j,want)=>match (ops[j]?).bind (·.dst) with
  | some d=>match get d t with
   | .bool b=>.br b
    (cond want ((aP cx (put d (.bool true) t) H o).bind (mV cx o (put d (.bool true) t) k)) (kI cx o lJ (put d (.bool true) t) H k))
    (cond want (kI cx o lJ (put d (.bool false) t) H k) ((aP cx (put d (.bool false) t) H o).bind (mV cx o (put d (.bool false) t) k)))
   | .val (.tuple _)=>kI cx o lJ t H k
   | _=>.fail
  | none=>.fail
def dD (cx:Cx) (ops:Array Oper):List Oper->T->List O->Tree St
 | [],t,H=>.leaf (.normal,bC cx.keeps t,H)
 | o :: r,t,H=>zG cx ops o t H (dD cx ops r)
def calm (cx:Cx) (o:Oper):Bool:=
 match o.op with
 | .move _ | .assign _ | .pick .. | .build .. | .nilCheck _ | .binOp .. | .unOp .. | .makeFunc .. | .fieldAddr .. | .field .. | .indexAddr .. | .index .. | .extract .. | .makeInterface .. => true
 | .buildSlice .. => (match o.dst with
  | some d=>!(cG d cx.refs)
  | none=>true)
 | .call { callee:=.value (.func g),.. }=>!(fR g cx.mtab)&&!(fR g cx.rtab)
 | .call { callee:=.value _,.. }=>Nat.beq cx.mtab.length 0&&Nat.beq cx.rtab.length 0
 | .call { callee:=.builtin .len,argTypes,.. }=>!(mapArg cx.P argTypes)
 | .call { callee:=.builtin .max,.. } | .call { callee:=.builtin .min,.. }=>true
 | _=>false
def quiet (cx:Cx) (o:Oper):Bool:=
 calm cx o || match o.op with
 | .load .. | .slice _ _ _ _ none=>true
 | .call { callee:=.builtin .len,.. }=>true
 | .convert src dst _=>!(BW cx.P src dst)
 | .call { callee:=.value (.func g),.. }=>!(fR g cx.mtab)&&fR g cx.rtab
 | .call { callee:=.value _,.. }=>Nat.beq cx.mtab.length 0
 | _=>false
def mP (o:Oper):Bool:=match o.op with | .load .. => true | _=>false
def MX (o:Oper):Bool:=match o.op with | .alloc _ | .box .. | .makeSlice .. | .buildSlice .. => true | _=>false
def VA (cx:Cx) (o:Oper):Bool:=match o.op with
 | .call { callee:=.value _,.. }=>Nat.beq cx.mtab.length 0
 | _=>false
def SI (cx:Cx) (o:Oper):Bool:=match o.op with
 | .call { callee:=.value (.func g),.. }=>fR g cx.mtab&&cG g cx.still
 | _=>false
def SL (o:Oper):Bool:=match o.op with | .alloc _=>true | _=>false
def isApp (cx:Cx) (o:Oper):Bool:=match o.op with | .call { callee:=.builtin .append,.. }=>!(IG cx o .append) | _=>false
def yV (cx:Cx) (x y:Oper):Bool:=
 calm cx x || (calm cx y || ((quiet cx x&&quiet cx y) || ((mP x&&MX y) || ((mP x&&isApp cx y) || ((isApp cx x&&mP y) || ((VA cx x&&MX y) || (SI cx x&&SL y)))))))
def kY:List Oper->List (List Nat)->List (List Nat)
 | [],acc=>acc
 | o :: r,acc=>kY r (acc++[o.after.toList.foldl (fun l e=>cond (Region.binds .any e) (union1 (e.on :: acc.getD e.on []) l) l) []])
where
 union1:List Nat->List Nat->List Nat
  | [],l=>l
  | n :: r,l=>cond (cG n l) (union1 r l) (union1 r (n :: l))
def wP:Nat->List Oper->Bool
 | _,[]=>true
 | j,o :: r=>o.after.toList.all (fun e=>!Region.binds .any e || Nat.blt e.on j)&&wP (j+1) r
def LK (cx:Cx) (ops:Array Oper) (a:List (List Nat)):Nat->Bool
 | 0=>true
 | j+1=>(List.range j).all (fun i=>cG i (a.getD j []) || (match ops[i]?,ops[j]? with
  | some x,some y=>x.apart ops y&&yV cx x y
  | _,_=>true))&&LK cx ops a j
def y8 (cx:Cx) (ops:Array Oper):Bool:=
 cx.P.follows .mixedOrders&&(wP 0 ops.toList&&LK cx ops (kY ops.toList []) ops.size)
def sD (o:Oper):Option Operand:=match o.op with
 | .store _ a _=>some a
 | .load _ a=>some a
 | _=>none
def FB (o:Oper):Option Nat:=
 match o.guard with
 | none=>match o.op with
  | .fieldAddr _ (.tmp c) _=>some c
  | .nilCheck (.tmp c)=>some c
  | .move (.tmp c)=>some c
  | _=>none
 | some _=>none
abbrev lN:=List (Nat × Nat)
def rootOf (d:Nat):lN->Option Nat
 | []=>none
 | (e,i) :: r=>cond (Nat.beq d e) (some i) (rootOf d r)
def agS:V->Option Nat
 | .ptr i _=>some i
 | _=>none
def GM:T->lN
 | []=>[]
 | (d,v) :: r=>match agS v with
  | some i=>(d,i) :: GM r
  | none=>GM r
def BZ:List Oper->lN->lN
 | [],S=>S
 | o :: r,S=>match o.dst,FB o with
  | some d,some c=>match rootOf c S with
   | some i=>BZ r ((d,i) :: S)
   | none=>BZ r S
  | _,_=>BZ r S
def GH (i:Nat):V->Bool
 | .any=>true
 | .ptr j _=>Nat.beq j i
 | _=>false
def isRoot (S:lN) (i:Nat):Option Nat->Bool
 | some c=>match rootOf c S with
  | some j=>Nat.beq j i
  | none=>false
 | none=>false
def pC (d:Nat):Option Tmp->Bool
 | some e=>!(Nat.beq e d)
 | none=>true
def aI4 (ops:Array Oper) (t:T) (S:lN):Bool:=
 S.all fun p=>GH p.2 (get p.1 t)&&ops.toList.all fun o=>pC p.1 o.dst || isRoot S p.2 (FB o)
def Z8 (S:lN) (x y:Oper):Bool:=
 match sD x,sD y with
 | some (.tmp a),some (.tmp b)=>match rootOf a S,rootOf b S with
  | some i,some j=>!(Nat.beq i j)
  | _,_=>false
 | _,_=>false
def MC (cx:Cx) (o:Oper):Option (List Operand):=match o.op with
 | .call { callee:=.value (.func g),args,.. }=>cond (fR g cx.mtab) (some args.toList) none
 | _=>none
def yN (ops:Array Oper):Operand->Bool
 | .tmp d=>ops.toList.all fun o=>pC d o.dst
 | _=>true
def FK (cx:Cx) (ops:Array Oper) (t:T) (d:Nat) (o:Oper) (acc:Option (List V)):Option (List V):=
 match acc with
 | none=>none
 | some l=>cond (pC d o.dst) (some l) (match o.guard,o.op with
  | none,.move y=>cond (yN ops y) (some (rd t y :: l)) none
  | none,.binOp .. => some (.any :: l)
  | none,.load _ a=>cond (oU cx.lz a) (some (.any :: l)) none
  | none,.call { callee:=.value (.func g),.. }=>cond (cG g cx.nums&&(fR g cx.rtab&&!(fR g cx.mtab))) (some (.any :: l)) none
  | _,_=>none)
def tJ (cx:Cx) (ops:Array Oper) (t:T):Operand->Option (List V)
 | .tmp d=>ops.toList.foldr (FK cx ops t d) (some [get d t])
 | x=>some [rd t x]
def KN (cx:Cx) (ops:Array Oper) (t:T):List Operand->Option (List (List V))
 | []=>some [[]]
 | x :: r=>match tJ cx ops t x,KN cx ops t r with
  | some l,some m=>some (l.flatMap fun v=>m.map fun vs=>v :: vs)
  | _,_=>none
def J6 (cx:Cx) (ops:Array Oper) (S:lN) (t:T) (H:List O) (x y:Oper):Bool:=
 mP x&&(match sD x,MC cx y with
  | some (.tmp a),some as=>(match rootOf a S,KN cx ops t as with
   | some i,some m=>Nat.blt i H.length&&m.all fun vs=>!(cG i (reach H 64 (V.idss vs) []))
   | _,_=>false)
  | _,_=>false)
def aI6 (cx:Cx) (ops:Array Oper) (i j:Nat):Bool:=
 (List.range j).all fun k=>Nat.beq k i || (match ops[k]? with
  | some o=>quiet cx o
  | none=>true)
def a2J (cx:Cx) (ops:Array Oper) (S:lN) (t:T) (H:List O) (i j:Nat) (x y:Oper):Bool:=
 aI6 cx ops i j&&(J6 cx ops S t H x y || J6 cx ops S t H y x)
def JX (cx:Cx) (ops:Array Oper) (a:List (List Nat)) (S:lN) (t:T) (H:List O):Nat->Bool
 | 0=>true
 | j+1=>(List.range j).all (fun i=>cG i (a.getD j []) || (match ops[i]?,ops[j]? with
  | some x,some y=>x.apart ops y&&(yV cx x y || (Z8 S x y || a2J cx ops S t H i j x y))
  | _,_=>true))&&JX cx ops a S t H j
def yW (cx:Cx) (ops:Array Oper) (t:T) (H:List O):Bool:=
 cx.P.follows .mixedOrders&&(wP 0 ops.toList&&(aI4 ops t (BZ ops.toList (GM t))&&JX cx ops (kY ops.toList []) (BZ ops.toList (GM t)) t H ops.size))
def XW (cx:Cx) (o:Oper):Bool:=match o.op with
 | .move _ | .assign _ | .nilCheck _ | .fieldAddr .. | .field .. | .extract .. | .unOp .. | .binOp .. | .makeFunc .. | .store .. | .load .. | .convert .. => true
 | .call { callee:=.value (.func g),.. }=>!(fR g cx.mtab)
 | _=>false
def ZA (cx:Cx) (ops:Array Oper) (a:List (List Nat)) (n j:Nat):Bool:=
 (List.range j).all (fun k=>cG k (a.getD j []) || (match ops[k]? with | some o=>quiet cx o | none=>true))&&(List.range n).all (fun k=>Nat.ble k j || cG j (a.getD k []))
def MO (cx:Cx) (ops:Array Oper):Bool:=(List.range ops.size).all fun j=>(match ops[j]? with | some o=>XW cx o | none=>true) || ZA cx ops (kY ops.toList []) ops.size j
def zO (cx:Cx) (ops:Array Oper):St->Tree St
 | (.normal,t,H)=>.leaf (.normal,t,H)
 | (.panic v,_,H)=>cond (MO cx ops) (.leaf (.panic v,[],H)) .fail
 | _=>.fail
def oY (k:T->List O->Tree St):St->Tree St
 | (.normal,t,H)=>k t H
 | s=>.leaf s
def y9 (id:Nat):St->Tree St
 | (.exit j,t,H)=>.leaf (cond (Nat.beq j id) .normal (.exit j),t,H)
 | s=>.leaf s
def CL (f:T->List O->Tree St):Nat->T->List O->Tree St
 | 0,_,_=>.fail
 | n+1,t,H=>(f t H).bind (oY (CL f n))
def aK (cx:Cx):Code->T->List O->Tree St
 | .skip,t,H=>.leaf (.normal,t,H)
 | .region _ ops draw,t,H=>cond draw (cond (y8 cx ops || yW cx ops t H) ((dD cx ops ops.toList t H).bind (zO cx ops)) .fail) (dD cx ops ops.toList t H)
 | .seq a b,t,H=>(aK cx a t H).bind (oY (aK cx b))
 | .cond c a b,t,H=>match c with
  | .tmp d=>(match get d t with
   | .bool v=>.br v (aK cx a (put d (.bool true) t) H) (aK cx b (put d (.bool false) t) H)
   | _=>.fail)
  | c=>match rd t c with
   | .bool v=>.br v (aK cx a t H) (aK cx b t H)
   | _=>.fail
 | .block id c,t,H=>(aK cx c t H).bind (y9 id)
 | .exit id,t,H=>.leaf (.exit id,t,H)
 | .ret,t,H=>.leaf (.ret,t,H)
 | .loop c,t,H=>CL (aK cx c) cx.fuel t H
 | _,_,_=>.fail
def q6 (P:Program) (H:List O) (t:T):List ResultVar->Option (List V)
 | []=>some []
 | .tmp i :: r=>(q6 P H t r).map (get i t :: ·)
 | .cell a ty :: r=>match nN P H ty (get a t),q6 P H t r with
  | some v,some vs=>some (v :: vs)
  | _,_=>none
def hD (P:Program) (rs:List ResultVar) (H:List O) (t:T):Option V:=
 match (q6 P H t rs).bind V.pures? with
 | some [v]=>some v
 | some vs=>some (.tup vs)
 | none=>none
def answer (P:Program) (rs:List ResultVar):St->Tree V
 | (.ret,t,H) | (.normal,t,H)=>match hD P rs H t with
  | some v=>.leaf v
  | none=>.fail
 | _=>.fail
def dZ:Nat->List V->T
 | _,[]=>[]
 | i,v :: r=>(i,v) :: dZ (i+1) r
def a7 (cx:Cx) (fn:Func) (args:List V):Tree V:=
 match fn.body with
 | some c=>(aK { cx with n:=fn.ntmps } c (dZ 0 args) []).bind (answer cx.P fn.results.toList)
 | none=>.fail
end Go.Ab
