/-
  The engine, part B: how simple values stand to the model's, and what a step keeps. Conditions: none.
-/
import Derived.Test.YtbefgnmdliefjaaGreatDoorBbA
import Derived.Laws.World
import Derived.Laws.Sem
import Derived.Laws.Cells
import Derived.Laws.Rows
import Derived.MapKept
import Derived.Laws.StructEq
import Derived.Laws.Strings
import Derived.Laws.CopyRow
import Derived.Laws.AppendOwn
open Bool renaming and_eq_true_iff→ZA0
open List renaming getElem?_append_left→ZB0,getElem?_eq_some_iff→ZB2,getElem?_eq_getElem→ZB3,getElem?_map→ZC0,getElem?_drop→ZC1,getElem?_cons_zero→ZC3,getElem?_cons_succ→ZD0
open Nat renaming eq_of_beq_eq_true→ZG1,le_of_ble_eq_true→ZG2
open Option renaming map_some→ZH2
open Option.some renaming injEq→ZH3
open Array renaming getD_eq_getD_getElem?→ZI0
set_option linter.unusedVariables false
set_option linter.unusedSimpArgs false
namespace Go.Ab
structure Loc where
 kind:Bool
 block:Nat
 base:Nat
 n:Nat
 size:Nat
inductive R (w:World) (X:Nat->Nat->Prop):List Loc->V->Value->Prop where
 | int (β k n):R w X β (.int k n) (.int k n)
 | bool (β b):R w X β (.bool b) (.bool b)
 | str (β s):R w X β (.str s) (.string ⟨List.toArray s⟩)
 | val (β x):R w X β (.val x) x
 | any (β x):R w X β .any x
 | rng (β k lo hi n) (h:lo<=n/\n<hi):R w X β (.rng k lo hi) (.int k n)
 | pin (β) (cells:List V) (b o) (f:Nat->Value) (hc:∀ k,k<cells.length->¬ X b (o+k)/\w.cell? ⟨b,o+k,none⟩=some (f k))
   (hr:∀ (k:Nat) (v:V),cells[k]? = some v->R w X [] v (f k)):R w X β (.pin cells) (.pointer (some ⟨b,o,none⟩))
 | sl (β) (c:EC) (l spare:List c.ty) (fl b o cap) (f:Nat->Nat->Value) (hcap:l.length+spare.length<=cap)
   (hfull:fl = .full->cap=l.length+spare.length) (hrw:fl.fixed=false -> ∃ (cs:Array Value) (e:TypeId),w.heap[b]? = some (.cells cs e (0,0)))
   (hc:∀ i k,i<l.length+spare.length->k<c.size->¬ X b (o+i*c.size+k)/\w.cell? ⟨b,o+i*c.size+k,none⟩=some (f i k))
   (hr:∀ (i:Nat) (x:c.ty) (k:Nat) (v:V),(l++spare)[i]? = some x->(enc c x)[k]? = some v->R w X [] v (f i k)) :
   R w X β (.sl c l spare fl) (.slice (some ⟨b,o,none⟩) l.length cap)
 | nil (β) (c:EC):R w X β (.sl c [] [] .may) (.slice none 0 0)
 | gro (β) (id) (c:EC) (l:List c.ty) (b o cap loc) (f:Nat->Nat->Value) (hid:β[id]? = some loc) (hk:loc.kind=true) (hn:l.length<=loc.n)
   (hl:loc.n=l.length->b=loc.block/\o=loc.base/\o+cap*c.size<=loc.size) (hcap:l.length<=cap)
   (hc:∀ i k,i<l.length->k<c.size->¬ X b (o+i*c.size+k)/\w.cell? ⟨b,o+i*c.size+k,none⟩=some (f i k))
   (hr:∀ (i:Nat) (x:c.ty) (k:Nat) (v:V),l[i]? = some x->(enc c x)[k]? = some v->R w X [] v (f i k)) :
   R w X β (.gro id c l) (.slice (some ⟨b,o,none⟩) l.length cap)
 | ptr (β id off loc) (hid:β[id]? = some loc) (hk:loc.kind=false):R w X β (.ptr id off) (.pointer (some ⟨loc.block,loc.base+off,none⟩))
 | ref (β id sz off len loc b o cap) (hid:β[id]? = some loc) (hk:loc.kind=false) (hlen:len<=cap)
   (ha:0<cap->b=loc.block/\o=loc.base+off) (hcap:loc.base+off+cap*sz<=loc.size) :
   R w X β (.ref id sz off len) (.slice (some ⟨b,o,none⟩) len cap)
 | mp (β id loc) (hid:β[id]? = some loc) (hk:loc.kind=false):R w X β (.mp id) (.map (some loc.block))
 | agg (β) (cells:List V) (xs:List Value) (hl:xs.length=cells.length) (h:∀ (k:Nat) (v:V) (x:Value),cells[k]? = some v->xs[k]? = some x->R w X β v x) :
   R w X β (.agg cells) (.agg xs.toArray)
 | tup (β) (cells:List V) (xs:List Value) (hl:xs.length=cells.length) (h:∀ (k:Nat) (v:V) (x:Value),cells[k]? = some v->xs[k]? = some x->R w X β v x) :
   R w X β (.tup cells) (.tuple xs.toArray)
 | ifc (β t v x) (h:R w X β v x):R w X β (.ifc t v) (.iface t x)
 | clo (β fn) (as bs:List V) (xs ys:List Value) (hl:xs.length=as.length) (hm:ys.length=bs.length)
   (h:∀ (k:Nat) (v:V) (x:Value),as[k]? = some v->xs[k]? = some x->R w X β v x) (h' : ∀ (k:Nat) (v:V) (x:Value),bs[k]? = some v->ys[k]? = some x->R w X β v x) :
   R w X β (.clo fn as bs) (.func fn xs.toArray ys.toArray)
def Gs (P:Program) (w:World) (X:Nat->Nat->Prop):Prop:=∀ p ∈ rN P,R w X [] (.pin p.2) (.pointer (some ⟨p.1,0,none⟩))
def LocLe (β b : List Loc):Prop:=
 ∀ (id:Nat) (loc:Loc),β[id]? = some loc -> ∃ a,b[id]? = some a /\ (a = loc\/(loc.kind=true/\a.kind=true/\loc.n<a.n))
theorem LocLe.refl (β:List Loc):LocLe β β:=fun _ loc h=>⟨loc,h,.inl rfl⟩
theorem LocLe.nil (β:List Loc):LocLe [] β:=fun _ _ h=>by simp at h
theorem LocLe.trans {a b c:List Loc} (h:LocLe a b) (k:LocLe b c):LocLe a c:=by
 intro id loc e;obtain ⟨i,e1,g⟩:=h id loc e;obtain ⟨l2,e2,f⟩:=k id i e1;refine ⟨l2,e2,?_⟩
 rcases g with rfl | ⟨d,a2,a3⟩
 ·exact f
 ·rcases f with rfl | ⟨j,b2,b3⟩
  ·exact .inr ⟨d,a2,a3⟩
  ·exact .inr ⟨d,b2,by omega⟩
structure Stab (w:World) (X:Nat->Nat->Prop) (w' : World) (X' : Nat->Nat->Prop):Prop where
 cell:∀ b o v,¬ X b o->w.cell? ⟨b,o,none⟩=some v->¬ X' b o/\w'.cell? ⟨b,o,none⟩=some v
 blk:∀ (b:Nat) (cs:Array Value) (e:TypeId),w.heap[b]? = some (.cells cs e (0,0)) -> ∃ (cs' : Array Value) (e' : TypeId),w'.heap[b]? = some (.cells cs' e' (0,0))
theorem R.stab {w w' : World} {X C : Nat->Nat->Prop} (s:Stab w X w' C) {β:List Loc} {v:V} {x:Value} (h:R w X β v x) :
  ∀ a,LocLe β a -> R w' C a v x:=by
 induction h with
 | int=>exact fun a _=>.int a _ _
 | bool=>exact fun a _=>.bool a _
 | str=>exact fun a _=>.str a _
 | val=>exact fun a _=>.val a _
 | any=>exact fun a _=>.any a _
 | rng β k lo hi n h=>exact fun a _=>.rng a k lo hi n h
 | pin β cells b o f u D p =>
  exact fun a _=>.pin a cells b o f (fun k d=>s.cell _ _ _ (u k d).1 (u k d).2) (fun k v H=>p k v H [] (.nil _))
 | sl β c l spare fl b o cap f g y A u D p =>
  exact fun a _=>.sl a c l spare fl b o cap f g y (fun e=>let ⟨cs,t,h⟩:=A e; s.blk _ _ _ h)
   (fun i k hi d=>s.cell _ _ _ (u i k hi d).1 (u i k hi d).2) (fun i x k v q r=>p i x k v q r [] (.nil _))
 | nil β c=>exact fun a _=>.nil a c
 | gro β id c l b o cap loc f j d K z g u D p =>
  intro a hle;obtain ⟨m,hid',h⟩:=hle id loc j;refine .gro a id c l b o cap m f hid' ?_ ?_ ?_ g (fun i k hi d=>s.cell _ _ _ (u i k hi d).1 (u i k hi d).2) (fun i x k v q r=>p i x k v q r [] (.nil _))
  ·rcases h with rfl | ⟨_,h,_⟩ <;> assumption
  ·rcases h with rfl | ⟨_,_,h⟩ <;> omega
  ·rcases h with rfl | ⟨_,_,h⟩
   ·exact z
   ·intro e; omega
 | ptr β id off loc j d =>
  intro a hle;obtain ⟨m,hid',h⟩:=hle id loc j
  rcases h with rfl | ⟨h,_⟩
  ·exact .ptr a id off _ hid' d
  ·simp [d] at h
 | ref β id I off len loc b o cap j d hlen F g =>
  intro a hle;obtain ⟨m,hid',h⟩:=hle id loc j
  rcases h with rfl | ⟨h,_⟩
  ·exact .ref a id I off len _ b o cap hid' d hlen F g
  ·simp [d] at h
 | mp β id loc j d =>
  intro a hle;obtain ⟨m,hid',h⟩:=hle id loc j
  rcases h with rfl | ⟨h,_⟩
  ·exact .mp a id _ hid' d
  ·simp [d] at h
 | agg β cells xs z h p=>exact fun a hle=>.agg a cells xs z (fun k v x q r=>p k v x q r a hle)
 | tup β cells xs z h p=>exact fun a hle=>.tup a cells xs z (fun k v x q r=>p k v x q r a hle)
 | ifc β t v x h p=>exact fun a hle=>.ifc a t v x (p a hle)
 | clo β fn as E xs ys z G h J p B =>
  exact fun a hle=>.clo a fn as E xs ys z G (fun k v x q r=>p k v x q r a hle) (fun k v x q r=>B k v x q r a hle)
def Own (H:List O) (β:List Loc) (b o:Nat):Prop:=
 ∃ (id:Nat) (loc:Loc),β[id]? = some loc/\loc.block=b/\((∃ cs e,H[id]? = some (.cells cs e))\/(∃ n a,H[id]? = some (.tok n a)/\loc.base+n*a<=o)\/(∃ sh vs,H[id]? = some (.obj sh vs)))
def Shp:Shape->Obj->List Value->Prop
 | .map keys,ob,xs=>∃ (arr:Array MapEntry) (clock:Nat) (l:List MapEntry),ob = .map arr clock/\Go.MapKept.Stamped arr clock/\keys.Pairwise (· < ·)/\l.Perm arr.toList /\
   l.map (·.key)=keys.map (Value.int .u64)/\l.map (·.val)=xs
 | .siter s pos,ob,xs=>ob = .stringIter ⟨s.toArray⟩ pos/\xs=[]
 | .page n k l,ob,xs=>xs.length=n /\ ∃ e,ob = .cells (xs++l.map (Value.int k)).toArray e (0,0)
def special:Obj->Bool
 | .map _ _ | .stringIter _ _ | .mapIter _ _ _ _=>true
 | _=>false
theorem Shp.special {sh:Shape} {a:Obj} {xs:List Value} (h:Shp sh a xs) (b:sh.isPage=false):special a=true:=by
 cases sh with
 | page n k l=>cases b
 | map keys=>obtain ⟨arr,clock,l,rfl,_⟩:=h; rfl
 | siter s pos=>obtain ⟨rfl,_⟩:=h; rfl
def Xs (E:Nat->Nat->Prop) (H:List O) (β:List Loc) (b o:Nat):Prop:=E b o\/Own H β b o
def live (H:List O) (id:Nat):Prop:=∃ o,H[id]? = some o/\o ≠ .dead
structure Rel (w:World) (X:Nat->Nat->Prop) (H:List O) (β:List Loc):Prop where
 len:H.length=β.length
 cells:∀ (id:Nat) cs e (loc:Loc),H[id]? = some (.cells cs e)->β[id]? = some loc->loc.kind=false /\ ∃ (c:Array Value) (e' : TypeId),
  w.heap[loc.block]? = some (.cells c e' (0,0))/\c.size=loc.size/\(loc.base+cs.length<=loc.size/\(4294967296<=e->loc.size=loc.base+cs.length)) /\
  ∀ (k:Nat) v,cs[k]? = some v -> ∃ x,c[loc.base+k]? = some x/\R w X β v x
 tok:∀ (id:Nat) n sz (loc:Loc),H[id]? = some (.tok n sz)->β[id]? = some loc->loc.kind=true/\loc.n=n /\ ∃ (c:Array Value) (e' : TypeId),
  w.heap[loc.block]? = some (.cells c e' (0,0))/\c.size=loc.size
 objs:∀ (id:Nat) sh vs (loc:Loc),H[id]? = some (.obj sh vs)->β[id]? = some loc->loc.kind=false/\loc.base=0 /\ ∃ (ob:Obj) (xs:List Value),
  w.heap[loc.block]? = some ob/\Shp sh ob xs /\ ∀ (k:Nat) v,vs[k]? = some v -> ∃ x,xs[k]? = some x/\R w X β v x
 disj:∀ (i j:Nat) (l l' : Loc),live H i->live H j->β[i]? = some l->β[j]? = some l' -> l.block=l'.block->i=j
structure Step (E:Nat->Nat->Prop) (H:List O) (β:List Loc) (w:World) (H' : List O) (β' : List Loc) (w' : World):Prop where
 rel:Rel w' (Xs E H' β') H' β'
 os:w'.os=w.os
 tape:w'.tape=w.tape
 output:w'.output=w.output
 size:w.heap.size<=w'.heap.size
 pres:∀ (b:Nat),b<w.heap.size->w'.heap[b]? = w.heap[b]? \/ ((∃ o,Own H β b o) /\ ∃ (c c' : Array Value) (e:TypeId),w.heap[b]? = some (.cells c e (0,0)) /\
  w'.heap[b]? = some (.cells c' e (0,0))/\c'.size=c.size /\ ∀ (o:Nat),¬ Own H β b o->c'[o]? = c[o]?) \/
  ((∃ o,Own H β b o) /\ ∃ (x y:Obj),w.heap[b]? = some x/\w'.heap[b]? = some y/\special x=true/\special y=true)
 own:∀ b o,Own H' β' b o->Own H β b o\/w.heap.size<=b
 locs:LocLe β β'
theorem rP {w:World} {b o:Nat} {v:Value} (h:w.cell? ⟨b,o,none⟩=some v):b<w.heap.size:=block_lt_of_cell h
theorem PY {w:World} {b o:Nat} {x:Obj} (h:w.heap[b]? = some x) (a:special x=true):w.cell? ⟨b,o,none⟩=none:=by
 unfold World.cell?;rw [h];cases x <;> simp_all [special]
theorem Step.stab {E H β w H' β' w'} (s:Step E H β w H' β' w'):Stab w (Xs E H β) w' (Xs E H' β'):=by
 constructor
 ·intro b o v k f
  have d:=rP f;have l:¬ E b o:=fun h=>k (.inl h);have j:¬ Own H β b o:=fun h=>k (.inr h);refine ⟨fun h=>?_,?_⟩
  ·rcases h with h | h
   ·exact l h
   ·rcases s.own b o h with h | h
    ·exact j h
    ·omega
  ·rcases s.pres b d with h | ⟨_,c,c',e,a,h2,_,h4⟩ | ⟨_,x,y,a,h2,i,h4⟩
   ·unfold World.cell? at f ⊢; rw [h]; exact f
   ·rw [cell_of_row w b o c e (0,0) a] at f
    rw [cell_of_row w' b o c' e (0,0) h2,h4 o j,f]
   ·rw [PY a i] at f; cases f
 ·intro b cs e h
  have d:b<w.heap.size:=by
   rcases Nat.lt_or_ge b w.heap.size with g | g
   ·exact g
   ·simp [Array.getElem?_eq_none g] at h
  rcases s.pres b d with g | ⟨_,c,c',e',a,h2,_⟩ | ⟨_,x,y,a,h2,i,h4⟩
  ·exact ⟨cs,e,by rw [g,h]⟩
  ·exact ⟨c',e',h2⟩
  ·rw [h] at a; cases a; cases i
theorem Step.keepR {E H β w H' β' w' v x} (s:Step E H β w H' β' w') (h:R w (Xs E H β) β v x):R w' (Xs E H' β') β' v x:=h.stab s.stab β' s.locs
theorem Step.refl {E H β w} (h:Rel w (Xs E H β) H β):Step E H β w H β w:=
 ⟨h,rfl,rfl,rfl,Nat.le_refl _,fun _ _=>.inl rfl,fun _ _ h=>.inl h,.refl _⟩
theorem Step.trans {E H β w H' β' w' H'' β'' w''} (s:Step E H β w H' β' w') (t:Step E H' β' w' H'' β'' w''):Step E H β w H'' β'' w'' := by
 refine ⟨t.rel,t.os.trans s.os,t.tape.trans s.tape,t.output.trans s.output,Nat.le_trans s.size t.size,fun b hb=>?_,fun b o h=>?_,s.locs.trans t.locs⟩
 ·have a:∀ o,Own H' β' b o->Own H β b o:=fun o h=>by
   rcases s.own b o h with h | h
   ·exact h
   ·omega
  rcases t.pres b (Nat.lt_of_lt_of_le hb s.size) with h | ⟨⟨o,i⟩,c,c',e,f,h2,k,h4⟩ | ⟨⟨o,i⟩,x,y,f,h2,k,h4⟩
  ·rcases s.pres b hb with g | ⟨l,c,c',e,g1,g2,g3,j⟩ | ⟨l,x,y,g1,g2,g3,j⟩
   ·exact .inl (h.trans g)
   ·exact .inr (.inl ⟨l,c,c',e,g1,h.trans g2,g3,j⟩)
   ·exact .inr (.inr ⟨l,x,y,g1,h.trans g2,g3,j⟩)
  ·rcases s.pres b hb with g | ⟨_,d,d',e',g1,g2,g3,j⟩ | ⟨_,x,y,g1,g2,g3,j⟩
   ·exact .inr (.inl ⟨⟨o,a o i⟩,c,c',e,g ▸ f,h2,k,fun o i=>h4 o (fun h=>i (a o h))⟩)
   ·refine .inr (.inl ⟨⟨o,a o i⟩,?_⟩)
    rw [g2] at f;simp only [ZH3,Obj.cells.injEq,and_true] at f;obtain ⟨rfl,rfl⟩:=f;exact ⟨d,c',e',g1,h2,k.trans g3,fun o i=>(h4 o (fun h=>i (a o h))).trans (j o i)⟩
   ·rw [g2] at f; cases f; cases j
  ·rcases s.pres b hb with g | ⟨_,d,d',e',g1,g2,g3,j⟩ | ⟨_,x',y',g1,g2,g3,j⟩
   ·exact .inr (.inr ⟨⟨o,a o i⟩,x,y,g ▸ f,h2,k,h4⟩)
   ·rw [g2] at f; cases f; cases k
   ·exact .inr (.inr ⟨⟨o,a o i⟩,x',y,g1,h2,g3,h4⟩)
 ·rcases t.own b o h with h | h
  ·rcases s.own b o h with h | h
   ·exact .inl h
   ·exact .inr h
  ·exact .inr (Nat.le_trans s.size h)
structure FR (w:World) (X:Nat->Nat->Prop) (β:List Loc) (n:Nat) (t:T) (a:Act):Prop where
 size:a.tmps.size=n
 slot:∀ d,R w X β (get d t) (a.tmps.getD d undef)
theorem FR.step {E H β w H' β' w' n t a} (s:Step E H β w H' β' w') (h:FR w (Xs E H β) β n t a):FR w' (Xs E H' β') β' n t a:=
 ⟨h.size,fun d=>s.keepR (h.slot d)⟩
theorem SZ {d e:Nat} (h:¬ d=e):Nat.beq d e=false:=by
 cases a:Nat.beq d e
 ·rfl
 ·exact absurd (ZG1 a) h
theorem tH (d e:Nat) (v:V) (t:T):get d (put e v t)=if d=e then v else get d t:=by
 induction t with
 | nil =>
  simp only [put,get];by_cases h:d=e
  ·simp [h]
  ·simp [h,SZ h]
 | cons p r c =>
  obtain ⟨f,u⟩:=p;unfold put;cases hb:Nat.blt e f
  ·cases b:Nat.beq e f
   ·simp only [cond_false,get,c]
    by_cases h:d=e
    ·subst h
     simp [b]
    ·simp [h]
   ·have:e=f:=ZG1 b
    subst this;simp only [cond_true,cond_false,get];by_cases h:d=e
    ·simp [h]
    ·have:Nat.beq d e=false:=by cases a:Nat.beq d e; rfl; exact absurd (ZG1 a) h
     simp [h,this]
  ·simp only [cond_true,get]
   by_cases h:d=e
   ·simp [h]
   ·have:Nat.beq d e=false:=by cases a:Nat.beq d e; rfl; exact absurd (ZG1 a) h
    simp [h,this]
theorem RS (l:List Nat) (d:Nat) (t:T):get d (bC l t)=get d t\/get d (bC l t) = .any:=by
 induction t with
 | nil=>exact .inl rfl
 | cons p r a =>
  obtain ⟨e,u⟩:=p;unfold bC;cases h:cG e l
  ·simp only [cond_false,get]
   cases b:Nat.beq d e
   ·simpa using a
   ·right
    have:d=e:=ZG1 b;subst this
    clear a b u
    induction r with
    | nil=>rfl
    | cons q r a =>
     obtain ⟨f,u⟩:=q;unfold bC;cases c : cG f l
     ·simpa using a
     ·simp only [cond_true,get]
      cases b:Nat.beq d f
      ·simpa using a
      ·have:d=f:=ZG1 b
       subst this;rw [h] at c; cases c
  ·simp only [cond_true,get]
   cases b:Nat.beq d e
   ·simpa using a
   ·simp
theorem FR.bC {w X β n t a} (l:List Nat) (h:FR w X β n t a):FR w X β n (bC l t) a:=
 ⟨h.size,fun d=>by rcases RS l d t with e | e <;> rw [e]; exact h.slot d; exact .any _ _⟩
theorem FR.put {w X β n t a d v x} (h:FR w X β n t a) (b:d<n) (f:R w X β v x):FR w X β n (put d v t) { a with tmps:=a.tmps.setIfInBounds d x }:=by
 refine ⟨by simp [h.size],fun e=>?_⟩;rw [tH];by_cases he:e=d
 ·subst he
  have:e<a.tmps.size:=by rw [h.size]; exact b
  simp [ZI0,this,f]
 ·have c:=h.slot e
  simp only [he,if_false];simpa [ZI0,Array.getElem?_setIfInBounds,Ne.symm he] using c
end Go.Ab

namespace Go.Ab
theorem Stab.refl (w:World) (X:Nat->Nat->Prop):Stab w X w X:=⟨fun _ _ _ b c=>⟨b,c⟩,fun _ cs e h=>⟨cs,e,h⟩⟩
theorem R.up {w X v x} (β:List Loc) (h:R w X [] v x):R w X β v x:=h.stab (Stab.refl w X) β (.nil β)
theorem BC (w X β) (x:Value):R w X β (ofVal1 x) x:=by
 cases x with
 | int k n=>exact .int _ _ _
 | bool b=>exact .bool _ _
 | string s=>obtain ⟨⟨l⟩⟩:=s; exact .str β l
 | _=>exact .val _ _
theorem a9D (w X β) (x:Value):R w X β (XL x) x:=by
 cases x with
 | agg cs =>
  obtain ⟨l⟩:=cs;refine .agg β _ l (by simp) ?_;intro k v x b c;simp only [ZC0,c,ZH2,ZH3] at b;subst b;exact BC _ _ _ _
 | _=>simp only [XL]; exact BC _ _ _ _
section
variable {w:World} {X:Nat->Nat->Prop} {β:List Loc} {n:Nat} {t:T} {a:Act}
theorem q5 (h:FR w X β n t a) (x:Operand):R w X β (rd t x) (a.eval x):=by
 cases x with
 | tmp i=>exact h.slot i
 | const v=>exact a9D _ _ _ _
 | global g=>exact .val _ _
 | func f=>exact .val _ _
theorem aD8 {g:Nat} {cs:List V}:∀ {l:List (Nat × List V)},vT g l=some cs->(g,cs) ∈ l
 | [],h=>by cases h
 | (e,ds) :: r,h=>by
  unfold vT at h;cases hb:Nat.beq g e
  ·rw [hb] at h
   exact List.mem_cons_of_mem _ (aD8 h)
  ·rw [hb] at h
   have:=ZG1 hb;subst this;cases h;exact List.mem_cons_self
theorem ahS {P:Program} {G:List (Nat × List V)} (b:Gs P w X) (d:∀ p ∈ G,p ∈ rN P) (h:FR w X β n t a) (x:Operand):R w X β (nV G t x) (a.eval x):=by
 cases x with
 | tmp i=>exact q5 h (.tmp i)
 | const v=>exact q5 h (.const v)
 | func f=>exact q5 h (.func f)
 | global g =>
  show R w X β (match vT g G with | some cs=>.pin cs | none=>rd t (.global g)) (a.eval (.global g))
  cases c:vT g G with
  | none=>exact q5 h (.global g)
  | some cs=>exact (b _ (d _ (aD8 c))).up β
structure TIs (P:Program) (t:TypeId) (i:TI):Prop where
 info:∃ (j:TypeInfo) (d:TypeDesc),P.info? t=some j/\P.underlying t=some d/\j.size=i.size/\j.bytes=i.bytes /\
  (∃ z,j.zero=some z/\i.zero=z.cells.toList.map ofVal1) /\
  i.k=(match d with
   | .slice e=>.slice e
   | .struct fs=>.st (fs.toList.map fun f=>(f.offset,P.cellsOf f.type,isAggB P f.type))
   | .array n e=>.arr n e
   | _=>.scal)/\knownFields P d=true
theorem rR {P:Program} {t:TypeId} {i:TI} (h:ti P t=some i):TIs P t i:=by
 unfold ti at h;split at h
 ·rename_i j d c e
  dsimp only at h
  split at h
  ·rename_i z f
   cases b:knownFields P d
   ·simp [b] at h
   ·simp only [b,cond_true,ZH3] at h
    subst h;exact ⟨j,d,c,e,rfl,rfl,⟨z,f,rfl⟩,rfl,b⟩
  ·cases h
 ·cases h
theorem aBN {P:Program} {t:TypeId} {j:TypeInfo} (w:World) (h:P.info? t=some j):(typeInfo t).run P w = .ok j w:=by
 simp [typeInfo,h]
theorem I1 {P:Program} {t:TypeId} {j:TypeInfo} (w:World) (h:P.info? t=some j):(sizeOf t).run P w = .ok j.size w:=by
 simp [sizeOf,typeInfo,h]
theorem cZ {P:Program} {t:TypeId} {d:TypeDesc} (w:World) (h:P.underlying t=some d):(underlying t).run P w = .ok d w:=by
 simp [underlying,h]
theorem hU {P:Program} {t:TypeId} {i:TI} (w:World) (h:ti P t=some i):(sizeOf t).run P w = .ok i.size w:=by
 obtain ⟨j,d,h1,_,h3,_⟩:=(rR h).info;rw [I1 w h1,h3]
theorem J7 {P:Program} {t:TypeId} {i:TI} (w:World) (h:ti P t=some i):(isAgg t).run P w = .ok (wJ i.k) w:=by
 obtain ⟨j,d,h1,h2,_,_,_,h6,_⟩:=(rR h).info;rw [h6];cases d <;> simp [isAgg,cZ w h2,wJ]
theorem a1C {H:List O} {x:V} {y:Value} {cells:List V} (j:Rel w X H β) (p:R w X β x y) (h:oE H x=some cells) :
  ∃ b o,y = .pointer (some ⟨b,o,none⟩) /\ ∀ (k:Nat) v,cells[k]? = some v -> ∃ z,w.cell? ⟨b,o+k,none⟩=some z/\R w X β v z:=by
 cases p with
 | pin _ cs b o f l m =>
  simp only [oE,ZH3] at h;subst h;refine ⟨b,o,rfl,fun k v d=>⟨f k,(l k ?_).2,(m k v d).up β⟩⟩;exact (ZB2.1 d).1
 | ptr _ id off loc g r =>
  simp only [oE] at h;split at h
  ·rename_i cs e i
   simp only [ZH3] at h;subst h;obtain ⟨_,c,e',h1,h2,h3,h4⟩:=j.cells id cs e loc i g;refine ⟨loc.block,loc.base+off,rfl,fun k v d=>?_⟩;rw [ZC1] at d;obtain ⟨z,hz,hz'⟩:=h4 (off+k) v d;refine ⟨z,?_,hz'⟩;rw [cell_of_row w _ _ c e' (0,0) h1,<- hz,Nat.add_assoc]
  ·rename_i n' s l' q i
   simp only [ZH3] at h;subst h;obtain ⟨_,hb0,ob,xs,h1,⟨hn,e',rfl⟩,h4⟩:=j.objs id _ _ loc i g;refine ⟨loc.block,loc.base+off,rfl,fun k v d=>?_⟩;rw [ZC1] at d;obtain ⟨z,hz,hz'⟩:=h4 (off+k) v d;refine ⟨z,?_,hz'⟩;rw [cell_of_row w _ _ _ e' (0,0) h1,hb0,Nat.zero_add,List.getElem?_toArray,ZB0 (ZB2.1 hz).1,hz]
  ·cases h
 | _=>cases h
theorem n8 (b o k:Nat):(⟨b,o,none⟩:Addr).add k=⟨b,o+k,none⟩:=by
 unfold Addr.add; split <;> simp_all
theorem aTD {l:List V} (f:Nat->Value) (h:∀ k v,l[k]? = some v->R w X β v (f k)) :
  R w X β (.agg l) (.agg ((List.range l.length).map f).toArray):=by
 refine .agg β l _ (by simp) ?_;intro k v x b c;have d:=(ZB2.1 b).1;simp only [ZC0,List.getElem?_range d,ZH2,ZH3] at c;subst c;exact h k v b
theorem aBL {P:Program} {H:List O} {ty:TypeId} {x v:V} {y:Value} (j:Rel w X H β) (q:R w X β x y) (h:nN P H ty x=some v) :
  ∃ b o z,y = .pointer (some ⟨b,o,none⟩)/\(loadVar ty ⟨b,o,none⟩).run P w = .ok z w/\R w X β v z:=by
 unfold nN at h;split at h
 ·rename_i i cells e g
  obtain ⟨b,o,rfl,hc⟩:=a1C j q g;refine ⟨b,o,?_⟩;unfold S7 at h;cases c:wJ i.k
  ·simp only [c,cond_false] at h
   cases cells with
   | nil=>cases h
   | cons u r =>
    simp only [ZH3] at h;subst h;obtain ⟨z,hz,hz'⟩:=hc 0 u rfl;refine ⟨z,rfl,?_,hz'⟩;simp only [Nat.add_zero] at hz;simp [loadVar,J7 w e,c,hz]
  ·simp only [c,cond_true] at h
   cases hb:Nat.ble i.size cells.length
   ·simp [hb] at h
   ·simp only [hb,cond_true,ZH3] at h
    subst h;have hle:i.size<=cells.length:=ZG2 hb
    let f:Nat->Value:=fun k=>(w.cell? ⟨b,o+k,none⟩).getD undef
    have m:∀ k,k<i.size->w.cell? ((⟨b,o,none⟩:Addr).add k)=some (f k):=by
     intro k c;obtain ⟨z,hz,_⟩:=hc k cells[k] (by simp [ZB3 (Nat.lt_of_lt_of_le c hle)]);rw [n8,hz]; simp [f,hz]
    have p:(cells.take i.size).length=i.size:=by simp [hle]
    refine ⟨.agg ((List.range i.size).map f).toArray,rfl,?_,?_⟩
    ·simp [loadVar,J7 w e,c,hU w e,run_loadCells (P:=P) w ⟨b,o,none⟩ i.size f m]
    ·have:=aTD (w:=w) (X:=X) (β:=β) (l:=cells.take i.size) f ?_
     ·rwa [p] at this
     ·intro k v d
      rw [List.getElem?_take] at d;split at d
      ·obtain ⟨z,hz,hz'⟩:=hc k v d
       simpa [f,hz] using hz'
      ·cases d
 ·cases h
theorem aDO {P:Program} {H:List O} {ty:TypeId} {x v:V} {y:Value} (c:Rel w X H β) (d:R w X β x y) (h:nN P H ty x=some v) :
  ∃ z,(Instr.loadAt ty y).run P w = .ok z w/\R w X β v z:=by
 obtain ⟨b,o,z,rfl,h1,h2⟩:=aBL c d h;exact ⟨z,by simp [Instr.loadAt,Instr.sureAddr,h1],h2⟩
theorem KD {β:Type} {c:Bool} {x:Tree β} {b:β} (h:(Tree.aF c x).run=some b):c=true/\x.run=some b:=by
 cases c
 ·simp [Tree.aF,Tree.run] at h
 ·exact ⟨rfl,h⟩
theorem QM {P:Program} {ty:TypeId} {k:IntKind} (h:intOf P ty=some k):∃ i,ti P ty=some i/\wJ i.k=false/\i.size=1:=by
 unfold intOf at h;split at h
 ·rename_i i f d e
  cases b:(!wJ i.k&&Nat.beq i.size 1)
  ·rw [b] at h; cases h
  ·obtain ⟨c,g2⟩:=ZA0.1 b
   exact ⟨i,d,by simpa using c,ZG1 g2⟩
 ·cases h
theorem aBR {k:IntKind} {cs:List V} {o:Nat} (h:n9 k cs o=true):∃ n,cs[o]? = some (.int k n):=by
 unfold n9 at h;split at h
 ·rename_i l n b
  have:=of_decide_eq_true h;subst this;exact ⟨n,b⟩
 ·cases h
theorem aDV {k:IntKind} {n:Int}:∀ {cs:List V} {o:Nat},cs[o]? = some (.int k n)->pJ cs o=n
 | [],o,h=>by simp at h
 | v :: r,0,h=>by
  simp only [ZC3,ZH3] at h;subst h;rfl
 | v :: r,o+1,h=>by
  simp only [ZD0] at h;exact aDV (cs:=r) (o:=o) h
theorem aHA {k:IntKind} {x:Int} {o j:Nat} (h:j ≠ o) (v:V):uR k o x j v=v:=by
 have hb:Nat.beq j o=false:=by
  cases hb:Nat.beq j o
  ·rfl
  ·exact absurd (ZG1 hb) h
 unfold uR;split
 ·rename_i l n
  rw [hb];cases b:decide (l=k)
  ·rfl
  ·have:=of_decide_eq_true b
   subst this;rfl
 ·rfl
theorem aE4 {k:IntKind} {x:Int} {o:Nat}:∀ (l:List V) (i:Nat),o<i->j9 k o x i l=l
 | [],_,_=>rfl
 | v :: l,i,h=>by
  unfold j9;rw [aE4 l (i+1) (by omega),aHA (by omega)]
theorem aIS {k:IntKind} {x n:Int}:∀ {cs:List V} {o j m:Nat},o=j+m->cs[m]? = some (.int k n)->j9 k o x j cs=mL cs m [.int k x]
 | [],o,j,m,_,h=>by simp at h
 | v :: r,o,j,0,ho,h=>by
  simp only [ZC3,ZH3] at h;subst h
  have:o=j:=by omega
  subst this;unfold j9;rw [aE4 r _ (Nat.lt_succ_self o)]
  have e:uR k o x o (.int k n) = .int k x:=by
   show cond (decide (k=k)) (V.int k (cond (Nat.beq o o) x n)) (.int k n)=_;rw [decide_eq_true rfl,cond_true,Nat.beq_refl];rfl
  rw [e];simp [mL]
 | v :: r,o,j,m+1,ho,h=>by
  simp only [ZD0] at h;unfold j9;rw [aIS (o:=o) (j:=j+1) (m:=m) (by omega) h,aHA (by omega)];simp [mL]
theorem aU1 {P:Program} {H:List O} {ty:TypeId} {x v:V} {y:Value} (m:Rel w X H β) (p:R w X β x y) (h:(rV P H ty x).run=some v) :
  ∃ z,(Instr.loadAt ty y).run P w = .ok z w/\R w X β v z:=by
 unfold rV at h;split at h;rotate_left
 ·cases h
 rename_i k id off r;obtain ⟨i,hi,g1,g2⟩:=QM r;split at h
 ·rename_i cs e d
  obtain ⟨b,c⟩:=KD h;obtain ⟨n,hn⟩:=aBR b;cases c;refine aDO (ty:=ty) m p ?_;unfold nN;simp only [hi,oE,d];unfold S7;rw [g1,cond_false,aDV hn]
  have o:cs.drop off = .int k n :: cs.drop (off+1):=by
   obtain ⟨j,he⟩:=ZB2.1 hn;rw [List.drop_eq_getElem_cons j,he]
  rw [o]
 ·rename_i n l xs o d
  cases g:decide (l=k)
  ·rw [g] at h; cases h
  rw [g,cond_true] at h;have:=of_decide_eq_true g;subst this;obtain ⟨b,c⟩:=KD h;cases c;obtain ⟨b,h3⟩:=ZA0.1 b;have b:=ZG2 b;rw [Nat.blt_eq] at h3
  cases p with
  | ptr _ _ _ loc f s =>
  obtain ⟨_,hb0,ob,ys,a1,⟨hn,e',rfl⟩,_⟩:=m.objs id _ _ loc d f;refine ⟨.int l (xs.getD (off - n) 0),?_,.int _ _ _⟩
  have q:w.cell? ⟨loc.block,loc.base+off,none⟩=some (.int l (xs.getD (off - n) 0)):=by
   rw [cell_of_row w _ _ _ e' (0,0) a1,hb0,Nat.zero_add,List.getElem?_toArray,List.getElem?_append_right (by omega),hn,ZC0,ZB3 h3];rw [List.getD_eq_getElem?_getD,ZB3 h3];rfl
  simp [Instr.loadAt,Instr.sureAddr,loadVar,J7 w hi,g1,q]
 ·cases h
theorem aSE {P:Program} {H H' : List O} {ty:TypeId} {a v:V} (h:(FZ P H ty a v).run=some H') :
  zD P H ty a v=some H' \/ ∃ id off n k xs d x i,a = .ptr id off/\v = .int k x/\H[id]? = some (.obj (.page n k xs) d)/\n<=off/\off - n<xs.length/\H' = H.set id (.obj (.page n k (xs.set (off - n) x)) d)/\ti P ty=some i/\i.size=1:=by
 unfold FZ at h;split at h;rotate_left
 ·cases h
 rename_i k id off l x r;obtain ⟨i,hi,g1,g2⟩:=QM r;split at h
 ·rename_i cs e p
  left;cases c:decide (l=k)
  ·rw [c] at h; cases h
  rw [c,cond_true] at h;have:=of_decide_eq_true c;subst this;obtain ⟨b,o⟩:=KD h;obtain ⟨n,hn⟩:=aBR b;cases o;have s:=(ZB2.1 hn).1;unfold zD;simp only [hi,V.cells?,p,g2]
  have:(Nat.beq [V.int l x].length 1&&Nat.ble (off+[V.int l x].length) cs.length)=true:=by
   simp only [List.length_cons,List.length_nil];rw [ZA0];exact ⟨rfl,Nat.ble_eq_true_of_le (by omega)⟩
  rw [this,cond_true,aIS (j:=0) (m:=off) (by omega) hn]
 ·rename_i n q xs d p
  right;cases c:(decide (l=k)&&decide (q = k))
  ·rw [c] at h; cases h
  rw [c,cond_true] at h;obtain ⟨f,g⟩:=ZA0.1 c;have f:=of_decide_eq_true f;have g:=of_decide_eq_true g;subst f;subst g;obtain ⟨b,o⟩:=KD h;cases o;obtain ⟨b,h3⟩:=ZA0.1 b;have b:=ZG2 b;rw [Nat.blt_eq] at h3;exact ⟨id,off,n,q,xs,d,x,i,rfl,rfl,p,b,h3,rfl,hi,g2⟩
 ·cases h
end
end Go.Ab

namespace Go.Ab
section
variable {E:Nat->Nat->Prop} {H:List O} {β:List Loc} {w:World}
theorem dS {w:World} {b:Nat} {o:Obj} (h:w.heap[b]? = some o):b<w.heap.size:=by
 rcases Nat.lt_or_ge b w.heap.size with a | a
 ·exact a
 ·simp [Array.getElem?_eq_none a] at h
theorem o9 {w w' : World} {b:Nat} (h:w'.heap[b]? = w.heap[b]?) (o:Nat):w'.cell? ⟨b,o,none⟩=w.cell? ⟨b,o,none⟩:=by
 unfold World.cell?; rw [h]
theorem Step.heap_same {w' : World} (g:Rel w (Xs E H β) H β) (a:w'.heap=w.heap) (p:w'.os=w.os) (q:w'.tape=w.tape) (r:w'.output=w.output):Step E H β w H β w' := by
 have st:Stab w (Xs E H β) w' (Xs E H β):=⟨fun b o v j i=>⟨j,(o9 (w:=w) (w' := w') (by rw [a]) o).trans i⟩,fun b cs e h=>⟨cs,e,by rw [a]; exact h⟩⟩;refine ⟨⟨g.len,fun id cs e loc d f=>?_,fun id n s loc d f=>?_,fun id sh vs loc d f=>?_,g.disj⟩,p,q,r,by rw [a]; exact Nat.le_refl _,fun b _=>.inl (by rw [a]),fun b o h=>.inl h,.refl _⟩
 ·obtain ⟨k,c,e',a1,a2,a3,a4⟩:=g.cells id cs e loc d f
  exact ⟨k,c,e',by rw [a]; exact a1,a2,a3,fun k v i=>let ⟨x,j,l⟩:=a4 k v i; ⟨x,j,l.stab st _ (.refl _)⟩⟩
 ·obtain ⟨k,m,c,e',a1,a2⟩:=g.tok id n s loc d f
  exact ⟨k,m,c,e',by rw [a]; exact a1,a2⟩
 ·obtain ⟨k,kb,ob,xs,a1,a2,a3⟩:=g.objs id sh vs loc d f
  exact ⟨k,kb,ob,xs,by rw [a]; exact a1,a2,fun k v i=>let ⟨x,j,l⟩:=a3 k v i; ⟨x,j,l.stab st _ (.refl _)⟩⟩
theorem GO (d:Rel w (Xs E H β) H β) {b o:Nat} (h:Own H β b o):b<w.heap.size:=by
 obtain ⟨id,loc,h1,rfl,a⟩:=h
 rcases a with ⟨cs,e,a⟩ | ⟨n,sz,a,_⟩ | ⟨sh,vs,a⟩
 ·obtain ⟨_,c,e',h3,_⟩:=d.cells id cs e loc a h1
  exact dS h3
 ·obtain ⟨_,_,c,e',h3,_⟩:=d.tok id n sz loc a h1
  exact dS h3
 ·obtain ⟨_,_,ob,xs,h3,_⟩:=d.objs id sh vs loc a h1
  exact dS h3
theorem oC (b:Rel w (Xs E H β) H β) {id:Nat} {loc:Loc} (d:live H id) (a:β[id]? = some loc):loc.block<w.heap.size:=by
 obtain ⟨o,h2,h3⟩:=d
 cases o with
 | cells cs e=>obtain ⟨_,c,e',h3,_⟩:=b.cells id cs e loc h2 a; exact dS h3
 | tok n f=>obtain ⟨_,_,c,e',h3,_⟩:=b.tok id n f loc h2 a; exact dS h3
 | obj sh vs=>obtain ⟨_,_,ob,xs,h3,_⟩:=b.objs id sh vs loc h2 a; exact dS h3
 | dead=>exact absurd rfl h3
theorem kV {id:Nat} {cs e} (h:H[id]? = some (.cells cs e)):live H id:=⟨_,h,by simp⟩
theorem mC {id:Nat} {sh vs} (h:H[id]? = some (.obj sh vs)):live H id:=⟨_,h,by simp⟩
theorem kX {id n a:Nat} (h:H[id]? = some (.tok n a)):live H id:=⟨_,h,by simp⟩
theorem Step.alloc (i:Rel w (Xs E H β) H β) (d:Obj):Step E H β w H β (w.alloc d):=by
 have hold:∀ b,b<w.heap.size->(w.alloc d).heap[b]? = w.heap[b]? := fun b hb=>heap_alloc_old w d b hb
 have st:Stab w (Xs E H β) (w.alloc d) (Xs E H β):=
  ⟨fun b o v j a=>⟨j,by rw [o9 (hold b (rP a))]; exact a⟩,fun b cs e h=>⟨cs,e,by rw [hold b (dS h)]; exact h⟩⟩
 refine ⟨⟨i.len,fun id cs e loc f g=>?_,fun id n p loc f g=>?_,fun id sh vs loc f g=>?_,i.disj⟩,rfl,rfl,rfl,by simp,fun b hb=>.inl (hold b hb),fun b o h=>.inl h,.refl _⟩
 ·obtain ⟨k,c,e',a1,a2,a3,a4⟩:=i.cells id cs e loc f g
  exact ⟨k,c,e',by rw [hold _ (dS a1)]; exact a1,a2,a3,fun k v a=>let ⟨x,j,l⟩:=a4 k v a; ⟨x,j,l.stab st _ (.refl _)⟩⟩
 ·obtain ⟨k,m,c,e',a1,a2⟩:=i.tok id n p loc f g
  exact ⟨k,m,c,e',by rw [hold _ (dS a1)]; exact a1,a2⟩
 ·obtain ⟨k,kb,d,xs,a1,a2,a3⟩:=i.objs id sh vs loc f g
  exact ⟨k,kb,d,xs,by rw [hold _ (dS a1)]; exact a1,a2,fun k v a=>let ⟨x,j,l⟩:=a3 k v a; ⟨x,j,l.stab st _ (.refl _)⟩⟩
theorem sZ {α:Type} (l:List α) (x:α) (i:Nat):(l++[x])[i]? = if i<l.length then l[i]? else if i=l.length then some x else none:=by
 rw [List.getElem?_append];split
 ·rfl
 ·split
  ·subst i; simp
  ·rw [List.getElem?_eq_none]; simp; omega
theorem Step.push (B:Rel w (Xs E H β) H β) (c:Array Value) (e' : TypeId) (g:O) (loc:Loc)
  (r:loc.block=w.heap.size) (s:c.size=loc.size)
  (t:∀ cs e,g = .cells cs e->loc.kind=false/\(loc.base+cs.length<=loc.size/\(4294967296<=e->loc.size=loc.base+cs.length)) /\ ∀ (k:Nat) v,cs[k]? = some v -> ∃ x,c[loc.base+k]? = some x/\R w (Xs E H β) β v x)
  (I:∀ n J,g = .tok n J->loc.kind=true/\loc.n=n) (F:∀ sh vs,g ≠ .obj sh vs:=by intro _ _ h; cases h) :
  Step E H β w (H++[g]) (β++[loc]) (w.alloc (.cells c e')):=by
 have hold:∀ b,b<w.heap.size->(w.alloc (.cells c e')).heap[b]? = w.heap[b]? := fun b hb=>heap_alloc_old w _ b hb;have y:(w.alloc (.cells c e')).heap[w.heap.size]? = some (.cells c e' (0,0)):=heap_alloc_new w _
 have D:∀ id,(H++[g])[id]? = if id<H.length then H[id]? else if id=H.length then some g else none:=sZ H g
 have C:∀ id,(β++[loc])[id]? = if id<H.length then β[id]? else if id=H.length then some loc else none:=fun id=>by rw [B.len]; exact sZ β loc id
 have z:∀ b o,Own (H++[g]) (β++[loc]) b o->Own H β b o\/w.heap.size<=b:=by
  rintro b o ⟨id,l,f,rfl,h2⟩;rw [C] at f;rw [D] at h2;by_cases hlt:id<H.length
  ·simp only [hlt,if_true] at f h2
   exact .inl ⟨id,l,f,rfl,h2⟩
  ·simp only [hlt,if_false] at f
   split at f
   ·simp only [ZH3] at f
    subst f;exact .inr (by omega)
   ·cases f
 have hle:LocLe β (β++[loc]):=fun id l h=>⟨l,by
  have:id<β.length:=(ZB2.1 h).1
  rw [ZB0 this]; exact h,.inl rfl⟩
 have st:Stab w (Xs E H β) (w.alloc (.cells c e')) (Xs E (H++[g]) (β++[loc])):=by
  refine ⟨fun b o v A u=>⟨fun h=>?_,by rw [o9 (hold b (rP u))]; exact u⟩,fun b cs e h=>⟨cs,e,by rw [hold b (dS h)]; exact h⟩⟩;have:=rP u
  rcases h with h | h
  ·exact A (.inl h)
  ·rcases z b o h with h | h
   ·exact A (.inr h)
   ·omega
 refine ⟨⟨by simp [B.len],fun id cs e l a d=>?_,fun id n J l a d=>?_,fun id sh vs l a d=>?_,fun i j l l' hi M a d hb=>?_⟩,rfl,rfl,rfl,by simp,fun b hb=>.inl (hold b hb),z,hle⟩
 ·rw [D] at a
  rw [C] at d;by_cases hlt:id<H.length
  ·simp only [hlt,if_true] at a d
   obtain ⟨k,c,e',p,a2,a3,a4⟩:=B.cells id cs e l a d;exact ⟨k,c,e',by rw [hold _ (dS p)]; exact p,a2,a3,fun k v u=>let ⟨x,A,G⟩:=a4 k v u; ⟨x,A,G.stab st _ hle⟩⟩
  ·simp only [hlt,if_false] at a d
   split at a
   ·simp only [ZH3, *] at a d
    simp only [if_true,ZH3] at d;subst d;obtain ⟨f,h2,q⟩:=t cs e (by simpa using a);exact ⟨f,c,e',by rw [r]; exact y,s,h2,fun k v u=>let ⟨x,A,G⟩:=q k v u; ⟨x,A,G.stab st _ hle⟩⟩
   ·cases a
 ·rw [D] at a
  rw [C] at d;by_cases hlt:id<H.length
  ·simp only [hlt,if_true] at a d
   obtain ⟨k,m,c,e',p,a2⟩:=B.tok id n J l a d;exact ⟨k,m,c,e',by rw [hold _ (dS p)]; exact p,a2⟩
  ·simp only [hlt,if_false] at a d
   split at a
   ·simp only [ZH3, *] at a d
    simp only [if_true,ZH3] at d;subst d;obtain ⟨f,h2⟩:=I n J (by simpa using a);exact ⟨f,h2,c,e',by rw [r]; exact y,s⟩
   ·cases a
 ·rw [D] at a
  rw [C] at d;by_cases hlt:id<H.length
  ·simp only [hlt,if_true] at a d
   obtain ⟨k,kb,g,xs,p,a2,a3⟩:=B.objs id sh vs l a d;exact ⟨k,kb,g,xs,by rw [hold _ (dS p)]; exact p,a2,fun k v u=>let ⟨x,A,G⟩:=a3 k v u; ⟨x,A,G.stab st _ hle⟩⟩
  ·simp only [hlt,if_false] at a
   split at a
   ·exact absurd (Option.some.inj a) (F sh vs)
   ·cases a
 ·have L:∀ i l,live (H++[g]) i->(β++[loc])[i]? = some l->(i<H.length/\live H i/\β[i]? = some l/\l.block<w.heap.size)\/(i=H.length/\l.block=w.heap.size):=by
   rintro i l ⟨o,f,h2⟩ q;rw [D] at f;rw [C] at q;by_cases hlt:i<H.length
   ·simp only [hlt,if_true] at f q
    exact .inl ⟨hlt,⟨o,f,h2⟩,q,oC B ⟨o,f,h2⟩ q⟩
   ·simp only [hlt,if_false] at f q
    split at q
    ·simp only [ZH3] at q
     subst q;exact .inr ⟨by assumption,r⟩
    ·cases q
  rcases L i l hi a with ⟨_,p,a2,a3⟩ | ⟨p,a2⟩ <;> rcases L j l' M d with ⟨_,K,b2,b3⟩ | ⟨K,b2⟩
  ·exact B.disj i j l l' p K a2 b2 hb
  ·omega
  ·omega
  ·omega
theorem kE {α:Type} (l:List α) (i:Nat) (x:α) (j:Nat):(l.set i x)[j]? = if i=j then (if i<l.length then some x else none) else l[j]? := by
 rw [List.getElem?_set]
theorem Step.setCells (z:Rel w (Xs E H β) H β) {id:Nat} {cs cs' : List V} {e e0:TypeId} {loc:Loc} {c c' : Array Value}
  (g:H[id]? = some (.cells cs e)) (f:β[id]? = some loc) (hb:w.heap[loc.block]? = some (.cells c e0 (0,0))) (K:c'.size=c.size)
  (T:cs'.length=cs.length) (C:∀ (k:Nat) v,cs'[k]? = some v -> ∃ x,c'[loc.base+k]? = some x/\R w (Xs E H β) β v x) :
  Step E H β w (H.set id (.cells cs' e)) β (w.setRow loc.block c'):=by
 have t:∀ b,b ≠ loc.block->(w.setRow loc.block c').heap[b]? = w.heap[b]? := fun b h=>setRow_other w _ _ _ h;have q:(w.setRow loc.block c').heap[loc.block]? = some (.cells c' e0 (0,0)):=setRow_heap w _ c c' e0 (0,0) hb;have G:id<H.length:=(ZB2.1 g).1
 have D:∀ j,(H.set id (.cells cs' e))[j]? = if id=j then some (.cells cs' e) else H[j]? := fun j=>by rw [kE]; simp [G]
 have A:∀ b o,Own (H.set id (.cells cs' e)) β b o ↔ Own H β b o:=by
  intro b o;constructor
  ·rintro ⟨j,l,y,rfl,h2⟩
   rw [D] at h2;by_cases a:id=j
   ·subst a; exact ⟨id,l,y,rfl,.inl ⟨cs,e,g⟩⟩
   ·simp only [a,if_false] at h2; exact ⟨j,l,y,rfl,h2⟩
  ·rintro ⟨j,l,y,rfl,h2⟩
   refine ⟨j,l,y,rfl,?_⟩;rw [D];by_cases a:id=j
   ·subst a; exact .inl ⟨cs',e,by simp⟩
   ·simpa only [a,if_false] using h2
 have r:∀ o,Own H β loc.block o:=fun o=>⟨id,loc,f,rfl,.inl ⟨cs,e,g⟩⟩
 have F:∀ (b:Nat) (cs:Array Value) (e:TypeId),w.heap[b]? = some (Obj.cells cs e (0,0)) -> ∃ (cs' : Array Value) (e' : TypeId),(w.setRow loc.block c').heap[b]? = some (Obj.cells cs' e' (0,0)):=by
  intro b cs e h;by_cases p:b=loc.block
  ·subst p; exact ⟨c',e0,q⟩
  ·exact ⟨cs,e,by rw [t b p]; exact h⟩
 have st:Stab w (Xs E H β) (w.setRow loc.block c') (Xs E (H.set id (.cells cs' e)) β):=by
  refine ⟨fun b o v B C=>?_,F⟩;have p:b ≠ loc.block:=fun h=>B (.inr (h ▸ r o));refine ⟨fun h=>B ?_,by rw [o9 (t b p)]; exact C⟩
  rcases h with h | h
  ·exact .inl h
  ·exact .inr ((A b o).1 h)
 have u:∀ j,live (H.set id (.cells cs' e)) j->live H j:=by
  rintro j ⟨o,y,h2⟩;rw [D] at y;by_cases a:id=j
  ·subst a; exact kV g
  ·simp only [a,if_false] at y; exact ⟨o,y,h2⟩
 refine ⟨⟨by simp [z.len],fun j J L l d s=>?_,fun j n S l d s=>?_,fun j sh vs l d s=>?_,fun i j l l' hi a d s hb=>z.disj i j l l' (u i hi) (u j a) d s hb⟩,
  rfl,rfl,rfl,by simp,fun b M => ?_,fun b o h=>.inl ((A b o).1 h),.refl _⟩
 ·rw [D] at d
  by_cases a:id=j
  ·subst a
   simp only [if_true,ZH3,O.cells.injEq] at d;obtain ⟨rfl,rfl⟩:=d;rw [f] at s;simp only [ZH3] at s;subst s;obtain ⟨y,c2,e2,h2,h3,h4,_⟩:=z.cells id cs e loc g f;rw [hb] at h2;simp only [ZH3,Obj.cells.injEq,and_true] at h2;obtain ⟨rfl,rfl⟩:=h2;exact ⟨y,c',e0,q,by omega,⟨by have:=h4.1; omega,fun N=>by have:=h4.2 N; omega⟩,fun k v P=>let ⟨x,B,I⟩:=C k v P; ⟨x,B,I.stab st _ (.refl _)⟩⟩
  ·simp only [a,if_false] at d
   obtain ⟨k,c2,e2,a1,a2,a3,a4⟩:=z.cells j J L l d s;have:l.block ≠ loc.block:=fun h=>a (z.disj id j loc l (kV g) (kV d) f s h.symm);exact ⟨k,c2,e2,by rw [t _ this]; exact a1,a2,a3,fun k v C=>let ⟨x,B,I⟩:=a4 k v C; ⟨x,B,I.stab st _ (.refl _)⟩⟩
 ·rw [D] at d
  by_cases a:id=j
  ·subst a; simp at d
  ·simp only [a,if_false] at d
   obtain ⟨k,m,c2,e2,a1,a2⟩:=z.tok j n S l d s;have:l.block ≠ loc.block:=fun h=>a (z.disj id j loc l (kV g) (kX d) f s h.symm);exact ⟨k,m,c2,e2,by rw [t _ this]; exact a1,a2⟩
 ·rw [D] at d
  by_cases a:id=j
  ·subst a; simp at d
  ·simp only [a,if_false] at d
   obtain ⟨k,kb,ob,xs,a1,a2,a3⟩:=z.objs j sh vs l d s;have:l.block ≠ loc.block:=fun h=>a (z.disj id j loc l (kV g) (mC d) f s h.symm);exact ⟨k,kb,ob,xs,by rw [t _ this]; exact a1,a2,fun k v C=>let ⟨x,B,I⟩:=a3 k v C; ⟨x,B,I.stab st _ (.refl _)⟩⟩
 ·by_cases p:b=loc.block
  ·subst p
   exact .inr (.inl ⟨⟨0,r 0⟩,c,c',e0,hb,q,K,fun o Q=>absurd (r o) Q⟩)
  ·exact .inl (t b p)
theorem Step.setTok (C:Rel w (Xs E H β) H β) {id n n' r:Nat} {e0:TypeId} {loc:Loc} {c c' : Array Value}
  (g:H[id]? = some (.tok n r)) (a:β[id]? = some loc) (hb:w.heap[loc.block]? = some (.cells c e0 (0,0))) (R:c'.size=c.size)
  (U:n<n') (T:∀ o,o<loc.base+n*r->c'[o]? = c[o]?) :
  Step E H β w (H.set id (.tok n' r)) (β.set id { loc with n:=n' }) (w.setRow loc.block c'):=by
 have z:∀ b,b ≠ loc.block->(w.setRow loc.block c').heap[b]? = w.heap[b]? := fun b h=>setRow_other w _ _ _ h;have p:(w.setRow loc.block c').heap[loc.block]? = some (.cells c' e0 (0,0)):=setRow_heap w _ c c' e0 (0,0) hb;have D:id<H.length:=(ZB2.1 g).1
 have G : id<β.length:=by rw [<- C.len]; exact D
 have L:∀ j,(H.set id (.tok n' r))[j]? = if id=j then some (.tok n' r) else H[j]? := fun j=>by rw [kE]; simp [D]
 have J:∀ j,(β.set id { loc with n:=n' })[j]? = if id=j then some { loc with n:=n' } else β[j]? := fun j=>by rw [kE]; simp [G]
 obtain ⟨t,hlocn,c0,S,hb0,hsize⟩:=C.tok id n r loc g a;rw [hb] at hb0;simp only [ZH3,Obj.cells.injEq,and_true] at hb0;obtain ⟨rfl,rfl⟩:=hb0
 have F:∀ b o,Own (H.set id (.tok n' r)) (β.set id { loc with n:=n' }) b o->Own H β b o:=by
  rintro b o ⟨j,l,h1,rfl,u⟩;rw [L] at u;rw [J] at h1;by_cases d:id=j
  ·subst d
   simp only [if_true,ZH3] at h1;subst h1;refine ⟨id,loc,a,rfl,.inr (.inl ⟨n,r,g,?_⟩)⟩
   rcases u with ⟨_,_,u⟩ | ⟨m,s,u,h3⟩ | ⟨_,_,u⟩
   ·simp at u
   rotate_left
   ·simp at u
   ·simp only [if_true,ZH3,O.tok.injEq] at u
    obtain ⟨rfl,rfl⟩:=u;have:n*r<=n' * r:=Nat.mul_le_mul_right r (Nat.le_of_lt U);simp only at h3;omega
  ·simp only [d,if_false] at h1 u; exact ⟨j,l,h1,rfl,u⟩
 have B:∀ o,¬ Own H β loc.block o->o<loc.base+n*r:=fun o h=>by
  rcases Nat.lt_or_ge o (loc.base+n*r) with P | P
  ·exact P
  ·exact absurd ⟨id,loc,a,rfl,.inr (.inl ⟨n,r,g,P⟩)⟩ h
 have hle:LocLe β (β.set id { loc with n:=n' }):=fun j l h=>by
  rw [J];by_cases d:id=j
  ·subst d
   rw [a] at h;simp only [ZH3] at h;subst h;exact ⟨{ loc with n:=n' },by simp,.inr ⟨t,t,by rw [hlocn]; exact U⟩⟩
  ·exact ⟨l,by simp [d,h],.inl rfl⟩
 have M:∀ (b:Nat) (cs:Array Value) (e:TypeId),w.heap[b]? = some (Obj.cells cs e (0,0)) -> ∃ (cs' : Array Value) (e' : TypeId),(w.setRow loc.block c').heap[b]? = some (Obj.cells cs' e' (0,0)):=by
  intro b cs e h;by_cases hbb:b=loc.block
  ·subst hbb; exact ⟨c',e0,p⟩
  ·exact ⟨cs,e,by rw [z b hbb]; exact h⟩
 have st:Stab w (Xs E H β) (w.setRow loc.block c') (Xs E (H.set id (.tok n' r)) (β.set id { loc with n:=n' })):=by
  refine ⟨fun b o v K I=>⟨fun h=>K ?_,?_⟩,M⟩
  ·rcases h with h | h
   ·exact .inl h
   ·exact .inr (F b o h)
  ·by_cases hbb:b=loc.block
   ·subst hbb
    rw [cell_of_row w _ _ c e0 (0,0) hb] at I;rw [cell_of_row _ _ _ c' e0 (0,0) p,T o (B o (fun h=>K (.inr h))),I]
   ·rw [o9 (z b hbb)]; exact I
 have A:∀ j,live (H.set id (.tok n' r)) j->live H j:=by
  rintro j ⟨o,h1,u⟩;rw [L] at h1;by_cases d:id=j
  ·subst d; exact kX g
  ·simp only [d,if_false] at h1; exact ⟨o,h1,u⟩
 have y:∀ (j:Nat) l,(β.set id { loc with n:=n' })[j]? = some l -> ∃ l',β[j]? = some l' /\ l'.block=l.block:=by
  intro j l h;rw [J] at h;by_cases d:id=j
  ·subst d
   simp only [if_true,ZH3] at h;subst h;exact ⟨loc,a,rfl⟩
  ·simp only [d,if_false] at h; exact ⟨l,h,rfl⟩
 refine ⟨⟨by simp [C.len],fun j N S l f q=>?_,fun j m s l f q=>?_,fun j sh vs l f q=>?_,fun i j l l' hi d f q W=>?_⟩,
  rfl,rfl,rfl,by simp,fun b V => ?_,fun b o h=>.inl (F b o h),hle⟩
 ·rw [L] at f
  rw [J] at q;by_cases d:id=j
  ·subst d; simp at f
  ·simp only [d,if_false] at f q
   obtain ⟨k,c2,e2,a1,a2,a3,a4⟩:=C.cells j N S l f q;have:l.block ≠ loc.block:=fun h=>d (C.disj id j loc l (kX g) (kV f) a q h.symm);exact ⟨k,c2,e2,by rw [z _ this]; exact a1,a2,a3,fun k v I=>let ⟨x,K,Q⟩:=a4 k v I; ⟨x,K,Q.stab st _ hle⟩⟩
 ·rw [L] at f
  rw [J] at q;by_cases d:id=j
  ·subst d
   simp only [if_true,ZH3,O.tok.injEq] at f q;obtain ⟨rfl,rfl⟩:=f;subst q;exact ⟨t,rfl,c',e0,p,by simp only; omega⟩
  ·simp only [d,if_false] at f q
   obtain ⟨k,m,c2,e2,a1,a2⟩:=C.tok j m s l f q;have:l.block ≠ loc.block:=fun h=>d (C.disj id j loc l (kX g) (kX f) a q h.symm);exact ⟨k,m,c2,e2,by rw [z _ this]; exact a1,a2⟩
 ·rw [L] at f
  rw [J] at q;by_cases d:id=j
  ·subst d; simp at f
  ·simp only [d,if_false] at f q
   obtain ⟨k,kb,ob,xs,a1,a2,a3⟩:=C.objs j sh vs l f q;have:l.block ≠ loc.block:=fun h=>d (C.disj id j loc l (kX g) (mC f) a q h.symm);exact ⟨k,kb,ob,xs,by rw [z _ this]; exact a1,a2,fun k v I=>let ⟨x,K,Q⟩:=a3 k v I; ⟨x,K,Q.stab st _ hle⟩⟩
 ·obtain ⟨m,h1,u⟩:=y i l f
  obtain ⟨Y,h1',h2'⟩:=y j l' q;exact C.disj i j m Y (A i hi) (A j d) h1 h1' (by omega)
 ·by_cases hbb:b=loc.block
  ·subst hbb
   by_cases hex:∃ o,Own H β loc.block o
   ·exact .inr (.inl ⟨hex,c,c',e0,hb,p,R,fun o X=>T o (B o X)⟩)
   ·exact absurd ⟨loc.base+n*r,id,loc,a,rfl,.inr (.inl ⟨n,r,g,Nat.le_refl _⟩)⟩ hex
  ·exact .inl (z b hbb)
theorem Step.moveTok (q:Rel w (Xs E H β) H β) {id n n' y:Nat} {e' : TypeId} {loc:Loc} {c:Array Value}
  (G:H[id]? = some (.tok n y)) (t:β[id]? = some loc) (S:n<n') :
  Step E H β w (H.set id (.tok n' y)) (β.set id { kind:=true,block:=w.heap.size,base:=0,n:=n',size:=c.size }) (w.alloc (.cells c e')):=by
 have hold:∀ b,b<w.heap.size->(w.alloc (.cells c e')).heap[b]? = w.heap[b]? := fun b hb=>heap_alloc_old w _ b hb;have I:(w.alloc (.cells c e')).heap[w.heap.size]? = some (.cells c e' (0,0)):=heap_alloc_new w _;have r:id<H.length:=(ZB2.1 G).1
 have z : id<β.length:=by rw [<- q.len]; exact r
 generalize p:({ kind:=true,block:=w.heap.size,base:=0,n:=n',size:=c.size }:Loc)=L
 have F:∀ j,(H.set id (.tok n' y))[j]? = if id=j then some (.tok n' y) else H[j]? := fun j=>by rw [kE]; simp [r]
 have C:∀ j,(β.set id L)[j]? = if id=j then some L else β[j]? := fun j=>by rw [kE]; simp [z]
 obtain ⟨A,hlocn,_⟩:=q.tok id n y loc G t
 have u:∀ b o,Own (H.set id (.tok n' y)) (β.set id L) b o->Own H β b o\/w.heap.size<=b:=by
  rintro b o ⟨j,l,h1,rfl,h2⟩;rw [F] at h2;rw [C] at h1;by_cases d:id=j
  ·subst d
   simp only [if_true,ZH3] at h1;subst h1;exact .inr (by simp [<- p])
  ·simp only [d,if_false] at h1 h2; exact .inl ⟨j,l,h1,rfl,h2⟩
 have hle:LocLe β (β.set id L):=fun j l h=>by
  rw [C];by_cases d:id=j
  ·subst d
   rw [t] at h;simp only [ZH3] at h;subst h;exact ⟨L,by simp,.inr ⟨A,by simp [<- p],by rw [hlocn,<- p]; exact S⟩⟩
  ·exact ⟨l,by simp [d,h],.inl rfl⟩
 have st:Stab w (Xs E H β) (w.alloc (.cells c e')) (Xs E (H.set id (.tok n' y)) (β.set id L)):=by
  refine ⟨fun b o v D B=>⟨fun h=>?_,by rw [o9 (hold b (rP B))]; exact B⟩,fun b cs e h=>⟨cs,e,by rw [hold b (dS h)]; exact h⟩⟩;have:=rP B
  rcases h with h | h
  ·exact D (.inl h)
  ·rcases u b o h with h | h
   ·exact D (.inr h)
   ·omega
 refine ⟨⟨by simp [q.len],fun j J R l a f=>?_,fun j m s l a f=>?_,fun j sh vs l a f=>?_,fun i j l l' hi d a f M=>?_⟩,
  rfl,rfl,rfl,by simp,fun b K => .inl (hold b K),u,hle⟩
 ·rw [F] at a
  rw [C] at f;by_cases d:id=j
  ·subst d; simp at a
  ·simp only [d,if_false] at a f
   obtain ⟨k,c2,e2,g,a2,a3,a4⟩:=q.cells j J R l a f;exact ⟨k,c2,e2,by rw [hold _ (dS g)]; exact g,a2,a3,fun k v B=>let ⟨x,D,N⟩:=a4 k v B; ⟨x,D,N.stab st _ hle⟩⟩
 ·rw [F] at a
  rw [C] at f;by_cases d:id=j
  ·subst d
   simp only [if_true,ZH3,O.tok.injEq] at a f;obtain ⟨rfl,rfl⟩:=a;subst f;exact ⟨by simp [<- p],by simp [<- p],c,e',by simpa [<- p] using I,by simp [<- p]⟩
  ·simp only [d,if_false] at a f
   obtain ⟨k,m,c2,e2,g,a2⟩:=q.tok j m s l a f;exact ⟨k,m,c2,e2,by rw [hold _ (dS g)]; exact g,a2⟩
 ·rw [F] at a
  rw [C] at f;by_cases d:id=j
  ·subst d; simp at a
  ·simp only [d,if_false] at a f
   obtain ⟨k,kb,ob,xs,g,a2,a3⟩:=q.objs j sh vs l a f;exact ⟨k,kb,ob,xs,by rw [hold _ (dS g)]; exact g,a2,fun k v B=>let ⟨x,D,N⟩:=a3 k v B; ⟨x,D,N.stab st _ hle⟩⟩
 ·have Q:∀ i l,live (H.set id (.tok n' y)) i->(β.set id L)[i]? = some l->(live H i/\β[i]? = some l/\l.block<w.heap.size)\/(i=id/\l.block=w.heap.size):=by
   rintro i l ⟨o,h1,h2⟩ h3;rw [F] at h1;rw [C] at h3;by_cases hlt:id=i
   ·subst hlt
    simp only [if_true,ZH3] at h3;subst h3;exact .inr ⟨rfl,by simp [<- p]⟩
   ·simp only [hlt,if_false] at h1 h3
    exact .inl ⟨⟨o,h1,h2⟩,h3,oC q ⟨o,h1,h2⟩ h3⟩
  rcases Q i l hi a with ⟨g,a2,a3⟩ | ⟨g,a2⟩ <;> rcases Q j l' d f with ⟨P,b2,b3⟩ | ⟨P,b2⟩
  ·exact q.disj i j l l' g P a2 b2 M
  ·omega
  ·omega
  ·omega
theorem Step.setObjG (B:Rel w (Xs E H β) H β) {id:Nat} {sh sh' : Shape} {vs t : List V} {loc:Loc} {ob' : Obj} {xs' : List Value}
  (s:H[id]? = some (.obj sh vs)) (f:β[id]? = some loc) (P:Shp sh' ob' xs') (I:∀ (k:Nat) v,t[k]? = some v -> ∃ x,xs'[k]? = some x/\R w (Xs E H β) β v x)
  (z:∀ G xs,w.heap[loc.block]? = some G->Shp sh G xs->(special G=true/\special ob' = true) \/ ∃ c c' e,G = .cells c e (0,0)/\ob' = .cells c' e (0,0)/\c'.size=c.size) :
  Step E H β w (H.set id (.obj sh' t)) β { w with heap:=w.heap.setIfInBounds loc.block ob' }:=by
 obtain ⟨N,hb0,G,xs,y,D,_⟩:=B.objs id sh vs loc s f;obtain ⟨p,hne⟩:=Go.MapKept.heap_set (o' := ob') y;have K:id<H.length:=(ZB2.1 s).1
 have J:∀ j,(H.set id (.obj sh' t))[j]? = if id=j then some (.obj sh' t) else H[j]? := fun j=>by rw [kE]; simp [K]
 have C:∀ b o,Own (H.set id (.obj sh' t)) β b o ↔ Own H β b o:=by
  intro b o;constructor
  ·rintro ⟨j,l,h1,rfl,h2⟩
   rw [J] at h2;by_cases d:id=j
   ·subst d; exact ⟨id,l,h1,rfl,.inr (.inr ⟨sh,vs,s⟩)⟩
   ·simp only [d,if_false] at h2; exact ⟨j,l,h1,rfl,h2⟩
  ·rintro ⟨j,l,h1,rfl,h2⟩
   refine ⟨j,l,h1,rfl,?_⟩;rw [J];by_cases d:id=j
   ·subst d; exact .inr (.inr ⟨sh',t,by simp⟩)
   ·simpa only [d,if_false] using h2
 have q:∀ o,Own H β loc.block o:=fun o=>⟨id,loc,f,rfl,.inr (.inr ⟨sh,vs,s⟩)⟩
 have st:Stab w (Xs E H β) { w with heap:=w.heap.setIfInBounds loc.block ob' } (Xs E (H.set id (.obj sh' t)) β):=by
  refine ⟨fun b o v F I=>?_,fun b cs e h=>?_⟩
  ·have u:b ≠ loc.block:=fun h=>F (.inr (h ▸ q o))
   refine ⟨fun h=>F ?_,by rw [o9 (hne b u)]; exact I⟩
   rcases h with h | h
   ·exact .inl h
   ·exact .inr ((C b o).1 h)
  ·by_cases u:b=loc.block
   ·subst u
    rcases z G xs y D with ⟨g,_⟩ | ⟨c,c',e2,_,g,_⟩
    ·rw [y] at h
     cases h;cases g
    ·subst g
     exact ⟨c',e2,p⟩
   ·exact ⟨cs,e,by rw [hne b u]; exact h⟩
 have A:∀ j,live (H.set id (.obj sh' t)) j->live H j:=by
  rintro j ⟨o,h1,h2⟩;rw [J] at h1;by_cases d:id=j
  ·subst d; exact mC s
  ·simp only [d,if_false] at h1; exact ⟨o,h1,h2⟩
 refine ⟨⟨by simp [B.len],fun j M U l a r=>?_,fun j n Y l a r=>?_,fun j S T l a r=>?_,fun i j l l' hi d a r hb=>B.disj i j l l' (A i hi) (A j d) a r hb⟩,
  rfl,rfl,rfl,by simp,fun b W => ?_,fun b o h=>.inl ((C b o).1 h),.refl _⟩
 ·rw [J] at a
  by_cases d:id=j
  ·subst d; simp at a
  ·simp only [d,if_false] at a
   obtain ⟨k,c2,e2,a1,a2,a3,a4⟩:=B.cells j M U l a r;have:l.block ≠ loc.block:=fun h=>d (B.disj id j loc l (mC s) (kV a) f r h.symm);exact ⟨k,c2,e2,by rw [hne _ this]; exact a1,a2,a3,fun k v I=>let ⟨x,F,L⟩:=a4 k v I; ⟨x,F,L.stab st _ (.refl _)⟩⟩
 ·rw [J] at a
  by_cases d:id=j
  ·subst d; simp at a
  ·simp only [d,if_false] at a
   obtain ⟨k,m,c2,e2,a1,a2⟩:=B.tok j n Y l a r;have:l.block ≠ loc.block:=fun h=>d (B.disj id j loc l (mC s) (kX a) f r h.symm);exact ⟨k,m,c2,e2,by rw [hne _ this]; exact a1,a2⟩
 ·rw [J] at a
  by_cases d:id=j
  ·subst d
   simp only [if_true,ZH3,O.obj.injEq] at a;obtain ⟨rfl,rfl⟩:=a;rw [f] at r;simp only [ZH3] at r;subst r;exact ⟨N,hb0,ob',xs',p,P,fun k v Q => let ⟨x,F,L⟩:=I k v Q; ⟨x,F,L.stab st _ (.refl _)⟩⟩
  ·simp only [d,if_false] at a
   obtain ⟨k,kb,ob1,xs1,a1,a2,a3⟩:=B.objs j S T l a r;have:l.block ≠ loc.block:=fun h=>d (B.disj id j loc l (mC s) (mC a) f r h.symm);exact ⟨k,kb,ob1,xs1,by rw [hne _ this]; exact a1,a2,fun k v I=>let ⟨x,F,L⟩:=a3 k v I; ⟨x,F,L.stab st _ (.refl _)⟩⟩
 ·by_cases u:b=loc.block
  ·subst u
   rcases z G xs y D with ⟨a,r⟩ | ⟨c,c',e2,a,r,g3⟩
   ·exact .inr (.inr ⟨⟨0,q 0⟩,G,ob',y,p,a,r⟩)
   ·subst a
    subst r;exact .inr (.inl ⟨⟨0,q 0⟩,c,c',e2,y,p,g3,fun o X=>absurd (q o) X⟩)
  ·exact .inl (hne b u)
theorem Step.setPage (p:Rel w (Xs E H β) H β) {id n:Nat} {k:IntKind} {l l' : List Int} {q d : List V} {loc:Loc} {a : Array Value} {e:TypeId} {xs xs' : List Value}
  (g:H[id]? = some (.obj (.page n k l) q)) (f:β[id]? = some loc) (c:w.heap[loc.block]? = some (.cells (xs++l.map (Value.int k)).toArray e (0,0)))
  (o:xs'.length=n) (j:xs.length=n) (b:a = (xs' ++ l'.map (Value.int k)).toArray) (r:l'.length=l.length) (s:∀ (k:Nat) v,d[k]? = some v -> ∃ x,xs'[k]? = some x/\R w (Xs E H β) β v x) :
  Step E H β w (H.set id (.obj (.page n k l') d)) β (w.setRow loc.block a):=by
 have t:w.setRow loc.block a = { w with heap:=w.heap.setIfInBounds loc.block (.cells a e (0,0)) }:=by
  unfold World.setRow;congr 1;apply Array.ext_getElem?;intro i;rw [Array.getElem?_modify,Array.getElem?_setIfInBounds];by_cases hi:loc.block=i
  ·subst hi
   have h:loc.block<w.heap.size:=dS c;rw [if_pos rfl,if_pos rfl,c,if_pos h];rfl
  ·rw [if_neg hi,if_neg hi]
 rw [t];refine Step.setObjG p g f (xs' := xs') ⟨o,e,by rw [b]⟩ s fun y ys m u=>.inr ?_;rw [c] at m;cases m;refine ⟨_,a,e,rfl,rfl,?_⟩;rw [b];simp [o,j,r]
theorem Step.pushObjD (u:Rel w (Xs E H β) H β) (y:Obj) {sh:Shape} {xs:List Value} {vs:List V} {loc:Loc} (F:Shp sh y xs)
  (q:∀ (k:Nat) v,vs[k]? = some v -> ∃ x,xs[k]? = some x/\R w (Xs E H β) β v x) (r:loc.block=w.heap.size) (M:loc.kind=false) (hb:loc.base=0) :
  Step E H β w (H++[.obj sh vs]) (β++[loc]) (w.alloc y):=by
 have hold:∀ b,b<w.heap.size->(w.alloc y).heap[b]? = w.heap[b]? := fun b hb=>heap_alloc_old w _ b hb;have B:(w.alloc y).heap[w.heap.size]? = some y:=heap_alloc_new w _
 have A:∀ id,(H++[O.obj sh vs])[id]? = if id<H.length then H[id]? else if id=H.length then some (.obj sh vs) else none:=sZ H _
 have z:∀ id,(β++[loc])[id]? = if id<H.length then β[id]? else if id=H.length then some loc else none:=fun id=>by rw [u.len]; exact sZ β loc id
 have s:∀ b o,Own (H++[.obj sh vs]) (β++[loc]) b o->Own H β b o\/w.heap.size<=b:=by
  rintro b o ⟨id,l,f,rfl,h2⟩;rw [z] at f;rw [A] at h2;by_cases hlt:id<H.length
  ·simp only [hlt,if_true] at f h2
   exact .inl ⟨id,l,f,rfl,h2⟩
  ·simp only [hlt,if_false] at f
   split at f
   ·simp only [ZH3] at f
    subst f;exact .inr (by omega)
   ·cases f
 have hle:LocLe β (β++[loc]):=fun id l h=>⟨l,by
  have:id<β.length:=(ZB2.1 h).1
  rw [ZB0 this]; exact h,.inl rfl⟩
 have st:Stab w (Xs E H β) (w.alloc y) (Xs E (H++[.obj sh vs]) (β++[loc])):=by
  refine ⟨fun b o v t q=>⟨fun h=>?_,by rw [o9 (hold b (rP q))]; exact q⟩,fun b cs e h=>⟨cs,e,by rw [hold b (dS h)]; exact h⟩⟩;have:=rP q
  rcases h with h | h
  ·exact t (.inl h)
  ·rcases s b o h with h | h
   ·exact t (.inr h)
   ·omega
 refine ⟨⟨by simp [u.len],fun id cs e l a d=>?_,fun id n N l a d=>?_,fun id sh' I l a d=>?_,fun i j l l' hi L a d hb=>?_⟩,rfl,rfl,rfl,by simp,fun b hb=>.inl (hold b hb),s,hle⟩
 ·rw [A] at a
  rw [z] at d;by_cases hlt:id<H.length
  ·simp only [hlt,if_true] at a d
   obtain ⟨k,c,e',g,a2,a3,a4⟩:=u.cells id cs e l a d;exact ⟨k,c,e',by rw [hold _ (dS g)]; exact g,a2,a3,fun k v q=>let ⟨x,t,C⟩:=a4 k v q; ⟨x,t,C.stab st _ hle⟩⟩
  ·simp only [hlt,if_false] at a
   split at a <;> cases a
 ·rw [A] at a
  rw [z] at d;by_cases hlt:id<H.length
  ·simp only [hlt,if_true] at a d
   obtain ⟨k,m,c,e',g,a2⟩:=u.tok id n N l a d;exact ⟨k,m,c,e',by rw [hold _ (dS g)]; exact g,a2⟩
  ·simp only [hlt,if_false] at a
   split at a <;> cases a
 ·rw [A] at a
  rw [z] at d;by_cases hlt:id<H.length
  ·simp only [hlt,if_true] at a d
   obtain ⟨k,kb,ob',xs',g,a2,a3⟩:=u.objs id sh' I l a d;exact ⟨k,kb,ob',xs',by rw [hold _ (dS g)]; exact g,a2,fun k v q=>let ⟨x,t,C⟩:=a3 k v q; ⟨x,t,C.stab st _ hle⟩⟩
  ·simp only [hlt,if_false] at a d
   split at a
   ·rename_i D
    simp only [D,if_true,ZH3] at d;simp only [ZH3,O.obj.injEq] at a;obtain ⟨rfl,rfl⟩:=a;subst d;exact ⟨M,hb,y,xs,by rw [r]; exact B,F,fun k v G => let ⟨x,t,C⟩:=q k v G; ⟨x,t,C.stab st _ hle⟩⟩
   ·cases a
 ·have K:∀ i l,live (H++[.obj sh vs]) i->(β++[loc])[i]? = some l->(i<H.length/\live H i/\β[i]? = some l/\l.block<w.heap.size)\/(i=H.length/\l.block=w.heap.size):=by
   rintro i l ⟨o,f,h2⟩ p;rw [A] at f;rw [z] at p;by_cases hlt:i<H.length
   ·simp only [hlt,if_true] at f p
    exact .inl ⟨hlt,⟨o,f,h2⟩,p,oC u ⟨o,f,h2⟩ p⟩
   ·simp only [hlt,if_false] at f p
    split at p
    ·simp only [ZH3] at p
     subst p;exact .inr ⟨by assumption,r⟩
    ·cases p
  rcases K i l hi a with ⟨_,g,a2,a3⟩ | ⟨g,a2⟩ <;> rcases K j l' L d with ⟨_,J,b2,b3⟩ | ⟨J,b2⟩
  ·exact u.disj i j l l' g J a2 b2 hb
  ·omega
  ·omega
  ·omega
end
end Go.Ab
