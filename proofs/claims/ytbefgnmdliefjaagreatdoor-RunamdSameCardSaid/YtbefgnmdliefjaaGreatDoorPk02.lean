/-
  The engine, part B: how simple values stand to the model's, and what a step keeps. Conditions: none.
-/
import Derived.Test.YtbefgnmdliefjaaGreatDoorBbA
import Derived.Laws.World
import Derived.Laws.Sem
import Derived.Laws.Cells
import Derived.Laws.Rows
import Derived.MapKept
import Derived.Laws.StructEq
import Derived.Laws.Strings
import Derived.Laws.CopyRow
import Derived.Laws.AppendOwn
set_option linter.unusedVariables false
set_option linter.unusedSimpArgs false
namespace Go.Ab
structure Loc where
 kind:Bool
 block:Nat
 base:Nat
 n:Nat
 size:Nat
inductive R (w:World) (X:Nat→Nat→Prop):List Loc→V→Value→Prop where
 | int (β k n):R w X β (.int k n) (.int k n)
 | bool (β b):R w X β (.bool b) (.bool b)
 | str (β s):R w X β (.str s) (.string ⟨List.toArray s⟩)
 | val (β x):R w X β (.val x) x
 | any (β x):R w X β .any x
 | rng (β k lo hi n) (h:lo≤n∧n<hi):R w X β (.rng k lo hi) (.int k n)
 | pin (β) (cells:List V) (b o) (f:Nat→Value) (hc:∀ k,k<cells.length→¬ X b (o+k)∧w.cell? ⟨b,o+k,none⟩=some (f k))
   (hr:∀ (k:Nat) (v:V),cells[k]? = some v→R w X [] v (f k)):R w X β (.pin cells) (.pointer (some ⟨b,o,none⟩))
 | sl (β) (c:EC) (l spare:List c.ty) (fl b o cap) (f:Nat→Nat→Value) (hcap:l.length+spare.length≤cap)
   (hfull:fl = .full→cap=l.length+spare.length) (hrw:fl.fixed=false → ∃ (cs:Array Value) (e:TypeId),w.heap[b]? = some (.cells cs e (0,0)))
   (hc:∀ i k,i<l.length+spare.length→k<c.size→¬ X b (o+i*c.size+k)∧w.cell? ⟨b,o+i*c.size+k,none⟩=some (f i k))
   (hr:∀ (i:Nat) (x:c.ty) (k:Nat) (v:V),(l++spare)[i]? = some x→(enc c x)[k]? = some v→R w X [] v (f i k)) :
   R w X β (.sl c l spare fl) (.slice (some ⟨b,o,none⟩) l.length cap)
 | nil (β) (c:EC):R w X β (.sl c [] [] .may) (.slice none 0 0)
 | gro (β) (id) (c:EC) (l:List c.ty) (b o cap loc) (f:Nat→Nat→Value) (hid:β[id]? = some loc) (hk:loc.kind=true) (hn:l.length≤loc.n)
   (hl:loc.n=l.length→b=loc.block∧o=loc.base∧o+cap*c.size≤loc.size) (hcap:l.length≤cap)
   (hc:∀ i k,i<l.length→k<c.size→¬ X b (o+i*c.size+k)∧w.cell? ⟨b,o+i*c.size+k,none⟩=some (f i k))
   (hr:∀ (i:Nat) (x:c.ty) (k:Nat) (v:V),l[i]? = some x→(enc c x)[k]? = some v→R w X [] v (f i k)) :
   R w X β (.gro id c l) (.slice (some ⟨b,o,none⟩) l.length cap)
 | ptr (β id off loc) (hid:β[id]? = some loc) (hk:loc.kind=false):R w X β (.ptr id off) (.pointer (some ⟨loc.block,loc.base+off,none⟩))
 | ref (β id sz off len loc b o cap) (hid:β[id]? = some loc) (hk:loc.kind=false) (hlen:len≤cap)
   (ha:0<cap→b=loc.block∧o=loc.base+off) (hcap:loc.base+off+cap*sz≤loc.size) :
   R w X β (.ref id sz off len) (.slice (some ⟨b,o,none⟩) len cap)
 | mp (β id loc) (hid:β[id]? = some loc) (hk:loc.kind=false):R w X β (.mp id) (.map (some loc.block))
 | agg (β) (cells:List V) (xs:List Value) (hl:xs.length=cells.length) (h:∀ (k:Nat) (v:V) (x:Value),cells[k]? = some v→xs[k]? = some x→R w X β v x) :
   R w X β (.agg cells) (.agg xs.toArray)
 | tup (β) (cells:List V) (xs:List Value) (hl:xs.length=cells.length) (h:∀ (k:Nat) (v:V) (x:Value),cells[k]? = some v→xs[k]? = some x→R w X β v x) :
   R w X β (.tup cells) (.tuple xs.toArray)
 | ifc (β t v x) (h:R w X β v x):R w X β (.ifc t v) (.iface t x)
 | clo (β fn) (as bs:List V) (xs ys:List Value) (hl:xs.length=as.length) (hm:ys.length=bs.length)
   (h:∀ (k:Nat) (v:V) (x:Value),as[k]? = some v→xs[k]? = some x→R w X β v x) (h' : ∀ (k:Nat) (v:V) (x:Value),bs[k]? = some v→ys[k]? = some x→R w X β v x) :
   R w X β (.clo fn as bs) (.func fn xs.toArray ys.toArray)
def Gs (P:Program) (w:World) (X:Nat→Nat→Prop):Prop:=∀ p ∈ globsOf P,R w X [] (.pin p.2) (.pointer (some ⟨p.1,0,none⟩))
def LocLe (β β' : List Loc):Prop:=
 ∀ (id:Nat) (loc:Loc),β[id]? = some loc → ∃ loc',β'[id]? = some loc' ∧ (loc' = loc∨(loc.kind=true∧loc'.kind=true∧loc.n<loc'.n))
theorem LocLe.refl (β:List Loc):LocLe β β:=fun _ loc h=>⟨loc,h,.inl rfl⟩
theorem LocLe.nil (β:List Loc):LocLe [] β:=fun _ _ h=>by simp at h
theorem LocLe.trans {a b c:List Loc} (h:LocLe a b) (k:LocLe b c):LocLe a c:=by
 intro id loc e
 obtain ⟨l1,e1,h1⟩:=h id loc e
 obtain ⟨l2,e2,h2⟩:=k id l1 e1
 refine ⟨l2,e2,?_⟩
 rcases h1 with rfl | ⟨a1,a2,a3⟩
 ·exact h2
 ·rcases h2 with rfl | ⟨b1,b2,b3⟩
  ·exact .inr ⟨a1,a2,a3⟩
  ·exact .inr ⟨a1,b2,by omega⟩
structure Stab (w:World) (X:Nat→Nat→Prop) (w' : World) (X' : Nat→Nat→Prop):Prop where
 cell:∀ b o v,¬ X b o→w.cell? ⟨b,o,none⟩=some v→¬ X' b o∧w'.cell? ⟨b,o,none⟩=some v
 blk:∀ (b:Nat) (cs:Array Value) (e:TypeId),w.heap[b]? = some (.cells cs e (0,0)) → ∃ (cs' : Array Value) (e' : TypeId),w'.heap[b]? = some (.cells cs' e' (0,0))
theorem R.stab {w w' : World} {X X' : Nat→Nat→Prop} (s:Stab w X w' X') {β:List Loc} {v:V} {x:Value} (h:R w X β v x) :
  ∀ β',LocLe β β' → R w' X' β' v x:=by
 induction h with
 | int=>exact fun β' _=>.int β' _ _
 | bool=>exact fun β' _=>.bool β' _
 | str=>exact fun β' _=>.str β' _
 | val=>exact fun β' _=>.val β' _
 | any=>exact fun β' _=>.any β' _
 | rng β k lo hi n h=>exact fun β' _=>.rng β' k lo hi n h
 | pin β cells b o f hc hr ih =>
  exact fun β' _=>.pin β' cells b o f (fun k hk=>s.cell _ _ _ (hc k hk).1 (hc k hk).2) (fun k v hv=>ih k v hv [] (.nil _))
 | sl β c l spare fl b o cap f hcap hfull hrw hc hr ih =>
  exact fun β' _=>.sl β' c l spare fl b o cap f hcap hfull (fun e=>let ⟨cs,t,h⟩:=hrw e; s.blk _ _ _ h)
   (fun i k hi hk=>s.cell _ _ _ (hc i k hi hk).1 (hc i k hi hk).2) (fun i x k v h1 h2=>ih i x k v h1 h2 [] (.nil _))
 | nil β c=>exact fun β' _=>.nil β' c
 | gro β id c l b o cap loc f hid hk hn hl hcap hc hr ih =>
  intro β' hle
  obtain ⟨loc',hid',h⟩:=hle id loc hid
  refine .gro β' id c l b o cap loc' f hid' ?_ ?_ ?_ hcap (fun i k hi hk=>s.cell _ _ _ (hc i k hi hk).1 (hc i k hi hk).2) (fun i x k v h1 h2=>ih i x k v h1 h2 [] (.nil _))
  ·rcases h with rfl | ⟨_,h,_⟩ <;> assumption
  ·rcases h with rfl | ⟨_,_,h⟩ <;> omega
  ·rcases h with rfl | ⟨_,_,h⟩
   ·exact hl
   ·intro e; omega
 | ptr β id off loc hid hk =>
  intro β' hle
  obtain ⟨loc',hid',h⟩:=hle id loc hid
  rcases h with rfl | ⟨h,_⟩
  ·exact .ptr β' id off _ hid' hk
  ·simp [hk] at h
 | ref β id sz off len loc b o cap hid hk hlen ha hcap =>
  intro β' hle
  obtain ⟨loc',hid',h⟩:=hle id loc hid
  rcases h with rfl | ⟨h,_⟩
  ·exact .ref β' id sz off len _ b o cap hid' hk hlen ha hcap
  ·simp [hk] at h
 | mp β id loc hid hk =>
  intro β' hle
  obtain ⟨loc',hid',h⟩:=hle id loc hid
  rcases h with rfl | ⟨h,_⟩
  ·exact .mp β' id _ hid' hk
  ·simp [hk] at h
 | agg β cells xs hl h ih=>exact fun β' hle=>.agg β' cells xs hl (fun k v x h1 h2=>ih k v x h1 h2 β' hle)
 | tup β cells xs hl h ih=>exact fun β' hle=>.tup β' cells xs hl (fun k v x h1 h2=>ih k v x h1 h2 β' hle)
 | ifc β t v x h ih=>exact fun β' hle=>.ifc β' t v x (ih β' hle)
 | clo β fn as bs xs ys hl hm h h' ih ih' =>
  exact fun β' hle=>.clo β' fn as bs xs ys hl hm (fun k v x h1 h2=>ih k v x h1 h2 β' hle) (fun k v x h1 h2=>ih' k v x h1 h2 β' hle)
def Own (H:List O) (β:List Loc) (b o:Nat):Prop:=
 ∃ (id:Nat) (loc:Loc),β[id]? = some loc∧loc.block=b∧((∃ cs e,H[id]? = some (.cells cs e))∨(∃ n sz,H[id]? = some (.tok n sz)∧loc.base+n*sz≤o)∨(∃ sh vs,H[id]? = some (.obj sh vs)))
def Shp:Shape→Obj→List Value→Prop
 | .map keys,ob,xs=>∃ (arr:Array MapEntry) (clock:Nat) (l:List MapEntry),ob = .map arr clock∧Go.MapKept.Stamped arr clock∧keys.Pairwise (· < ·)∧l.Perm arr.toList ∧
   l.map (·.key)=keys.map (Value.int .u64)∧l.map (·.val)=xs
 | .siter s pos,ob,xs=>ob = .stringIter ⟨s.toArray⟩ pos∧xs=[]
 | .page n k l,ob,xs=>xs.length=n ∧ ∃ e,ob = .cells (xs++l.map (Value.int k)).toArray e (0,0)
def special:Obj→Bool
 | .map _ _ | .stringIter _ _ | .mapIter _ _ _ _=>true
 | _=>false
theorem Shp.special {sh:Shape} {ob:Obj} {xs:List Value} (h:Shp sh ob xs) (hp:sh.isPage=false):special ob=true:=by
 cases sh with
 | page n k l=>cases hp
 | map keys=>obtain ⟨arr,clock,l,rfl,_⟩:=h; rfl
 | siter s pos=>obtain ⟨rfl,_⟩:=h; rfl
def Xs (E:Nat→Nat→Prop) (H:List O) (β:List Loc) (b o:Nat):Prop:=E b o∨Own H β b o
def live (H:List O) (id:Nat):Prop:=∃ o,H[id]? = some o∧o ≠ .dead
structure Rel (w:World) (X:Nat→Nat→Prop) (H:List O) (β:List Loc):Prop where
 len:H.length=β.length
 cells:∀ (id:Nat) cs e (loc:Loc),H[id]? = some (.cells cs e)→β[id]? = some loc→loc.kind=false ∧ ∃ (c:Array Value) (e' : TypeId),
  w.heap[loc.block]? = some (.cells c e' (0,0))∧c.size=loc.size∧(loc.base+cs.length≤loc.size∧(4294967296≤e→loc.size=loc.base+cs.length)) ∧
  ∀ (k:Nat) v,cs[k]? = some v → ∃ x,c[loc.base+k]? = some x∧R w X β v x
 tok:∀ (id:Nat) n sz (loc:Loc),H[id]? = some (.tok n sz)→β[id]? = some loc→loc.kind=true∧loc.n=n ∧ ∃ (c:Array Value) (e' : TypeId),
  w.heap[loc.block]? = some (.cells c e' (0,0))∧c.size=loc.size
 objs:∀ (id:Nat) sh vs (loc:Loc),H[id]? = some (.obj sh vs)→β[id]? = some loc→loc.kind=false∧loc.base=0 ∧ ∃ (ob:Obj) (xs:List Value),
  w.heap[loc.block]? = some ob∧Shp sh ob xs ∧ ∀ (k:Nat) v,vs[k]? = some v → ∃ x,xs[k]? = some x∧R w X β v x
 disj:∀ (i j:Nat) (l l' : Loc),live H i→live H j→β[i]? = some l→β[j]? = some l' → l.block=l'.block→i=j
structure Step (E:Nat→Nat→Prop) (H:List O) (β:List Loc) (w:World) (H' : List O) (β' : List Loc) (w' : World):Prop where
 rel:Rel w' (Xs E H' β') H' β'
 os:w'.os=w.os
 tape:w'.tape=w.tape
 output:w'.output=w.output
 size:w.heap.size≤w'.heap.size
 pres:∀ (b:Nat),b<w.heap.size→w'.heap[b]? = w.heap[b]? ∨ ((∃ o,Own H β b o) ∧ ∃ (c c' : Array Value) (e:TypeId),w.heap[b]? = some (.cells c e (0,0)) ∧
  w'.heap[b]? = some (.cells c' e (0,0))∧c'.size=c.size ∧ ∀ (o:Nat),¬ Own H β b o→c'[o]? = c[o]?) ∨
  ((∃ o,Own H β b o) ∧ ∃ (x y:Obj),w.heap[b]? = some x∧w'.heap[b]? = some y∧special x=true∧special y=true)
 own:∀ b o,Own H' β' b o→Own H β b o∨w.heap.size≤b
 locs:LocLe β β'
theorem cell_lt {w:World} {b o:Nat} {v:Value} (h:w.cell? ⟨b,o,none⟩=some v):b<w.heap.size:=block_lt_of_cell h
theorem cell_special {w:World} {b o:Nat} {x:Obj} (h:w.heap[b]? = some x) (hs:special x=true):w.cell? ⟨b,o,none⟩=none:=by
 unfold World.cell?
 rw [h]
 cases x <;> simp_all [special]
theorem Step.stab {E H β w H' β' w'} (s:Step E H β w H' β' w'):Stab w (Xs E H β) w' (Xs E H' β'):=by
 constructor
 ·intro b o v hx hv
  have hlt:=cell_lt hv
  have hE:¬ E b o:=fun h=>hx (.inl h)
  have hO:¬ Own H β b o:=fun h=>hx (.inr h)
  refine ⟨fun h=>?_,?_⟩
  ·rcases h with h | h
   ·exact hE h
   ·rcases s.own b o h with h | h
    ·exact hO h
    ·omega
  ·rcases s.pres b hlt with h | ⟨_,c,c',e,h1,h2,_,h4⟩ | ⟨_,x,y,h1,h2,h3,h4⟩
   ·unfold World.cell? at hv ⊢; rw [h]; exact hv
   ·rw [cell_of_row w b o c e (0,0) h1] at hv
    rw [cell_of_row w' b o c' e (0,0) h2,h4 o hO,hv]
   ·rw [cell_special h1 h3] at hv; cases hv
 ·intro b cs e h
  have hlt:b<w.heap.size:=by
   rcases Nat.lt_or_ge b w.heap.size with h' | h'
   ·exact h'
   ·simp [Array.getElem?_eq_none h'] at h
  rcases s.pres b hlt with h' | ⟨_,c,c',e',h1,h2,_⟩ | ⟨_,x,y,h1,h2,h3,h4⟩
  ·exact ⟨cs,e,by rw [h',h]⟩
  ·exact ⟨c',e',h2⟩
  ·rw [h] at h1; cases h1; cases h3
theorem Step.keepR {E H β w H' β' w' v x} (s:Step E H β w H' β' w') (h:R w (Xs E H β) β v x):R w' (Xs E H' β') β' v x:=h.stab s.stab β' s.locs
theorem Step.refl {E H β w} (h:Rel w (Xs E H β) H β):Step E H β w H β w:=
 ⟨h,rfl,rfl,rfl,Nat.le_refl _,fun _ _=>.inl rfl,fun _ _ h=>.inl h,.refl _⟩
theorem Step.trans {E H β w H' β' w' H'' β'' w''} (s:Step E H β w H' β' w') (t:Step E H' β' w' H'' β'' w''):Step E H β w H'' β'' w'' := by
 refine ⟨t.rel,t.os.trans s.os,t.tape.trans s.tape,t.output.trans s.output,Nat.le_trans s.size t.size,fun b hb=>?_,fun b o h=>?_,s.locs.trans t.locs⟩
 ·have hown:∀ o,Own H' β' b o→Own H β b o:=fun o h=>by
   rcases s.own b o h with h | h
   ·exact h
   ·omega
  rcases t.pres b (Nat.lt_of_lt_of_le hb s.size) with h | ⟨⟨o,ho⟩,c,c',e,h1,h2,h3,h4⟩ | ⟨⟨o,ho⟩,x,y,h1,h2,h3,h4⟩
  ·rcases s.pres b hb with g | ⟨g0,c,c',e,g1,g2,g3,g4⟩ | ⟨g0,x,y,g1,g2,g3,g4⟩
   ·exact .inl (h.trans g)
   ·exact .inr (.inl ⟨g0,c,c',e,g1,h.trans g2,g3,g4⟩)
   ·exact .inr (.inr ⟨g0,x,y,g1,h.trans g2,g3,g4⟩)
  ·rcases s.pres b hb with g | ⟨_,d,d',e',g1,g2,g3,g4⟩ | ⟨_,x,y,g1,g2,g3,g4⟩
   ·exact .inr (.inl ⟨⟨o,hown o ho⟩,c,c',e,g ▸ h1,h2,h3,fun o ho=>h4 o (fun h=>ho (hown o h))⟩)
   ·refine .inr (.inl ⟨⟨o,hown o ho⟩,?_⟩)
    rw [g2] at h1
    simp only [Option.some.injEq,Obj.cells.injEq,and_true] at h1
    obtain ⟨rfl,rfl⟩:=h1
    exact ⟨d,c',e',g1,h2,h3.trans g3,fun o ho=>(h4 o (fun h=>ho (hown o h))).trans (g4 o ho)⟩
   ·rw [g2] at h1; cases h1; cases g4
  ·rcases s.pres b hb with g | ⟨_,d,d',e',g1,g2,g3,g4⟩ | ⟨_,x',y',g1,g2,g3,g4⟩
   ·exact .inr (.inr ⟨⟨o,hown o ho⟩,x,y,g ▸ h1,h2,h3,h4⟩)
   ·rw [g2] at h1; cases h1; cases h3
   ·exact .inr (.inr ⟨⟨o,hown o ho⟩,x',y,g1,h2,g3,h4⟩)
 ·rcases t.own b o h with h | h
  ·rcases s.own b o h with h | h
   ·exact .inl h
   ·exact .inr h
  ·exact .inr (Nat.le_trans s.size h)
structure FR (w:World) (X:Nat→Nat→Prop) (β:List Loc) (n:Nat) (t:T) (a:Act):Prop where
 size:a.tmps.size=n
 slot:∀ d,R w X β (get d t) (a.tmps.getD d undef)
theorem FR.step {E H β w H' β' w' n t a} (s:Step E H β w H' β' w') (h:FR w (Xs E H β) β n t a):FR w' (Xs E H' β') β' n t a:=
 ⟨h.size,fun d=>s.keepR (h.slot d)⟩
theorem nbeq_ne {d e:Nat} (h:¬ d=e):Nat.beq d e=false:=by
 cases hh:Nat.beq d e
 ·rfl
 ·exact absurd (Nat.eq_of_beq_eq_true hh) h
theorem get_put (d e:Nat) (v:V) (t:T):get d (put e v t)=if d=e then v else get d t:=by
 induction t with
 | nil =>
  simp only [put,get]
  by_cases h:d=e
  ·simp [h]
  ·simp [h,nbeq_ne h]
 | cons p r ih =>
  obtain ⟨f,u⟩:=p
  unfold put
  cases hb:Nat.blt e f
  ·cases hq:Nat.beq e f
   ·simp only [cond_false,get,ih]
    by_cases h:d=e
    ·subst h
     simp [hq]
    ·simp [h]
   ·have:e=f:=Nat.eq_of_beq_eq_true hq
    subst this
    simp only [cond_true,cond_false,get]
    by_cases h:d=e
    ·simp [h]
    ·have:Nat.beq d e=false:=by cases hh:Nat.beq d e; rfl; exact absurd (Nat.eq_of_beq_eq_true hh) h
     simp [h,this]
  ·simp only [cond_true,get]
   by_cases h:d=e
   ·simp [h]
   ·have:Nat.beq d e=false:=by cases hh:Nat.beq d e; rfl; exact absurd (Nat.eq_of_beq_eq_true hh) h
    simp [h,this]
theorem get_keep (l:List Nat) (d:Nat) (t:T):get d (keep l t)=get d t∨get d (keep l t) = .any:=by
 induction t with
 | nil=>exact .inl rfl
 | cons p r ih =>
  obtain ⟨e,u⟩:=p
  unfold keep
  cases h:hasN e l
  ·simp only [cond_false,get]
   cases hq:Nat.beq d e
   ·simpa using ih
   ·right
    have:d=e:=Nat.eq_of_beq_eq_true hq
    subst this
    clear ih hq u
    induction r with
    | nil=>rfl
    | cons q r ih =>
     obtain ⟨f,u⟩:=q
     unfold keep
     cases h' : hasN f l
     ·simpa using ih
     ·simp only [cond_true,get]
      cases hq:Nat.beq d f
      ·simpa using ih
      ·have:d=f:=Nat.eq_of_beq_eq_true hq
       subst this
       rw [h] at h'; cases h'
  ·simp only [cond_true,get]
   cases hq:Nat.beq d e
   ·simpa using ih
   ·simp
theorem FR.keep {w X β n t a} (l:List Nat) (h:FR w X β n t a):FR w X β n (keep l t) a:=
 ⟨h.size,fun d=>by rcases get_keep l d t with e | e <;> rw [e]; exact h.slot d; exact .any _ _⟩
theorem FR.put {w X β n t a d v x} (h:FR w X β n t a) (hd:d<n) (hv:R w X β v x):FR w X β n (put d v t) { a with tmps:=a.tmps.setIfInBounds d x }:=by
 refine ⟨by simp [h.size],fun e=>?_⟩
 rw [get_put]
 by_cases he:e=d
 ·subst he
  have:e<a.tmps.size:=by rw [h.size]; exact hd
  simp [Array.getD_eq_getD_getElem?,this,hv]
 ·have hs:=h.slot e
  simp only [he,if_false]
  simpa [Array.getD_eq_getD_getElem?,Array.getElem?_setIfInBounds,Ne.symm he] using hs
end Go.Ab

namespace Go.Ab
theorem Stab.refl (w:World) (X:Nat→Nat→Prop):Stab w X w X:=⟨fun _ _ _ h1 h2=>⟨h1,h2⟩,fun _ cs e h=>⟨cs,e,h⟩⟩
theorem R.up {w X v x} (β:List Loc) (h:R w X [] v x):R w X β v x:=h.stab (Stab.refl w X) β (.nil β)
theorem ofVal1_R (w X β) (x:Value):R w X β (ofVal1 x) x:=by
 cases x with
 | int k n=>exact .int _ _ _
 | bool b=>exact .bool _ _
 | string s=>obtain ⟨⟨l⟩⟩:=s; exact .str β l
 | _=>exact .val _ _
theorem ofVal_R (w X β) (x:Value):R w X β (ofVal x) x:=by
 cases x with
 | agg cs =>
  obtain ⟨l⟩:=cs
  refine .agg β _ l (by simp) ?_
  intro k v x h1 h2
  simp only [List.getElem?_map,h2,Option.map_some,Option.some.injEq] at h1
  subst h1
  exact ofVal1_R _ _ _ _
 | _=>simp only [ofVal]; exact ofVal1_R _ _ _ _
section
variable {w:World} {X:Nat→Nat→Prop} {β:List Loc} {n:Nat} {t:T} {a:Act}
theorem rd_R (h:FR w X β n t a) (x:Operand):R w X β (rd t x) (a.eval x):=by
 cases x with
 | tmp i=>exact h.slot i
 | const v=>exact ofVal_R _ _ _ _
 | global g=>exact .val _ _
 | func f=>exact .val _ _
theorem globAt_mem {g:Nat} {cs:List V}:∀ {l:List (Nat × List V)},globAt g l=some cs→(g,cs) ∈ l
 | [],h=>by cases h
 | (e,ds) :: r,h=>by
  unfold globAt at h
  cases hb:Nat.beq g e
  ·rw [hb] at h
   exact List.mem_cons_of_mem _ (globAt_mem h)
  ·rw [hb] at h
   have:=Nat.eq_of_beq_eq_true hb
   subst this
   cases h
   exact List.mem_cons_self
theorem rdG_R {P:Program} {G:List (Nat × List V)} (hG:Gs P w X) (hg:∀ p ∈ G,p ∈ globsOf P) (h:FR w X β n t a) (x:Operand):R w X β (rdG G t x) (a.eval x):=by
 cases x with
 | tmp i=>exact rd_R h (.tmp i)
 | const v=>exact rd_R h (.const v)
 | func f=>exact rd_R h (.func f)
 | global g =>
  show R w X β (match globAt g G with | some cs=>.pin cs | none=>rd t (.global g)) (a.eval (.global g))
  cases he:globAt g G with
  | none=>exact rd_R h (.global g)
  | some cs=>exact (hG _ (hg _ (globAt_mem he))).up β
structure TIs (P:Program) (t:TypeId) (i:TI):Prop where
 info:∃ (j:TypeInfo) (d:TypeDesc),P.info? t=some j∧P.underlying t=some d∧j.size=i.size∧j.bytes=i.bytes ∧
  (∃ z,j.zero=some z∧i.zero=z.cells.toList.map ofVal1) ∧
  i.k=(match d with
   | .slice e=>.slice e
   | .struct fs=>.st (fs.toList.map fun f=>(f.offset,P.cellsOf f.type,isAggB P f.type))
   | .array n e=>.arr n e
   | _=>.scal)∧knownFields P d=true
theorem ti_spec {P:Program} {t:TypeId} {i:TI} (h:ti P t=some i):TIs P t i:=by
 unfold ti at h
 split at h
 ·rename_i j d h1 h2
  dsimp only at h
  split at h
  ·rename_i z hz
   cases hk:knownFields P d
   ·simp [hk] at h
   ·simp only [hk,cond_true,Option.some.injEq] at h
    subst h
    exact ⟨j,d,h1,h2,rfl,rfl,⟨z,hz,rfl⟩,rfl,hk⟩
  ·cases h
 ·cases h
theorem run_typeInfo' {P:Program} {t:TypeId} {j:TypeInfo} (w:World) (h:P.info? t=some j):(typeInfo t).run P w = .ok j w:=by
 simp [typeInfo,h]
theorem run_sizeOf' {P:Program} {t:TypeId} {j:TypeInfo} (w:World) (h:P.info? t=some j):(sizeOf t).run P w = .ok j.size w:=by
 simp [sizeOf,typeInfo,h]
theorem run_und {P:Program} {t:TypeId} {d:TypeDesc} (w:World) (h:P.underlying t=some d):(underlying t).run P w = .ok d w:=by
 simp [underlying,h]
theorem ti_size {P:Program} {t:TypeId} {i:TI} (w:World) (h:ti P t=some i):(sizeOf t).run P w = .ok i.size w:=by
 obtain ⟨j,d,h1,_,h3,_⟩:=(ti_spec h).info
 rw [run_sizeOf' w h1,h3]
theorem ti_isAgg {P:Program} {t:TypeId} {i:TI} (w:World) (h:ti P t=some i):(isAgg t).run P w = .ok (aggTK i.k) w:=by
 obtain ⟨j,d,h1,h2,_,_,_,h6,_⟩:=(ti_spec h).info
 rw [h6]
 cases d <;> simp [isAgg,run_und w h2,aggTK]
theorem cell_ptr {H:List O} {x:V} {y:Value} {cells:List V} (hR:Rel w X H β) (hx:R w X β x y) (h:cellsAt H x=some cells) :
  ∃ b o,y = .pointer (some ⟨b,o,none⟩) ∧ ∀ (k:Nat) v,cells[k]? = some v → ∃ z,w.cell? ⟨b,o+k,none⟩=some z∧R w X β v z:=by
 cases hx with
 | pin _ cs b o f hc hr =>
  simp only [cellsAt,Option.some.injEq] at h
  subst h
  refine ⟨b,o,rfl,fun k v hv=>⟨f k,(hc k ?_).2,(hr k v hv).up β⟩⟩
  exact (List.getElem?_eq_some_iff.1 hv).1
 | ptr _ id off loc hid hk =>
  simp only [cellsAt] at h
  split at h
  ·rename_i cs e hH
   simp only [Option.some.injEq] at h
   subst h
   obtain ⟨_,c,e',h1,h2,h3,h4⟩:=hR.cells id cs e loc hH hid
   refine ⟨loc.block,loc.base+off,rfl,fun k v hv=>?_⟩
   rw [List.getElem?_drop] at hv
   obtain ⟨z,hz,hz'⟩:=h4 (off+k) v hv
   refine ⟨z,?_,hz'⟩
   rw [cell_of_row w _ _ c e' (0,0) h1,← hz,Nat.add_assoc]
  ·rename_i n' k' l' hd hH
   simp only [Option.some.injEq] at h
   subst h
   obtain ⟨_,hb0,ob,xs,h1,⟨hn,e',rfl⟩,h4⟩:=hR.objs id _ _ loc hH hid
   refine ⟨loc.block,loc.base+off,rfl,fun k v hv=>?_⟩
   rw [List.getElem?_drop] at hv
   obtain ⟨z,hz,hz'⟩:=h4 (off+k) v hv
   refine ⟨z,?_,hz'⟩
   rw [cell_of_row w _ _ _ e' (0,0) h1,hb0,Nat.zero_add,List.getElem?_toArray,List.getElem?_append_left (List.getElem?_eq_some_iff.1 hz).1,hz]
  ·cases h
 | _=>cases h
theorem addr_add (b o k:Nat):(⟨b,o,none⟩:Addr).add k=⟨b,o+k,none⟩:=by
 unfold Addr.add; split <;> simp_all
theorem R_cells_agg {l:List V} (f:Nat→Value) (h:∀ k v,l[k]? = some v→R w X β v (f k)) :
  R w X β (.agg l) (.agg ((List.range l.length).map f).toArray):=by
 refine .agg β l _ (by simp) ?_
 intro k v x h1 h2
 have hk:=(List.getElem?_eq_some_iff.1 h1).1
 simp only [List.getElem?_map,List.getElem?_range hk,Option.map_some,Option.some.injEq] at h2
 subst h2
 exact h k v h1
theorem sound_loadVar {P:Program} {H:List O} {ty:TypeId} {x v:V} {y:Value} (hR:Rel w X H β) (hx:R w X β x y) (h:oLoad P H ty x=some v) :
  ∃ b o z,y = .pointer (some ⟨b,o,none⟩)∧(loadVar ty ⟨b,o,none⟩).run P w = .ok z w∧R w X β v z:=by
 unfold oLoad at h
 split at h
 ·rename_i i cells h1 h2
  obtain ⟨b,o,rfl,hc⟩:=cell_ptr hR hx h2
  refine ⟨b,o,?_⟩
  unfold ofCells at h
  cases hk:aggTK i.k
  ·simp only [hk,cond_false] at h
   cases cells with
   | nil=>cases h
   | cons u r =>
    simp only [Option.some.injEq] at h
    subst h
    obtain ⟨z,hz,hz'⟩:=hc 0 u rfl
    refine ⟨z,rfl,?_,hz'⟩
    simp only [Nat.add_zero] at hz
    simp [loadVar,ti_isAgg w h1,hk,hz]
  ·simp only [hk,cond_true] at h
   cases hb:Nat.ble i.size cells.length
   ·simp [hb] at h
   ·simp only [hb,cond_true,Option.some.injEq] at h
    subst h
    have hle:i.size≤cells.length:=Nat.le_of_ble_eq_true hb
    let f:Nat→Value:=fun k=>(w.cell? ⟨b,o+k,none⟩).getD undef
    have hf:∀ k,k<i.size→w.cell? ((⟨b,o,none⟩:Addr).add k)=some (f k):=by
     intro k hk
     obtain ⟨z,hz,_⟩:=hc k cells[k] (by simp [List.getElem?_eq_getElem (Nat.lt_of_lt_of_le hk hle)])
     rw [addr_add,hz]; simp [f,hz]
    have hl:(cells.take i.size).length=i.size:=by simp [hle]
    refine ⟨.agg ((List.range i.size).map f).toArray,rfl,?_,?_⟩
    ·simp [loadVar,ti_isAgg w h1,hk,ti_size w h1,run_loadCells (P:=P) w ⟨b,o,none⟩ i.size f hf]
    ·have:=R_cells_agg (w:=w) (X:=X) (β:=β) (l:=cells.take i.size) f ?_
     ·rwa [hl] at this
     ·intro k v hv
      rw [List.getElem?_take] at hv
      split at hv
      ·obtain ⟨z,hz,hz'⟩:=hc k v hv
       simpa [f,hz] using hz'
      ·cases hv
 ·cases h
theorem sound_load {P:Program} {H:List O} {ty:TypeId} {x v:V} {y:Value} (hR:Rel w X H β) (hx:R w X β x y) (h:oLoad P H ty x=some v) :
  ∃ z,(Instr.loadAt ty y).run P w = .ok z w∧R w X β v z:=by
 obtain ⟨b,o,z,rfl,h1,h2⟩:=sound_loadVar hR hx h
 exact ⟨z,by simp [Instr.loadAt,Instr.sureAddr,h1],h2⟩
theorem req_runZ {β:Type} {c:Bool} {x:Tree β} {b:β} (h:(Tree.req c x).run=some b):c=true∧x.run=some b:=by
 cases c
 ·simp [Tree.req,Tree.run] at h
 ·exact ⟨rfl,h⟩
theorem intOf_spec {P:Program} {ty:TypeId} {k:IntKind} (h:intOf P ty=some k):∃ i,ti P ty=some i∧aggTK i.k=false∧i.size=1:=by
 unfold intOf at h
 split at h
 ·rename_i i k' h1 h2
  cases hc:(!aggTK i.k && Nat.beq i.size 1)
  ·rw [hc] at h; cases h
  ·obtain ⟨g1,g2⟩:=Bool.and_eq_true_iff.1 hc
   exact ⟨i,h1,by simpa using g1,Nat.eq_of_beq_eq_true g2⟩
 ·cases h
theorem isIntAt_spec {k:IntKind} {cs:List V} {o:Nat} (h:isIntAt k cs o=true):∃ n,cs[o]? = some (.int k n):=by
 unfold isIntAt at h
 split at h
 ·rename_i l n hn
  have:=of_decide_eq_true h
  subst this
  exact ⟨n,hn⟩
 ·cases h
theorem intAt_get {k:IntKind} {n:Int}:∀ {cs:List V} {o:Nat},cs[o]? = some (.int k n)→intAt cs o=n
 | [],o,h=>by simp at h
 | v :: r,0,h=>by
  simp only [List.getElem?_cons_zero,Option.some.injEq] at h
  subst h
  rfl
 | v :: r,o+1,h=>by
  simp only [List.getElem?_cons_succ] at h
  exact intAt_get (cs:=r) (o:=o) h
theorem setC_ne {k:IntKind} {x:Int} {o j:Nat} (h:j ≠ o) (v:V):setC k o x j v=v:=by
 have hb:Nat.beq j o=false:=by
  cases hb:Nat.beq j o
  ·rfl
  ·exact absurd (Nat.eq_of_beq_eq_true hb) h
 unfold setC
 split
 ·rename_i l n
  rw [hb]
  cases hd:decide (l=k)
  ·rfl
  ·have:=of_decide_eq_true hd
   subst this
   rfl
 ·rfl
theorem setI_past {k:IntKind} {x:Int} {o:Nat}:∀ (l:List V) (i:Nat),o<i→setI k o x i l=l
 | [],_,_=>rfl
 | v :: l,i,h=>by
  unfold setI
  rw [setI_past l (i+1) (by omega),setC_ne (by omega)]
theorem setI_eq {k:IntKind} {x n:Int}:∀ {cs:List V} {o j m:Nat},o=j+m→cs[m]? = some (.int k n)→setI k o x j cs=splice cs m [.int k x]
 | [],o,j,m,_,h=>by simp at h
 | v :: r,o,j,0,ho,h=>by
  simp only [List.getElem?_cons_zero,Option.some.injEq] at h
  subst h
  have:o=j:=by omega
  subst this
  unfold setI
  rw [setI_past r _ (Nat.lt_succ_self o)]
  have e:setC k o x o (.int k n) = .int k x:=by
   show cond (decide (k=k)) (V.int k (cond (Nat.beq o o) x n)) (.int k n)=_
   rw [decide_eq_true rfl,cond_true,Nat.beq_refl]
   rfl
  rw [e]
  simp [splice]
 | v :: r,o,j,m+1,ho,h=>by
  simp only [List.getElem?_cons_succ] at h
  unfold setI
  rw [setI_eq (o:=o) (j:=j+1) (m:=m) (by omega) h,setC_ne (by omega)]
  simp [splice]
theorem sound_loadZ {P:Program} {H:List O} {ty:TypeId} {x v:V} {y:Value} (hR:Rel w X H β) (hx:R w X β x y) (h:(oLoadZ P H ty x).run=some v) :
  ∃ z,(Instr.loadAt ty y).run P w = .ok z w∧R w X β v z:=by
 unfold oLoadZ at h
 split at h
 rotate_left
 ·cases h
 rename_i k id off hk
 obtain ⟨i,hi,g1,g2⟩:=intOf_spec hk
 split at h
 ·rename_i cs e hH
  obtain ⟨h1,h2⟩:=req_runZ h
  obtain ⟨n,hn⟩:=isIntAt_spec h1
  cases h2
  refine sound_load (ty:=ty) hR hx ?_
  unfold oLoad
  simp only [hi,cellsAt,hH]
  unfold ofCells
  rw [g1,cond_false,intAt_get hn]
  have hd:cs.drop off = .int k n :: cs.drop (off+1):=by
   obtain ⟨hlt,he⟩:=List.getElem?_eq_some_iff.1 hn
   rw [List.drop_eq_getElem_cons hlt,he]
  rw [hd]
 ·rename_i n l xs hd hH
  cases hl:decide (l=k)
  ·rw [hl] at h; cases h
  rw [hl,cond_true] at h
  have:=of_decide_eq_true hl
  subst this
  obtain ⟨h1,h2⟩:=req_runZ h
  cases h2
  obtain ⟨h1,h3⟩:=Bool.and_eq_true_iff.1 h1
  have h1:=Nat.le_of_ble_eq_true h1
  rw [Nat.blt_eq] at h3
  cases hx with
  | ptr _ _ _ loc hid hkd =>
  obtain ⟨_,hb0,ob,ys,a1,⟨hn,e',rfl⟩,_⟩:=hR.objs id _ _ loc hH hid
  refine ⟨.int l (xs.getD (off - n) 0),?_,.int _ _ _⟩
  have hc:w.cell? ⟨loc.block,loc.base+off,none⟩=some (.int l (xs.getD (off - n) 0)):=by
   rw [cell_of_row w _ _ _ e' (0,0) a1,hb0,Nat.zero_add,List.getElem?_toArray,List.getElem?_append_right (by omega),hn,List.getElem?_map,List.getElem?_eq_getElem h3]
   rw [List.getD_eq_getElem?_getD,List.getElem?_eq_getElem h3]
   rfl
  simp [Instr.loadAt,Instr.sureAddr,loadVar,ti_isAgg w hi,g1,hc]
 ·cases h
theorem oStoreZ_spec {P:Program} {H H' : List O} {ty:TypeId} {a v:V} (h:(oStoreZ P H ty a v).run=some H') :
  oStore P H ty a v=some H' ∨ ∃ id off n k xs hd x i,a = .ptr id off∧v = .int k x∧H[id]? = some (.obj (.page n k xs) hd)∧n≤off∧off - n<xs.length∧H' = H.set id (.obj (.page n k (xs.set (off - n) x)) hd)∧ti P ty=some i∧i.size=1:=by
 unfold oStoreZ at h
 split at h
 rotate_left
 ·cases h
 rename_i k id off l x hk
 obtain ⟨i,hi,g1,g2⟩:=intOf_spec hk
 split at h
 ·rename_i cs e hH
  left
  cases hl:decide (l=k)
  ·rw [hl] at h; cases h
  rw [hl,cond_true] at h
  have:=of_decide_eq_true hl
  subst this
  obtain ⟨h1,h2⟩:=req_runZ h
  obtain ⟨n,hn⟩:=isIntAt_spec h1
  cases h2
  have hlt:=(List.getElem?_eq_some_iff.1 hn).1
  unfold oStore
  simp only [hi,V.cells?,hH,g2]
  have:(Nat.beq [V.int l x].length 1 && Nat.ble (off+[V.int l x].length) cs.length)=true:=by
   simp only [List.length_cons,List.length_nil]
   rw [Bool.and_eq_true_iff]
   exact ⟨rfl,Nat.ble_eq_true_of_le (by omega)⟩
  rw [this,cond_true,setI_eq (j:=0) (m:=off) (by omega) hn]
 ·rename_i n k' xs hd hH
  right
  cases hl:(decide (l=k) && decide (k' = k))
  ·rw [hl] at h; cases h
  rw [hl,cond_true] at h
  obtain ⟨e1,e2⟩:=Bool.and_eq_true_iff.1 hl
  have e1:=of_decide_eq_true e1
  have e2:=of_decide_eq_true e2
  subst e1
  subst e2
  obtain ⟨h1,h2⟩:=req_runZ h
  cases h2
  obtain ⟨h1,h3⟩:=Bool.and_eq_true_iff.1 h1
  have h1:=Nat.le_of_ble_eq_true h1
  rw [Nat.blt_eq] at h3
  exact ⟨id,off,n,k',xs,hd,x,i,rfl,rfl,hH,h1,h3,rfl,hi,g2⟩
 ·cases h
end
end Go.Ab

namespace Go.Ab
section
variable {E:Nat→Nat→Prop} {H:List O} {β:List Loc} {w:World}
theorem heap_lt {w:World} {b:Nat} {o:Obj} (h:w.heap[b]? = some o):b<w.heap.size:=by
 rcases Nat.lt_or_ge b w.heap.size with h' | h'
 ·exact h'
 ·simp [Array.getElem?_eq_none h'] at h
theorem cell_heap {w w' : World} {b:Nat} (h:w'.heap[b]? = w.heap[b]?) (o:Nat):w'.cell? ⟨b,o,none⟩=w.cell? ⟨b,o,none⟩:=by
 unfold World.cell?; rw [h]
theorem Step.heap_same {w' : World} (hR:Rel w (Xs E H β) H β) (hh:w'.heap=w.heap) (h1:w'.os=w.os) (h2:w'.tape=w.tape) (h3:w'.output=w.output):Step E H β w H β w' := by
 have st:Stab w (Xs E H β) w' (Xs E H β):=⟨fun b o v hx hv=>⟨hx,(cell_heap (w:=w) (w' := w') (by rw [hh]) o).trans hv⟩,fun b cs e h=>⟨cs,e,by rw [hh]; exact h⟩⟩
 refine ⟨⟨hR.len,fun id cs e loc g1 g2=>?_,fun id n sz loc g1 g2=>?_,fun id sh vs loc g1 g2=>?_,hR.disj⟩,h1,h2,h3,by rw [hh]; exact Nat.le_refl _,fun b _=>.inl (by rw [hh]),fun b o h=>.inl h,.refl _⟩
 ·obtain ⟨k,c,e',a1,a2,a3,a4⟩:=hR.cells id cs e loc g1 g2
  exact ⟨k,c,e',by rw [hh]; exact a1,a2,a3,fun k v hv=>let ⟨x,hx,hr⟩:=a4 k v hv; ⟨x,hx,hr.stab st _ (.refl _)⟩⟩
 ·obtain ⟨k,m,c,e',a1,a2⟩:=hR.tok id n sz loc g1 g2
  exact ⟨k,m,c,e',by rw [hh]; exact a1,a2⟩
 ·obtain ⟨k,kb,ob,xs,a1,a2,a3⟩:=hR.objs id sh vs loc g1 g2
  exact ⟨k,kb,ob,xs,by rw [hh]; exact a1,a2,fun k v hv=>let ⟨x,hx,hr⟩:=a3 k v hv; ⟨x,hx,hr.stab st _ (.refl _)⟩⟩
theorem own_lt (hR:Rel w (Xs E H β) H β) {b o:Nat} (h:Own H β b o):b<w.heap.size:=by
 obtain ⟨id,loc,h1,rfl,h2⟩:=h
 rcases h2 with ⟨cs,e,h2⟩ | ⟨n,sz,h2,_⟩ | ⟨sh,vs,h2⟩
 ·obtain ⟨_,c,e',h3,_⟩:=hR.cells id cs e loc h2 h1
  exact heap_lt h3
 ·obtain ⟨_,_,c,e',h3,_⟩:=hR.tok id n sz loc h2 h1
  exact heap_lt h3
 ·obtain ⟨_,_,ob,xs,h3,_⟩:=hR.objs id sh vs loc h2 h1
  exact heap_lt h3
theorem live_lt (hR:Rel w (Xs E H β) H β) {id:Nat} {loc:Loc} (hl:live H id) (h1:β[id]? = some loc):loc.block<w.heap.size:=by
 obtain ⟨o,h2,h3⟩:=hl
 cases o with
 | cells cs e=>obtain ⟨_,c,e',h3,_⟩:=hR.cells id cs e loc h2 h1; exact heap_lt h3
 | tok n sz=>obtain ⟨_,_,c,e',h3,_⟩:=hR.tok id n sz loc h2 h1; exact heap_lt h3
 | obj sh vs=>obtain ⟨_,_,ob,xs,h3,_⟩:=hR.objs id sh vs loc h2 h1; exact heap_lt h3
 | dead=>exact absurd rfl h3
theorem live_cells {id:Nat} {cs e} (h:H[id]? = some (.cells cs e)):live H id:=⟨_,h,by simp⟩
theorem live_obj {id:Nat} {sh vs} (h:H[id]? = some (.obj sh vs)):live H id:=⟨_,h,by simp⟩
theorem live_tok {id n sz:Nat} (h:H[id]? = some (.tok n sz)):live H id:=⟨_,h,by simp⟩
theorem Step.alloc (hR:Rel w (Xs E H β) H β) (ob:Obj):Step E H β w H β (w.alloc ob):=by
 have hold:∀ b,b<w.heap.size→(w.alloc ob).heap[b]? = w.heap[b]? := fun b hb=>heap_alloc_old w ob b hb
 have st:Stab w (Xs E H β) (w.alloc ob) (Xs E H β):=
  ⟨fun b o v hx hv=>⟨hx,by rw [cell_heap (hold b (cell_lt hv))]; exact hv⟩,fun b cs e h=>⟨cs,e,by rw [hold b (heap_lt h)]; exact h⟩⟩
 refine ⟨⟨hR.len,fun id cs e loc g1 g2=>?_,fun id n sz loc g1 g2=>?_,fun id sh vs loc g1 g2=>?_,hR.disj⟩,rfl,rfl,rfl,by simp,fun b hb=>.inl (hold b hb),fun b o h=>.inl h,.refl _⟩
 ·obtain ⟨k,c,e',a1,a2,a3,a4⟩:=hR.cells id cs e loc g1 g2
  exact ⟨k,c,e',by rw [hold _ (heap_lt a1)]; exact a1,a2,a3,fun k v hv=>let ⟨x,hx,hr⟩:=a4 k v hv; ⟨x,hx,hr.stab st _ (.refl _)⟩⟩
 ·obtain ⟨k,m,c,e',a1,a2⟩:=hR.tok id n sz loc g1 g2
  exact ⟨k,m,c,e',by rw [hold _ (heap_lt a1)]; exact a1,a2⟩
 ·obtain ⟨k,kb,ob,xs,a1,a2,a3⟩:=hR.objs id sh vs loc g1 g2
  exact ⟨k,kb,ob,xs,by rw [hold _ (heap_lt a1)]; exact a1,a2,fun k v hv=>let ⟨x,hx,hr⟩:=a3 k v hv; ⟨x,hx,hr.stab st _ (.refl _)⟩⟩
theorem getElem?_concat {α:Type} (l:List α) (x:α) (i:Nat):(l++[x])[i]? = if i<l.length then l[i]? else if i=l.length then some x else none:=by
 rw [List.getElem?_append]
 split
 ·rfl
 ·split
  ·subst i; simp
  ·rw [List.getElem?_eq_none]; simp; omega
theorem Step.push (hR:Rel w (Xs E H β) H β) (c:Array Value) (e' : TypeId) (ob:O) (loc:Loc)
  (hloc:loc.block=w.heap.size) (hsize:c.size=loc.size)
  (hcells:∀ cs e,ob = .cells cs e→loc.kind=false∧(loc.base+cs.length≤loc.size∧(4294967296≤e→loc.size=loc.base+cs.length)) ∧ ∀ (k:Nat) v,cs[k]? = some v → ∃ x,c[loc.base+k]? = some x∧R w (Xs E H β) β v x)
  (htok:∀ n sz,ob = .tok n sz→loc.kind=true∧loc.n=n) (hobj:∀ sh vs,ob ≠ .obj sh vs:=by intro _ _ h; cases h) :
  Step E H β w (H++[ob]) (β++[loc]) (w.alloc (.cells c e')):=by
 have hold:∀ b,b<w.heap.size→(w.alloc (.cells c e')).heap[b]? = w.heap[b]? := fun b hb=>heap_alloc_old w _ b hb
 have hnew:(w.alloc (.cells c e')).heap[w.heap.size]? = some (.cells c e' (0,0)):=heap_alloc_new w _
 have hH:∀ id,(H++[ob])[id]? = if id<H.length then H[id]? else if id=H.length then some ob else none:=getElem?_concat H ob
 have hB:∀ id,(β++[loc])[id]? = if id<H.length then β[id]? else if id=H.length then some loc else none:=fun id=>by rw [hR.len]; exact getElem?_concat β loc id
 have hown:∀ b o,Own (H++[ob]) (β++[loc]) b o→Own H β b o∨w.heap.size≤b:=by
  rintro b o ⟨id,l,h1,rfl,h2⟩
  rw [hB] at h1
  rw [hH] at h2
  by_cases hlt:id<H.length
  ·simp only [hlt,if_true] at h1 h2
   exact .inl ⟨id,l,h1,rfl,h2⟩
  ·simp only [hlt,if_false] at h1
   split at h1
   ·simp only [Option.some.injEq] at h1
    subst h1
    exact .inr (by omega)
   ·cases h1
 have hle:LocLe β (β++[loc]):=fun id l h=>⟨l,by
  have:id<β.length:=(List.getElem?_eq_some_iff.1 h).1
  rw [List.getElem?_append_left this]; exact h,.inl rfl⟩
 have st:Stab w (Xs E H β) (w.alloc (.cells c e')) (Xs E (H++[ob]) (β++[loc])):=by
  refine ⟨fun b o v hx hv=>⟨fun h=>?_,by rw [cell_heap (hold b (cell_lt hv))]; exact hv⟩,fun b cs e h=>⟨cs,e,by rw [hold b (heap_lt h)]; exact h⟩⟩
  have:=cell_lt hv
  rcases h with h | h
  ·exact hx (.inl h)
  ·rcases hown b o h with h | h
   ·exact hx (.inr h)
   ·omega
 refine ⟨⟨by simp [hR.len],fun id cs e l g1 g2=>?_,fun id n sz l g1 g2=>?_,fun id sh vs l g1 g2=>?_,fun i j l l' hi hj g1 g2 hb=>?_⟩,rfl,rfl,rfl,by simp,fun b hb=>.inl (hold b hb),hown,hle⟩
 ·rw [hH] at g1
  rw [hB] at g2
  by_cases hlt:id<H.length
  ·simp only [hlt,if_true] at g1 g2
   obtain ⟨k,c,e',a1,a2,a3,a4⟩:=hR.cells id cs e l g1 g2
   exact ⟨k,c,e',by rw [hold _ (heap_lt a1)]; exact a1,a2,a3,fun k v hv=>let ⟨x,hx,hr⟩:=a4 k v hv; ⟨x,hx,hr.stab st _ hle⟩⟩
  ·simp only [hlt,if_false] at g1 g2
   split at g1
   ·simp only [Option.some.injEq, *] at g1 g2
    simp only [if_true,Option.some.injEq] at g2
    subst g2
    obtain ⟨h1,h2,h3⟩:=hcells cs e (by simpa using g1)
    exact ⟨h1,c,e',by rw [hloc]; exact hnew,hsize,h2,fun k v hv=>let ⟨x,hx,hr⟩:=h3 k v hv; ⟨x,hx,hr.stab st _ hle⟩⟩
   ·cases g1
 ·rw [hH] at g1
  rw [hB] at g2
  by_cases hlt:id<H.length
  ·simp only [hlt,if_true] at g1 g2
   obtain ⟨k,m,c,e',a1,a2⟩:=hR.tok id n sz l g1 g2
   exact ⟨k,m,c,e',by rw [hold _ (heap_lt a1)]; exact a1,a2⟩
  ·simp only [hlt,if_false] at g1 g2
   split at g1
   ·simp only [Option.some.injEq, *] at g1 g2
    simp only [if_true,Option.some.injEq] at g2
    subst g2
    obtain ⟨h1,h2⟩:=htok n sz (by simpa using g1)
    exact ⟨h1,h2,c,e',by rw [hloc]; exact hnew,hsize⟩
   ·cases g1
 ·rw [hH] at g1
  rw [hB] at g2
  by_cases hlt:id<H.length
  ·simp only [hlt,if_true] at g1 g2
   obtain ⟨k,kb,ob,xs,a1,a2,a3⟩:=hR.objs id sh vs l g1 g2
   exact ⟨k,kb,ob,xs,by rw [hold _ (heap_lt a1)]; exact a1,a2,fun k v hv=>let ⟨x,hx,hr⟩:=a3 k v hv; ⟨x,hx,hr.stab st _ hle⟩⟩
  ·simp only [hlt,if_false] at g1
   split at g1
   ·exact absurd (Option.some.inj g1) (hobj sh vs)
   ·cases g1
 ·have hl:∀ i l,live (H++[ob]) i→(β++[loc])[i]? = some l→(i<H.length∧live H i∧β[i]? = some l∧l.block<w.heap.size)∨(i=H.length∧l.block=w.heap.size):=by
   rintro i l ⟨o,h1,h2⟩ h3
   rw [hH] at h1
   rw [hB] at h3
   by_cases hlt:i<H.length
   ·simp only [hlt,if_true] at h1 h3
    exact .inl ⟨hlt,⟨o,h1,h2⟩,h3,live_lt hR ⟨o,h1,h2⟩ h3⟩
   ·simp only [hlt,if_false] at h1 h3
    split at h3
    ·simp only [Option.some.injEq] at h3
     subst h3
     exact .inr ⟨by assumption,hloc⟩
    ·cases h3
  rcases hl i l hi g1 with ⟨_,a1,a2,a3⟩ | ⟨a1,a2⟩ <;> rcases hl j l' hj g2 with ⟨_,b1,b2,b3⟩ | ⟨b1,b2⟩
  ·exact hR.disj i j l l' a1 b1 a2 b2 hb
  ·omega
  ·omega
  ·omega
theorem get_set {α:Type} (l:List α) (i:Nat) (x:α) (j:Nat):(l.set i x)[j]? = if i=j then (if i<l.length then some x else none) else l[j]? := by
 rw [List.getElem?_set]
theorem Step.setCells (hR:Rel w (Xs E H β) H β) {id:Nat} {cs cs' : List V} {e e0:TypeId} {loc:Loc} {c c' : Array Value}
  (hid:H[id]? = some (.cells cs e)) (hloc:β[id]? = some loc) (hb:w.heap[loc.block]? = some (.cells c e0 (0,0))) (hsz:c'.size=c.size)
  (hl:cs'.length=cs.length) (hv:∀ (k:Nat) v,cs'[k]? = some v → ∃ x,c'[loc.base+k]? = some x∧R w (Xs E H β) β v x) :
  Step E H β w (H.set id (.cells cs' e)) β (w.setRow loc.block c'):=by
 have hne:∀ b,b ≠ loc.block→(w.setRow loc.block c').heap[b]? = w.heap[b]? := fun b h=>setRow_other w _ _ _ h
 have hsame:(w.setRow loc.block c').heap[loc.block]? = some (.cells c' e0 (0,0)):=setRow_heap w _ c c' e0 (0,0) hb
 have hilt:id<H.length:=(List.getElem?_eq_some_iff.1 hid).1
 have hH:∀ j,(H.set id (.cells cs' e))[j]? = if id=j then some (.cells cs' e) else H[j]? := fun j=>by rw [get_set]; simp [hilt]
 have hown:∀ b o,Own (H.set id (.cells cs' e)) β b o ↔ Own H β b o:=by
  intro b o
  constructor
  ·rintro ⟨j,l,h1,rfl,h2⟩
   rw [hH] at h2
   by_cases hj:id=j
   ·subst hj; exact ⟨id,l,h1,rfl,.inl ⟨cs,e,hid⟩⟩
   ·simp only [hj,if_false] at h2; exact ⟨j,l,h1,rfl,h2⟩
  ·rintro ⟨j,l,h1,rfl,h2⟩
   refine ⟨j,l,h1,rfl,?_⟩
   rw [hH]
   by_cases hj:id=j
   ·subst hj; exact .inl ⟨cs',e,by simp⟩
   ·simpa only [hj,if_false] using h2
 have hself:∀ o,Own H β loc.block o:=fun o=>⟨id,loc,hloc,rfl,.inl ⟨cs,e,hid⟩⟩
 have hblk:∀ (b:Nat) (cs:Array Value) (e:TypeId),w.heap[b]? = some (Obj.cells cs e (0,0)) → ∃ (cs' : Array Value) (e' : TypeId),(w.setRow loc.block c').heap[b]? = some (Obj.cells cs' e' (0,0)):=by
  intro b cs e h
  by_cases hbb:b=loc.block
  ·subst hbb; exact ⟨c',e0,hsame⟩
  ·exact ⟨cs,e,by rw [hne b hbb]; exact h⟩
 have st:Stab w (Xs E H β) (w.setRow loc.block c') (Xs E (H.set id (.cells cs' e)) β):=by
  refine ⟨fun b o v hx hv=>?_,hblk⟩
  have hbb:b ≠ loc.block:=fun h=>hx (.inr (h ▸ hself o))
  refine ⟨fun h=>hx ?_,by rw [cell_heap (hne b hbb)]; exact hv⟩
  rcases h with h | h
  ·exact .inl h
  ·exact .inr ((hown b o).1 h)
 have hlive:∀ j,live (H.set id (.cells cs' e)) j→live H j:=by
  rintro j ⟨o,h1,h2⟩
  rw [hH] at h1
  by_cases hj:id=j
  ·subst hj; exact live_cells hid
  ·simp only [hj,if_false] at h1; exact ⟨o,h1,h2⟩
 refine ⟨⟨by simp [hR.len],fun j cs1 e1 l g1 g2=>?_,fun j n sz l g1 g2=>?_,fun j sh vs l g1 g2=>?_,fun i j l l' hi hj g1 g2 hb=>hR.disj i j l l' (hlive i hi) (hlive j hj) g1 g2 hb⟩,
  rfl,rfl,rfl,by simp,fun b hb' => ?_,fun b o h=>.inl ((hown b o).1 h),.refl _⟩
 ·rw [hH] at g1
  by_cases hj:id=j
  ·subst hj
   simp only [if_true,Option.some.injEq,O.cells.injEq] at g1
   obtain ⟨rfl,rfl⟩:=g1
   rw [hloc] at g2
   simp only [Option.some.injEq] at g2
   subst g2
   obtain ⟨h1,c2,e2,h2,h3,h4,_⟩:=hR.cells id cs e loc hid hloc
   rw [hb] at h2
   simp only [Option.some.injEq,Obj.cells.injEq,and_true] at h2
   obtain ⟨rfl,rfl⟩:=h2
   exact ⟨h1,c',e0,hsame,by omega,⟨by have:=h4.1; omega,fun he=>by have:=h4.2 he; omega⟩,fun k v hk=>let ⟨x,hx,hr⟩:=hv k v hk; ⟨x,hx,hr.stab st _ (.refl _)⟩⟩
  ·simp only [hj,if_false] at g1
   obtain ⟨k,c2,e2,a1,a2,a3,a4⟩:=hR.cells j cs1 e1 l g1 g2
   have:l.block ≠ loc.block:=fun h=>hj (hR.disj id j loc l (live_cells hid) (live_cells g1) hloc g2 h.symm)
   exact ⟨k,c2,e2,by rw [hne _ this]; exact a1,a2,a3,fun k v hv=>let ⟨x,hx,hr⟩:=a4 k v hv; ⟨x,hx,hr.stab st _ (.refl _)⟩⟩
 ·rw [hH] at g1
  by_cases hj:id=j
  ·subst hj; simp at g1
  ·simp only [hj,if_false] at g1
   obtain ⟨k,m,c2,e2,a1,a2⟩:=hR.tok j n sz l g1 g2
   have:l.block ≠ loc.block:=fun h=>hj (hR.disj id j loc l (live_cells hid) (live_tok g1) hloc g2 h.symm)
   exact ⟨k,m,c2,e2,by rw [hne _ this]; exact a1,a2⟩
 ·rw [hH] at g1
  by_cases hj:id=j
  ·subst hj; simp at g1
  ·simp only [hj,if_false] at g1
   obtain ⟨k,kb,ob,xs,a1,a2,a3⟩:=hR.objs j sh vs l g1 g2
   have:l.block ≠ loc.block:=fun h=>hj (hR.disj id j loc l (live_cells hid) (live_obj g1) hloc g2 h.symm)
   exact ⟨k,kb,ob,xs,by rw [hne _ this]; exact a1,a2,fun k v hv=>let ⟨x,hx,hr⟩:=a3 k v hv; ⟨x,hx,hr.stab st _ (.refl _)⟩⟩
 ·by_cases hbb:b=loc.block
  ·subst hbb
   exact .inr (.inl ⟨⟨0,hself 0⟩,c,c',e0,hb,hsame,hsz,fun o ho=>absurd (hself o) ho⟩)
  ·exact .inl (hne b hbb)
theorem Step.setTok (hR:Rel w (Xs E H β) H β) {id n n' sz:Nat} {e0:TypeId} {loc:Loc} {c c' : Array Value}
  (hid:H[id]? = some (.tok n sz)) (hloc:β[id]? = some loc) (hb:w.heap[loc.block]? = some (.cells c e0 (0,0))) (hsz:c'.size=c.size)
  (hn:n<n') (hc:∀ o,o<loc.base+n*sz→c'[o]? = c[o]?) :
  Step E H β w (H.set id (.tok n' sz)) (β.set id { loc with n:=n' }) (w.setRow loc.block c'):=by
 have hne:∀ b,b ≠ loc.block→(w.setRow loc.block c').heap[b]? = w.heap[b]? := fun b h=>setRow_other w _ _ _ h
 have hsame:(w.setRow loc.block c').heap[loc.block]? = some (.cells c' e0 (0,0)):=setRow_heap w _ c c' e0 (0,0) hb
 have hilt:id<H.length:=(List.getElem?_eq_some_iff.1 hid).1
 have hilt' : id<β.length:=by rw [← hR.len]; exact hilt
 have hH:∀ j,(H.set id (.tok n' sz))[j]? = if id=j then some (.tok n' sz) else H[j]? := fun j=>by rw [get_set]; simp [hilt]
 have hB:∀ j,(β.set id { loc with n:=n' })[j]? = if id=j then some { loc with n:=n' } else β[j]? := fun j=>by rw [get_set]; simp [hilt']
 obtain ⟨hkind,hlocn,c0,e1,hb0,hsize⟩:=hR.tok id n sz loc hid hloc
 rw [hb] at hb0
 simp only [Option.some.injEq,Obj.cells.injEq,and_true] at hb0
 obtain ⟨rfl,rfl⟩:=hb0
 have hown:∀ b o,Own (H.set id (.tok n' sz)) (β.set id { loc with n:=n' }) b o→Own H β b o:=by
  rintro b o ⟨j,l,h1,rfl,h2⟩
  rw [hH] at h2
  rw [hB] at h1
  by_cases hj:id=j
  ·subst hj
   simp only [if_true,Option.some.injEq] at h1
   subst h1
   refine ⟨id,loc,hloc,rfl,.inr (.inl ⟨n,sz,hid,?_⟩)⟩
   rcases h2 with ⟨_,_,h2⟩ | ⟨m,s,h2,h3⟩ | ⟨_,_,h2⟩
   ·simp at h2
   rotate_left
   ·simp at h2
   ·simp only [if_true,Option.some.injEq,O.tok.injEq] at h2
    obtain ⟨rfl,rfl⟩:=h2
    have:n*sz≤n' * sz:=Nat.mul_le_mul_right sz (Nat.le_of_lt hn)
    simp only at h3
    omega
  ·simp only [hj,if_false] at h1 h2; exact ⟨j,l,h1,rfl,h2⟩
 have hself:∀ o,¬ Own H β loc.block o→o<loc.base+n*sz:=fun o h=>by
  rcases Nat.lt_or_ge o (loc.base+n*sz) with h' | h'
  ·exact h'
  ·exact absurd ⟨id,loc,hloc,rfl,.inr (.inl ⟨n,sz,hid,h'⟩)⟩ h
 have hle:LocLe β (β.set id { loc with n:=n' }):=fun j l h=>by
  rw [hB]
  by_cases hj:id=j
  ·subst hj
   rw [hloc] at h
   simp only [Option.some.injEq] at h
   subst h
   exact ⟨{ loc with n:=n' },by simp,.inr ⟨hkind,hkind,by rw [hlocn]; exact hn⟩⟩
  ·exact ⟨l,by simp [hj,h],.inl rfl⟩
 have hblk:∀ (b:Nat) (cs:Array Value) (e:TypeId),w.heap[b]? = some (Obj.cells cs e (0,0)) → ∃ (cs' : Array Value) (e' : TypeId),(w.setRow loc.block c').heap[b]? = some (Obj.cells cs' e' (0,0)):=by
  intro b cs e h
  by_cases hbb:b=loc.block
  ·subst hbb; exact ⟨c',e0,hsame⟩
  ·exact ⟨cs,e,by rw [hne b hbb]; exact h⟩
 have st:Stab w (Xs E H β) (w.setRow loc.block c') (Xs E (H.set id (.tok n' sz)) (β.set id { loc with n:=n' })):=by
  refine ⟨fun b o v hx hv=>⟨fun h=>hx ?_,?_⟩,hblk⟩
  ·rcases h with h | h
   ·exact .inl h
   ·exact .inr (hown b o h)
  ·by_cases hbb:b=loc.block
   ·subst hbb
    rw [cell_of_row w _ _ c e0 (0,0) hb] at hv
    rw [cell_of_row _ _ _ c' e0 (0,0) hsame,hc o (hself o (fun h=>hx (.inr h))),hv]
   ·rw [cell_heap (hne b hbb)]; exact hv
 have hlive:∀ j,live (H.set id (.tok n' sz)) j→live H j:=by
  rintro j ⟨o,h1,h2⟩
  rw [hH] at h1
  by_cases hj:id=j
  ·subst hj; exact live_tok hid
  ·simp only [hj,if_false] at h1; exact ⟨o,h1,h2⟩
 have hblock:∀ (j:Nat) l,(β.set id { loc with n:=n' })[j]? = some l → ∃ l',β[j]? = some l' ∧ l'.block=l.block:=by
  intro j l h
  rw [hB] at h
  by_cases hj:id=j
  ·subst hj
   simp only [if_true,Option.some.injEq] at h
   subst h
   exact ⟨loc,hloc,rfl⟩
  ·simp only [hj,if_false] at h; exact ⟨l,h,rfl⟩
 refine ⟨⟨by simp [hR.len],fun j cs1 e1 l g1 g2=>?_,fun j m s l g1 g2=>?_,fun j sh vs l g1 g2=>?_,fun i j l l' hi hj g1 g2 hbk=>?_⟩,
  rfl,rfl,rfl,by simp,fun b hb' => ?_,fun b o h=>.inl (hown b o h),hle⟩
 ·rw [hH] at g1
  rw [hB] at g2
  by_cases hj:id=j
  ·subst hj; simp at g1
  ·simp only [hj,if_false] at g1 g2
   obtain ⟨k,c2,e2,a1,a2,a3,a4⟩:=hR.cells j cs1 e1 l g1 g2
   have:l.block ≠ loc.block:=fun h=>hj (hR.disj id j loc l (live_tok hid) (live_cells g1) hloc g2 h.symm)
   exact ⟨k,c2,e2,by rw [hne _ this]; exact a1,a2,a3,fun k v hv=>let ⟨x,hx,hr⟩:=a4 k v hv; ⟨x,hx,hr.stab st _ hle⟩⟩
 ·rw [hH] at g1
  rw [hB] at g2
  by_cases hj:id=j
  ·subst hj
   simp only [if_true,Option.some.injEq,O.tok.injEq] at g1 g2
   obtain ⟨rfl,rfl⟩:=g1
   subst g2
   exact ⟨hkind,rfl,c',e0,hsame,by simp only; omega⟩
  ·simp only [hj,if_false] at g1 g2
   obtain ⟨k,m,c2,e2,a1,a2⟩:=hR.tok j m s l g1 g2
   have:l.block ≠ loc.block:=fun h=>hj (hR.disj id j loc l (live_tok hid) (live_tok g1) hloc g2 h.symm)
   exact ⟨k,m,c2,e2,by rw [hne _ this]; exact a1,a2⟩
 ·rw [hH] at g1
  rw [hB] at g2
  by_cases hj:id=j
  ·subst hj; simp at g1
  ·simp only [hj,if_false] at g1 g2
   obtain ⟨k,kb,ob,xs,a1,a2,a3⟩:=hR.objs j sh vs l g1 g2
   have:l.block ≠ loc.block:=fun h=>hj (hR.disj id j loc l (live_tok hid) (live_obj g1) hloc g2 h.symm)
   exact ⟨k,kb,ob,xs,by rw [hne _ this]; exact a1,a2,fun k v hv=>let ⟨x,hx,hr⟩:=a3 k v hv; ⟨x,hx,hr.stab st _ hle⟩⟩
 ·obtain ⟨m,h1,h2⟩:=hblock i l g1
  obtain ⟨m',h1',h2'⟩:=hblock j l' g2
  exact hR.disj i j m m' (hlive i hi) (hlive j hj) h1 h1' (by omega)
 ·by_cases hbb:b=loc.block
  ·subst hbb
   by_cases hex:∃ o,Own H β loc.block o
   ·exact .inr (.inl ⟨hex,c,c',e0,hb,hsame,hsz,fun o ho=>hc o (hself o ho)⟩)
   ·exact absurd ⟨loc.base+n*sz,id,loc,hloc,rfl,.inr (.inl ⟨n,sz,hid,Nat.le_refl _⟩)⟩ hex
  ·exact .inl (hne b hbb)
theorem Step.moveTok (hR:Rel w (Xs E H β) H β) {id n n' sz:Nat} {e' : TypeId} {loc:Loc} {c:Array Value}
  (hid:H[id]? = some (.tok n sz)) (hloc:β[id]? = some loc) (hn:n<n') :
  Step E H β w (H.set id (.tok n' sz)) (β.set id { kind:=true,block:=w.heap.size,base:=0,n:=n',size:=c.size }) (w.alloc (.cells c e')):=by
 have hold:∀ b,b<w.heap.size→(w.alloc (.cells c e')).heap[b]? = w.heap[b]? := fun b hb=>heap_alloc_old w _ b hb
 have hnew:(w.alloc (.cells c e')).heap[w.heap.size]? = some (.cells c e' (0,0)):=heap_alloc_new w _
 have hilt:id<H.length:=(List.getElem?_eq_some_iff.1 hid).1
 have hilt' : id<β.length:=by rw [← hR.len]; exact hilt
 generalize hL:({ kind:=true,block:=w.heap.size,base:=0,n:=n',size:=c.size }:Loc)=L
 have hH:∀ j,(H.set id (.tok n' sz))[j]? = if id=j then some (.tok n' sz) else H[j]? := fun j=>by rw [get_set]; simp [hilt]
 have hB:∀ j,(β.set id L)[j]? = if id=j then some L else β[j]? := fun j=>by rw [get_set]; simp [hilt']
 obtain ⟨hkind,hlocn,_⟩:=hR.tok id n sz loc hid hloc
 have hown:∀ b o,Own (H.set id (.tok n' sz)) (β.set id L) b o→Own H β b o∨w.heap.size≤b:=by
  rintro b o ⟨j,l,h1,rfl,h2⟩
  rw [hH] at h2
  rw [hB] at h1
  by_cases hj:id=j
  ·subst hj
   simp only [if_true,Option.some.injEq] at h1
   subst h1
   exact .inr (by simp [← hL])
  ·simp only [hj,if_false] at h1 h2; exact .inl ⟨j,l,h1,rfl,h2⟩
 have hle:LocLe β (β.set id L):=fun j l h=>by
  rw [hB]
  by_cases hj:id=j
  ·subst hj
   rw [hloc] at h
   simp only [Option.some.injEq] at h
   subst h
   exact ⟨L,by simp,.inr ⟨hkind,by simp [← hL],by rw [hlocn,← hL]; exact hn⟩⟩
  ·exact ⟨l,by simp [hj,h],.inl rfl⟩
 have st:Stab w (Xs E H β) (w.alloc (.cells c e')) (Xs E (H.set id (.tok n' sz)) (β.set id L)):=by
  refine ⟨fun b o v hx hv=>⟨fun h=>?_,by rw [cell_heap (hold b (cell_lt hv))]; exact hv⟩,fun b cs e h=>⟨cs,e,by rw [hold b (heap_lt h)]; exact h⟩⟩
  have:=cell_lt hv
  rcases h with h | h
  ·exact hx (.inl h)
  ·rcases hown b o h with h | h
   ·exact hx (.inr h)
   ·omega
 refine ⟨⟨by simp [hR.len],fun j cs1 e1 l g1 g2=>?_,fun j m s l g1 g2=>?_,fun j sh vs l g1 g2=>?_,fun i j l l' hi hj g1 g2 hbk=>?_⟩,
  rfl,rfl,rfl,by simp,fun b hb' => .inl (hold b hb'),hown,hle⟩
 ·rw [hH] at g1
  rw [hB] at g2
  by_cases hj:id=j
  ·subst hj; simp at g1
  ·simp only [hj,if_false] at g1 g2
   obtain ⟨k,c2,e2,a1,a2,a3,a4⟩:=hR.cells j cs1 e1 l g1 g2
   exact ⟨k,c2,e2,by rw [hold _ (heap_lt a1)]; exact a1,a2,a3,fun k v hv=>let ⟨x,hx,hr⟩:=a4 k v hv; ⟨x,hx,hr.stab st _ hle⟩⟩
 ·rw [hH] at g1
  rw [hB] at g2
  by_cases hj:id=j
  ·subst hj
   simp only [if_true,Option.some.injEq,O.tok.injEq] at g1 g2
   obtain ⟨rfl,rfl⟩:=g1
   subst g2
   exact ⟨by simp [← hL],by simp [← hL],c,e',by simpa [← hL] using hnew,by simp [← hL]⟩
  ·simp only [hj,if_false] at g1 g2
   obtain ⟨k,m,c2,e2,a1,a2⟩:=hR.tok j m s l g1 g2
   exact ⟨k,m,c2,e2,by rw [hold _ (heap_lt a1)]; exact a1,a2⟩
 ·rw [hH] at g1
  rw [hB] at g2
  by_cases hj:id=j
  ·subst hj; simp at g1
  ·simp only [hj,if_false] at g1 g2
   obtain ⟨k,kb,ob,xs,a1,a2,a3⟩:=hR.objs j sh vs l g1 g2
   exact ⟨k,kb,ob,xs,by rw [hold _ (heap_lt a1)]; exact a1,a2,fun k v hv=>let ⟨x,hx,hr⟩:=a3 k v hv; ⟨x,hx,hr.stab st _ hle⟩⟩
 ·have hl:∀ i l,live (H.set id (.tok n' sz)) i→(β.set id L)[i]? = some l→(live H i∧β[i]? = some l∧l.block<w.heap.size)∨(i=id∧l.block=w.heap.size):=by
   rintro i l ⟨o,h1,h2⟩ h3
   rw [hH] at h1
   rw [hB] at h3
   by_cases hlt:id=i
   ·subst hlt
    simp only [if_true,Option.some.injEq] at h3
    subst h3
    exact .inr ⟨rfl,by simp [← hL]⟩
   ·simp only [hlt,if_false] at h1 h3
    exact .inl ⟨⟨o,h1,h2⟩,h3,live_lt hR ⟨o,h1,h2⟩ h3⟩
  rcases hl i l hi g1 with ⟨a1,a2,a3⟩ | ⟨a1,a2⟩ <;> rcases hl j l' hj g2 with ⟨b1,b2,b3⟩ | ⟨b1,b2⟩
  ·exact hR.disj i j l l' a1 b1 a2 b2 hbk
  ·omega
  ·omega
  ·omega
theorem Step.setObjG (hR:Rel w (Xs E H β) H β) {id:Nat} {sh sh' : Shape} {vs vs' : List V} {loc:Loc} {ob' : Obj} {xs' : List Value}
  (hid:H[id]? = some (.obj sh vs)) (hloc:β[id]? = some loc) (hsh:Shp sh' ob' xs') (hv:∀ (k:Nat) v,vs'[k]? = some v → ∃ x,xs'[k]? = some x∧R w (Xs E H β) β v x)
  (hkind:∀ ob xs,w.heap[loc.block]? = some ob→Shp sh ob xs→(special ob=true∧special ob' = true) ∨ ∃ c c' e,ob = .cells c e (0,0)∧ob' = .cells c' e (0,0)∧c'.size=c.size) :
  Step E H β w (H.set id (.obj sh' vs')) β { w with heap:=w.heap.setIfInBounds loc.block ob' }:=by
 obtain ⟨hk0,hb0,ob,xs,hob,hsh0,_⟩:=hR.objs id sh vs loc hid hloc
 obtain ⟨hsame,hne⟩:=Go.MapKept.heap_set (o' := ob') hob
 have hilt:id<H.length:=(List.getElem?_eq_some_iff.1 hid).1
 have hH:∀ j,(H.set id (.obj sh' vs'))[j]? = if id=j then some (.obj sh' vs') else H[j]? := fun j=>by rw [get_set]; simp [hilt]
 have hown:∀ b o,Own (H.set id (.obj sh' vs')) β b o ↔ Own H β b o:=by
  intro b o
  constructor
  ·rintro ⟨j,l,h1,rfl,h2⟩
   rw [hH] at h2
   by_cases hj:id=j
   ·subst hj; exact ⟨id,l,h1,rfl,.inr (.inr ⟨sh,vs,hid⟩)⟩
   ·simp only [hj,if_false] at h2; exact ⟨j,l,h1,rfl,h2⟩
  ·rintro ⟨j,l,h1,rfl,h2⟩
   refine ⟨j,l,h1,rfl,?_⟩
   rw [hH]
   by_cases hj:id=j
   ·subst hj; exact .inr (.inr ⟨sh',vs',by simp⟩)
   ·simpa only [hj,if_false] using h2
 have hself:∀ o,Own H β loc.block o:=fun o=>⟨id,loc,hloc,rfl,.inr (.inr ⟨sh,vs,hid⟩)⟩
 have st:Stab w (Xs E H β) { w with heap:=w.heap.setIfInBounds loc.block ob' } (Xs E (H.set id (.obj sh' vs')) β):=by
  refine ⟨fun b o v hx hv=>?_,fun b cs e h=>?_⟩
  ·have hbb:b ≠ loc.block:=fun h=>hx (.inr (h ▸ hself o))
   refine ⟨fun h=>hx ?_,by rw [cell_heap (hne b hbb)]; exact hv⟩
   rcases h with h | h
   ·exact .inl h
   ·exact .inr ((hown b o).1 h)
  ·by_cases hbb:b=loc.block
   ·subst hbb
    rcases hkind ob xs hob hsh0 with ⟨g,_⟩ | ⟨c,c',e2,_,g,_⟩
    ·rw [hob] at h
     cases h
     cases g
    ·subst g
     exact ⟨c',e2,hsame⟩
   ·exact ⟨cs,e,by rw [hne b hbb]; exact h⟩
 have hlive:∀ j,live (H.set id (.obj sh' vs')) j→live H j:=by
  rintro j ⟨o,h1,h2⟩
  rw [hH] at h1
  by_cases hj:id=j
  ·subst hj; exact live_obj hid
  ·simp only [hj,if_false] at h1; exact ⟨o,h1,h2⟩
 refine ⟨⟨by simp [hR.len],fun j cs1 e1 l g1 g2=>?_,fun j n sz l g1 g2=>?_,fun j sh1 vs1 l g1 g2=>?_,fun i j l l' hi hj g1 g2 hb=>hR.disj i j l l' (hlive i hi) (hlive j hj) g1 g2 hb⟩,
  rfl,rfl,rfl,by simp,fun b hb' => ?_,fun b o h=>.inl ((hown b o).1 h),.refl _⟩
 ·rw [hH] at g1
  by_cases hj:id=j
  ·subst hj; simp at g1
  ·simp only [hj,if_false] at g1
   obtain ⟨k,c2,e2,a1,a2,a3,a4⟩:=hR.cells j cs1 e1 l g1 g2
   have:l.block ≠ loc.block:=fun h=>hj (hR.disj id j loc l (live_obj hid) (live_cells g1) hloc g2 h.symm)
   exact ⟨k,c2,e2,by rw [hne _ this]; exact a1,a2,a3,fun k v hv=>let ⟨x,hx,hr⟩:=a4 k v hv; ⟨x,hx,hr.stab st _ (.refl _)⟩⟩
 ·rw [hH] at g1
  by_cases hj:id=j
  ·subst hj; simp at g1
  ·simp only [hj,if_false] at g1
   obtain ⟨k,m,c2,e2,a1,a2⟩:=hR.tok j n sz l g1 g2
   have:l.block ≠ loc.block:=fun h=>hj (hR.disj id j loc l (live_obj hid) (live_tok g1) hloc g2 h.symm)
   exact ⟨k,m,c2,e2,by rw [hne _ this]; exact a1,a2⟩
 ·rw [hH] at g1
  by_cases hj:id=j
  ·subst hj
   simp only [if_true,Option.some.injEq,O.obj.injEq] at g1
   obtain ⟨rfl,rfl⟩:=g1
   rw [hloc] at g2
   simp only [Option.some.injEq] at g2
   subst g2
   exact ⟨hk0,hb0,ob',xs',hsame,hsh,fun k v hv' => let ⟨x,hx,hr⟩:=hv k v hv'; ⟨x,hx,hr.stab st _ (.refl _)⟩⟩
  ·simp only [hj,if_false] at g1
   obtain ⟨k,kb,ob1,xs1,a1,a2,a3⟩:=hR.objs j sh1 vs1 l g1 g2
   have:l.block ≠ loc.block:=fun h=>hj (hR.disj id j loc l (live_obj hid) (live_obj g1) hloc g2 h.symm)
   exact ⟨k,kb,ob1,xs1,by rw [hne _ this]; exact a1,a2,fun k v hv=>let ⟨x,hx,hr⟩:=a3 k v hv; ⟨x,hx,hr.stab st _ (.refl _)⟩⟩
 ·by_cases hbb:b=loc.block
  ·subst hbb
   rcases hkind ob xs hob hsh0 with ⟨g1,g2⟩ | ⟨c,c',e2,g1,g2,g3⟩
   ·exact .inr (.inr ⟨⟨0,hself 0⟩,ob,ob',hob,hsame,g1,g2⟩)
   ·subst g1
    subst g2
    exact .inr (.inl ⟨⟨0,hself 0⟩,c,c',e2,hob,hsame,g3,fun o ho=>absurd (hself o) ho⟩)
  ·exact .inl (hne b hbb)
theorem Step.setPage (hR:Rel w (Xs E H β) H β) {id n:Nat} {k:IntKind} {l l' : List Int} {hd hd' : List V} {loc:Loc} {arr' : Array Value} {e:TypeId} {xs xs' : List Value}
  (hid:H[id]? = some (.obj (.page n k l) hd)) (hloc:β[id]? = some loc) (hob:w.heap[loc.block]? = some (.cells (xs++l.map (Value.int k)).toArray e (0,0)))
  (hn:xs'.length=n) (hxs:xs.length=n) (harr:arr' = (xs' ++ l'.map (Value.int k)).toArray) (hl:l'.length=l.length) (hv:∀ (k:Nat) v,hd'[k]? = some v → ∃ x,xs'[k]? = some x∧R w (Xs E H β) β v x) :
  Step E H β w (H.set id (.obj (.page n k l') hd')) β (w.setRow loc.block arr'):=by
 have hw:w.setRow loc.block arr' = { w with heap:=w.heap.setIfInBounds loc.block (.cells arr' e (0,0)) }:=by
  unfold World.setRow
  congr 1
  apply Array.ext_getElem?
  intro i
  rw [Array.getElem?_modify,Array.getElem?_setIfInBounds]
  by_cases hi:loc.block=i
  ·subst hi
   have hlt:loc.block<w.heap.size:=heap_lt hob
   rw [if_pos rfl,if_pos rfl,hob,if_pos hlt]
   rfl
  ·rw [if_neg hi,if_neg hi]
 rw [hw]
 refine Step.setObjG hR hid hloc (xs' := xs') ⟨hn,e,by rw [harr]⟩ hv fun ob ys h1 h2=>.inr ?_
 rw [hob] at h1
 cases h1
 refine ⟨_,arr',e,rfl,rfl,?_⟩
 rw [harr]
 simp [hn,hxs,hl]
theorem Step.pushObjD (hR:Rel w (Xs E H β) H β) (ob:Obj) {sh:Shape} {xs:List Value} {vs:List V} {loc:Loc} (hsh:Shp sh ob xs)
  (hv:∀ (k:Nat) v,vs[k]? = some v → ∃ x,xs[k]? = some x∧R w (Xs E H β) β v x) (hloc:loc.block=w.heap.size) (hk:loc.kind=false) (hb:loc.base=0) :
  Step E H β w (H++[.obj sh vs]) (β++[loc]) (w.alloc ob):=by
 have hold:∀ b,b<w.heap.size→(w.alloc ob).heap[b]? = w.heap[b]? := fun b hb=>heap_alloc_old w _ b hb
 have hnew:(w.alloc ob).heap[w.heap.size]? = some ob:=heap_alloc_new w _
 have hH:∀ id,(H++[O.obj sh vs])[id]? = if id<H.length then H[id]? else if id=H.length then some (.obj sh vs) else none:=getElem?_concat H _
 have hB:∀ id,(β++[loc])[id]? = if id<H.length then β[id]? else if id=H.length then some loc else none:=fun id=>by rw [hR.len]; exact getElem?_concat β loc id
 have hown:∀ b o,Own (H++[.obj sh vs]) (β++[loc]) b o→Own H β b o∨w.heap.size≤b:=by
  rintro b o ⟨id,l,h1,rfl,h2⟩
  rw [hB] at h1
  rw [hH] at h2
  by_cases hlt:id<H.length
  ·simp only [hlt,if_true] at h1 h2
   exact .inl ⟨id,l,h1,rfl,h2⟩
  ·simp only [hlt,if_false] at h1
   split at h1
   ·simp only [Option.some.injEq] at h1
    subst h1
    exact .inr (by omega)
   ·cases h1
 have hle:LocLe β (β++[loc]):=fun id l h=>⟨l,by
  have:id<β.length:=(List.getElem?_eq_some_iff.1 h).1
  rw [List.getElem?_append_left this]; exact h,.inl rfl⟩
 have st:Stab w (Xs E H β) (w.alloc ob) (Xs E (H++[.obj sh vs]) (β++[loc])):=by
  refine ⟨fun b o v hx hv=>⟨fun h=>?_,by rw [cell_heap (hold b (cell_lt hv))]; exact hv⟩,fun b cs e h=>⟨cs,e,by rw [hold b (heap_lt h)]; exact h⟩⟩
  have:=cell_lt hv
  rcases h with h | h
  ·exact hx (.inl h)
  ·rcases hown b o h with h | h
   ·exact hx (.inr h)
   ·omega
 refine ⟨⟨by simp [hR.len],fun id cs e l g1 g2=>?_,fun id n sz l g1 g2=>?_,fun id sh' vs' l g1 g2=>?_,fun i j l l' hi hj g1 g2 hb=>?_⟩,rfl,rfl,rfl,by simp,fun b hb=>.inl (hold b hb),hown,hle⟩
 ·rw [hH] at g1
  rw [hB] at g2
  by_cases hlt:id<H.length
  ·simp only [hlt,if_true] at g1 g2
   obtain ⟨k,c,e',a1,a2,a3,a4⟩:=hR.cells id cs e l g1 g2
   exact ⟨k,c,e',by rw [hold _ (heap_lt a1)]; exact a1,a2,a3,fun k v hv=>let ⟨x,hx,hr⟩:=a4 k v hv; ⟨x,hx,hr.stab st _ hle⟩⟩
  ·simp only [hlt,if_false] at g1
   split at g1 <;> cases g1
 ·rw [hH] at g1
  rw [hB] at g2
  by_cases hlt:id<H.length
  ·simp only [hlt,if_true] at g1 g2
   obtain ⟨k,m,c,e',a1,a2⟩:=hR.tok id n sz l g1 g2
   exact ⟨k,m,c,e',by rw [hold _ (heap_lt a1)]; exact a1,a2⟩
  ·simp only [hlt,if_false] at g1
   split at g1 <;> cases g1
 ·rw [hH] at g1
  rw [hB] at g2
  by_cases hlt:id<H.length
  ·simp only [hlt,if_true] at g1 g2
   obtain ⟨k,kb,ob',xs',a1,a2,a3⟩:=hR.objs id sh' vs' l g1 g2
   exact ⟨k,kb,ob',xs',by rw [hold _ (heap_lt a1)]; exact a1,a2,fun k v hv=>let ⟨x,hx,hr⟩:=a3 k v hv; ⟨x,hx,hr.stab st _ hle⟩⟩
  ·simp only [hlt,if_false] at g1 g2
   split at g1
   ·rename_i hid
    simp only [hid,if_true,Option.some.injEq] at g2
    simp only [Option.some.injEq,O.obj.injEq] at g1
    obtain ⟨rfl,rfl⟩:=g1
    subst g2
    exact ⟨hk,hb,ob,xs,by rw [hloc]; exact hnew,hsh,fun k v hv' => let ⟨x,hx,hr⟩:=hv k v hv'; ⟨x,hx,hr.stab st _ hle⟩⟩
   ·cases g1
 ·have hl:∀ i l,live (H++[.obj sh vs]) i→(β++[loc])[i]? = some l→(i<H.length∧live H i∧β[i]? = some l∧l.block<w.heap.size)∨(i=H.length∧l.block=w.heap.size):=by
   rintro i l ⟨o,h1,h2⟩ h3
   rw [hH] at h1
   rw [hB] at h3
   by_cases hlt:i<H.length
   ·simp only [hlt,if_true] at h1 h3
    exact .inl ⟨hlt,⟨o,h1,h2⟩,h3,live_lt hR ⟨o,h1,h2⟩ h3⟩
   ·simp only [hlt,if_false] at h1 h3
    split at h3
    ·simp only [Option.some.injEq] at h3
     subst h3
     exact .inr ⟨by assumption,hloc⟩
    ·cases h3
  rcases hl i l hi g1 with ⟨_,a1,a2,a3⟩ | ⟨a1,a2⟩ <;> rcases hl j l' hj g2 with ⟨_,b1,b2,b3⟩ | ⟨b1,b2⟩
  ·exact hR.disj i j l l' a1 b1 a2 b2 hb
  ·omega
  ·omega
  ·omega
end
end Go.Ab
