/-
  The engine, part B: how simple values stand to the model's, and what a step keeps. Conditions: none.
-/
import Derived.Test.YtbefgnmdliefjaaGreatDoorBbA
import Derived.Laws.World
import Derived.Laws.Sem
import Derived.Laws.Cells
import Derived.Laws.Rows
import Derived.MapKept
import Derived.Laws.StructEq
import Derived.Laws.Strings
import Derived.Laws.CopyRow
import Derived.Laws.AppendOwn
set_option linter.unusedVariables false
set_option linter.unusedSimpArgs false
namespace Go.Ab
structure Loc where
 kind:Bool
 block:Nat
 base:Nat
 n:Nat
 size:Nat
inductive R (w:World) (X:Nat→Nat→Prop):List Loc→V→Value→Prop where
 | int (β k n):R w X β (.int k n) (.int k n)
 | bool (β b):R w X β (.bool b) (.bool b)
 | str (β s):R w X β (.str s) (.string ⟨List.toArray s⟩)
 | val (β x):R w X β (.val x) x
 | any (β x):R w X β .any x
 | rng (β k lo hi n) (h:lo≤n∧n<hi):R w X β (.rng k lo hi) (.int k n)
 | pin (β) (cells:List V) (b o) (f:Nat→Value) (hc:∀ k,k<cells.length→¬ X b (o+k)∧w.cell? ⟨b,o+k,none⟩=some (f k))
   (hr:∀ (k:Nat) (v:V),cells[k]? = some v→R w X [] v (f k)):R w X β (.pin cells) (.pointer (some ⟨b,o,none⟩))
 | sl (β) (c:EC) (l spare:List c.ty) (fl b o cap) (f:Nat→Nat→Value) (hcap:l.length+spare.length≤cap)
   (hfull:fl = .full→cap=l.length+spare.length) (hrw:fl.fixed=false → ∃ (cs:Array Value) (e:TypeId),w.heap[b]? = some (.cells cs e (0,0)))
   (hc:∀ i k,i<l.length+spare.length→k<c.size→¬ X b (o+i*c.size+k)∧w.cell? ⟨b,o+i*c.size+k,none⟩=some (f i k))
   (hr:∀ (i:Nat) (x:c.ty) (k:Nat) (v:V),(l++spare)[i]? = some x→(enc c x)[k]? = some v→R w X [] v (f i k)) :
   R w X β (.sl c l spare fl) (.slice (some ⟨b,o,none⟩) l.length cap)
 | nil (β) (c:EC):R w X β (.sl c [] [] .may) (.slice none 0 0)
 | gro (β) (id) (c:EC) (l:List c.ty) (b o cap loc) (f:Nat→Nat→Value) (hid:β[id]? = some loc) (hk:loc.kind=true) (hn:l.length≤loc.n)
   (hl:loc.n=l.length→b=loc.block∧o=loc.base∧o+cap*c.size≤loc.size) (hcap:l.length≤cap)
   (hc:∀ i k,i<l.length→k<c.size→¬ X b (o+i*c.size+k)∧w.cell? ⟨b,o+i*c.size+k,none⟩=some (f i k))
   (hr:∀ (i:Nat) (x:c.ty) (k:Nat) (v:V),l[i]? = some x→(enc c x)[k]? = some v→R w X [] v (f i k)) :
   R w X β (.gro id c l) (.slice (some ⟨b,o,none⟩) l.length cap)
 | ptr (β id off loc) (hid:β[id]? = some loc) (hk:loc.kind=false):R w X β (.ptr id off) (.pointer (some ⟨loc.block,loc.base+off,none⟩))
 | ref (β id sz off len loc b o cap) (hid:β[id]? = some loc) (hk:loc.kind=false) (hlen:len≤cap)
   (ha:0<cap→b=loc.block∧o=loc.base+off) (hcap:loc.base+off+cap*sz≤loc.size) :
   R w X β (.ref id sz off len) (.slice (some ⟨b,o,none⟩) len cap)
 | mp (β id loc) (hid:β[id]? = some loc) (hk:loc.kind=false):R w X β (.mp id) (.map (some loc.block))
 | agg (β) (cells:List V) (xs:List Value) (hl:xs.length=cells.length) (h:∀ (k:Nat) (v:V) (x:Value),cells[k]? = some v→xs[k]? = some x→R w X β v x) :
   R w X β (.agg cells) (.agg xs.toArray)
 | tup (β) (cells:List V) (xs:List Value) (hl:xs.length=cells.length) (h:∀ (k:Nat) (v:V) (x:Value),cells[k]? = some v→xs[k]? = some x→R w X β v x) :
   R w X β (.tup cells) (.tuple xs.toArray)
 | ifc (β t v x) (h:R w X β v x):R w X β (.ifc t v) (.iface t x)
 | clo (β fn) (as bs:List V) (xs ys:List Value) (hl:xs.length=as.length) (hm:ys.length=bs.length)
   (h:∀ (k:Nat) (v:V) (x:Value),as[k]? = some v→xs[k]? = some x→R w X β v x) (h' : ∀ (k:Nat) (v:V) (x:Value),bs[k]? = some v→ys[k]? = some x→R w X β v x) :
   R w X β (.clo fn as bs) (.func fn xs.toArray ys.toArray)
def Gs (P:Program) (w:World) (X:Nat→Nat→Prop):Prop:=∀ p ∈ globsOf P,R w X [] (.pin p.2) (.pointer (some ⟨p.1,0,none⟩))
def LocLe (β β' : List Loc):Prop:=
 ∀ (id:Nat) (loc:Loc),β[id]? = some loc → ∃ loc',β'[id]? = some loc' ∧ (loc' = loc∨(loc.kind=true∧loc'.kind=true∧loc.n<loc'.n))
theorem LocLe.refl (β:List Loc):LocLe β β:=fun _ loc h=>⟨loc,h,.inl rfl⟩
theorem LocLe.nil (β:List Loc):LocLe [] β:=fun _ _ h=>by simp at h
theorem LocLe.trans {a b c:List Loc} (h:LocLe a b) (k:LocLe b c):LocLe a c:=by
 intro id loc e
 obtain ⟨l1,e1,h1⟩:=h id loc e
 obtain ⟨l2,e2,h2⟩:=k id l1 e1
 refine ⟨l2,e2,?_⟩
 rcases h1 with rfl | ⟨a1,a2,a3⟩
 ·exact h2
 ·rcases h2 with rfl | ⟨b1,b2,b3⟩
  ·exact .inr ⟨a1,a2,a3⟩
  ·exact .inr ⟨a1,b2,by omega⟩
structure Stab (w:World) (X:Nat→Nat→Prop) (w' : World) (X' : Nat→Nat→Prop):Prop where
 cell:∀ b o v,¬ X b o→w.cell? ⟨b,o,none⟩=some v→¬ X' b o∧w'.cell? ⟨b,o,none⟩=some v
 blk:∀ (b:Nat) (cs:Array Value) (e:TypeId),w.heap[b]? = some (.cells cs e (0,0)) → ∃ (cs' : Array Value) (e' : TypeId),w'.heap[b]? = some (.cells cs' e' (0,0))
theorem R.stab {w w' : World} {X X' : Nat→Nat→Prop} (s:Stab w X w' X') {β:List Loc} {v:V} {x:Value} (h:R w X β v x) :
  ∀ β',LocLe β β' → R w' X' β' v x:=by
 induction h with
 | int=>exact fun β' _=>.int β' _ _
 | bool=>exact fun β' _=>.bool β' _
 | str=>exact fun β' _=>.str β' _
 | val=>exact fun β' _=>.val β' _
 | any=>exact fun β' _=>.any β' _
 | rng β k lo hi n h=>exact fun β' _=>.rng β' k lo hi n h
 | pin β cells b o f hc hr ih =>
  exact fun β' _=>.pin β' cells b o f (fun k hk=>s.cell _ _ _ (hc k hk).1 (hc k hk).2) (fun k v hv=>ih k v hv [] (.nil _))
 | sl β c l spare fl b o cap f hcap hfull hrw hc hr ih =>
  exact fun β' _=>.sl β' c l spare fl b o cap f hcap hfull (fun e=>let ⟨cs,t,h⟩:=hrw e; s.blk _ _ _ h)
   (fun i k hi hk=>s.cell _ _ _ (hc i k hi hk).1 (hc i k hi hk).2) (fun i x k v h1 h2=>ih i x k v h1 h2 [] (.nil _))
 | nil β c=>exact fun β' _=>.nil β' c
 | gro β id c l b o cap loc f hid hk hn hl hcap hc hr ih =>
  intro β' hle
  obtain ⟨loc',hid',h⟩:=hle id loc hid
  refine .gro β' id c l b o cap loc' f hid' ?_ ?_ ?_ hcap (fun i k hi hk=>s.cell _ _ _ (hc i k hi hk).1 (hc i k hi hk).2) (fun i x k v h1 h2=>ih i x k v h1 h2 [] (.nil _))
  ·rcases h with rfl | ⟨_,h,_⟩ <;> assumption
  ·rcases h with rfl | ⟨_,_,h⟩ <;> omega
  ·rcases h with rfl | ⟨_,_,h⟩
   ·exact hl
   ·intro e; omega
 | ptr β id off loc hid hk =>
  intro β' hle
  obtain ⟨loc',hid',h⟩:=hle id loc hid
  rcases h with rfl | ⟨h,_⟩
  ·exact .ptr β' id off _ hid' hk
  ·simp [hk] at h
 | ref β id sz off len loc b o cap hid hk hlen ha hcap =>
  intro β' hle
  obtain ⟨loc',hid',h⟩:=hle id loc hid
  rcases h with rfl | ⟨h,_⟩
  ·exact .ref β' id sz off len _ b o cap hid' hk hlen ha hcap
  ·simp [hk] at h
 | mp β id loc hid hk =>
  intro β' hle
  obtain ⟨loc',hid',h⟩:=hle id loc hid
  rcases h with rfl | ⟨h,_⟩
  ·exact .mp β' id _ hid' hk
  ·simp [hk] at h
 | agg β cells xs hl h ih=>exact fun β' hle=>.agg β' cells xs hl (fun k v x h1 h2=>ih k v x h1 h2 β' hle)
 | tup β cells xs hl h ih=>exact fun β' hle=>.tup β' cells xs hl (fun k v x h1 h2=>ih k v x h1 h2 β' hle)
 | ifc β t v x h ih=>exact fun β' hle=>.ifc β' t v x (ih β' hle)
 | clo β fn as bs xs ys hl hm h h' ih ih' =>
  exact fun β' hle=>.clo β' fn as bs xs ys hl hm (fun k v x h1 h2=>ih k v x h1 h2 β' hle) (fun k v x h1 h2=>ih' k v x h1 h2 β' hle)
def Own (H:List O) (β:List Loc) (b o:Nat):Prop:=
 ∃ (id:Nat) (loc:Loc),β[id]? = some loc∧loc.block=b∧((∃ cs e,H[id]? = some (.cells cs e))∨(∃ n sz,H[id]? = some (.tok n sz)∧loc.base+n*sz≤o)∨(∃ sh vs,H[id]? = some (.obj sh vs)))
def Shp:Shape→Obj→List Value→Prop
 | .map keys,ob,xs=>∃ (arr:Array MapEntry) (clock:Nat) (l:List MapEntry),ob = .map arr clock∧Go.MapKept.Stamped arr clock∧keys.Pairwise (· < ·)∧l.Perm arr.toList ∧
   l.map (·.key)=keys.map (Value.int .u64)∧l.map (·.val)=xs
 | .siter s pos,ob,xs=>ob = .stringIter ⟨s.toArray⟩ pos∧xs=[]
 | .page n k l,ob,xs=>xs.length=n ∧ ∃ e,ob = .cells (xs++l.map (Value.int k)).toArray e (0,0)
def special:Obj→Bool
 | .map _ _ | .stringIter _ _ | .mapIter _ _ _ _=>true
 | _=>false
theorem Shp.special {sh:Shape} {ob:Obj} {xs:List Value} (h:Shp sh ob xs) (hp:sh.isPage=false):special ob=true:=by
 cases sh with
 | page n k l=>cases hp
 | map keys=>obtain ⟨arr,clock,l,rfl,_⟩:=h; rfl
 | siter s pos=>obtain ⟨rfl,_⟩:=h; rfl
def Xs (E:Nat→Nat→Prop) (H:List O) (β:List Loc) (b o:Nat):Prop:=E b o∨Own H β b o
def live (H:List O) (id:Nat):Prop:=∃ o,H[id]? = some o∧o ≠ .dead
structure Rel (w:World) (X:Nat→Nat→Prop) (H:List O) (β:List Loc):Prop where
 len:H.length=β.length
 cells:∀ (id:Nat) cs e (loc:Loc),H[id]? = some (.cells cs e)→β[id]? = some loc→loc.kind=false ∧ ∃ (c:Array Value) (e' : TypeId),
  w.heap[loc.block]? = some (.cells c e' (0,0))∧c.size=loc.size∧(loc.base+cs.length≤loc.size∧(4294967296≤e→loc.size=loc.base+cs.length)) ∧
  ∀ (k:Nat) v,cs[k]? = some v → ∃ x,c[loc.base+k]? = some x∧R w X β v x
 tok:∀ (id:Nat) n sz (loc:Loc),H[id]? = some (.tok n sz)→β[id]? = some loc→loc.kind=true∧loc.n=n ∧ ∃ (c:Array Value) (e' : TypeId),
  w.heap[loc.block]? = some (.cells c e' (0,0))∧c.size=loc.size
 objs:∀ (id:Nat) sh vs (loc:Loc),H[id]? = some (.obj sh vs)→β[id]? = some loc→loc.kind=false∧loc.base=0 ∧ ∃ (ob:Obj) (xs:List Value),
  w.heap[loc.block]? = some ob∧Shp sh ob xs ∧ ∀ (k:Nat) v,vs[k]? = some v → ∃ x,xs[k]? = some x∧R w X β v x
 disj:∀ (i j:Nat) (l l' : Loc),live H i→live H j→β[i]? = some l→β[j]? = some l' → l.block=l'.block→i=j
structure Step (E:Nat→Nat→Prop) (H:List O) (β:List Loc) (w:World) (H' : List O) (β' : List Loc) (w' : World):Prop where
 rel:Rel w' (Xs E H' β') H' β'
 os:w'.os=w.os
 tape:w'.tape=w.tape
 output:w'.output=w.output
 size:w.heap.size≤w'.heap.size
 pres:∀ (b:Nat),b<w.heap.size→w'.heap[b]? = w.heap[b]? ∨ ((∃ o,Own H β b o) ∧ ∃ (c c' : Array Value) (e:TypeId),w.heap[b]? = some (.cells c e (0,0)) ∧
  w'.heap[b]? = some (.cells c' e (0,0))∧c'.size=c.size ∧ ∀ (o:Nat),¬ Own H β b o→c'[o]? = c[o]?) ∨
  ((∃ o,Own H β b o) ∧ ∃ (x y:Obj),w.heap[b]? = some x∧w'.heap[b]? = some y∧special x=true∧special y=true)
 own:∀ b o,Own H' β' b o→Own H β b o∨w.heap.size≤b
 locs:LocLe β β'
theorem cell_lt {w:World} {b o:Nat} {v:Value} (h:w.cell? ⟨b,o,none⟩=some v):b<w.heap.size:=block_lt_of_cell h
theorem cell_special {w:World} {b o:Nat} {x:Obj} (h:w.heap[b]? = some x) (hs:special x=true):w.cell? ⟨b,o,none⟩=none:=by
 unfold World.cell?
 rw [h]
 cases x <;> simp_all [special]
theorem Step.stab {E H β w H' β' w'} (s:Step E H β w H' β' w'):Stab w (Xs E H β) w' (Xs E H' β'):=by
 constructor
 ·intro b o v hx hv
  have hlt:=cell_lt hv
  have hE:¬ E b o:=fun h=>hx (.inl h)
  have hO:¬ Own H β b o:=fun h=>hx (.inr h)
  refine ⟨fun h=>?_,?_⟩
  ·rcases h with h | h
   ·exact hE h
   ·rcases s.own b o h with h | h
    ·exact hO h
    ·omega
  ·rcases s.pres b hlt with h | ⟨_,c,c',e,h1,h2,_,h4⟩ | ⟨_,x,y,h1,h2,h3,h4⟩
   ·unfold World.cell? at hv ⊢; rw [h]; exact hv
   ·rw [cell_of_row w b o c e (0,0) h1] at hv
    rw [cell_of_row w' b o c' e (0,0) h2,h4 o hO,hv]
   ·rw [cell_special h1 h3] at hv; cases hv
 ·intro b cs e h
  have hlt:b<w.heap.size:=by
   rcases Nat.lt_or_ge b w.heap.size with h' | h'
   ·exact h'
   ·simp [Array.getElem?_eq_none h'] at h
  rcases s.pres b hlt with h' | ⟨_,c,c',e',h1,h2,_⟩ | ⟨_,x,y,h1,h2,h3,h4⟩
  ·exact ⟨cs,e,by rw [h',h]⟩
  ·exact ⟨c',e',h2⟩
  ·rw [h] at h1; cases h1; cases h3
theorem Step.keepR {E H β w H' β' w' v x} (s:Step E H β w H' β' w') (h:R w (Xs E H β) β v x):R w' (Xs E H' β') β' v x:=h.stab s.stab β' s.locs
theorem Step.refl {E H β w} (h:Rel w (Xs E H β) H β):Step E H β w H β w:=
 ⟨h,rfl,rfl,rfl,Nat.le_refl _,fun _ _=>.inl rfl,fun _ _ h=>.inl h,.refl _⟩
theorem Step.trans {E H β w H' β' w' H'' β'' w''} (s:Step E H β w H' β' w') (t:Step E H' β' w' H'' β'' w''):Step E H β w H'' β'' w'' := by
 refine ⟨t.rel,t.os.trans s.os,t.tape.trans s.tape,t.output.trans s.output,Nat.le_trans s.size t.size,fun b hb=>?_,fun b o h=>?_,s.locs.trans t.locs⟩
 ·have hown:∀ o,Own H' β' b o→Own H β b o:=fun o h=>by
   rcases s.own b o h with h | h
   ·exact h
   ·omega
  rcases t.pres b (Nat.lt_of_lt_of_le hb s.size) with h | ⟨⟨o,ho⟩,c,c',e,h1,h2,h3,h4⟩ | ⟨⟨o,ho⟩,x,y,h1,h2,h3,h4⟩
  ·rcases s.pres b hb with g | ⟨g0,c,c',e,g1,g2,g3,g4⟩ | ⟨g0,x,y,g1,g2,g3,g4⟩
   ·exact .inl (h.trans g)
   ·exact .inr (.inl ⟨g0,c,c',e,g1,h.trans g2,g3,g4⟩)
   ·exact .inr (.inr ⟨g0,x,y,g1,h.trans g2,g3,g4⟩)
  ·rcases s.pres b hb with g | ⟨_,d,d',e',g1,g2,g3,g4⟩ | ⟨_,x,y,g1,g2,g3,g4⟩
   ·exact .inr (.inl ⟨⟨o,hown o ho⟩,c,c',e,g ▸ h1,h2,h3,fun o ho=>h4 o (fun h=>ho (hown o h))⟩)
   ·refine .inr (.inl ⟨⟨o,hown o ho⟩,?_⟩)
    rw [g2] at h1
    simp only [Option.some.injEq,Obj.cells.injEq,and_true] at h1
    obtain ⟨rfl,rfl⟩:=h1
    exact ⟨d,c',e',g1,h2,h3.trans g3,fun o ho=>(h4 o (fun h=>ho (hown o h))).trans (g4 o ho)⟩
   ·rw [g2] at h1; cases h1; cases g4
  ·rcases s.pres b hb with g | ⟨_,d,d',e',g1,g2,g3,g4⟩ | ⟨_,x',y',g1,g2,g3,g4⟩
   ·exact .inr (.inr ⟨⟨o,hown o ho⟩,x,y,g ▸ h1,h2,h3,h4⟩)
   ·rw [g2] at h1; cases h1; cases h3
   ·exact .inr (.inr ⟨⟨o,hown o ho⟩,x',y,g1,h2,g3,h4⟩)
 ·rcases t.own b o h with h | h
  ·rcases s.own b o h with h | h
   ·exact .inl h
   ·exact .inr h
  ·exact .inr (Nat.le_trans s.size h)
structure FR (w:World) (X:Nat→Nat→Prop) (β:List Loc) (n:Nat) (t:T) (a:Act):Prop where
 size:a.tmps.size=n
 slot:∀ d,R w X β (get d t) (a.tmps.getD d undef)
theorem FR.step {E H β w H' β' w' n t a} (s:Step E H β w H' β' w') (h:FR w (Xs E H β) β n t a):FR w' (Xs E H' β') β' n t a:=
 ⟨h.size,fun d=>s.keepR (h.slot d)⟩
theorem nbeq_ne {d e:Nat} (h:¬ d=e):Nat.beq d e=false:=by
 cases hh:Nat.beq d e
 ·rfl
 ·exact absurd (Nat.eq_of_beq_eq_true hh) h
theorem get_put (d e:Nat) (v:V) (t:T):get d (put e v t)=if d=e then v else get d t:=by
 induction t with
 | nil =>
  simp only [put,get]
  by_cases h:d=e
  ·simp [h]
  ·simp [h,nbeq_ne h]
 | cons p r ih =>
  obtain ⟨f,u⟩:=p
  unfold put
  cases hb:Nat.blt e f
  ·cases hq:Nat.beq e f
   ·simp only [cond_false,get,ih]
    by_cases h:d=e
    ·subst h
     simp [hq]
    ·simp [h]
   ·have:e=f:=Nat.eq_of_beq_eq_true hq
    subst this
    simp only [cond_true,cond_false,get]
    by_cases h:d=e
    ·simp [h]
    ·have:Nat.beq d e=false:=by cases hh:Nat.beq d e; rfl; exact absurd (Nat.eq_of_beq_eq_true hh) h
     simp [h,this]
  ·simp only [cond_true,get]
   by_cases h:d=e
   ·simp [h]
   ·have:Nat.beq d e=false:=by cases hh:Nat.beq d e; rfl; exact absurd (Nat.eq_of_beq_eq_true hh) h
    simp [h,this]
theorem get_keep (l:List Nat) (d:Nat) (t:T):get d (keep l t)=get d t∨get d (keep l t) = .any:=by
 induction t with
 | nil=>exact .inl rfl
 | cons p r ih =>
  obtain ⟨e,u⟩:=p
  unfold keep
  cases h:hasN e l
  ·simp only [cond_false,get]
   cases hq:Nat.beq d e
   ·simpa using ih
   ·right
    have:d=e:=Nat.eq_of_beq_eq_true hq
    subst this
    clear ih hq u
    induction r with
    | nil=>rfl
    | cons q r ih =>
     obtain ⟨f,u⟩:=q
     unfold keep
     cases h' : hasN f l
     ·simpa using ih
     ·simp only [cond_true,get]
      cases hq:Nat.beq d f
      ·simpa using ih
      ·have:d=f:=Nat.eq_of_beq_eq_true hq
       subst this
       rw [h] at h'; cases h'
  ·simp only [cond_true,get]
   cases hq:Nat.beq d e
   ·simpa using ih
   ·simp
theorem FR.keep {w X β n t a} (l:List Nat) (h:FR w X β n t a):FR w X β n (keep l t) a:=
 ⟨h.size,fun d=>by rcases get_keep l d t with e | e <;> rw [e]; exact h.slot d; exact .any _ _⟩
theorem FR.put {w X β n t a d v x} (h:FR w X β n t a) (hd:d<n) (hv:R w X β v x):FR w X β n (put d v t) { a with tmps:=a.tmps.setIfInBounds d x }:=by
 refine ⟨by simp [h.size],fun e=>?_⟩
 rw [get_put]
 by_cases he:e=d
 ·subst he
  have:e<a.tmps.size:=by rw [h.size]; exact hd
  simp [Array.getD_eq_getD_getElem?,this,hv]
 ·have hs:=h.slot e
  simp only [he,if_false]
  simpa [Array.getD_eq_getD_getElem?,Array.getElem?_setIfInBounds,Ne.symm he] using hs
end Go.Ab

namespace Go.Ab
theorem Stab.refl (w:World) (X:Nat→Nat→Prop):Stab w X w X:=⟨fun _ _ _ h1 h2=>⟨h1,h2⟩,fun _ cs e h=>⟨cs,e,h⟩⟩
theorem R.up {w X v x} (β:List Loc) (h:R w X [] v x):R w X β v x:=h.stab (Stab.refl w X) β (.nil β)
theorem ofVal1_R (w X β) (x:Value):R w X β (ofVal1 x) x:=by
 cases x with
 | int k n=>exact .int _ _ _
 | bool b=>exact .bool _ _
 | string s=>obtain ⟨⟨l⟩⟩:=s; exact .str β l
 | _=>exact .val _ _
theorem ofVal_R (w X β) (x:Value):R w X β (ofVal x) x:=by
 cases x with
 | agg cs =>
  obtain ⟨l⟩:=cs
  refine .agg β _ l (by simp) ?_
  intro k v x h1 h2
  simp only [List.getElem?_map,h2,Option.map_some,Option.some.injEq] at h1
  subst h1
  exact ofVal1_R _ _ _ _
 | _=>simp only [ofVal]; exact ofVal1_R _ _ _ _
section
variable {w:World} {X:Nat→Nat→Prop} {β:List Loc} {n:Nat} {t:T} {a:Act}
theorem rd_R (h:FR w X β n t a) (x:Operand):R w X β (rd t x) (a.eval x):=by
 cases x with
 | tmp i=>exact h.slot i
 | const v=>exact ofVal_R _ _ _ _
 | global g=>exact .val _ _
 | func f=>exact .val _ _
theorem globAt_mem {g:Nat} {cs:List V}:∀ {l:List (Nat × List V)},globAt g l=some cs→(g,cs) ∈ l
 | [],h=>by cases h
 | (e,ds) :: r,h=>by
  unfold globAt at h
  cases hb:Nat.beq g e
  ·rw [hb] at h
   exact List.mem_cons_of_mem _ (globAt_mem h)
  ·rw [hb] at h
   have:=Nat.eq_of_beq_eq_true hb
   subst this
   cases h
   exact List.mem_cons_self
theorem rdG_R {P:Program} {G:List (Nat × List V)} (hG:Gs P w X) (hg:∀ p ∈ G,p ∈ globsOf P) (h:FR w X β n t a) (x:Operand):R w X β (rdG G t x) (a.eval x):=by
 cases x with
 | tmp i=>exact rd_R h (.tmp i)
 | const v=>exact rd_R h (.const v)
 | func f=>exact rd_R h (.func f)
 | global g =>
  show R w X β (match globAt g G with | some cs=>.pin cs | none=>rd t (.global g)) (a.eval (.global g))
  cases he:globAt g G with
  | none=>exact rd_R h (.global g)
  | some cs=>exact (hG _ (hg _ (globAt_mem he))).up β
structure TIs (P:Program) (t:TypeId) (i:TI):Prop where
 info:∃ (j:TypeInfo) (d:TypeDesc),P.info? t=some j∧P.underlying t=some d∧j.size=i.size∧j.bytes=i.bytes ∧
  (∃ z,j.zero=some z∧i.zero=z.cells.toList.map ofVal1) ∧
  i.k=(match d with
   | .slice e=>.slice e
   | .struct fs=>.st (fs.toList.map fun f=>(f.offset,P.cellsOf f.type,isAggB P f.type))
   | .array n e=>.arr n e
   | _=>.scal)∧knownFields P d=true
theorem ti_spec {P:Program} {t:TypeId} {i:TI} (h:ti P t=some i):TIs P t i:=by
 unfold ti at h
 split at h
 ·rename_i j d h1 h2
  dsimp only at h
  split at h
  ·rename_i z hz
   cases hk:knownFields P d
   ·simp [hk] at h
   ·simp only [hk,cond_true,Option.some.injEq] at h
    subst h
    exact ⟨j,d,h1,h2,rfl,rfl,⟨z,hz,rfl⟩,rfl,hk⟩
  ·cases h
 ·cases h
theorem run_typeInfo' {P:Program} {t:TypeId} {j:TypeInfo} (w:World) (h:P.info? t=some j):(typeInfo t).run P w = .ok j w:=by
 simp [typeInfo,h]
theorem run_sizeOf' {P:Program} {t:TypeId} {j:TypeInfo} (w:World) (h:P.info? t=some j):(sizeOf t).run P w = .ok j.size w:=by
 simp [sizeOf,typeInfo,h]
theorem run_und {P:Program} {t:TypeId} {d:TypeDesc} (w:World) (h:P.underlying t=some d):(underlying t).run P w = .ok d w:=by
 simp [underlying,h]
theorem ti_size {P:Program} {t:TypeId} {i:TI} (w:World) (h:ti P t=some i):(sizeOf t).run P w = .ok i.size w:=by
 obtain ⟨j,d,h1,_,h3,_⟩:=(ti_spec h).info
 rw [run_sizeOf' w h1,h3]
theorem ti_isAgg {P:Program} {t:TypeId} {i:TI} (w:World) (h:ti P t=some i):(isAgg t).run P w = .ok (aggTK i.k) w:=by
 obtain ⟨j,d,h1,h2,_,_,_,h6,_⟩:=(ti_spec h).info
 rw [h6]
 cases d <;> simp [isAgg,run_und w h2,aggTK]
theorem cell_ptr {H:List O} {x:V} {y:Value} {cells:List V} (hR:Rel w X H β) (hx:R w X β x y) (h:cellsAt H x=some cells) :
  ∃ b o,y = .pointer (some ⟨b,o,none⟩) ∧ ∀ (k:Nat) v,cells[k]? = some v → ∃ z,w.cell? ⟨b,o+k,none⟩=some z∧R w X β v z:=by
 cases hx with
 | pin _ cs b o f hc hr =>
  simp only [cellsAt,Option.some.injEq] at h
  subst h
  refine ⟨b,o,rfl,fun k v hv=>⟨f k,(hc k ?_).2,(hr k v hv).up β⟩⟩
  exact (List.getElem?_eq_some_iff.1 hv).1
 | ptr _ id off loc hid hk =>
  simp only [cellsAt] at h
  split at h
  ·rename_i cs e hH
   simp only [Option.some.injEq] at h
   subst h
   obtain ⟨_,c,e',h1,h2,h3,h4⟩:=hR.cells id cs e loc hH hid
   refine ⟨loc.block,loc.base+off,rfl,fun k v hv=>?_⟩
   rw [List.getElem?_drop] at hv
   obtain ⟨z,hz,hz'⟩:=h4 (off+k) v hv
   refine ⟨z,?_,hz'⟩
   rw [cell_of_row w _ _ c e' (0,0) h1,← hz,Nat.add_assoc]
  ·rename_i n' k' l' hd hH
   simp only [Option.some.injEq] at h
   subst h
   obtain ⟨_,hb0,ob,xs,h1,⟨hn,e',rfl⟩,h4⟩:=hR.objs id _ _ loc hH hid
   refine ⟨loc.block,loc.base+off,rfl,fun k v hv=>?_⟩
   rw [List.getElem?_drop] at hv
   obtain ⟨z,hz,hz'⟩:=h4 (off+k) v hv
   refine ⟨z,?_,hz'⟩
   rw [cell_of_row w _ _ _ e' (0,0) h1,hb0,Nat.zero_add,List.getElem?_toArray,List.getElem?_append_left (List.getElem?_eq_some_iff.1 hz).1,hz]
  ·cases h
 | _=>cases h
theorem addr_add (b o k:Nat):(⟨b,o,none⟩:Addr).add k=⟨b,o+k,none⟩:=by
 unfold Addr.add; split <;> simp_all
theorem R_cells_agg {l:List V} (f:Nat→Value) (h:∀ k v,l[k]? = some v→R w X β v (f k)) :
  R w X β (.agg l) (.agg ((List.range l.length).map f).toArray):=by
 refine .agg β l _ (by simp) ?_
 intro k v x h1 h2
 have hk:=(List.getElem?_eq_some_iff.1 h1).1
 simp only [List.getElem?_map,List.getElem?_range hk,Option.map_some,Option.some.injEq] at h2
 subst h2
 exact h k v h1
theorem sound_loadVar {P:Program} {H:List O} {ty:TypeId} {x v:V} {y:Value} (hR:Rel w X H β) (hx:R w X β x y) (h:oLoad P H ty x=some v) :
  ∃ b o z,y = .pointer (some ⟨b,o,none⟩)∧(loadVar ty ⟨b,o,none⟩).run P w = .ok z w∧R w X β v z:=by
 unfold oLoad at h
 split at h
 ·rename_i i cells h1 h2
  obtain ⟨b,o,rfl,hc⟩:=cell_ptr hR hx h2
  refine ⟨b,o,?_⟩
  unfold ofCells at h
  cases hk:aggTK i.k
  ·simp only [hk,cond_false] at h
   cases cells with
   | nil=>cases h
   | cons u r =>
    simp only [Option.some.injEq] at h
    subst h
    obtain ⟨z,hz,hz'⟩:=hc 0 u rfl
    refine ⟨z,rfl,?_,hz'⟩
    simp only [Nat.add_zero] at hz
    simp [loadVar,ti_isAgg w h1,hk,hz]
  ·simp only [hk,cond_true] at h
   cases hb:Nat.ble i.size cells.length
   ·simp [hb] at h
   ·simp only [hb,cond_true,Option.some.injEq] at h
    subst h
    have hle:i.size≤cells.length:=Nat.le_of_ble_eq_true hb
    let f:Nat→Value:=fun k=>(w.cell? ⟨b,o+k,none⟩).getD undef
    have hf:∀ k,k<i.size→w.cell? ((⟨b,o,none⟩:Addr).add k)=some (f k):=by
     intro k hk
     obtain ⟨z,hz,_⟩:=hc k cells[k] (by simp [List.getElem?_eq_getElem (Nat.lt_of_lt_of_le hk hle)])
     rw [addr_add,hz]; simp [f,hz]
    have hl:(cells.take i.size).length=i.size:=by simp [hle]
    refine ⟨.agg ((List.range i.size).map f).toArray,rfl,?_,?_⟩
    ·simp [loadVar,ti_isAgg w h1,hk,ti_size w h1,run_loadCells (P:=P) w ⟨b,o,none⟩ i.size f hf]
    ·have:=R_cells_agg (w:=w) (X:=X) (β:=β) (l:=cells.take i.size) f ?_
     ·rwa [hl] at this
     ·intro k v hv
      rw [List.getElem?_take] at hv
      split at hv
      ·obtain ⟨z,hz,hz'⟩:=hc k v hv
       simpa [f,hz] using hz'
      ·cases hv
 ·cases h
theorem sound_load {P:Program} {H:List O} {ty:TypeId} {x v:V} {y:Value} (hR:Rel w X H β) (hx:R w X β x y) (h:oLoad P H ty x=some v) :
  ∃ z,(Instr.loadAt ty y).run P w = .ok z w∧R w X β v z:=by
 obtain ⟨b,o,z,rfl,h1,h2⟩:=sound_loadVar hR hx h
 exact ⟨z,by simp [Instr.loadAt,Instr.sureAddr,h1],h2⟩
theorem req_runZ {β:Type} {c:Bool} {x:Tree β} {b:β} (h:(Tree.req c x).run=some b):c=true∧x.run=some b:=by
 cases c
 ·simp [Tree.req,Tree.run] at h
 ·exact ⟨rfl,h⟩
theorem intOf_spec {P:Program} {ty:TypeId} {k:IntKind} (h:intOf P ty=some k):∃ i,ti P ty=some i∧aggTK i.k=false∧i.size=1:=by
 unfold intOf at h
 split at h
 ·rename_i i k' h1 h2
  cases hc:(!aggTK i.k && Nat.beq i.size 1)
  ·rw [hc] at h; cases h
  ·obtain ⟨g1,g2⟩:=Bool.and_eq_true_iff.1 hc
   exact ⟨i,h1,by simpa using g1,Nat.eq_of_beq_eq_true g2⟩
 ·cases h
theorem isIntAt_spec {k:IntKind} {cs:List V} {o:Nat} (h:isIntAt k cs o=true):∃ n,cs[o]? = some (.int k n):=by
 unfold isIntAt at h
 split at h
 ·rename_i l n hn
  have:=of_decide_eq_true h
  subst this
  exact ⟨n,hn⟩
 ·cases h
theorem intAt_get {k:IntKind} {n:Int}:∀ {cs:List V} {o:Nat},cs[o]? = some (.int k n)→intAt cs o=n
 | [],o,h=>by simp at h
 | v :: r,0,h=>by
  simp only [List.getElem?_cons_zero,Option.some.injEq] at h
  subst h
  rfl
 | v :: r,o+1,h=>by
  simp only [List.getElem?_cons_succ] at h
  exact intAt_get (cs:=r) (o:=o) h
theorem setC_ne {k:IntKind} {x:Int} {o j:Nat} (h:j ≠ o) (v:V):setC k o x j v=v:=by
 have hb:Nat.beq j o=false:=by
  cases hb:Nat.beq j o
  ·rfl
  ·exact absurd (Nat.eq_of_beq_eq_true hb) h
 unfold setC
 split
 ·rename_i l n
  rw [hb]
  cases hd:decide (l=k)
  ·rfl
  ·have:=of_decide_eq_true hd
   subst this
   rfl
 ·rfl
theorem setI_past {k:IntKind} {x:Int} {o:Nat}:∀ (l:List V) (i:Nat),o<i→setI k o x i l=l
 | [],_,_=>rfl
 | v :: l,i,h=>by
  unfold setI
  rw [setI_past l (i+1) (by omega),setC_ne (by omega)]
theorem setI_eq {k:IntKind} {x n:Int}:∀ {cs:List V} {o j m:Nat},o=j+m→cs[m]? = some (.int k n)→setI k o x j cs=splice cs m [.int k x]
 | [],o,j,m,_,h=>by simp at h
 | v :: r,o,j,0,ho,h=>by
  simp only [List.getElem?_cons_zero,Option.some.injEq] at h
  subst h
  have:o=j:=by omega
  subst this
  unfold setI
  rw [setI_past r _ (Nat.lt_succ_self o)]
  have e:setC k o x o (.int k n) = .int k x:=by
   show cond (decide (k=k)) (V.int k (cond (Nat.beq o o) x n)) (.int k n)=_
   rw [decide_eq_true rfl,cond_true,Nat.beq_refl]
   rfl
  rw [e]
  simp [splice]
 | v :: r,o,j,m+1,ho,h=>by
  simp only [List.getElem?_cons_succ] at h
  unfold setI
  rw [setI_eq (o:=o) (j:=j+1) (m:=m) (by omega) h,setC_ne (by omega)]
  simp [splice]
theorem sound_loadZ {P:Program} {H:List O} {ty:TypeId} {x v:V} {y:Value} (hR:Rel w X H β) (hx:R w X β x y) (h:(oLoadZ P H ty x).run=some v) :
  ∃ z,(Instr.loadAt ty y).run P w = .ok z w∧R w X β v z:=by
 unfold oLoadZ at h
 split at h
 rotate_left
 ·cases h
 rename_i k id off hk
 obtain ⟨i,hi,g1,g2⟩:=intOf_spec hk
 split at h
 ·rename_i cs e hH
  obtain ⟨h1,h2⟩:=req_runZ h
  obtain ⟨n,hn⟩:=isIntAt_spec h1
  cases h2
  refine sound_load (ty:=ty) hR hx ?_
  unfold oLoad
  simp only [hi,cellsAt,hH]
  unfold ofCells
  rw [g1,cond_false,intAt_get hn]
  have hd:cs.drop off = .int k n :: cs.drop (off+1):=by
   obtain ⟨hlt,he⟩:=List.getElem?_eq_some_iff.1 hn
   rw [List.drop_eq_getElem_cons hlt,he]
  rw [hd]
 ·rename_i n l xs hd hH
  cases hl:decide (l=k)
  ·rw [hl] at h; cases h
  rw [hl,cond_true] at h
  have:=of_decide_eq_true hl
  subst this
  obtain ⟨h1,h2⟩:=req_runZ h
  cases h2
  obtain ⟨h1,h3⟩:=Bool.and_eq_true_iff.1 h1
  have h1:=Nat.le_of_ble_eq_true h1
  rw [Nat.blt_eq] at h3
  cases hx with
  | ptr _ _ _ loc hid hkd =>
  obtain ⟨_,hb0,ob,ys,a1,⟨hn,e',rfl⟩,_⟩:=hR.objs id _ _ loc hH hid
  refine ⟨.int l (xs.getD (off - n) 0),?_,.int _ _ _⟩
  have hc:w.cell? ⟨loc.block,loc.base+off,none⟩=some (.int l (xs.getD (off - n) 0)):=by
   rw [cell_of_row w _ _ _ e' (0,0) a1,hb0,Nat.zero_add,List.getElem?_toArray,List.getElem?_append_right (by omega),hn,List.getElem?_map,List.getElem?_eq_getElem h3]
   rw [List.getD_eq_getElem?_getD,List.getElem?_eq_getElem h3]
   rfl
  simp [Instr.loadAt,Instr.sureAddr,loadVar,ti_isAgg w hi,g1,hc]
 ·cases h
theorem oStoreZ_spec {P:Program} {H H' : List O} {ty:TypeId} {a v:V} (h:(oStoreZ P H ty a v).run=some H') :
  oStore P H ty a v=some H' ∨ ∃ id off n k xs hd x i,a = .ptr id off∧v = .int k x∧H[id]? = some (.obj (.page n k xs) hd)∧n≤off∧off - n<xs.length∧H' = H.set id (.obj (.page n k (xs.set (off - n) x)) hd)∧ti P ty=some i∧i.size=1:=by
 unfold oStoreZ at h
 split at h
 rotate_left
 ·cases h
 rename_i k id off l x hk
 obtain ⟨i,hi,g1,g2⟩:=intOf_spec hk
 split at h
 ·rename_i cs e hH
  left
  cases hl:decide (l=k)
  ·rw [hl] at h; cases h
  rw [hl,cond_true] at h
  have:=of_decide_eq_true hl
  subst this
  obtain ⟨h1,h2⟩:=req_runZ h
  obtain ⟨n,hn⟩:=isIntAt_spec h1
  cases h2
  have hlt:=(List.getElem?_eq_some_iff.1 hn).1
  unfold oStore
  simp only [hi,V.cells?,hH,g2]
  have:(Nat.beq [V.int l x].length 1 && Nat.ble (off+[V.int l x].length) cs.length)=true:=by
   simp only [List.length_cons,List.length_nil]
   rw [Bool.and_eq_true_iff]
   exact ⟨rfl,Nat.ble_eq_true_of_le (by omega)⟩
  rw [this,cond_true,setI_eq (j:=0) (m:=off) (by omega) hn]
 ·rename_i n k' xs hd hH
  right
  cases hl:(decide (l=k) && decide (k' = k))
  ·rw [hl] at h; cases h
  rw [hl,cond_true] at h
  obtain ⟨e1,e2⟩:=Bool.and_eq_true_iff.1 hl
  have e1:=of_decide_eq_true e1
  have e2:=of_decide_eq_true e2
  subst e1
  subst e2
  obtain ⟨h1,h2⟩:=req_runZ h
  cases h2
  obtain ⟨h1,h3⟩:=Bool.and_eq_true_iff.1 h1
  have h1:=Nat.le_of_ble_eq_true h1
  rw [Nat.blt_eq] at h3
  exact ⟨id,off,n,k',xs,hd,x,i,rfl,rfl,hH,h1,h3,rfl,hi,g2⟩
 ·cases h
end
end Go.Ab
