/-
  The engine, part J: append is sound. Conditions: none.
-/
import Derived.Test.YtbefgnmdliefjaaGreatDoorPk03
open Bool renaming and_eq_true_iff→ZA0,and_eq_true→ZA2
open List renaming getElem?_append_left→ZB0,getElem?_append_right→ZB1,getElem?_eq_some_iff→ZB2,getElem?_eq_getElem→ZB3,getElem?_map→ZC0,getElem?_take→ZC2,length_append→ZE0,length_nil→ZE2,length_map→ZF0
open Nat renaming eq_of_beq_eq_true→ZG1,le_of_ble_eq_true→ZG2
open Option renaming map_eq_some_iff→ZH0,map_some→ZH2
open Option.some renaming injEq→ZH3
set_option linter.unusedVariables false
set_option linter.unusedSimpArgs false
namespace Go.Ab
section
variable {P:Program} {E:Nat->Nat->Prop} {H:List O} {β:List Loc} {w:World} {X:Nat->Nat->Prop}
theorem Step.drew (a:Rel w (Xs E H β) H β):Step E H β w H β w.drew:=Step.heap_same a rfl rfl rfl rfl
theorem F7 {c:EC} {n i k:Nat} {x:c.ty} {v:V} (hi:i<n) (a:(enc c x)[k]? = some v):i*c.size+k<n*c.size:=by
 have b:k<c.size:=by have:=(ZB2.1 a).1; rwa [enc_size] at this
 have:(i+1)*c.size<=n*c.size:=Nat.mul_le_mul_right _ hi;rw [Nat.add_mul] at this;omega
theorem aDJ {c:EC} {l xs:List c.ty} {olds news:List Value} (d:olds.length=l.length*c.size)
  (f:∀ (i:Nat) x (k:Nat) v,l[i]? = some x->(enc c x)[k]? = some v -> ∃ z,olds[i*c.size+k]? = some z/\R w X [] v z)
  (g:∀ (i:Nat) x (k:Nat) v,xs[i]? = some x->(enc c x)[k]? = some v -> ∃ z,news[i*c.size+k]? = some z/\R w X [] v z) :
  ∀ (i:Nat) x (k:Nat) v,(l++xs)[i]? = some x->(enc c x)[k]? = some v -> ∃ z,(olds++news)[i*c.size+k]? = some z/\R w X [] v z:=by
 intro i x k v a b;by_cases hi:i<l.length
 ·rw [ZB0 hi] at a
  rw [ZB0 (by rw [d]; exact F7 hi b)];exact f i x k v a b
 ·rw [ZB1 (by omega)] at a
  have hle:l.length*c.size<=i*c.size:=Nat.mul_le_mul_right _ (by omega);rw [ZB1 (by omega),d]
  have e:i*c.size+k - l.length*c.size=(i - l.length)*c.size+k:=by
   rw [Nat.sub_mul]; omega
  rw [e];exact g _ x k v a b
theorem aJ2 {c:EC} {ll:List c.ty} {row rest:List Value} {e:TypeId} {cap:Nat} (C:∀ b o,E b o->b<w.heap.size/\¬ Own H β b o) (m:Rel w (Xs E H β) H β)
  (s:row.length=ll.length*c.size) (r:ll.length<=cap) (p:rest.length=(cap - ll.length)*c.size)
  (h:∀ (i:Nat) x (k:Nat) v,ll[i]? = some x->(enc c x)[k]? = some v -> ∃ z,row[i*c.size+k]? = some z/\R w (Xs E H β) [] v z) :
  ∃ q,Step E H β w (H++[.tok ll.length c.size]) q (w.drew.alloc (.cells (row++rest).toArray e)) /\
   R (w.drew.alloc (.cells (row++rest).toArray e)) (Xs E (H++[.tok ll.length c.size]) q) q (.gro H.length c ll) (.slice (some ⟨w.heap.size,0,none⟩) ll.length cap):=by
 have u:=Step.drew m
 have F:=Step.push u.rel (row++rest).toArray e (.tok ll.length c.size) { kind:=true,block:=w.heap.size,base:=0,n:=ll.length,size:=row.length+rest.length } rfl (by simp)
  (fun cs e h=>by cases h) (fun n B h=>by cases h; exact ⟨rfl,rfl⟩)
 have st:=u.trans F;refine ⟨_,st,L0 (loc:={ kind:=true,block:=w.heap.size,base:=0,n:=ll.length,size:=row.length+rest.length }) rfl (by rw [m.len]; simp) rfl (Nat.le_refl _) ?_ r ?_⟩
 ·intro _
  refine ⟨rfl,rfl,?_⟩;simp only [s,p,<- Nat.add_mul];rw [show ll.length+(cap - ll.length)=cap from by omega]; omega
 ·intro i x k v A y
  have hi:i<ll.length:=(ZB2.1 A).1;have D:=F7 hi y;obtain ⟨z,hz,hr⟩:=h i x k v A y;refine ⟨?_,z,?_,hr.stab st.stab _ (.nil _)⟩
  ·rintro (g | ⟨id,l,j,g2,a⟩)
   ·exact absurd (C _ _ g).1 (Nat.lt_irrefl _)
   ·rw [sZ] at j
    by_cases hid:id<β.length
    ·simp only [hid,if_true] at j
     have d : id<H.length:=by rw [m.len]; exact hid
     rcases a with ⟨cs,e,a⟩ | ⟨n,B,a,g4⟩ | ⟨sh,vs,a⟩
     ·rw [ZB0 d] at a
      have:=oC m (kV a) j;omega
     ·rw [ZB0 d] at a
      have:=oC m (kX a) j;omega
     ·rw [ZB0 d] at a
      have:=oC m (mC a) j;omega
    ·simp only [hid,if_false] at j
     split at j
     ·rename_i f
      rcases a with ⟨cs,e,a⟩ | ⟨n,B,a,g4⟩ | ⟨sh,vs,a⟩
      ·rw [f,<- m.len] at a; simp at a
      ·rw [f,<- m.len] at a
       simp at a;obtain ⟨rfl,rfl⟩:=a;simp only [ZH3] at j;subst j;simp at g4;omega
      ·rw [f,<- m.len] at a; simp at a
     ·cases j
  ·have t:=World.cell?_alloc_new w.drew (row++rest).toArray e (0+i*c.size+k)
   rw [show w.drew.heap.size=w.heap.size from rfl] at t;rw [t];simp only [Nat.zero_add,List.getElem?_toArray];rw [ZB0 (by omega)];exact hz
theorem a3N {c:EC} {ll:List c.ty} {row rest:List Value} {e:TypeId} {cap id n:Nat} {loc:Loc} (G:∀ b o,E b o->b<w.heap.size/\¬ Own H β b o) (s:Rel w (Xs E H β) H β)
  (y:H[id]? = some (.tok n c.size)) (f:β[id]? = some loc) (J:n<ll.length)
  (u:row.length=ll.length*c.size) (t:ll.length<=cap) (q:rest.length=(cap - ll.length)*c.size)
  (h:∀ (i:Nat) x (k:Nat) v,ll[i]? = some x->(enc c x)[k]? = some v -> ∃ z,row[i*c.size+k]? = some z/\R w (Xs E H β) [] v z) :
  ∃ r,Step E H β w (H.set id (.tok ll.length c.size)) r (w.drew.alloc (.cells (row++rest).toArray e)) /\
   R (w.drew.alloc (.cells (row++rest).toArray e)) (Xs E (H.set id (.tok ll.length c.size)) r) r (.gro id c ll) (.slice (some ⟨w.heap.size,0,none⟩) ll.length cap):=by
 have C:=Step.drew s;have K:=Step.moveTok (e' := e) (c:=(row++rest).toArray) C.rel y f J;have st:=C.trans K;have d:id<β.length:=(ZB2.1 f).1
 have A:(row++rest).toArray.size=row.length+rest.length:=by simp
 rw [A] at st
 refine ⟨_,st,L0 (loc:={ kind:=true,block:=w.heap.size,base:=0,n:=ll.length,size:=row.length+rest.length }) rfl
  (by rw [kE]; simp [d]) rfl (Nat.le_refl _) ?_ t ?_⟩
 ·intro _
  refine ⟨rfl,rfl,?_⟩;simp only [u,q,<- Nat.add_mul];rw [show ll.length+(cap - ll.length)=cap from by omega]; omega
 ·intro i x k v F D
  have hi:i<ll.length:=(ZB2.1 F).1;have I:=F7 hi D;obtain ⟨z,hz,hr⟩:=h i x k v F D;refine ⟨?_,z,?_,hr.stab st.stab _ (.nil _)⟩
  ·rintro (g | ⟨j,l,g1,g2,a⟩)
   ·exact absurd (G _ _ g).1 (Nat.lt_irrefl _)
   ·rw [kE] at g1
    rw [kE] at a;by_cases hj:id=j
    ·subst hj
     have p : id<H.length:=by rw [s.len]; exact d
     simp only [if_true,d,p] at g1 a;simp only [ZH3] at g1;subst g1
     rcases a with ⟨cs,e,a⟩ | ⟨m,sz,a,g4⟩ | ⟨sh,vs,a⟩
     ·cases a
     ·simp only [ZH3,O.tok.injEq] at a
      obtain ⟨rfl,rfl⟩:=a;simp at g4;omega
     ·cases a
    ·simp only [hj,if_false] at g1 a
     rcases a with ⟨cs,e,a⟩ | ⟨m,sz,a,g4⟩ | ⟨sh,vs,a⟩
     ·have:=oC s (kV a) g1
      omega
     ·have:=oC s (kX a) g1
      omega
     ·have:=oC s (mC a) g1
      omega
  ·have B:=World.cell?_alloc_new w.drew (row++rest).toArray e (0+i*c.size+k)
   rw [show w.drew.heap.size=w.heap.size from rfl] at B;rw [B];simp only [Nat.zero_add,List.getElem?_toArray];rw [ZB0 (by omega)];exact hz
theorem aa0 {c:EC} {l xs:List c.ty} {news:List Value} {cap id:Nat} {K:Addr} (M:∀ b o,E b o->b<w.heap.size/\¬ Own H β b o) (A:Rel w (Xs E H β) H β)
  (Q:R w (Xs E H β) β (.gro id c l) (.slice (some K) l.length cap)) (f:H[id]? = some (.tok l.length c.size)) (C:0<xs.length) (r:l.length+xs.length<=cap)
  (hlen:news.length=xs.length*c.size) (F:∀ z ∈ news,z.oneCell' = true)
  (h:∀ (i:Nat) x (k:Nat) v,xs[i]? = some x->(enc c x)[k]? = some v -> ∃ z,news[i*c.size+k]? = some z/\R w (Xs E H β) [] v z) :
  ∃ w' y,(storeCells (K.add (l.length*c.size)) news).run P w = .ok () w' /\ Step E H β w (H.set id (.tok (l++xs).length c.size)) y w' /\
   R w' (Xs E (H.set id (.tok (l++xs).length c.size)) y) y (.gro id c (l++xs)) (.slice (some K) (l.length+xs.length) cap):=by
 obtain ⟨b,o,cap',loc,he,hloc,hk,hn,hl,hcap',hh⟩:=FV Q;simp only [Value.slice.injEq,ZH3,true_and] at he;obtain ⟨rfl,rfl⟩:=he;obtain ⟨_,hlocn,arr,e',a1,a2⟩:=A.tok id _ _ loc f hloc;obtain ⟨rfl,rfl,hfit⟩:=hl hlocn;have D:(l.length+xs.length)*c.size<=cap*c.size:=Nat.mul_le_mul_right _ r;rw [Nat.add_mul] at D
 have q:loc.base+l.length*c.size+news.length<=arr.size:=by omega
 have s:=run_storeCells_at P loc.block (loc.base+l.length*c.size) e' news 0 arr w a1 (by simpa using q) F;simp only [Nat.add_zero] at s
 have d:∀ j,(arr.toList.take (loc.base+l.length*c.size)++news++arr.toList.drop (loc.base+l.length*c.size+news.length))[j]? =
   if loc.base+l.length*c.size<=j/\j<loc.base+l.length*c.size+news.length then news[j - (loc.base+l.length*c.size)]? else arr.toList[j]? := I9 _ _ _ (by simpa using q)
 have st:=Step.setTok (n' := (l++xs).length) (c' := (arr.toList.take (loc.base+l.length*c.size)++news++arr.toList.drop (loc.base+l.length*c.size+news.length)).toArray) A f hloc a1
  (by simp; omega) (by simp; omega) (by
   intro j B;rw [List.getElem?_toArray,d,if_neg (by omega)]
   simp)
 have p:id<β.length:=(ZB2.1 hloc).1
 have u : id<H.length:=by rw [A.len]; exact p
 refine ⟨_,_,by rw [n8]; exact s,st,L0 (loc:={ loc with n:=(l++xs).length }) (by simp) (by rw [kE]; simp [p]) hk (Nat.le_refl _) (fun _=>⟨rfl,rfl,hfit⟩) (by simpa using r) ?_⟩;intro i x k v C I;have hi:i<(l++xs).length:=(ZB2.1 C).1;have N:=F7 hi I;have t:=setRow_heap w loc.block arr ((arr.toList.take (loc.base+l.length*c.size)++news++arr.toList.drop (loc.base+l.length*c.size+news.length)).toArray) e' (0,0) a1
 have G:(l++xs).length*c.size=l.length*c.size+xs.length*c.size:=by simp [Nat.add_mul]
 by_cases hil:i<l.length
 ·rw [ZB0 hil] at C
  obtain ⟨J,z,hz,hr⟩:=hh i x k v C I;obtain ⟨S,s2⟩:=st.stab.cell _ _ _ J hz;exact ⟨S,z,s2,hr.stab st.stab _ (.nil _)⟩
 ·rw [ZB1 (by omega)] at C
  obtain ⟨z,hz,hr⟩:=h (i - l.length) x k v C I;have hle:l.length*c.size<=i*c.size:=Nat.mul_le_mul_right _ (by omega)
  have L:loc.base+i*c.size+k - (loc.base+l.length*c.size)=(i - l.length)*c.size+k:=by rw [Nat.sub_mul]; omega
  refine ⟨?_,z,?_,hr.stab st.stab _ (.nil _)⟩
  ·rintro (g | ⟨j,lo,g1,g2,a⟩)
   ·exact (M _ _ g).2 ⟨id,loc,hloc,rfl,.inr (.inl ⟨_,_,f,by omega⟩)⟩
   ·rw [kE] at g1
    rw [kE] at a;by_cases B:id=j
    ·subst B
     simp only [if_true,p,u] at g1 a;simp only [ZH3] at g1;subst g1
     rcases a with ⟨cs,e,a⟩ | ⟨m,sz,a,g4⟩ | ⟨sh,vs,a⟩
     ·cases a
     ·simp only [ZH3,O.tok.injEq] at a
      obtain ⟨rfl,rfl⟩:=a;simp only at g4;omega
     ·cases a
    ·simp only [B,if_false] at g1 a
     rcases a with ⟨cs,e,a⟩ | ⟨m,sz,a,g4⟩ | ⟨sh,vs,a⟩
     ·exact B (A.disj id j loc lo (kX f) (kV a) hloc g1 g2.symm)
     ·exact B (A.disj id j loc lo (kX f) (kX a) hloc g1 g2.symm)
     ·exact B (A.disj id j loc lo (kX f) (mC a) hloc g1 g2.symm)
  ·rw [cell_of_row _ _ _ _ e' (0,0) t,List.getElem?_toArray,d,if_pos (by omega),L]
   exact hz
end
end Go.Ab

namespace Go.Ab
section
variable {P:Program} {E:Nat->Nat->Prop} {H:List O} {β:List Loc} {w:World} {X:Nat->Nat->Prop}
theorem bD {β e:Type} {x:Tree β} {f:β->Tree e} {c:e} (h:(x.bind f).run=some c):∃ b,x.run=some b/\(f b).run=some c:=by
 induction x with
 | leaf b=>exact ⟨b,rfl,h⟩
 | fail=>cases h
 | br g x y a d =>
  cases g
  ·exact d h
  ·exact a h
theorem isEmpty_nil {α:Type} {l:List α} (h:l.isEmpty=true):l=[]:=by cases l <;> simp_all
theorem isEmpty_cons {α:Type} {l:List α} (h:l.isEmpty=false):0<l.length:=by cases l <;> simp_all
theorem aRV {argTypes:Array TypeId} {ty:TypeId} {s x v:V} {sy y:Value} {H' : List O} (hE:∀ b o,E b o->b<w.heap.size/\¬ Own H β b o) (hR:Rel w (Xs E H β) H β)
  (hs:R w (Xs E H β) β s sy) (hx:R w (Xs E H β) β x y) (h:(KT P H argTypes s x).run=some (v,H')) :
  ∃ z w' β',(Builtin.append_ argTypes ty #[sy,y]).run P w = .ok z w' /\ Step E H β w H' β' w' /\ R w' (Xs E H' β') β' v z:=by
 unfold KT at h;split at h;rotate_left
 ·cases h
 rename_i st h0;split at h;rotate_left
 ·cases h
 rename_i i hi;split at h;rotate_left
 ·cases h
 rename_i e hk;have hu:=yD hi hk;split at h;rotate_left
 ·cases h
 rename_i j c hj hc;cases hb:(Nat.beq c.size j.size&&(Nat.blt 0 j.bytes&&(Nat.beq j.zero.length j.size&&yB P argTypes)))
 ·simp [hb,Tree.run] at h
 simp only [hb,cond_true] at h;obtain ⟨b1,hb⟩:=ZA0.1 hb;obtain ⟨b2,hb⟩:=ZA0.1 hb;obtain ⟨b3,b4⟩:=ZA0.1 hb;have b1:=ZG1 b1
 have b2:0<j.bytes:=by simpa [Nat.blt_eq] using b2
 have b3:=ZG1 b3
 have happ:AppT P argTypes e j:=by
  refine ⟨⟨st,h0,hu⟩,hj,?_,b2,b3⟩;unfold yB at b4;split at b4
  ·rename_i t ht
   split at b4
   ·rename_i e' hd; exact ⟨t,_,ht,hd,.inl ⟨e',rfl⟩⟩
   ·rename_i hd; exact ⟨t,_,ht,hd,.inr rfl⟩
   ·cases b4
  ·cases b4
 split at h;rotate_left
 ·cases h
 rename_i xs hxs;obtain ⟨news,N⟩:=T5 (P:=P) hR hx hxs
 have hfirst:=N.first
 rw [b1] at hfirst;unfold grow at h;split at h
 ·-- nil
  cases hs;cases he:xs.isEmpty
  ·simp only [he,Tree.run,cond_false] at h
   obtain ⟨hroom,h⟩:=aM h;simp only [Tree.run,ZH3,Prod.mk.injEq] at h;obtain ⟨rfl,rfl⟩:=h;have hpos:=isEmpty_cons he;obtain ⟨rest,hrest,hrun⟩:=EM (ty:=ty) happ (olds:=[]) (base:=none) (sLen:=0) (sCap:=0) (N.lenOf w) (hfirst w.drew rfl) (by rfl) (by omega) (by rw [Nat.zero_add]; exact yC hroom);rw [Nat.zero_add] at hrest hrun;have hge:=grownCap_ge w xs.length 0 e;obtain ⟨β',st,hr⟩:=aJ2 (ll:=xs) (row:=news) (rest:=rest) (e:=e) (cap:=grownCap w xs.length 0 e) hE hR N.len hge (by rw [hrest,b1]) N.get
   exact ⟨_,_,β',by simpa using hrun,st,hr⟩
  ·simp only [he,Tree.run,cond_true,ZH3,Prod.mk.injEq] at h
   obtain ⟨rfl,rfl⟩:=h;have:=isEmpty_nil he;subst this;exact ⟨_,w,β,A1 (w' := w) happ (n:=0) (N.lenOf w) (hfirst w rfl) (by omega) (fun a h=>by cases h) (fun _=>rfl),Step.refl hR,.val _ _⟩
 ·-- a fixed one
  rename_i d l spare fl;split at h;rotate_left
  ·cases h
  rename_i l' hl';obtain ⟨e',rfl⟩:=xZ hl';subst e';simp only [C3] at h ⊢
  rcases LW hs with ⟨rfl,rfl,rfl,rfl⟩ | ⟨b,o,cap,rfl,hcap,hfull,_,hh⟩
  ·cases he:xs.isEmpty
   ·simp [he,Tree.run] at h
   ·simp only [he,Tree.run,cond_true,ZH3,Prod.mk.injEq] at h
    obtain ⟨rfl,rfl⟩:=h;have:=isEmpty_nil he;subst this;exact ⟨_,w,β,A1 (w' := w) happ (n:=0) (N.lenOf w) (hfirst w rfl) (by omega) (fun a h=>by cases h) (fun _=>rfl),Step.refl hR,.nil _ _⟩
  cases he:xs.isEmpty
  ·simp only [he,Tree.run,cond_false] at h
   split at h
   ·obtain ⟨hroom,h⟩:=aM h
    simp only [Tree.run,ZH3,Prod.mk.injEq] at h;obtain ⟨rfl,rfl⟩:=h;have hpos:=isEmpty_cons he;have hc0:=hfull rfl;simp only [ZE2,Nat.add_zero] at hc0;subst hc0
    obtain ⟨olds,o1,o2,o3,o4⟩:=A9 (P:=P) (w:=w) (X:=Xs E H β) (l:=l) (b:=b) (o:=o) (fun i x k v g1 g2=>(hh i x k v (by
     have:i<l.length:=(ZB2.1 g1).1
     rw [ZB0 this]; exact g1) g2).2)
    obtain ⟨rest,hrest,hrun⟩:=EM (ty:=ty) happ (olds:=olds) (base:=some ⟨b,o,none⟩) (sLen:=l.length) (sCap:=l.length) (N.lenOf w) (hfirst w.drew rfl)
     (by rw [<- b1]; exact o4 w.drew rfl) (by omega) (yC hroom)
    have hge:=grownCap_ge w (l.length+xs.length) l.length e
    obtain ⟨β',st,hr⟩:=aJ2 (ll:=l++xs) (row:=olds++news) (rest:=rest) (e:=e) (cap:=grownCap w (l.length+xs.length) l.length e) hE hR
     (by simp [o1,N.len,Nat.add_mul]) (by simpa using hge) (by rw [hrest,b1]; simp) (aDJ o1 o3 N.get)
    rw [ZE0] at st hr;exact ⟨_,_,β',hrun,st,hr⟩
   ·cases h
  ·simp only [he,Tree.run,cond_true,ZH3,Prod.mk.injEq] at h
   obtain ⟨rfl,rfl⟩:=h;have:=isEmpty_nil he;subst this;have hn:news=[]:=List.length_eq_zero_iff.1 (by simpa using N.len);subst hn;exact ⟨_,w,β,A1 (w' := w) happ (n:=0) (N.lenOf w) (hfirst w rfl) (by omega) (fun a h=>by simp [storeCells]) (fun h=>by cases h),Step.refl hR,by simpa using hs⟩
 ·-- one that grows
  rename_i id d l;split at h
  ·rename_i l' n sz hl' hH
   obtain ⟨e',rfl⟩:=xZ hl';subst e';simp only [C3] at h ⊢;cases hb:Nat.beq sz d.size
   ·simp [hb,Tree.run] at h
   simp only [hb,cond_true] at h;have hb:=ZG1 hb;subst hb;obtain ⟨hroom,h⟩:=aM h;simp only [Tree.run,ZH3,Prod.mk.injEq] at h;obtain ⟨rfl,rfl⟩:=h;obtain ⟨hn,hroom2⟩:=ZA0.1 hroom;have hn:=of_decide_eq_true hn;subst hn;have hs' := hs;obtain ⟨b,o,cap,loc,rfl,hloc,hkind,hln,hl,hcap,hh⟩:=FV hs;cases he:xs.isEmpty
   ·have hpos:=isEmpty_cons he
    by_cases hin:l.length+xs.length<=cap
    ·obtain ⟨w',β',g1,g2,g3⟩:=aa0 (P:=P) hE hR hs' hH hpos hin N.len N.one N.get
     rw [ZE0] at g2 g3;exact ⟨_,w',β',A1 (w' := w') happ (N.lenOf w) (hfirst w rfl) hin (fun a h=>by cases h; rw [<- b1]; exact g1) (fun h=>by cases h),g2,g3⟩
    ·obtain ⟨olds,o1,o2,o3,o4⟩:=A9 (P:=P) (w:=w) (X:=Xs E H β) (l:=l) (b:=b) (o:=o) (fun i x k v g1 g2=>(hh i x k v g1 g2).2)
     obtain ⟨rest,hrest,hrun⟩:=EM (ty:=ty) happ (olds:=olds) (base:=some ⟨b,o,none⟩) (sLen:=l.length) (sCap:=cap) (N.lenOf w) (hfirst w.drew rfl)
      (by rw [<- b1]; exact o4 w.drew rfl) (by omega) (yC hroom2)
     have hge:=grownCap_ge w (l.length+xs.length) cap e
     obtain ⟨β',st,hr⟩:=a3N (ll:=l++xs) (row:=olds++news) (rest:=rest) (e:=e) (cap:=grownCap w (l.length+xs.length) cap e) hE hR hH hloc (by simp; omega)
      (by simp [o1,N.len,Nat.add_mul]) (by simpa using hge) (by rw [hrest,b1]; simp) (aDJ o1 o3 N.get)
     rw [ZE0] at st hr;exact ⟨_,_,β',hrun,st,hr⟩
   ·have:=isEmpty_nil he
    subst this;have hnw:news=[]:=List.length_eq_zero_iff.1 (by simpa using N.len);subst hnw
    have hset:H.set id (.tok (l.length+([]:List d.ty).length) d.size)=H:=by
     apply List.ext_getElem?;intro k;rw [kE];split
     ·subst_vars
      have:=(ZB2.1 hH).1;simp only [this,if_true,ZE2,Nat.add_zero];exact hH.symm
     ·rfl
    rw [hset];refine ⟨_,w,β,A1 (w' := w) happ (n:=0) (N.lenOf w) (hfirst w rfl) (by omega) (fun a h=>by simp [storeCells]) (fun h=>by cases h),Step.refl hR,?_⟩;rw [List.append_nil];simpa using hs'
  ·cases h
 ·cases h
theorem a0F {c:EC} {l:List c.ty} {arr:Array Value} {e:TypeId} {fl:Fl} {cap len:Nat} (m:∀ b o,E b o->b<w.heap.size/\¬ Own H β b o) (f:Rel w (Xs E H β) H β)
  (hlen:len=l.length) (d:l.length<=cap) (a:fl = .full->cap=l.length)
  (h:∀ (i:Nat) x (k:Nat) v,l[i]? = some x->(enc c x)[k]? = some v -> ∃ z,arr[i*c.size+k]? = some z/\R w (Xs E H β) [] v z) :
  Step E H β w H β (w.alloc (.cells arr e))/\R (w.alloc (.cells arr e)) (Xs E H β) β (.sl c l [] fl) (.slice (some ⟨w.heap.size,0,none⟩) len cap):=by
 have st:=Step.alloc f (.cells arr e);refine ⟨st,C2 hlen (by simpa using d) (by simpa using a) (fun _=>⟨arr,e,heap_alloc_new w _⟩) ?_⟩;intro i x k v j n;rw [List.append_nil] at j;obtain ⟨z,hz,hr⟩:=h i x k v j n;refine ⟨?_,z,?_,hr.stab st.stab _ (.nil _)⟩
 ·rintro (g | g)
  ·exact absurd (m _ _ g).1 (Nat.lt_irrefl _)
  ·exact absurd (GO f g) (Nat.lt_irrefl _)
 ·rw [World.cell?_alloc_new]
  simpa using hz
theorem s0 {id j:Nat} {a:O} (h:(H.set id .dead)[j]? = some a) (b:a ≠ .dead):H[j]? = some a/\id ≠ j:=by
 rw [kE] at h;split at h
 ·split at h
  ·cases h; exact absurd rfl b
  ·cases h
 ·exact ⟨h,by assumption⟩
theorem Step.regrow (C:Rel w (Xs E H β) H β) {id:Nat} {cs cs' : List V} {e e0:TypeId} {loc:Loc} {c c' : Array Value}
  (B:H[id]? = some (.cells cs e)) (t:β[id]? = some loc) (hb:w.heap[loc.block]? = some (.cells c e0 (0,0))) (Y:c'.size=c.size)
  (hl:loc.base+cs'.length<=loc.size) (K:∀ (k:Nat) v,cs'[k]? = some v -> ∃ x,c'[loc.base+k]? = some x/\R w (Xs E H β) β v x) :
  Step E H β w (H.set id .dead++[.cells cs' 0]) (β++[loc]) (w.setRow loc.block c'):=by
 obtain ⟨U,c0,e1,M,hs0,_,_⟩:=C.cells id cs e loc B t;rw [hb] at M;cases M;have A:∀ b,b ≠ loc.block->(w.setRow loc.block c').heap[b]? = w.heap[b]? := fun b h=>setRow_other w _ _ _ h;have z:(w.setRow loc.block c').heap[loc.block]? = some (.cells c' e0 (0,0)):=setRow_heap w _ c c' e0 (0,0) hb;have d:∀ o,Own H β loc.block o:=fun o=>⟨id,loc,t,rfl,.inl ⟨cs,e,B⟩⟩
 have hlen:(H.set id O.dead).length=β.length:=by rw [List.length_set]; exact C.len
 have s:∀ {j u},(H.set id O.dead++[O.cells cs' 0])[j]? = some u->u ≠ .dead->(H[j]? = some u/\id ≠ j/\j<β.length)\/(j=β.length/\u = .cells cs' 0):=by
  intro j u h T;rw [sZ] at h;split at h
  ·rename_i hlt
   obtain ⟨q,a⟩:=s0 h T;exact .inl ⟨q,a,by omega⟩
  ·split at h
   ·rename_i hj
    cases h;exact .inr ⟨by omega,rfl⟩
   ·cases h
 have f:∀ {j l},(β++[loc])[j]? = some l->(j<β.length/\β[j]? = some l)\/(j=β.length/\l=loc):=by
  intro j l h;rw [sZ] at h;split at h
  ·exact .inl ⟨by assumption,h⟩
  ·split at h
   ·cases h; exact .inr ⟨by assumption,rfl⟩
   ·cases h
 have F:∀ b o,Own (H.set id .dead++[.cells cs' 0]) (β++[loc]) b o->Own H β b o:=by
  rintro b o ⟨j,l,r,rfl,p⟩
  have key:∀ u,(H.set id O.dead++[O.cells cs' 0])[j]? = some u->u ≠ .dead->(H[j]? = some u/\β[j]? = some l)\/l=loc:=by
   intro u W T
   rcases s W T with ⟨q,a,I⟩ | ⟨q,a⟩
   ·rcases f r with ⟨_,g⟩ | ⟨g,_⟩
    ·exact .inl ⟨q,g⟩
    ·omega
   ·rcases f r with ⟨g,_⟩ | ⟨_,g⟩
    ·omega
    ·exact .inr g
  rcases p with ⟨cs2,e2,p⟩ | ⟨n2,sz2,p,J⟩ | ⟨sh2,vs2,p⟩
  ·rcases key _ p (by simp) with ⟨q,a⟩ | rfl
   ·exact ⟨j,l,a,rfl,.inl ⟨_,_,q⟩⟩
   ·exact d o
  ·rcases key _ p (by simp) with ⟨q,a⟩ | rfl
   ·exact ⟨j,l,a,rfl,.inr (.inl ⟨_,_,q,J⟩)⟩
   ·exact d o
  ·rcases key _ p (by simp) with ⟨q,a⟩ | rfl
   ·exact ⟨j,l,a,rfl,.inr (.inr ⟨_,_,q⟩)⟩
   ·exact d o
 have hle:LocLe β (β++[loc]):=fun j l h=>⟨l,by
  have:j<β.length:=(ZB2.1 h).1
  rw [ZB0 this]; exact h,.inl rfl⟩
 have st:Stab w (Xs E H β) (w.setRow loc.block c') (Xs E (H.set id .dead++[.cells cs' 0]) (β++[loc])):=by
  refine ⟨fun b o v G K=>?_,fun b cs e h=>?_⟩
  ·have y:b ≠ loc.block:=fun h=>G (.inr (h ▸ d o))
   refine ⟨fun h=>G ?_,by rw [o9 (A b y)]; exact K⟩;exact h.imp _root_.id (F b o)
  ·by_cases y:b=loc.block
   ·subst y; exact ⟨c',e0,z⟩
   ·exact ⟨cs,e,by rw [A b y]; exact h⟩
 have L:∀ {j l u},H[j]? = some u->u ≠ .dead->id ≠ j->β[j]? = some l->l.block ≠ loc.block:=by
  intro j l u r p J h4 h5;exact J (C.disj id j loc l (kV B) ⟨u,r,p⟩ t h4 h5.symm)
 refine ⟨⟨by simp [C.len],fun j S e1 l q a=>?_,fun j n sz l q a=>?_,fun j sh vs l q a=>?_,fun i j l l' hi hj q a hb=>?_⟩,
  rfl,rfl,rfl,by simp,fun b hb' => ?_,fun b o h=>.inl (F b o h),hle⟩
 ·rcases s q (by simp) with ⟨r,p,J⟩ | ⟨r,p⟩
  ·rcases f a with ⟨_,a⟩ | ⟨g,_⟩
   ·obtain ⟨k,c2,e2,D,a2,a3,a4⟩:=C.cells j S e1 l r a
    exact ⟨k,c2,e2,by rw [A _ (L r (by simp) p a)]; exact D,a2,a3,fun k v K=>let ⟨x,G,N⟩:=a4 k v K; ⟨x,G,N.stab st _ hle⟩⟩
   ·omega
  ·rcases f a with ⟨g,_⟩ | ⟨_,a⟩
   ·omega
   ·cases p
    subst a;exact ⟨U,c',e0,z,by omega,⟨hl,fun h=>by simp at h⟩,fun k v Z => let ⟨x,G,N⟩:=K k v Z; ⟨x,G,N.stab st _ hle⟩⟩
 ·rcases s q (by simp) with ⟨r,p,J⟩ | ⟨r,p⟩
  ·rcases f a with ⟨_,a⟩ | ⟨g,_⟩
   ·obtain ⟨k,m,c2,e2,D,a2⟩:=C.tok j n sz l r a
    exact ⟨k,m,c2,e2,by rw [A _ (L r (by simp) p a)]; exact D,a2⟩
   ·omega
  ·cases p
 ·rcases s q (by simp) with ⟨r,p,J⟩ | ⟨r,p⟩
  ·rcases f a with ⟨_,a⟩ | ⟨g,_⟩
   ·obtain ⟨k,kb,u,xs,D,a2,a3⟩:=C.objs j sh vs l r a
    exact ⟨k,kb,u,xs,by rw [A _ (L r (by simp) p a)]; exact D,a2,fun k v K=>let ⟨x,G,N⟩:=a3 k v K; ⟨x,G,N.stab st _ hle⟩⟩
   ·omega
  ·cases p
 ·have cl:∀ {i l},live (H.set id .dead++[.cells cs' 0]) i->(β++[loc])[i]? = some l->(live H i/\id ≠ i/\β[i]? = some l)\/(i=β.length/\l=loc):=by
   rintro i l ⟨o,q,a⟩ I
   rcases s q a with ⟨r,p,J⟩ | ⟨r,p⟩
   ·rcases f I with ⟨_,I⟩ | ⟨g,_⟩
    ·exact .inl ⟨⟨o,r,a⟩,p,I⟩
    ·omega
   ·rcases f I with ⟨g,_⟩ | ⟨_,I⟩
    ·omega
    ·exact .inr ⟨r,I⟩
  rcases cl hi q with ⟨D,a2,a3⟩ | ⟨D,a2⟩ <;> rcases cl hj a with ⟨Q,b2,b3⟩ | ⟨Q,b2⟩
  ·exact C.disj i j l l' D Q a3 b3 hb
  ·exact absurd (C.disj id i loc l (kV B) D t a3 (by rw [hb,b2])) a2
  ·exact absurd (C.disj id j loc l' (kV B) Q t b3 (by rw [<- hb,a2])) b2
  ·omega
 ·by_cases y:b=loc.block
  ·subst y
   exact .inr (.inl ⟨⟨0,d 0⟩,c,c',e0,hb,z,Y,fun o ho=>absurd (d o) ho⟩)
  ·exact .inl (A b y)
theorem Step.close (g:Rel w (Xs E H β) H β) (id:Nat):Step E H β w (H.set id .dead) β w:=by
 have own:∀ {b o},Own (H.set id .dead) β b o->Own H β b o:=by
  rintro b o ⟨j,l,a,d,f⟩;refine ⟨j,l,a,d,?_⟩
  rcases f with ⟨cs,e,f⟩ | ⟨m,t,f,r⟩ | ⟨sh,vs,f⟩
  ·exact .inl ⟨cs,e,(s0 f (by simp)).1⟩
  ·exact .inr (.inl ⟨m,t,(s0 f (by simp)).1,r⟩)
  ·exact .inr (.inr ⟨sh,vs,(s0 f (by simp)).1⟩)
 have st:Stab w (Xs E H β) w (Xs E (H.set id .dead) β):=⟨fun b o v p n=>⟨fun h=>p (h.imp _root_.id own),n⟩,fun b cs e h=>⟨cs,e,h⟩⟩
 refine ⟨⟨by rw [List.length_set]; exact g.len,fun j cs e loc a d=>?_,fun j m t loc a d=>g.tok j m t loc (s0 a (by simp)).1 d,fun j sh vs loc a d=>?_,fun i j l l' a d f r u=>?_⟩,rfl,rfl,rfl,Nat.le_refl _,fun _ _=>.inl rfl,
  fun b o h=>.inl (own h),.refl _⟩
 ·obtain ⟨q,c,e',a2,a3,a4,a5⟩:=g.cells j cs e loc (s0 a (by simp)).1 d
  exact ⟨q,c,e',a2,a3,a4,fun k v n=>let ⟨x,p,s⟩:=a5 k v n; ⟨x,p,s.stab st β (.refl _)⟩⟩
 ·obtain ⟨q,a2,ob,xs,a3,a4,a5⟩:=g.objs j sh vs loc (s0 a (by simp)).1 d
  exact ⟨q,a2,ob,xs,a3,a4,fun k v n=>let ⟨x,p,s⟩:=a5 k v n; ⟨x,p,s.stab st β (.refl _)⟩⟩
 ·obtain ⟨y,g1,g2⟩:=a
  obtain ⟨o2,g3,g4⟩:=d;exact g.disj i j l l' ⟨y,(s0 g1 g2).1,g2⟩ ⟨o2,(s0 g3 g4).1,g4⟩ f r u
theorem aUE {x:V} {y:Value} {D n:Nat} {news:List V} (L:Rel w (Xs E H β) H β) (C:R w (Xs E H β) β x y) (h:RY H x=some (D,n,news)) (W:0<n) (B:vR news=true) :
  ∃ g:List Value,g.length=n*D/\news.length=n*D/\(∀ z ∈ g,z.oneCell' = true)/\(∀ (k:Nat) v z,news[k]? = some v->g[k]? = some z->R w (Xs E H β) β v z)/\(∀ w' : World,(Builtin.lenOf y).run P w' = .ok n w') /\
   ∀ w' : World,w'.heap=w.heap->(Builtin.firstCells D n y).run P w' = .ok g.toArray w' := by
 unfold RY at h;split at h;rotate_left
 ·rename_i k l sp fl
  simp only [ZH3,Prod.mk.injEq] at h;obtain ⟨rfl,rfl,rfl⟩:=h
  have S:qQ (.int k) H (.sl (.int k) l sp fl)=some l:=by
   simp only [qQ,sG,EC.same];simp;rfl
  obtain ⟨g,N⟩:=T5 (P:=P) L C S;have d:g.length=l.length*1:=N.len;refine ⟨g,d,(ZF0 _).trans (Nat.mul_one _).symm,N.one,fun q v z s u=>?_,N.lenOf,fun w' K=>N.first w' K⟩;have s:Option.map (V.int k) ((l:List Int)[q]?)=some v:=(ZC0 (f:=V.int k) (l:=(l:List Int)) (i:=q)).symm.trans s;obtain ⟨a,F,rfl⟩:=ZH0.1 s;obtain ⟨U,r,J⟩:=N.get q a 0 (.int k a) F rfl
  have r:g[q]? = some U := by
   have e:q*(EC.int k).size+0=q:=by show q*1+0=q; omega
   rw [e] at r;exact r
  rw [u] at r;cases r;cases J;exact .int _ _ _
 ·cases h
 rename_i id c off len;split at h;rotate_left
 ·cases h
 rename_i cs e Q;cases hb:Nat.ble (off+len*c) cs.length
 ·rw [hb] at h; cases h
 rw [hb,cond_true] at h;simp only [ZH3,Prod.mk.injEq] at h;obtain ⟨rfl,rfl,rfl⟩:=h;have hb:=ZG2 hb
 cases C with
 | ref _ _ _ _ _ loc b o cap I p hlen F M =>
 obtain ⟨rfl,rfl⟩:=F (by omega);obtain ⟨_,arr,e',a1,a2,a3,a4⟩:=L.cells id cs e loc Q I
 let f:Nat->Value:=fun k=>(arr[loc.base+off+k]?).getD undef
 have G:∀ k,k<len*c -> ∃ v x,((cs.drop off).take (len*c))[k]? = some v/\arr[loc.base+off+k]? = some x/\f k=x/\R w (Xs E H β) β v x:=by
  intro k p
  have A:off+k<cs.length:=by omega
  obtain ⟨x,C,J⟩:=a4 (off+k) cs[off+k] (by simp [A]);refine ⟨cs[off+k],x,?_,by rw [Nat.add_assoc]; exact C,?_,J⟩
  ·rw [ZC2,if_pos p,List.getElem?_drop,ZB3 A]
  ·show (arr[loc.base+off+k]?).getD undef=x
   rw [Nat.add_assoc,C];rfl
 have d:((cs.drop off).take (len*c)).length=len*c := by simp; omega
 refine ⟨(List.range (len*c)).map f,by simp,d,fun z r=>?_,fun k v z s u=>?_,fun w' => rfl,fun w' K=>?_⟩
 ·obtain ⟨k,p,rfl⟩:=List.mem_map.1 r
  obtain ⟨v,x,t,g2,g3,g4⟩:=G k (List.mem_range.1 p);rw [g3];exact KL g4 (aC5 B v (List.mem_of_getElem? t))
 ·have p:k<len*c := by rw [<- d]; exact (ZB2.1 s).1
  obtain ⟨Y,x,t,g2,g3,g4⟩:=G k p;rw [s] at t;cases t;rw [ZC0,List.getElem?_range p] at u;simp only [ZH2,ZH3] at u;rw [<- u,g3];exact g4
 ·have m:∀ j,j<len*c -> w'.cell? ((⟨loc.block,loc.base+off,none⟩:Addr).add j)=some (f j):=by
   intro j T;obtain ⟨v,x,t,g2,g3,g4⟩:=G j T;rw [n8,cell_of_row w' _ _ arr e' (0,0) (by rw [K]; exact a1),g2,g3]
  have:=run_loadCells (P:=P) w' ⟨loc.block,loc.base+off,none⟩ (len*c) f m;show (loadCells ⟨loc.block,loc.base+off,none⟩ (len*c)).run P w' = _;rw [this]
theorem aFO {cs' : List V} {row rest:List Value} {e:TypeId} (d:Rel w (Xs E H β) H β) (hlen:row.length=cs'.length) (h:∀ (k:Nat) v z,cs'[k]? = some v->row[k]? = some z->R w (Xs E H β) β v z) :
  Step E H β w (H++[.cells cs' 0]) (β++[{ kind:=false,block:=w.heap.size,base:=0,n:=0,size:=row.length+rest.length }]) (w.alloc (.cells (row++rest).toArray e)):=by
 refine Step.push d (row++rest).toArray e (.cells cs' 0) _ rfl (by simp) (fun cs e' b => ?_) (fun n f h=>by cases h);simp only [O.cells.injEq] at b;obtain ⟨rfl,rfl⟩:=b;refine ⟨rfl,⟨by simp; omega,fun h=>by simp at h⟩,fun q v c=>?_⟩
 have a:q<row.length:=by rw [hlen]; exact (ZB2.1 c).1
 exact ⟨row[q],by rw [List.getElem?_toArray,Nat.zero_add,ZB0 a]; simp [a],h q v _ c (by simp [a])⟩
theorem aQZ {argTypes:Array TypeId} {ty:TypeId} {s x v:V} {sy y:Value} {H' : List O} (hR:Rel w (Xs E H β) H β)
  (hs:R w (Xs E H β) β s sy) (hx:R w (Xs E H β) β x y) (h:R8 P H argTypes s x=some (v,H')) :
  ∃ z w' β',(Builtin.append_ argTypes ty #[sy,y]).run P w = .ok z w' /\ Step E H β w H' β' w' /\ R w' (Xs E H' β') β' v z:=by
 unfold R8 at h;split at h;rotate_left
 ·cases h
 rename_i st h0;split at h;rotate_left
 ·cases h
 rename_i i hi;split at h;rotate_left
 ·cases h
 rename_i e hk;have hu:=yD hi hk;split at h;rotate_left
 ·cases h
 rename_i j sz n news hj hnews;cases hb:(Nat.beq sz j.size&&(Nat.blt 0 n&&(vR news&&(Nat.blt 0 j.bytes&&(Nat.beq j.zero.length j.size&&yB P argTypes)))))
 ·rw [hb] at h; cases h
 rw [hb,cond_true] at h;obtain ⟨b1,hb⟩:=ZA0.1 hb;obtain ⟨bn,hb⟩:=ZA0.1 hb;obtain ⟨bo,hb⟩:=ZA0.1 hb;obtain ⟨b2,hb⟩:=ZA0.1 hb;obtain ⟨b3,b4⟩:=ZA0.1 hb;have b1:=ZG1 b1
 have bn:0<n:=by simpa [Nat.blt_eq] using bn
 have b2:0<j.bytes:=by simpa [Nat.blt_eq] using b2
 have b3:=ZG1 b3;subst b1
 have happ:AppT P argTypes e j:=by
  refine ⟨⟨st,h0,hu⟩,hj,?_,b2,b3⟩;unfold yB at b4;split at b4
  ·rename_i t ht
   split at b4
   ·rename_i e' hd; exact ⟨t,_,ht,hd,.inl ⟨e',rfl⟩⟩
   ·rename_i hd; exact ⟨t,_,ht,hd,.inr rfl⟩
   ·cases b4
  ·cases b4
 obtain ⟨ns,n1,n2,n3,n4,n5,n6⟩:=aUE (P:=P) hR hx hnews bn bo;split at h
 ·-- nil
  cases hs;cases hr:roomy n j.bytes
  ·rw [hr] at h; cases h
  rw [hr,cond_true] at h;simp only [ZH3,Prod.mk.injEq] at h;obtain ⟨rfl,rfl⟩:=h;obtain ⟨rest,hrest,hrun⟩:=EM (ty:=ty) happ (olds:=[]) (base:=none) (sLen:=0) (sCap:=0) (n5 w) (n6 w.drew rfl) (by rfl) (by omega) (by rw [Nat.zero_add]; exact yC hr);rw [Nat.zero_add] at hrest hrun;have hge:=grownCap_ge w n 0 e;have hd:=Step.drew hR;have hp:=aFO (rest:=rest) (e:=e) hd.rel (cs' := news) (row:=ns) (by omega) (fun k v z a b=>hd.keepR (n4 k v z a b))
  refine ⟨_,_,_,by simpa using hrun,hd.trans hp,?_⟩;refine .ref _ H.length j.size 0 n { kind:=false,block:=w.drew.heap.size,base:=0,n:=0,size:=ns.length+rest.length } w.heap.size 0 (grownCap w n 0 e) (by rw [hR.len]; simp) rfl hge (fun _=>⟨rfl,rfl⟩) ?_;simp only [Nat.zero_add,n1,hrest,<- Nat.add_mul];rw [show n+(grownCap w n 0 e - n)=grownCap w n 0 e by omega];exact Nat.le_refl _
 ·rename_i id sz' len
  split at h;rotate_left
  ·cases h
  rename_i cs e1 hH;cases hr:(Nat.beq sz' j.size&&(Nat.ble (len*j.size) cs.length&&roomy (len+n) j.bytes))
  ·rw [hr] at h; cases h
  rw [hr,cond_true] at h;simp only [ZH3,Prod.mk.injEq] at h;obtain ⟨rfl,rfl⟩:=h;obtain ⟨c1,hr⟩:=ZA0.1 hr;obtain ⟨c2,c3⟩:=ZA0.1 hr;have c1:=ZG1 c1;have c2:=ZG2 c2;subst c1;have hs' := hs
  cases hs with
  | ref _ _ _ _ _ loc b o cap hid hkd hlen ha hcap =>
  obtain ⟨_,arr,e',a1,a2,a3,a4⟩:=hR.cells id cs e1 loc hH hid;by_cases hin:len+n<=cap
  ·-- in its own room
   obtain ⟨rfl,rfl⟩:=ha (by omega);have hm:(len+n)*j.size<=cap*j.size:=Nat.mul_le_mul_right _ hin;rw [Nat.add_mul] at hm
   have hroom:loc.base+len*j.size+ns.length<=arr.size:=by omega
   have hst:=run_storeCells_at P loc.block (loc.base+len*j.size) e' ns 0 arr w a1 (by simpa using hroom) n3;simp only [Nat.add_zero] at hst
   have hget:∀ q,(arr.toList.take (loc.base+len*j.size)++ns++arr.toList.drop (loc.base+len*j.size+ns.length))[q]? =
     if loc.base+len*j.size<=q/\q<loc.base+len*j.size+ns.length then ns[q - (loc.base+len*j.size)]? else arr.toList[q]? := I9 _ _ _ (by simpa using hroom)
   have st:=Step.regrow hR (cs' := cs.take (len*j.size)++news) hH hid a1 (c' := (arr.toList.take (loc.base+len*j.size)++ns++arr.toList.drop (loc.base+len*j.size+ns.length)).toArray) (by simp; omega)
    (by simp; omega) (fun k v hv=>by
     have ht:(cs.take (len*j.size)).length=len*j.size:=by simp; omega
     rw [List.getElem?_toArray,hget];by_cases hk:k<len*j.size
     ·rw [ZB0 (by omega),ZC2,if_pos hk] at hv
      obtain ⟨z,hz,hz'⟩:=a4 k v hv;exact ⟨z,by rw [if_neg (by omega)]; simpa using hz,hz'⟩
     ·rw [ZB1 (by omega),ht] at hv
      have hk2:k - len*j.size<ns.length:=by
       have:=(ZB2.1 hv).1;omega
      refine ⟨ns[k - len*j.size],?_,n4 _ v _ hv (by simp [hk2])⟩;rw [if_pos (by omega),show loc.base+k - (loc.base+len*j.size)=k - len*j.size by omega]
      simp [hk2])
   refine ⟨_,_,_,A1 (w' := w.setRow loc.block _) happ (n5 w) (n6 w rfl) hin (fun a h=>by cases h; rw [n8]; exact hst) (fun h=>by cases h),st,?_⟩;refine .ref _ H.length j.size 0 (len+n) loc loc.block (loc.base+0) cap (by rw [hR.len]; simp) hkd hin (fun _=>⟨rfl,rfl⟩) hcap
  ·-- in a new block
   let f:Nat->Value:=fun k=>(arr[loc.base+k]?).getD undef
   have hf:∀ k,k<len*j.size -> ∃ x,arr[loc.base+k]? = some x/\f k=x /\ ∀ v,cs[k]? = some v->R w (Xs E H β) β v x:=by
    intro k hk
    have hkc:k<cs.length:=by omega
    obtain ⟨x,hx,hr⟩:=a4 k cs[k] (by simp [hkc]);refine ⟨x,hx,?_,fun v hv=>?_⟩
    ·show (arr[loc.base+k]?).getD undef=x
     rw [hx]; rfl
    ·rw [ZB3 hkc] at hv
     cases hv;exact hr
   have hold:(Builtin.firstCells j.size len (.slice (some ⟨b,o,none⟩) len cap)).run P w.drew = .ok ((List.range (len*j.size)).map f).toArray w.drew:=by
    show (loadCells ⟨b,o,none⟩ (len*j.size)).run P w.drew=_;by_cases hl0:0<cap
    ·obtain ⟨rfl,rfl⟩:=ha hl0
     have:=run_loadCells (P:=P) w.drew ⟨loc.block,loc.base+0,none⟩ (len*j.size) f (fun q hq=>by
      obtain ⟨x,g1,g2,_⟩:=hf q hq
      rw [n8,Nat.add_zero,cell_of_row w.drew _ _ arr e' (0,0) a1,g1,g2])
     rw [this]
    ·have:len=0:=by omega
     subst this;simp [loadCells,loadCellsFrom]
   obtain ⟨rest,hrest,hrun⟩:=EM (ty:=ty) happ (olds:=(List.range (len*j.size)).map f) (base:=some ⟨b,o,none⟩) (sLen:=len) (sCap:=cap) (n5 w) (n6 w.drew rfl) hold (by omega) (yC c3);have hge:=grownCap_ge w (len+n) cap e;have hd:=Step.drew hR;have hc:=Step.close hd.rel id
   have hp:=aFO (rest:=rest) (e:=e) hc.rel (cs' := cs.take (len*j.size)++news) (row:=(List.range (len*j.size)).map f++ns) (by simp; omega) (fun k v z p q=>by
    refine (hd.trans hc).keepR ?_
    have ht:(cs.take (len*j.size)).length=len*j.size:=by simp; omega
    by_cases hk:k<len*j.size
    ·rw [ZB0 (by omega),ZC2,if_pos hk] at p
     rw [ZB0 (by simp; omega),ZC0,List.getElem?_range hk] at q;simp only [ZH2,ZH3] at q;obtain ⟨x,_,g2,g3⟩:=hf k hk;rw [<- q,g2];exact g3 v p
    ·rw [ZB1 (by omega),ht] at p
     rw [ZB1 (by simp; omega)] at q;simp only [ZF0,List.length_range] at q
     exact n4 _ v z p q)
   refine ⟨_,_,_,hrun,(hd.trans hc).trans hp,?_⟩;refine .ref _ H.length j.size 0 (len+n) { kind:=false,block:=w.drew.heap.size,base:=0,n:=0,size:=((List.range (len*j.size)).map f++ns).length+rest.length } w.heap.size 0 (grownCap w (len+n) cap e) (by rw [hR.len]; simp) rfl hge (fun _=>⟨rfl,rfl⟩) ?_;simp only [Nat.zero_add,ZE0,ZF0,List.length_range,n1,hrest,<- Nat.add_mul];rw [show len+n+(grownCap w (len+n) cap e - (len+n))=grownCap w (len+n) cap e by omega]
   exact Nat.le_refl _
 ·cases h
end
end Go.Ab

namespace Go.Ab
section
variable {P:Program} {E:Nat->Nat->Prop} {H:List O} {β:List Loc} {w:World} {X:Nat->Nat->Prop}
theorem FD {α:Type} (z:List α):∀ (n:Nat),(List.replicate n z).flatten.length=n*z.length /\ ∀ k,k<n*z.length->(List.replicate n z).flatten[k]? = z[k % z.length]?
 | 0=>⟨by simp,fun k b=>by simp at b⟩
 | n+1=>by
  obtain ⟨c,h2⟩:=FD z n;rw [List.replicate_succ,List.flatten_cons];refine ⟨by rw [ZE0,c,Nat.add_mul]; omega,fun k b=>?_⟩;by_cases hz:k<z.length
  ·rw [ZB0 hz,Nat.mod_eq_of_lt hz]
  ·have a:k % z.length=(k - z.length) % z.length:=Nat.mod_eq_sub_mod (by omega)
   rw [ZB1 (by omega),a];apply h2;rw [Nat.add_mul] at b;omega
theorem RI {z:Value} {n:Nat} {zs:List V} (h:z.cells.size=zs.length) (g:∀ (k:Nat) v x,zs[k]? = some v->z.cells[k]? = some x->R w X β v x) :
  ((Array.range (n*zs.length)).map (z.cells[· % z.cells.size]!)).size=(List.replicate n zs).flatten.length /\
  ∀ (k:Nat) v x,(List.replicate n zs).flatten[k]? = some v->((Array.range (n*zs.length)).map (z.cells[· % z.cells.size]!))[k]? = some x->R w X β v x:=by
 obtain ⟨e,h2⟩:=FD zs n;refine ⟨by simp [e],fun k v x d f=>?_⟩
 have c:k<n*zs.length:=by rw [<- e]; exact (ZB2.1 d).1
 rw [h2 k c] at d;simp only [Array.getElem?_map,Array.getElem?_range,c,if_true,ZH2,ZH3] at f
 have a:0<zs.length:=by
  rcases Nat.eq_zero_or_pos zs.length with b | b
  ·simp [b] at c
  ·exact b
 have i:=Nat.mod_lt k a;refine g (k % zs.length) v x d ?_;rw [<- f,h]
 have:k % zs.length<z.cells.size:=by omega
 simp [this]
theorem aQO {ref:Bool} {t:TypeId} {len:Nat} {B:List (Nat × V)} {s:Array (Nat × Value)} {v:V} {H' : List O} (M:∀ b o,E b o->b<w.heap.size/\¬ Own H β b o)
  (C:Rel w (Xs E H β) H β) (hlen:B.length=s.size)
  (G:∀ (k:Nat) p q,B[k]? = some p->s.toList[k]? = some q->p.1=q.1/\R w (Xs E H β) β p.2 q.2) (h:rJ P H ref t len B=some (v,H')) :
  ∃ z w' m,(Instr.buildSlice t len s).run P w = .ok z w' /\ Step E H β w H' m w' /\ R w' (Xs E H' m) m v z:=by
 unfold rJ at h;split at h;rotate_left
 ·cases h
 rename_i i hi;split at h;rotate_left
 ·cases h
 rename_i e g;have r:=yD hi g;split at h;rotate_left
 ·cases h
 rename_i j F;cases hb:(Nat.ble (len*j.size) 16777216&&Nat.beq j.zero.length j.size)
 ·simp [hb] at h
 simp only [hb,cond_true] at h;obtain ⟨J,y⟩:=ZA0.1 hb;have J:=ZG2 J;have y:=ZG1 y;split at h;rotate_left
 ·cases h
 rename_i es D;obtain ⟨z,hz,hzs,hzr⟩:=aLO (w:=w) (X:=Xs E H β) (β:=β) F;obtain ⟨L,a2⟩:=RI (n:=len) hzs hzr;obtain ⟨arr,g1,g2,g3,g4⟩:=ME (w:=w) (X:=Xs E H β) (β:=β) (place:=fun i=>some (i*j.size,j.size)) (fun i x I=>I) B s.toList _ es _ (by simpa using hlen) G L a2 D;obtain ⟨f1,f2⟩:=FD j.zero len
 have d:(Instr.buildSlice t len s).run P w = .ok (.slice (some ⟨w.heap.size,0,none⟩) len len) (w.alloc (.cells arr e)):=by
  have N:¬ (16777216<len*j.size):=by omega
  rw [y] at g1;by_cases h0:len*j.size=0
  ·have e0:∀ f:Nat->Value,(Array.range (len*j.size)).map f = #[]:=by intro f; rw [h0]; simp
   rw [e0] at g1;simp only [Instr.buildSlice,Sem.run_bind,cZ w r,Result.andThen_ok,hU w F];simp [h0,newRow,show Array.range 0 = #[] from rfl,g1]
  ·simp only [Instr.buildSlice,Sem.run_bind,cZ w r,Result.andThen_ok,hU w F]
   simp [h0,N,hz,newRow];simp [g1]
 cases ref
 ·simp only [cond_false] at h
  split at h;rotate_left
  ·cases h
  rename_i c Q;cases a:Nat.beq c.size j.size
  ·simp [a] at h
  simp only [a,cond_true] at h;have a:=ZG1 a;obtain ⟨l,hl,he⟩:=ZH0.1 h;simp only [Prod.mk.injEq] at he;obtain ⟨rfl,rfl⟩:=he;rw [<- a] at hl;obtain ⟨K,l2⟩:=aDY hl
  obtain ⟨st,hr⟩:=a0F (l:=l) (arr:=arr) (e:=e) (fl:=.full) (cap:=len) (len:=len) M C K.symm (by omega) (fun _=>K.symm) (by
   intro i x k v I A;obtain ⟨u,r,_,hu'⟩:=l2 i x k v I A
   have g:i*c.size+k<arr.size:=by rw [g2]; exact (ZB2.1 r).1
   exact ⟨arr[i*c.size+k],by simp [g],hu' w (Xs E H β) β _ (g4 _ u _ r (by simp [g]))⟩)
  exact ⟨_,_,β,d,st,hr⟩
 ·simp only [cond_true,ZH3,Prod.mk.injEq] at h
  obtain ⟨rfl,rfl⟩:=h
  have st:=Step.push C arr e (.cells es (e+4294967296)) { kind:=false,block:=w.heap.size,base:=0,n:=0,size:=arr.size } rfl rfl
   (fun cs e' h=>by
    simp only [O.cells.injEq] at h;obtain ⟨rfl,rfl⟩:=h;refine ⟨rfl,by simp [g2],fun k v A=>?_⟩
    have g:k<arr.size:=by rw [g2]; exact (ZB2.1 A).1
    exact ⟨arr[k],by simp [g],g4 k v _ A (by simp [g])⟩) (fun n S h=>by cases h)
  refine ⟨_,_,_,d,st,?_⟩;refine .ref _ H.length j.size 0 len { kind:=false,block:=w.heap.size,base:=0,n:=0,size:=arr.size } w.heap.size 0 len (by rw [C.len]; simp) rfl (Nat.le_refl _) (fun _=>⟨rfl,rfl⟩) ?_
  have:es.length=len*j.size:=by rw [g3,f1,y]
  simp only [Nat.zero_add];omega
theorem aQT {ref:Bool} {t:TypeId} {l c v:V} {ly Z:Value} {H' : List O} (hE:∀ b o,E b o->b<w.heap.size/\¬ Own H β b o)
  (f:Rel w (Xs E H β) H β) (hl:R w (Xs E H β) β l ly) (hc:R w (Xs E H β) β c Z) (h:(EO P H ref t l c).run=some (v,H')) :
  ∃ z w' G,(Instr.makeSlice t ly Z).run P w = .ok z w' /\ Step E H β w H' G w' /\ R w' (Xs E H' G) G v z:=by
 unfold EO at h;split at h;rotate_left
 ·cases h
 rename_i i k1 l k2 c hi;cases hl;cases hc;split at h;rotate_left
 ·cases h
 rename_i e K;have N:=yD hi K;split at h;rotate_left
 ·cases h
 rename_i j hj;obtain ⟨C,h⟩:=aM h;cases hb:(Nat.beq j.zero.length j.size&&Nat.blt 0 j.bytes)
 ·simp [hb,Tree.run] at h
 simp only [hb,cond_true] at h;obtain ⟨I,S⟩:=ZA0.1 hb;have I:=ZG1 I
 have S:0<j.bytes:=by simpa [Nat.blt_eq] using S
 simp only [ZA2,decide_eq_true_eq] at C;obtain ⟨⟨r1,r2⟩,r3⟩:=C;have r3:=yC r3;obtain ⟨Q,d1,i1,i2,i3,i4,⟨z,z1,z2⟩,_⟩:=(rR hj).info
 have T:(Q.bytes:Int)*c<=281474976710656:=by
  have e1:c=(c.toNat:Int):=by omega
  rw [e1,i4]
  have:((j.bytes*c.toNat:Nat):Int)<=281474976710656:=by rw [Nat.mul_comm]; omega
  simpa using this
 have J:c<=9223372036854775807:=by
  have:c.toNat*1<=c.toNat*j.bytes:=Nat.mul_le_mul_left _ S;omega
 have r:=run_make (P:=P) w t e Q z N i1 z1 k1 k2 l c r1 r2 T J;rw [i3] at r
 have hz:z.cells.size=j.zero.length:=by simp [z2]
 obtain ⟨a1,a2⟩:=RI (w:=w) (X:=Xs E H β) (β:=β) (z:=z) (n:=c.toNat) (zs:=j.zero) hz (by
  intro k v x A y;rw [z2] at A
  have:z.cells.toList[k]? = some x:=by simpa using y
  simp only [ZC0,this,ZH2,ZH3] at A;subst A
  exact BC _ _ _ _)
 rw [I] at a1 a2;obtain ⟨f1,f2⟩:=FD j.zero c.toNat;obtain ⟨f3,f4⟩:=FD j.zero l.toNat
 have F:l.toNat<=c.toNat:=by omega
 have M:l.toNat*j.zero.length<=c.toNat*j.zero.length:=Nat.mul_le_mul_right _ F
 have B:∀ (k:Nat) u,(List.replicate l.toNat j.zero).flatten[k]? = some u -> ∃ x,(madeCells z.cells (c.toNat*j.size))[k]? = some x/\R w (Xs E H β) β u x:=by
  intro k u N
  have K:k<l.toNat*j.zero.length:=by rw [<- f3]; exact (ZB2.1 N).1
  rw [f4 k K,<- f2 k (by omega)] at N
  have L : k<(madeCells z.cells (c.toNat*j.size)).size:=by rw [size_madeCells,<- I]; omega
  exact ⟨_,by rw [Array.getElem?_eq_getElem L],a2 k u _ N (by show (madeCells z.cells (c.toNat*j.size))[k]? = _; rw [Array.getElem?_eq_getElem L])⟩
 cases ref
 ·simp only [cond_false] at h
  split at h;rotate_left
  ·cases h
  rename_i d hd;cases m:Nat.beq d.size j.size
  ·simp [m,Tree.run] at h
  simp only [m,cond_true] at h;have m:=ZG1 m;split at h;rotate_left
  ·cases h
  rename_i x0 W;simp only [Tree.run,ZH3,Prod.mk.injEq] at h;obtain ⟨rfl,rfl⟩:=h;obtain ⟨q1,q2⟩:=aEB W
  have st:=Step.push f (madeCells z.cells (c.toNat*j.size)) e (.tok l.toNat d.size) { kind:=true,block:=w.heap.size,base:=0,n:=l.toNat,size:=c.toNat*j.size } rfl (size_madeCells _ _)
   (fun cs e h=>by cases h) (fun n Y h=>by cases h; exact ⟨rfl,rfl⟩)
  refine ⟨_,_,_,r,st,L0 (loc:={ kind:=true,block:=w.heap.size,base:=0,n:=l.toNat,size:=c.toNat*j.size }) (by simp) (by rw [f.len]; simp) rfl (by simp) ?_ (by simpa using F) ?_⟩
  ·intro _
   refine ⟨rfl,rfl,?_⟩;simp only [m]; omega
  ·intro i' x k u y A
   have hi:i' < l.toNat:=by have:=(ZB2.1 y).1; simpa using this
   have U:=F7 hi A;rw [List.getElem?_replicate,if_pos hi] at y;simp only [ZH3] at y;subst y;obtain ⟨u0,hu0,_,hu0'⟩:=q2 k u A
   have K:k<d.size:=by have:=(ZB2.1 A).1; rwa [enc_size] at this
   have D:(List.replicate l.toNat j.zero).flatten[i' * d.size+k]? = some u0:=by
    rw [f4 _ (by rw [q1]; exact U),q1,Nat.add_comm,Nat.add_mul_mod_self_right,Nat.mod_eq_of_lt K];exact hu0
   obtain ⟨x,y,hr⟩:=B _ _ D;refine ⟨?_,x,?_,(hu0' w _ _ x hr).stab st.stab _ (.nil _)⟩
   ·rintro (g | ⟨id,lo,s,g2,a⟩)
    ·exact absurd (hE _ _ g).1 (Nat.lt_irrefl _)
    ·rw [sZ] at s
     by_cases hid:id<β.length
     ·simp only [hid,if_true] at s
      have p : id<H.length:=by rw [f.len]; exact hid
      rcases a with ⟨cs,e,a⟩ | ⟨n,Y,a,g4⟩ | ⟨sh,vs,a⟩
      ·rw [ZB0 p] at a
       have:=oC f (kV a) s;omega
      ·rw [ZB0 p] at a
       have:=oC f (kX a) s;omega
      ·rw [ZB0 p] at a
       have:=oC f (mC a) s;omega
     ·simp only [hid,if_false] at s
      split at s
      ·rename_i q
       rcases a with ⟨cs,e,a⟩ | ⟨n,Y,a,g4⟩ | ⟨sh,vs,a⟩
       ·rw [q,<- f.len] at a; simp at a
       ·rw [q,<- f.len] at a
        simp at a;obtain ⟨rfl,rfl⟩:=a;simp only [ZH3] at s;subst s;simp at g4;omega
       ·rw [q,<- f.len] at a; simp at a
      ·cases s
   ·rw [World.cell?_alloc_new]
    simpa using y
 ·simp only [cond_true,Tree.run,ZH3,Prod.mk.injEq] at h
  obtain ⟨rfl,rfl⟩:=h
  have st:=Step.push f (madeCells z.cells (c.toNat*j.size)) e (.cells (List.replicate l.toNat j.zero).flatten 0) { kind:=false,block:=w.heap.size,base:=0,n:=0,size:=c.toNat*j.size } rfl (size_madeCells _ _)
   (fun cs e' h=>by
    simp only [O.cells.injEq] at h;obtain ⟨rfl,rfl⟩:=h;refine ⟨rfl,⟨by rw [f3]; simp only [Nat.zero_add]; rw [<- I]; exact M,fun h=>absurd h (by decide)⟩,fun k v A=>?_⟩;obtain ⟨x,y,hr⟩:=B k v A
    exact ⟨x,by simpa using y,hr⟩) (fun n Y h=>by cases h)
  refine ⟨_,_,_,r,st,?_⟩;exact .ref _ H.length j.size 0 l.toNat { kind:=false,block:=w.heap.size,base:=0,n:=0,size:=c.toNat*j.size } w.heap.size 0 c.toNat (by rw [f.len]; simp) rfl F (fun _=>⟨rfl,rfl⟩) (by simp)
theorem aQY {t:TypeId} {l c v:V} {L I:Value} {H' : List O}
  (J:Rel w (Xs E H β) H β) (U:R w (Xs E H β) β l L) (S:R w (Xs E H β) β c I) (h:(E1 P H t l c).run=some (v,H')) :
  ∃ z w' g,(Instr.makeSlice t L I).run P w = .ok z w' /\ Step E H β w H' g w' /\ R w' (Xs E H' g) g v z:=by
 unfold E1 at h;split at h;rotate_left
 ·cases h
 rename_i i k1 l k2 c hi;cases U;cases S;split at h;rotate_left
 ·cases h
 rename_i e T;have Y:=yD hi T;split at h;rotate_left
 ·cases h
 rename_i j k K D;obtain ⟨j',r,_,hjs⟩:=QM D;rw [K] at r;cases r;obtain ⟨a,h⟩:=aM h;cases hb:(KR k j.zero&&Nat.blt 0 j.bytes)
 ·simp [hb,Tree.run] at h
 simp only [hb,cond_true] at h;obtain ⟨d,A⟩:=ZA0.1 hb
 have A:0<j.bytes:=by simpa [Nat.blt_eq] using A
 have d:j.zero=[.int k 0]:=by
  unfold KR at d;split at d
  ·rename_i l n C
   simp only [ZA2,decide_eq_true_eq,beq_iff_eq] at d;obtain ⟨rfl,rfl⟩:=d;exact C
  ·cases d
 simp only [ZA2,decide_eq_true_eq] at a;obtain ⟨⟨r1,r2⟩,M⟩:=a;have M:=yC M;obtain ⟨s,d1,i1,i2,i3,i4,⟨z,z1,z2⟩,_⟩:=(rR K).info
 have B:(s.bytes:Int)*c<=281474976710656:=by
  have N:c=(c.toNat:Int):=by omega
  rw [N,i4]
  have:((j.bytes*c.toNat:Nat):Int)<=281474976710656:=by rw [Nat.mul_comm]; omega
  simpa using this
 have p:c<=9223372036854775807:=by
  have:c.toNat*1<=c.toNat*j.bytes:=Nat.mul_le_mul_left _ A;omega
 have b:=run_make (P:=P) w t e s z Y i1 z1 k1 k2 l c r1 r2 B p;rw [i3,hjs,Nat.mul_one] at b
 have Z:z.cells.size=j.zero.length:=by simp [z2]
 obtain ⟨G,a2⟩:=RI (w:=w) (X:=Xs E H β) (β:=β) (z:=z) (n:=c.toNat) (zs:=j.zero) Z (by
  intro k v x f u;rw [z2] at f
  have:z.cells.toList[k]? = some x:=by simpa using u
  simp only [ZC0,this,ZH2,ZH3] at f;subst f
  exact BC _ _ _ _)
 simp only [Tree.run,ZH3,Prod.mk.injEq] at h;obtain ⟨rfl,rfl⟩:=h
 have o:madeCells z.cells c.toNat=(([]:List Value)++(List.replicate c.toNat (0:Int)).map (Value.int k)).toArray:=by
  rw [d] at G a2;simp only [List.length_cons,ZE2,Nat.zero_add,Nat.mul_one] at G a2;have W:(madeCells z.cells c.toNat).size=c.toNat:=size_madeCells _ _;apply Array.ext_getElem?;intro q
  have Q:((List.replicate c.toNat (Value.int k 0)).toArray)[q]? = if q<c.toNat then some (Value.int k 0) else none:=by rw [List.getElem?_toArray,List.getElem?_replicate]
  rw [List.nil_append,List.map_replicate,Q];by_cases hq:q<c.toNat
  ·rw [if_pos hq]
   have F : q<(madeCells z.cells c.toNat).size:=by omega
   have u:(madeCells z.cells c.toNat)[q]? = some (madeCells z.cells c.toNat)[q]:=Array.getElem?_eq_getElem F
   have f:((List.replicate c.toNat [V.int k 0]).flatten)[q]? = some (.int k 0):=by
    have:(List.replicate c.toNat [V.int k 0]).flatten=List.replicate c.toNat (V.int k 0):=by
     generalize c.toNat=m
     induction m with
     | zero=>rfl
     | succ m ih=>rw [List.replicate_succ,List.replicate_succ,List.flatten_cons,ih]; rfl
    rw [this,List.getElem?_replicate,if_pos hq]
   have:=a2 q (.int k 0) (madeCells z.cells c.toNat)[q] f u;rw [u];generalize (madeCells z.cells c.toNat)[q]=y at this;cases this;rfl
  ·rw [if_neg hq]
   exact Array.getElem?_eq_none (by omega)
 have st:=Step.pushObjD J (.cells (madeCells z.cells c.toNat) e (0,0)) (sh:=.page 0 k (List.replicate c.toNat 0)) (xs:=[]) (vs:=[]) (loc:={ kind:=false,block:=w.heap.size,base:=0,n:=0,size:=c.toNat })
  ⟨rfl,e,by rw [o]⟩ (fun q v f=>by simp at f) rfl rfl rfl
 refine ⟨_,_,_,b,st,?_⟩;refine .ref _ H.length 1 0 l.toNat { kind:=false,block:=w.heap.size,base:=0,n:=0,size:=c.toNat } w.heap.size 0 c.toNat (by rw [J.len]; simp) rfl (by omega) (fun _=>⟨rfl,rfl⟩) (by simp)
end
end Go.Ab
