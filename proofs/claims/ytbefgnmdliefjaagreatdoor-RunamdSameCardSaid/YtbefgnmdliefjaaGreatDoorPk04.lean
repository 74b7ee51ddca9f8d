/-
  The engine, part J: append is sound. Conditions: none.
-/
import Derived.Test.YtbefgnmdliefjaaGreatDoorPk03
set_option linter.unusedVariables false
set_option linter.unusedSimpArgs false
namespace Go.Ab
section
variable {P:Program} {E:Nat→Nat→Prop} {H:List O} {β:List Loc} {w:World} {X:Nat→Nat→Prop}
theorem Step.drew (hR:Rel w (Xs E H β) H β):Step E H β w H β w.drew:=Step.heap_same hR rfl rfl rfl rfl
theorem idx_lt {c:EC} {n i k:Nat} {x:c.ty} {v:V} (hi:i<n) (hv:(enc c x)[k]? = some v):i*c.size+k<n*c.size:=by
 have hk:k<c.size:=by have:=(List.getElem?_eq_some_iff.1 hv).1; rwa [enc_size] at this
 have:(i+1)*c.size≤n*c.size:=Nat.mul_le_mul_right _ hi
 rw [Nat.add_mul] at this
 omega
theorem join_cells {c:EC} {l xs:List c.ty} {olds news:List Value} (ho:olds.length=l.length*c.size)
  (h1:∀ (i:Nat) x (k:Nat) v,l[i]? = some x→(enc c x)[k]? = some v → ∃ z,olds[i*c.size+k]? = some z∧R w X [] v z)
  (h2:∀ (i:Nat) x (k:Nat) v,xs[i]? = some x→(enc c x)[k]? = some v → ∃ z,news[i*c.size+k]? = some z∧R w X [] v z) :
  ∀ (i:Nat) x (k:Nat) v,(l++xs)[i]? = some x→(enc c x)[k]? = some v → ∃ z,(olds++news)[i*c.size+k]? = some z∧R w X [] v z:=by
 intro i x k v hx hv
 by_cases hi:i<l.length
 ·rw [List.getElem?_append_left hi] at hx
  rw [List.getElem?_append_left (by rw [ho]; exact idx_lt hi hv)]
  exact h1 i x k v hx hv
 ·rw [List.getElem?_append_right (by omega)] at hx
  have hle:l.length*c.size≤i*c.size:=Nat.mul_le_mul_right _ (by omega)
  rw [List.getElem?_append_right (by omega),ho]
  have e:i*c.size+k - l.length*c.size=(i - l.length)*c.size+k:=by
   rw [Nat.sub_mul]; omega
  rw [e]
  exact h2 _ x k v hx hv
theorem new_gro {c:EC} {ll:List c.ty} {row rest:List Value} {e:TypeId} {cap:Nat} (hE:∀ b o,E b o→b<w.heap.size∧¬ Own H β b o) (hR:Rel w (Xs E H β) H β)
  (hrow:row.length=ll.length*c.size) (hcap:ll.length≤cap) (hrest:rest.length=(cap - ll.length)*c.size)
  (h:∀ (i:Nat) x (k:Nat) v,ll[i]? = some x→(enc c x)[k]? = some v → ∃ z,row[i*c.size+k]? = some z∧R w (Xs E H β) [] v z) :
  ∃ β',Step E H β w (H++[.tok ll.length c.size]) β' (w.drew.alloc (.cells (row++rest).toArray e)) ∧
   R (w.drew.alloc (.cells (row++rest).toArray e)) (Xs E (H++[.tok ll.length c.size]) β') β' (.gro H.length c ll) (.slice (some ⟨w.heap.size,0,none⟩) ll.length cap):=by
 have hd:=Step.drew hR
 have hs:=Step.push hd.rel (row++rest).toArray e (.tok ll.length c.size) { kind:=true,block:=w.heap.size,base:=0,n:=ll.length,size:=row.length+rest.length } rfl (by simp)
  (fun cs e h=>by cases h) (fun n sz h=>by cases h; exact ⟨rfl,rfl⟩)
 have st:=hd.trans hs
 refine ⟨_,st,mk_gro (loc:={ kind:=true,block:=w.heap.size,base:=0,n:=ll.length,size:=row.length+rest.length }) rfl (by rw [hR.len]; simp) rfl (Nat.le_refl _) ?_ hcap ?_⟩
 ·intro _
  refine ⟨rfl,rfl,?_⟩
  simp only [hrow,hrest,← Nat.add_mul]
  rw [show ll.length+(cap - ll.length)=cap from by omega]; omega
 ·intro i x k v hx hv
  have hi:i<ll.length:=(List.getElem?_eq_some_iff.1 hx).1
  have hlt:=idx_lt hi hv
  obtain ⟨z,hz,hr⟩:=h i x k v hx hv
  refine ⟨?_,z,?_,hr.stab st.stab _ (.nil _)⟩
  ·rintro (g | ⟨id,l,g1,g2,g3⟩)
   ·exact absurd (hE _ _ g).1 (Nat.lt_irrefl _)
   ·rw [getElem?_concat] at g1
    by_cases hid:id<β.length
    ·simp only [hid,if_true] at g1
     have hid' : id<H.length:=by rw [hR.len]; exact hid
     rcases g3 with ⟨cs,e,g3⟩ | ⟨n,sz,g3,g4⟩ | ⟨sh,vs,g3⟩
     ·rw [List.getElem?_append_left hid'] at g3
      have:=live_lt hR (live_cells g3) g1
      omega
     ·rw [List.getElem?_append_left hid'] at g3
      have:=live_lt hR (live_tok g3) g1
      omega
     ·rw [List.getElem?_append_left hid'] at g3
      have:=live_lt hR (live_obj g3) g1
      omega
    ·simp only [hid,if_false] at g1
     split at g1
     ·rename_i hid2
      rcases g3 with ⟨cs,e,g3⟩ | ⟨n,sz,g3,g4⟩ | ⟨sh,vs,g3⟩
      ·rw [hid2,← hR.len] at g3; simp at g3
      ·rw [hid2,← hR.len] at g3
       simp at g3
       obtain ⟨rfl,rfl⟩:=g3
       simp only [Option.some.injEq] at g1
       subst g1
       simp at g4
       omega
      ·rw [hid2,← hR.len] at g3; simp at g3
     ·cases g1
  ·have hc:=World.cell?_alloc_new w.drew (row++rest).toArray e (0+i*c.size+k)
   rw [show w.drew.heap.size=w.heap.size from rfl] at hc
   rw [hc]
   simp only [Nat.zero_add,List.getElem?_toArray]
   rw [List.getElem?_append_left (by omega)]
   exact hz
theorem move_gro {c:EC} {ll:List c.ty} {row rest:List Value} {e:TypeId} {cap id n:Nat} {loc:Loc} (hE:∀ b o,E b o→b<w.heap.size∧¬ Own H β b o) (hR:Rel w (Xs E H β) H β)
  (hid:H[id]? = some (.tok n c.size)) (hloc:β[id]? = some loc) (hn:n<ll.length)
  (hrow:row.length=ll.length*c.size) (hcap:ll.length≤cap) (hrest:rest.length=(cap - ll.length)*c.size)
  (h:∀ (i:Nat) x (k:Nat) v,ll[i]? = some x→(enc c x)[k]? = some v → ∃ z,row[i*c.size+k]? = some z∧R w (Xs E H β) [] v z) :
  ∃ β',Step E H β w (H.set id (.tok ll.length c.size)) β' (w.drew.alloc (.cells (row++rest).toArray e)) ∧
   R (w.drew.alloc (.cells (row++rest).toArray e)) (Xs E (H.set id (.tok ll.length c.size)) β') β' (.gro id c ll) (.slice (some ⟨w.heap.size,0,none⟩) ll.length cap):=by
 have hd:=Step.drew hR
 have hs:=Step.moveTok (e' := e) (c:=(row++rest).toArray) hd.rel hid hloc hn
 have st:=hd.trans hs
 have hilt:id<β.length:=(List.getElem?_eq_some_iff.1 hloc).1
 have hsz:(row++rest).toArray.size=row.length+rest.length:=by simp
 rw [hsz] at st
 refine ⟨_,st,mk_gro (loc:={ kind:=true,block:=w.heap.size,base:=0,n:=ll.length,size:=row.length+rest.length }) rfl
  (by rw [get_set]; simp [hilt]) rfl (Nat.le_refl _) ?_ hcap ?_⟩
 ·intro _
  refine ⟨rfl,rfl,?_⟩
  simp only [hrow,hrest,← Nat.add_mul]
  rw [show ll.length+(cap - ll.length)=cap from by omega]; omega
 ·intro i x k v hx hv
  have hi:i<ll.length:=(List.getElem?_eq_some_iff.1 hx).1
  have hlt:=idx_lt hi hv
  obtain ⟨z,hz,hr⟩:=h i x k v hx hv
  refine ⟨?_,z,?_,hr.stab st.stab _ (.nil _)⟩
  ·rintro (g | ⟨j,l,g1,g2,g3⟩)
   ·exact absurd (hE _ _ g).1 (Nat.lt_irrefl _)
   ·rw [get_set] at g1
    rw [get_set] at g3
    by_cases hj:id=j
    ·subst hj
     have hilt' : id<H.length:=by rw [hR.len]; exact hilt
     simp only [if_true,hilt,hilt'] at g1 g3
     simp only [Option.some.injEq] at g1
     subst g1
     rcases g3 with ⟨cs,e,g3⟩ | ⟨m,sz,g3,g4⟩ | ⟨sh,vs,g3⟩
     ·cases g3
     ·simp only [Option.some.injEq,O.tok.injEq] at g3
      obtain ⟨rfl,rfl⟩:=g3
      simp at g4
      omega
     ·cases g3
    ·simp only [hj,if_false] at g1 g3
     rcases g3 with ⟨cs,e,g3⟩ | ⟨m,sz,g3,g4⟩ | ⟨sh,vs,g3⟩
     ·have:=live_lt hR (live_cells g3) g1
      omega
     ·have:=live_lt hR (live_tok g3) g1
      omega
     ·have:=live_lt hR (live_obj g3) g1
      omega
  ·have hc:=World.cell?_alloc_new w.drew (row++rest).toArray e (0+i*c.size+k)
   rw [show w.drew.heap.size=w.heap.size from rfl] at hc
   rw [hc]
   simp only [Nat.zero_add,List.getElem?_toArray]
   rw [List.getElem?_append_left (by omega)]
   exact hz
theorem in_gro {c:EC} {l xs:List c.ty} {news:List Value} {cap id:Nat} {y0:Addr} (hE:∀ b o,E b o→b<w.heap.size∧¬ Own H β b o) (hR:Rel w (Xs E H β) H β)
  (hy:R w (Xs E H β) β (.gro id c l) (.slice (some y0) l.length cap)) (hid:H[id]? = some (.tok l.length c.size)) (hx:0<xs.length) (hcap:l.length+xs.length≤cap)
  (hlen:news.length=xs.length*c.size) (hone:∀ z ∈ news,z.oneCell' = true)
  (h:∀ (i:Nat) x (k:Nat) v,xs[i]? = some x→(enc c x)[k]? = some v → ∃ z,news[i*c.size+k]? = some z∧R w (Xs E H β) [] v z) :
  ∃ w' β',(storeCells (y0.add (l.length*c.size)) news).run P w = .ok () w' ∧ Step E H β w (H.set id (.tok (l++xs).length c.size)) β' w' ∧
   R w' (Xs E (H.set id (.tok (l++xs).length c.size)) β') β' (.gro id c (l++xs)) (.slice (some y0) (l.length+xs.length) cap):=by
 obtain ⟨b,o,cap',loc,he,hloc,hk,hn,hl,hcap',hh⟩:=gro_get hy
 simp only [Value.slice.injEq,Option.some.injEq,true_and] at he
 obtain ⟨rfl,rfl⟩:=he
 obtain ⟨_,hlocn,arr,e',a1,a2⟩:=hR.tok id _ _ loc hid hloc
 obtain ⟨rfl,rfl,hfit⟩:=hl hlocn
 have hmul:(l.length+xs.length)*c.size≤cap*c.size:=Nat.mul_le_mul_right _ hcap
 rw [Nat.add_mul] at hmul
 have hroom:loc.base+l.length*c.size+news.length≤arr.size:=by omega
 have hrun:=run_storeCells_at P loc.block (loc.base+l.length*c.size) e' news 0 arr w a1 (by simpa using hroom) hone
 simp only [Nat.add_zero] at hrun
 have hgetnew:∀ j,(arr.toList.take (loc.base+l.length*c.size)++news++arr.toList.drop (loc.base+l.length*c.size+news.length))[j]? =
   if loc.base+l.length*c.size≤j∧j<loc.base+l.length*c.size+news.length then news[j - (loc.base+l.length*c.size)]? else arr.toList[j]? := splice_get _ _ _ (by simpa using hroom)
 have st:=Step.setTok (n' := (l++xs).length) (c' := (arr.toList.take (loc.base+l.length*c.size)++news++arr.toList.drop (loc.base+l.length*c.size+news.length)).toArray) hR hid hloc a1
  (by simp; omega) (by simp; omega) (by
   intro j hj
   rw [List.getElem?_toArray,hgetnew,if_neg (by omega)]
   simp)
 have hilt:id<β.length:=(List.getElem?_eq_some_iff.1 hloc).1
 have hilt' : id<H.length:=by rw [hR.len]; exact hilt
 refine ⟨_,_,by rw [addr_add]; exact hrun,st,mk_gro (loc:={ loc with n:=(l++xs).length }) (by simp) (by rw [get_set]; simp [hilt]) hk (Nat.le_refl _) (fun _=>⟨rfl,rfl,hfit⟩) (by simpa using hcap) ?_⟩
 intro i x k v hx hv
 have hi:i<(l++xs).length:=(List.getElem?_eq_some_iff.1 hx).1
 have hlt:=idx_lt hi hv
 have hheap:=setRow_heap w loc.block arr ((arr.toList.take (loc.base+l.length*c.size)++news++arr.toList.drop (loc.base+l.length*c.size+news.length)).toArray) e' (0,0) a1
 have hmul2:(l++xs).length*c.size=l.length*c.size+xs.length*c.size:=by simp [Nat.add_mul]
 by_cases hil:i<l.length
 ·rw [List.getElem?_append_left hil] at hx
  obtain ⟨hx1,z,hz,hr⟩:=hh i x k v hx hv
  obtain ⟨s1,s2⟩:=st.stab.cell _ _ _ hx1 hz
  exact ⟨s1,z,s2,hr.stab st.stab _ (.nil _)⟩
 ·rw [List.getElem?_append_right (by omega)] at hx
  obtain ⟨z,hz,hr⟩:=h (i - l.length) x k v hx hv
  have hle:l.length*c.size≤i*c.size:=Nat.mul_le_mul_right _ (by omega)
  have e1:loc.base+i*c.size+k - (loc.base+l.length*c.size)=(i - l.length)*c.size+k:=by rw [Nat.sub_mul]; omega
  refine ⟨?_,z,?_,hr.stab st.stab _ (.nil _)⟩
  ·rintro (g | ⟨j,lo,g1,g2,g3⟩)
   ·exact (hE _ _ g).2 ⟨id,loc,hloc,rfl,.inr (.inl ⟨_,_,hid,by omega⟩)⟩
   ·rw [get_set] at g1
    rw [get_set] at g3
    by_cases hj:id=j
    ·subst hj
     simp only [if_true,hilt,hilt'] at g1 g3
     simp only [Option.some.injEq] at g1
     subst g1
     rcases g3 with ⟨cs,e,g3⟩ | ⟨m,sz,g3,g4⟩ | ⟨sh,vs,g3⟩
     ·cases g3
     ·simp only [Option.some.injEq,O.tok.injEq] at g3
      obtain ⟨rfl,rfl⟩:=g3
      simp only at g4
      omega
     ·cases g3
    ·simp only [hj,if_false] at g1 g3
     rcases g3 with ⟨cs,e,g3⟩ | ⟨m,sz,g3,g4⟩ | ⟨sh,vs,g3⟩
     ·exact hj (hR.disj id j loc lo (live_tok hid) (live_cells g3) hloc g1 g2.symm)
     ·exact hj (hR.disj id j loc lo (live_tok hid) (live_tok g3) hloc g1 g2.symm)
     ·exact hj (hR.disj id j loc lo (live_tok hid) (live_obj g3) hloc g1 g2.symm)
  ·rw [cell_of_row _ _ _ _ e' (0,0) hheap,List.getElem?_toArray,hgetnew,if_pos (by omega),e1]
   exact hz
end
end Go.Ab

namespace Go.Ab
section
variable {P:Program} {E:Nat→Nat→Prop} {H:List O} {β:List Loc} {w:World} {X:Nat→Nat→Prop}
theorem bind_run {β γ:Type} {x:Tree β} {f:β→Tree γ} {c:γ} (h:(x.bind f).run=some c):∃ b,x.run=some b∧(f b).run=some c:=by
 induction x with
 | leaf b=>exact ⟨b,rfl,h⟩
 | fail=>cases h
 | br cd x y ihx ihy =>
  cases cd
  ·exact ihy h
  ·exact ihx h
theorem isEmpty_nil {α:Type} {l:List α} (h:l.isEmpty=true):l=[]:=by cases l <;> simp_all
theorem isEmpty_cons {α:Type} {l:List α} (h:l.isEmpty=false):0<l.length:=by cases l <;> simp_all
theorem sound_append {argTypes:Array TypeId} {ty:TypeId} {s x v:V} {sy y:Value} {H' : List O} (hE:∀ b o,E b o→b<w.heap.size∧¬ Own H β b o) (hR:Rel w (Xs E H β) H β)
  (hs:R w (Xs E H β) β s sy) (hx:R w (Xs E H β) β x y) (h:(oAppend P H argTypes s x).run=some (v,H')) :
  ∃ z w' β',(Builtin.append_ argTypes ty #[sy,y]).run P w = .ok z w' ∧ Step E H β w H' β' w' ∧ R w' (Xs E H' β') β' v z:=by
 unfold oAppend at h
 split at h
 rotate_left
 ·cases h
 rename_i st h0
 split at h
 rotate_left
 ·cases h
 rename_i i hi
 split at h
 rotate_left
 ·cases h
 rename_i e hk
 have hu:=slice_spec hi hk
 split at h
 rotate_left
 ·cases h
 rename_i j c hj hc
 cases hb:(Nat.beq c.size j.size && (Nat.blt 0 j.bytes && (Nat.beq j.zero.length j.size && appendable P argTypes)))
 ·simp [hb,Tree.run] at h
 simp only [hb,cond_true] at h
 obtain ⟨b1,hb⟩:=Bool.and_eq_true_iff.1 hb
 obtain ⟨b2,hb⟩:=Bool.and_eq_true_iff.1 hb
 obtain ⟨b3,b4⟩:=Bool.and_eq_true_iff.1 hb
 have b1:=Nat.eq_of_beq_eq_true b1
 have b2:0<j.bytes:=by simpa [Nat.blt_eq] using b2
 have b3:=Nat.eq_of_beq_eq_true b3
 have happ:AppT P argTypes e j:=by
  refine ⟨⟨st,h0,hu⟩,hj,?_,b2,b3⟩
  unfold appendable at b4
  split at b4
  ·rename_i t ht
   split at b4
   ·rename_i e' hd; exact ⟨t,_,ht,hd,.inl ⟨e',rfl⟩⟩
   ·rename_i hd; exact ⟨t,_,ht,hd,.inr rfl⟩
   ·cases b4
  ·cases b4
 split at h
 rotate_left
 ·cases h
 rename_i xs hxs
 obtain ⟨news,N⟩:=elems_R (P:=P) hR hx hxs
 have hfirst:=N.first
 rw [b1] at hfirst
 unfold grow at h
 split at h
 ·-- nil
  cases hs
  cases he:xs.isEmpty
  ·simp only [he,Tree.run,cond_false] at h
   obtain ⟨hroom,h⟩:=req_run h
   simp only [Tree.run,Option.some.injEq,Prod.mk.injEq] at h
   obtain ⟨rfl,rfl⟩:=h
   have hpos:=isEmpty_cons he
   obtain ⟨rest,hrest,hrun⟩:=run_append_out (ty:=ty) happ (olds:=[]) (base:=none) (sLen:=0) (sCap:=0) (N.lenOf w) (hfirst w.drew rfl) (by rfl) (by omega) (by rw [Nat.zero_add]; exact roomy_spec hroom)
   rw [Nat.zero_add] at hrest hrun
   have hge:=grownCap_ge w xs.length 0 e
   obtain ⟨β',st,hr⟩:=new_gro (ll:=xs) (row:=news) (rest:=rest) (e:=e) (cap:=grownCap w xs.length 0 e) hE hR N.len hge (by rw [hrest,b1]) N.get
   exact ⟨_,_,β',by simpa using hrun,st,hr⟩
  ·simp only [he,Tree.run,cond_true,Option.some.injEq,Prod.mk.injEq] at h
   obtain ⟨rfl,rfl⟩:=h
   have:=isEmpty_nil he
   subst this
   exact ⟨_,w,β,run_append_in (w' := w) happ (n:=0) (N.lenOf w) (hfirst w rfl) (by omega) (fun a h=>by cases h) (fun _=>rfl),Step.refl hR,.val _ _⟩
 ·-- a fixed one
  rename_i d l spare fl
  split at h
  rotate_left
  ·cases h
  rename_i l' hl'
  obtain ⟨e',rfl⟩:=sameL_spec hl'
  subst e'
  simp only [castL] at h ⊢
  rcases sl_get hs with ⟨rfl,rfl,rfl,rfl⟩ | ⟨b,o,cap,rfl,hcap,hfull,_,hh⟩
  ·cases he:xs.isEmpty
   ·simp [he,Tree.run] at h
   ·simp only [he,Tree.run,cond_true,Option.some.injEq,Prod.mk.injEq] at h
    obtain ⟨rfl,rfl⟩:=h
    have:=isEmpty_nil he
    subst this
    exact ⟨_,w,β,run_append_in (w' := w) happ (n:=0) (N.lenOf w) (hfirst w rfl) (by omega) (fun a h=>by cases h) (fun _=>rfl),Step.refl hR,.nil _ _⟩
  cases he:xs.isEmpty
  ·simp only [he,Tree.run,cond_false] at h
   split at h
   ·obtain ⟨hroom,h⟩:=req_run h
    simp only [Tree.run,Option.some.injEq,Prod.mk.injEq] at h
    obtain ⟨rfl,rfl⟩:=h
    have hpos:=isEmpty_cons he
    have hc0:=hfull rfl
    simp only [List.length_nil,Nat.add_zero] at hc0
    subst hc0
    obtain ⟨olds,o1,o2,o3,o4⟩:=row_cells (P:=P) (w:=w) (X:=Xs E H β) (l:=l) (b:=b) (o:=o) (fun i x k v g1 g2=>(hh i x k v (by
     have:i<l.length:=(List.getElem?_eq_some_iff.1 g1).1
     rw [List.getElem?_append_left this]; exact g1) g2).2)
    obtain ⟨rest,hrest,hrun⟩:=run_append_out (ty:=ty) happ (olds:=olds) (base:=some ⟨b,o,none⟩) (sLen:=l.length) (sCap:=l.length) (N.lenOf w) (hfirst w.drew rfl)
     (by rw [← b1]; exact o4 w.drew rfl) (by omega) (roomy_spec hroom)
    have hge:=grownCap_ge w (l.length+xs.length) l.length e
    obtain ⟨β',st,hr⟩:=new_gro (ll:=l++xs) (row:=olds++news) (rest:=rest) (e:=e) (cap:=grownCap w (l.length+xs.length) l.length e) hE hR
     (by simp [o1,N.len,Nat.add_mul]) (by simpa using hge) (by rw [hrest,b1]; simp) (join_cells o1 o3 N.get)
    rw [List.length_append] at st hr
    exact ⟨_,_,β',hrun,st,hr⟩
   ·cases h
  ·simp only [he,Tree.run,cond_true,Option.some.injEq,Prod.mk.injEq] at h
   obtain ⟨rfl,rfl⟩:=h
   have:=isEmpty_nil he
   subst this
   have hn:news=[]:=List.length_eq_zero_iff.1 (by simpa using N.len)
   subst hn
   exact ⟨_,w,β,run_append_in (w' := w) happ (n:=0) (N.lenOf w) (hfirst w rfl) (by omega) (fun a h=>by simp [storeCells]) (fun h=>by cases h),Step.refl hR,by simpa using hs⟩
 ·-- one that grows
  rename_i id d l
  split at h
  ·rename_i l' n sz hl' hH
   obtain ⟨e',rfl⟩:=sameL_spec hl'
   subst e'
   simp only [castL] at h ⊢
   cases hb:Nat.beq sz d.size
   ·simp [hb,Tree.run] at h
   simp only [hb,cond_true] at h
   have hb:=Nat.eq_of_beq_eq_true hb
   subst hb
   obtain ⟨hroom,h⟩:=req_run h
   simp only [Tree.run,Option.some.injEq,Prod.mk.injEq] at h
   obtain ⟨rfl,rfl⟩:=h
   obtain ⟨hn,hroom2⟩:=Bool.and_eq_true_iff.1 hroom
   have hn:=of_decide_eq_true hn
   subst hn
   have hs' := hs
   obtain ⟨b,o,cap,loc,rfl,hloc,hkind,hln,hl,hcap,hh⟩:=gro_get hs
   cases he:xs.isEmpty
   ·have hpos:=isEmpty_cons he
    by_cases hin:l.length+xs.length≤cap
    ·obtain ⟨w',β',g1,g2,g3⟩:=in_gro (P:=P) hE hR hs' hH hpos hin N.len N.one N.get
     rw [List.length_append] at g2 g3
     exact ⟨_,w',β',run_append_in (w' := w') happ (N.lenOf w) (hfirst w rfl) hin (fun a h=>by cases h; rw [← b1]; exact g1) (fun h=>by cases h),g2,g3⟩
    ·obtain ⟨olds,o1,o2,o3,o4⟩:=row_cells (P:=P) (w:=w) (X:=Xs E H β) (l:=l) (b:=b) (o:=o) (fun i x k v g1 g2=>(hh i x k v g1 g2).2)
     obtain ⟨rest,hrest,hrun⟩:=run_append_out (ty:=ty) happ (olds:=olds) (base:=some ⟨b,o,none⟩) (sLen:=l.length) (sCap:=cap) (N.lenOf w) (hfirst w.drew rfl)
      (by rw [← b1]; exact o4 w.drew rfl) (by omega) (roomy_spec hroom2)
     have hge:=grownCap_ge w (l.length+xs.length) cap e
     obtain ⟨β',st,hr⟩:=move_gro (ll:=l++xs) (row:=olds++news) (rest:=rest) (e:=e) (cap:=grownCap w (l.length+xs.length) cap e) hE hR hH hloc (by simp; omega)
      (by simp [o1,N.len,Nat.add_mul]) (by simpa using hge) (by rw [hrest,b1]; simp) (join_cells o1 o3 N.get)
     rw [List.length_append] at st hr
     exact ⟨_,_,β',hrun,st,hr⟩
   ·have:=isEmpty_nil he
    subst this
    have hnw:news=[]:=List.length_eq_zero_iff.1 (by simpa using N.len)
    subst hnw
    have hset:H.set id (.tok (l.length+([]:List d.ty).length) d.size)=H:=by
     apply List.ext_getElem?
     intro k
     rw [get_set]
     split
     ·subst_vars
      have:=(List.getElem?_eq_some_iff.1 hH).1
      simp only [this,if_true,List.length_nil,Nat.add_zero]
      exact hH.symm
     ·rfl
    rw [hset]
    refine ⟨_,w,β,run_append_in (w' := w) happ (n:=0) (N.lenOf w) (hfirst w rfl) (by omega) (fun a h=>by simp [storeCells]) (fun h=>by cases h),Step.refl hR,?_⟩
    rw [List.append_nil]
    simpa using hs'
  ·cases h
 ·cases h
theorem fresh_sl {c:EC} {l:List c.ty} {arr:Array Value} {e:TypeId} {fl:Fl} {cap len:Nat} (hE:∀ b o,E b o→b<w.heap.size∧¬ Own H β b o) (hR:Rel w (Xs E H β) H β)
  (hlen:len=l.length) (hcap:l.length≤cap) (hfull:fl = .full→cap=l.length)
  (h:∀ (i:Nat) x (k:Nat) v,l[i]? = some x→(enc c x)[k]? = some v → ∃ z,arr[i*c.size+k]? = some z∧R w (Xs E H β) [] v z) :
  Step E H β w H β (w.alloc (.cells arr e))∧R (w.alloc (.cells arr e)) (Xs E H β) β (.sl c l [] fl) (.slice (some ⟨w.heap.size,0,none⟩) len cap):=by
 have st:=Step.alloc hR (.cells arr e)
 refine ⟨st,mk_sl hlen (by simpa using hcap) (by simpa using hfull) (fun _=>⟨arr,e,heap_alloc_new w _⟩) ?_⟩
 intro i x k v hx hv
 rw [List.append_nil] at hx
 obtain ⟨z,hz,hr⟩:=h i x k v hx hv
 refine ⟨?_,z,?_,hr.stab st.stab _ (.nil _)⟩
 ·rintro (g | g)
  ·exact absurd (hE _ _ g).1 (Nat.lt_irrefl _)
  ·exact absurd (own_lt hR g) (Nat.lt_irrefl _)
 ·rw [World.cell?_alloc_new]
  simpa using hz
theorem getElem?_dead {id j:Nat} {ob:O} (h:(H.set id .dead)[j]? = some ob) (hd:ob ≠ .dead):H[j]? = some ob∧id ≠ j:=by
 rw [get_set] at h
 split at h
 ·split at h
  ·cases h; exact absurd rfl hd
  ·cases h
 ·exact ⟨h,by assumption⟩
theorem Step.regrow (hR:Rel w (Xs E H β) H β) {id:Nat} {cs cs' : List V} {e e0:TypeId} {loc:Loc} {c c' : Array Value}
  (hid:H[id]? = some (.cells cs e)) (hloc:β[id]? = some loc) (hb:w.heap[loc.block]? = some (.cells c e0 (0,0))) (hsz:c'.size=c.size)
  (hl:loc.base+cs'.length≤loc.size) (hv:∀ (k:Nat) v,cs'[k]? = some v → ∃ x,c'[loc.base+k]? = some x∧R w (Xs E H β) β v x) :
  Step E H β w (H.set id .dead++[.cells cs' 0]) (β++[loc]) (w.setRow loc.block c'):=by
 obtain ⟨hk0,c0,e1,hb0,hs0,_,_⟩:=hR.cells id cs e loc hid hloc
 rw [hb] at hb0
 cases hb0
 have hne:∀ b,b ≠ loc.block→(w.setRow loc.block c').heap[b]? = w.heap[b]? := fun b h=>setRow_other w _ _ _ h
 have hsame:(w.setRow loc.block c').heap[loc.block]? = some (.cells c' e0 (0,0)):=setRow_heap w _ c c' e0 (0,0) hb
 have hself:∀ o,Own H β loc.block o:=fun o=>⟨id,loc,hloc,rfl,.inl ⟨cs,e,hid⟩⟩
 have hlen:(H.set id O.dead).length=β.length:=by rw [List.length_set]; exact hR.len
 have getO:∀ {j ob},(H.set id O.dead++[O.cells cs' 0])[j]? = some ob→ob ≠ .dead→(H[j]? = some ob∧id ≠ j∧j<β.length)∨(j=β.length∧ob = .cells cs' 0):=by
  intro j ob h hd
  rw [getElem?_concat] at h
  split at h
  ·rename_i hlt
   obtain ⟨g1,g2⟩:=getElem?_dead h hd
   exact .inl ⟨g1,g2,by omega⟩
  ·split at h
   ·rename_i hj
    cases h
    exact .inr ⟨by omega,rfl⟩
   ·cases h
 have getL:∀ {j l},(β++[loc])[j]? = some l→(j<β.length∧β[j]? = some l)∨(j=β.length∧l=loc):=by
  intro j l h
  rw [getElem?_concat] at h
  split at h
  ·exact .inl ⟨by assumption,h⟩
  ·split at h
   ·cases h; exact .inr ⟨by assumption,rfl⟩
   ·cases h
 have hown:∀ b o,Own (H.set id .dead++[.cells cs' 0]) (β++[loc]) b o→Own H β b o:=by
  rintro b o ⟨j,l,h1,rfl,h2⟩
  have key:∀ ob,(H.set id O.dead++[O.cells cs' 0])[j]? = some ob→ob ≠ .dead→(H[j]? = some ob∧β[j]? = some l)∨l=loc:=by
   intro ob hob hd
   rcases getO hob hd with ⟨g1,g2,g3⟩ | ⟨g1,g2⟩
   ·rcases getL h1 with ⟨_,g⟩ | ⟨g,_⟩
    ·exact .inl ⟨g1,g⟩
    ·omega
   ·rcases getL h1 with ⟨g,_⟩ | ⟨_,g⟩
    ·omega
    ·exact .inr g
  rcases h2 with ⟨cs2,e2,h2⟩ | ⟨n2,sz2,h2,h3⟩ | ⟨sh2,vs2,h2⟩
  ·rcases key _ h2 (by simp) with ⟨g1,g2⟩ | rfl
   ·exact ⟨j,l,g2,rfl,.inl ⟨_,_,g1⟩⟩
   ·exact hself o
  ·rcases key _ h2 (by simp) with ⟨g1,g2⟩ | rfl
   ·exact ⟨j,l,g2,rfl,.inr (.inl ⟨_,_,g1,h3⟩)⟩
   ·exact hself o
  ·rcases key _ h2 (by simp) with ⟨g1,g2⟩ | rfl
   ·exact ⟨j,l,g2,rfl,.inr (.inr ⟨_,_,g1⟩)⟩
   ·exact hself o
 have hle:LocLe β (β++[loc]):=fun j l h=>⟨l,by
  have:j<β.length:=(List.getElem?_eq_some_iff.1 h).1
  rw [List.getElem?_append_left this]; exact h,.inl rfl⟩
 have st:Stab w (Xs E H β) (w.setRow loc.block c') (Xs E (H.set id .dead++[.cells cs' 0]) (β++[loc])):=by
  refine ⟨fun b o v hx hv=>?_,fun b cs e h=>?_⟩
  ·have hbb:b ≠ loc.block:=fun h=>hx (.inr (h ▸ hself o))
   refine ⟨fun h=>hx ?_,by rw [cell_heap (hne b hbb)]; exact hv⟩
   exact h.imp _root_.id (hown b o)
  ·by_cases hbb:b=loc.block
   ·subst hbb; exact ⟨c',e0,hsame⟩
   ·exact ⟨cs,e,by rw [hne b hbb]; exact h⟩
 have oth:∀ {j l ob},H[j]? = some ob→ob ≠ .dead→id ≠ j→β[j]? = some l→l.block ≠ loc.block:=by
  intro j l ob h1 h2 h3 h4 h5
  exact h3 (hR.disj id j loc l (live_cells hid) ⟨ob,h1,h2⟩ hloc h4 h5.symm)
 refine ⟨⟨by simp [hR.len],fun j cs1 e1 l g1 g2=>?_,fun j n sz l g1 g2=>?_,fun j sh vs l g1 g2=>?_,fun i j l l' hi hj g1 g2 hb=>?_⟩,
  rfl,rfl,rfl,by simp,fun b hb' => ?_,fun b o h=>.inl (hown b o h),hle⟩
 ·rcases getO g1 (by simp) with ⟨h1,h2,h3⟩ | ⟨h1,h2⟩
  ·rcases getL g2 with ⟨_,g2⟩ | ⟨g,_⟩
   ·obtain ⟨k,c2,e2,a1,a2,a3,a4⟩:=hR.cells j cs1 e1 l h1 g2
    exact ⟨k,c2,e2,by rw [hne _ (oth h1 (by simp) h2 g2)]; exact a1,a2,a3,fun k v hv=>let ⟨x,hx,hr⟩:=a4 k v hv; ⟨x,hx,hr.stab st _ hle⟩⟩
   ·omega
  ·rcases getL g2 with ⟨g,_⟩ | ⟨_,g2⟩
   ·omega
   ·cases h2
    subst g2
    exact ⟨hk0,c',e0,hsame,by omega,⟨hl,fun h=>by simp at h⟩,fun k v hv' => let ⟨x,hx,hr⟩:=hv k v hv'; ⟨x,hx,hr.stab st _ hle⟩⟩
 ·rcases getO g1 (by simp) with ⟨h1,h2,h3⟩ | ⟨h1,h2⟩
  ·rcases getL g2 with ⟨_,g2⟩ | ⟨g,_⟩
   ·obtain ⟨k,m,c2,e2,a1,a2⟩:=hR.tok j n sz l h1 g2
    exact ⟨k,m,c2,e2,by rw [hne _ (oth h1 (by simp) h2 g2)]; exact a1,a2⟩
   ·omega
  ·cases h2
 ·rcases getO g1 (by simp) with ⟨h1,h2,h3⟩ | ⟨h1,h2⟩
  ·rcases getL g2 with ⟨_,g2⟩ | ⟨g,_⟩
   ·obtain ⟨k,kb,ob,xs,a1,a2,a3⟩:=hR.objs j sh vs l h1 g2
    exact ⟨k,kb,ob,xs,by rw [hne _ (oth h1 (by simp) h2 g2)]; exact a1,a2,fun k v hv=>let ⟨x,hx,hr⟩:=a3 k v hv; ⟨x,hx,hr.stab st _ hle⟩⟩
   ·omega
  ·cases h2
 ·have cl:∀ {i l},live (H.set id .dead++[.cells cs' 0]) i→(β++[loc])[i]? = some l→(live H i∧id ≠ i∧β[i]? = some l)∨(i=β.length∧l=loc):=by
   rintro i l ⟨o,g1,g2⟩ g3
   rcases getO g1 g2 with ⟨h1,h2,h3⟩ | ⟨h1,h2⟩
   ·rcases getL g3 with ⟨_,g3⟩ | ⟨g,_⟩
    ·exact .inl ⟨⟨o,h1,g2⟩,h2,g3⟩
    ·omega
   ·rcases getL g3 with ⟨g,_⟩ | ⟨_,g3⟩
    ·omega
    ·exact .inr ⟨h1,g3⟩
  rcases cl hi g1 with ⟨a1,a2,a3⟩ | ⟨a1,a2⟩ <;> rcases cl hj g2 with ⟨b1,b2,b3⟩ | ⟨b1,b2⟩
  ·exact hR.disj i j l l' a1 b1 a3 b3 hb
  ·exact absurd (hR.disj id i loc l (live_cells hid) a1 hloc a3 (by rw [hb,b2])) a2
  ·exact absurd (hR.disj id j loc l' (live_cells hid) b1 hloc b3 (by rw [← hb,a2])) b2
  ·omega
 ·by_cases hbb:b=loc.block
  ·subst hbb
   exact .inr (.inl ⟨⟨0,hself 0⟩,c,c',e0,hb,hsame,hsz,fun o ho=>absurd (hself o) ho⟩)
  ·exact .inl (hne b hbb)
theorem Step.close (hR:Rel w (Xs E H β) H β) (id:Nat):Step E H β w (H.set id .dead) β w:=by
 have own:∀ {b o},Own (H.set id .dead) β b o→Own H β b o:=by
  rintro b o ⟨j,l,h1,h2,h3⟩
  refine ⟨j,l,h1,h2,?_⟩
  rcases h3 with ⟨cs,e,h3⟩ | ⟨m,sz,h3,h4⟩ | ⟨sh,vs,h3⟩
  ·exact .inl ⟨cs,e,(getElem?_dead h3 (by simp)).1⟩
  ·exact .inr (.inl ⟨m,sz,(getElem?_dead h3 (by simp)).1,h4⟩)
  ·exact .inr (.inr ⟨sh,vs,(getElem?_dead h3 (by simp)).1⟩)
 have st:Stab w (Xs E H β) w (Xs E (H.set id .dead) β):=⟨fun b o v hx hv=>⟨fun h=>hx (h.imp _root_.id own),hv⟩,fun b cs e h=>⟨cs,e,h⟩⟩
 refine ⟨⟨by rw [List.length_set]; exact hR.len,fun j cs e loc h1 h2=>?_,fun j m sz loc h1 h2=>hR.tok j m sz loc (getElem?_dead h1 (by simp)).1 h2,fun j sh vs loc h1 h2=>?_,fun i j l l' h1 h2 h3 h4 h5=>?_⟩,rfl,rfl,rfl,Nat.le_refl _,fun _ _=>.inl rfl,
  fun b o h=>.inl (own h),.refl _⟩
 ·obtain ⟨a1,c,e',a2,a3,a4,a5⟩:=hR.cells j cs e loc (getElem?_dead h1 (by simp)).1 h2
  exact ⟨a1,c,e',a2,a3,a4,fun k v hv=>let ⟨x,hx,hr⟩:=a5 k v hv; ⟨x,hx,hr.stab st β (.refl _)⟩⟩
 ·obtain ⟨a1,a2,ob,xs,a3,a4,a5⟩:=hR.objs j sh vs loc (getElem?_dead h1 (by simp)).1 h2
  exact ⟨a1,a2,ob,xs,a3,a4,fun k v hv=>let ⟨x,hx,hr⟩:=a5 k v hv; ⟨x,hx,hr.stab st β (.refl _)⟩⟩
 ·obtain ⟨o1,g1,g2⟩:=h1
  obtain ⟨o2,g3,g4⟩:=h2
  exact hR.disj i j l l' ⟨o1,(getElem?_dead g1 g2).1,g2⟩ ⟨o2,(getElem?_dead g3 g4).1,g4⟩ h3 h4 h5
theorem refCells_R {x:V} {y:Value} {sz n:Nat} {news:List V} (hR:Rel w (Xs E H β) H β) (hx:R w (Xs E H β) β x y) (h:refCells H x=some (sz,n,news)) (h0:0<n) (hone:allOne news=true) :
  ∃ ns:List Value,ns.length=n*sz∧news.length=n*sz∧(∀ z ∈ ns,z.oneCell' = true)∧(∀ (k:Nat) v z,news[k]? = some v→ns[k]? = some z→R w (Xs E H β) β v z)∧(∀ w' : World,(Builtin.lenOf y).run P w' = .ok n w') ∧
   ∀ w' : World,w'.heap=w.heap→(Builtin.firstCells sz n y).run P w' = .ok ns.toArray w' := by
 unfold refCells at h
 split at h
 rotate_left
 ·rename_i k l sp fl
  simp only [Option.some.injEq,Prod.mk.injEq] at h
  obtain ⟨rfl,rfl,rfl⟩:=h
  have he:elemsOf (.int k) H (.sl (.int k) l sp fl)=some l:=by
   simp only [elemsOf,sameL,EC.same]
   simp
   rfl
  obtain ⟨ns,N⟩:=elems_R (P:=P) hR hx he
  have hnl:ns.length=l.length*1:=N.len
  refine ⟨ns,hnl,(List.length_map _).trans (Nat.mul_one _).symm,N.one,fun q v z h1 h2=>?_,N.lenOf,fun w' hw=>N.first w' hw⟩
  have h1:Option.map (V.int k) ((l:List Int)[q]?)=some v:=(List.getElem?_map (f:=V.int k) (l:=(l:List Int)) (i:=q)).symm.trans h1
  obtain ⟨a,ha,rfl⟩:=Option.map_eq_some_iff.1 h1
  obtain ⟨z',hz,hr⟩:=N.get q a 0 (.int k a) ha rfl
  have hz:ns[q]? = some z' := by
   have e:q*(EC.int k).size+0=q:=by show q*1+0=q; omega
   rw [e] at hz
   exact hz
  rw [h2] at hz
  cases hz
  cases hr
  exact .int _ _ _
 ·cases h
 rename_i id sz' off len
 split at h
 rotate_left
 ·cases h
 rename_i cs e hH
 cases hb:Nat.ble (off+len*sz') cs.length
 ·rw [hb] at h; cases h
 rw [hb,cond_true] at h
 simp only [Option.some.injEq,Prod.mk.injEq] at h
 obtain ⟨rfl,rfl,rfl⟩:=h
 have hb:=Nat.le_of_ble_eq_true hb
 cases hx with
 | ref _ _ _ _ _ loc b o cap hid hk hlen ha hcap =>
 obtain ⟨rfl,rfl⟩:=ha (by omega)
 obtain ⟨_,arr,e',a1,a2,a3,a4⟩:=hR.cells id cs e loc hH hid
 let f:Nat→Value:=fun k=>(arr[loc.base+off+k]?).getD undef
 have hf:∀ k,k<len*sz' → ∃ v x,((cs.drop off).take (len*sz'))[k]? = some v∧arr[loc.base+off+k]? = some x∧f k=x∧R w (Xs E H β) β v x:=by
  intro k hk
  have hkc:off+k<cs.length:=by omega
  obtain ⟨x,hx,hr⟩:=a4 (off+k) cs[off+k] (by simp [hkc])
  refine ⟨cs[off+k],x,?_,by rw [Nat.add_assoc]; exact hx,?_,hr⟩
  ·rw [List.getElem?_take,if_pos hk,List.getElem?_drop,List.getElem?_eq_getElem hkc]
  ·show (arr[loc.base+off+k]?).getD undef=x
   rw [Nat.add_assoc,hx]
   rfl
 have hnl:((cs.drop off).take (len*sz')).length=len*sz' := by simp; omega
 refine ⟨(List.range (len*sz')).map f,by simp,hnl,fun z hz=>?_,fun k v z h1 h2=>?_,fun w' => rfl,fun w' hw=>?_⟩
 ·obtain ⟨k,hk,rfl⟩:=List.mem_map.1 hz
  obtain ⟨v,x,g1,g2,g3,g4⟩:=hf k (List.mem_range.1 hk)
  rw [g3]
  exact one_spec g4 (allOne_spec hone v (List.mem_of_getElem? g1))
 ·have hk:k<len*sz' := by rw [← hnl]; exact (List.getElem?_eq_some_iff.1 h1).1
  obtain ⟨v',x,g1,g2,g3,g4⟩:=hf k hk
  rw [h1] at g1
  cases g1
  rw [List.getElem?_map,List.getElem?_range hk] at h2
  simp only [Option.map_some,Option.some.injEq] at h2
  rw [← h2,g3]
  exact g4
 ·have hcell:∀ j,j<len*sz' → w'.cell? ((⟨loc.block,loc.base+off,none⟩:Addr).add j)=some (f j):=by
   intro j hj
   obtain ⟨v,x,g1,g2,g3,g4⟩:=hf j hj
   rw [addr_add,cell_of_row w' _ _ arr e' (0,0) (by rw [hw]; exact a1),g2,g3]
  have:=run_loadCells (P:=P) w' ⟨loc.block,loc.base+off,none⟩ (len*sz') f hcell
  show (loadCells ⟨loc.block,loc.base+off,none⟩ (len*sz')).run P w' = _
  rw [this]
theorem push_ref {cs' : List V} {row rest:List Value} {e:TypeId} (hR:Rel w (Xs E H β) H β) (hlen:row.length=cs'.length) (h:∀ (k:Nat) v z,cs'[k]? = some v→row[k]? = some z→R w (Xs E H β) β v z) :
  Step E H β w (H++[.cells cs' 0]) (β++[{ kind:=false,block:=w.heap.size,base:=0,n:=0,size:=row.length+rest.length }]) (w.alloc (.cells (row++rest).toArray e)):=by
 refine Step.push hR (row++rest).toArray e (.cells cs' 0) _ rfl (by simp) (fun cs e' h' => ?_) (fun n sz h=>by cases h)
 simp only [O.cells.injEq] at h'
 obtain ⟨rfl,rfl⟩:=h'
 refine ⟨rfl,⟨by simp; omega,fun h=>by simp at h⟩,fun q v hv=>?_⟩
 have hq:q<row.length:=by rw [hlen]; exact (List.getElem?_eq_some_iff.1 hv).1
 exact ⟨row[q],by rw [List.getElem?_toArray,Nat.zero_add,List.getElem?_append_left hq]; simp [hq],h q v _ hv (by simp [hq])⟩
theorem sound_appendR {argTypes:Array TypeId} {ty:TypeId} {s x v:V} {sy y:Value} {H' : List O} (hR:Rel w (Xs E H β) H β)
  (hs:R w (Xs E H β) β s sy) (hx:R w (Xs E H β) β x y) (h:oAppendR P H argTypes s x=some (v,H')) :
  ∃ z w' β',(Builtin.append_ argTypes ty #[sy,y]).run P w = .ok z w' ∧ Step E H β w H' β' w' ∧ R w' (Xs E H' β') β' v z:=by
 unfold oAppendR at h
 split at h
 rotate_left
 ·cases h
 rename_i st h0
 split at h
 rotate_left
 ·cases h
 rename_i i hi
 split at h
 rotate_left
 ·cases h
 rename_i e hk
 have hu:=slice_spec hi hk
 split at h
 rotate_left
 ·cases h
 rename_i j sz n news hj hnews
 cases hb:(Nat.beq sz j.size && (Nat.blt 0 n && (allOne news && (Nat.blt 0 j.bytes && (Nat.beq j.zero.length j.size && appendable P argTypes)))))
 ·rw [hb] at h; cases h
 rw [hb,cond_true] at h
 obtain ⟨b1,hb⟩:=Bool.and_eq_true_iff.1 hb
 obtain ⟨bn,hb⟩:=Bool.and_eq_true_iff.1 hb
 obtain ⟨bo,hb⟩:=Bool.and_eq_true_iff.1 hb
 obtain ⟨b2,hb⟩:=Bool.and_eq_true_iff.1 hb
 obtain ⟨b3,b4⟩:=Bool.and_eq_true_iff.1 hb
 have b1:=Nat.eq_of_beq_eq_true b1
 have bn:0<n:=by simpa [Nat.blt_eq] using bn
 have b2:0<j.bytes:=by simpa [Nat.blt_eq] using b2
 have b3:=Nat.eq_of_beq_eq_true b3
 subst b1
 have happ:AppT P argTypes e j:=by
  refine ⟨⟨st,h0,hu⟩,hj,?_,b2,b3⟩
  unfold appendable at b4
  split at b4
  ·rename_i t ht
   split at b4
   ·rename_i e' hd; exact ⟨t,_,ht,hd,.inl ⟨e',rfl⟩⟩
   ·rename_i hd; exact ⟨t,_,ht,hd,.inr rfl⟩
   ·cases b4
  ·cases b4
 obtain ⟨ns,n1,n2,n3,n4,n5,n6⟩:=refCells_R (P:=P) hR hx hnews bn bo
 split at h
 ·-- nil
  cases hs
  cases hr:roomy n j.bytes
  ·rw [hr] at h; cases h
  rw [hr,cond_true] at h
  simp only [Option.some.injEq,Prod.mk.injEq] at h
  obtain ⟨rfl,rfl⟩:=h
  obtain ⟨rest,hrest,hrun⟩:=run_append_out (ty:=ty) happ (olds:=[]) (base:=none) (sLen:=0) (sCap:=0) (n5 w) (n6 w.drew rfl) (by rfl) (by omega) (by rw [Nat.zero_add]; exact roomy_spec hr)
  rw [Nat.zero_add] at hrest hrun
  have hge:=grownCap_ge w n 0 e
  have hd:=Step.drew hR
  have hp:=push_ref (rest:=rest) (e:=e) hd.rel (cs' := news) (row:=ns) (by omega) (fun k v z a b=>hd.keepR (n4 k v z a b))
  refine ⟨_,_,_,by simpa using hrun,hd.trans hp,?_⟩
  refine .ref _ H.length j.size 0 n { kind:=false,block:=w.drew.heap.size,base:=0,n:=0,size:=ns.length+rest.length } w.heap.size 0 (grownCap w n 0 e) (by rw [hR.len]; simp) rfl hge (fun _=>⟨rfl,rfl⟩) ?_
  simp only [Nat.zero_add,n1,hrest,← Nat.add_mul]
  rw [show n+(grownCap w n 0 e - n)=grownCap w n 0 e by omega]
  exact Nat.le_refl _
 ·rename_i id sz' len
  split at h
  rotate_left
  ·cases h
  rename_i cs e1 hH
  cases hr:(Nat.beq sz' j.size && (Nat.ble (len*j.size) cs.length && roomy (len+n) j.bytes))
  ·rw [hr] at h; cases h
  rw [hr,cond_true] at h
  simp only [Option.some.injEq,Prod.mk.injEq] at h
  obtain ⟨rfl,rfl⟩:=h
  obtain ⟨c1,hr⟩:=Bool.and_eq_true_iff.1 hr
  obtain ⟨c2,c3⟩:=Bool.and_eq_true_iff.1 hr
  have c1:=Nat.eq_of_beq_eq_true c1
  have c2:=Nat.le_of_ble_eq_true c2
  subst c1
  have hs' := hs
  cases hs with
  | ref _ _ _ _ _ loc b o cap hid hkd hlen ha hcap =>
  obtain ⟨_,arr,e',a1,a2,a3,a4⟩:=hR.cells id cs e1 loc hH hid
  by_cases hin:len+n≤cap
  ·-- in its own room
   obtain ⟨rfl,rfl⟩:=ha (by omega)
   have hm:(len+n)*j.size≤cap*j.size:=Nat.mul_le_mul_right _ hin
   rw [Nat.add_mul] at hm
   have hroom:loc.base+len*j.size+ns.length≤arr.size:=by omega
   have hst:=run_storeCells_at P loc.block (loc.base+len*j.size) e' ns 0 arr w a1 (by simpa using hroom) n3
   simp only [Nat.add_zero] at hst
   have hget:∀ q,(arr.toList.take (loc.base+len*j.size)++ns++arr.toList.drop (loc.base+len*j.size+ns.length))[q]? =
     if loc.base+len*j.size≤q∧q<loc.base+len*j.size+ns.length then ns[q - (loc.base+len*j.size)]? else arr.toList[q]? := splice_get _ _ _ (by simpa using hroom)
   have st:=Step.regrow hR (cs' := cs.take (len*j.size)++news) hH hid a1 (c' := (arr.toList.take (loc.base+len*j.size)++ns++arr.toList.drop (loc.base+len*j.size+ns.length)).toArray) (by simp; omega)
    (by simp; omega) (fun k v hv=>by
     have ht:(cs.take (len*j.size)).length=len*j.size:=by simp; omega
     rw [List.getElem?_toArray,hget]
     by_cases hk:k<len*j.size
     ·rw [List.getElem?_append_left (by omega),List.getElem?_take,if_pos hk] at hv
      obtain ⟨z,hz,hz'⟩:=a4 k v hv
      exact ⟨z,by rw [if_neg (by omega)]; simpa using hz,hz'⟩
     ·rw [List.getElem?_append_right (by omega),ht] at hv
      have hk2:k - len*j.size<ns.length:=by
       have:=(List.getElem?_eq_some_iff.1 hv).1
       omega
      refine ⟨ns[k - len*j.size],?_,n4 _ v _ hv (by simp [hk2])⟩
      rw [if_pos (by omega),show loc.base+k - (loc.base+len*j.size)=k - len*j.size by omega]
      simp [hk2])
   refine ⟨_,_,_,run_append_in (w' := w.setRow loc.block _) happ (n5 w) (n6 w rfl) hin (fun a h=>by cases h; rw [addr_add]; exact hst) (fun h=>by cases h),st,?_⟩
   refine .ref _ H.length j.size 0 (len+n) loc loc.block (loc.base+0) cap (by rw [hR.len]; simp) hkd hin (fun _=>⟨rfl,rfl⟩) hcap
  ·-- in a new block
   let f:Nat→Value:=fun k=>(arr[loc.base+k]?).getD undef
   have hf:∀ k,k<len*j.size → ∃ x,arr[loc.base+k]? = some x∧f k=x ∧ ∀ v,cs[k]? = some v→R w (Xs E H β) β v x:=by
    intro k hk
    have hkc:k<cs.length:=by omega
    obtain ⟨x,hx,hr⟩:=a4 k cs[k] (by simp [hkc])
    refine ⟨x,hx,?_,fun v hv=>?_⟩
    ·show (arr[loc.base+k]?).getD undef=x
     rw [hx]; rfl
    ·rw [List.getElem?_eq_getElem hkc] at hv
     cases hv
     exact hr
   have hold:(Builtin.firstCells j.size len (.slice (some ⟨b,o,none⟩) len cap)).run P w.drew = .ok ((List.range (len*j.size)).map f).toArray w.drew:=by
    show (loadCells ⟨b,o,none⟩ (len*j.size)).run P w.drew=_
    by_cases hl0:0<cap
    ·obtain ⟨rfl,rfl⟩:=ha hl0
     have:=run_loadCells (P:=P) w.drew ⟨loc.block,loc.base+0,none⟩ (len*j.size) f (fun q hq=>by
      obtain ⟨x,g1,g2,_⟩:=hf q hq
      rw [addr_add,Nat.add_zero,cell_of_row w.drew _ _ arr e' (0,0) a1,g1,g2])
     rw [this]
    ·have:len=0:=by omega
     subst this
     simp [loadCells,loadCellsFrom]
   obtain ⟨rest,hrest,hrun⟩:=run_append_out (ty:=ty) happ (olds:=(List.range (len*j.size)).map f) (base:=some ⟨b,o,none⟩) (sLen:=len) (sCap:=cap) (n5 w) (n6 w.drew rfl) hold (by omega) (roomy_spec c3)
   have hge:=grownCap_ge w (len+n) cap e
   have hd:=Step.drew hR
   have hc:=Step.close hd.rel id
   have hp:=push_ref (rest:=rest) (e:=e) hc.rel (cs' := cs.take (len*j.size)++news) (row:=(List.range (len*j.size)).map f++ns) (by simp; omega) (fun k v z p q=>by
    refine (hd.trans hc).keepR ?_
    have ht:(cs.take (len*j.size)).length=len*j.size:=by simp; omega
    by_cases hk:k<len*j.size
    ·rw [List.getElem?_append_left (by omega),List.getElem?_take,if_pos hk] at p
     rw [List.getElem?_append_left (by simp; omega),List.getElem?_map,List.getElem?_range hk] at q
     simp only [Option.map_some,Option.some.injEq] at q
     obtain ⟨x,_,g2,g3⟩:=hf k hk
     rw [← q,g2]
     exact g3 v p
    ·rw [List.getElem?_append_right (by omega),ht] at p
     rw [List.getElem?_append_right (by simp; omega)] at q
     simp only [List.length_map,List.length_range] at q
     exact n4 _ v z p q)
   refine ⟨_,_,_,hrun,(hd.trans hc).trans hp,?_⟩
   refine .ref _ H.length j.size 0 (len+n) { kind:=false,block:=w.drew.heap.size,base:=0,n:=0,size:=((List.range (len*j.size)).map f++ns).length+rest.length } w.heap.size 0 (grownCap w (len+n) cap e) (by rw [hR.len]; simp) rfl hge (fun _=>⟨rfl,rfl⟩) ?_
   simp only [Nat.zero_add,List.length_append,List.length_map,List.length_range,n1,hrest,← Nat.add_mul]
   rw [show len+n+(grownCap w (len+n) cap e - (len+n))=grownCap w (len+n) cap e by omega]
   exact Nat.le_refl _
 ·cases h
end
end Go.Ab

namespace Go.Ab
section
variable {P:Program} {E:Nat→Nat→Prop} {H:List O} {β:List Loc} {w:World} {X:Nat→Nat→Prop}
theorem flat_rep {α:Type} (z:List α):∀ (n:Nat),(List.replicate n z).flatten.length=n*z.length ∧ ∀ k,k<n*z.length→(List.replicate n z).flatten[k]? = z[k % z.length]?
 | 0=>⟨by simp,fun k hk=>by simp at hk⟩
 | n+1=>by
  obtain ⟨h1,h2⟩:=flat_rep z n
  rw [List.replicate_succ,List.flatten_cons]
  refine ⟨by rw [List.length_append,h1,Nat.add_mul]; omega,fun k hk=>?_⟩
  by_cases hz:k<z.length
  ·rw [List.getElem?_append_left hz,Nat.mod_eq_of_lt hz]
  ·have hmod:k % z.length=(k - z.length) % z.length:=Nat.mod_eq_sub_mod (by omega)
   rw [List.getElem?_append_right (by omega),hmod]
   apply h2
   rw [Nat.add_mul] at hk
   omega
theorem zero_arr {z:Value} {n:Nat} {zs:List V} (hs:z.cells.size=zs.length) (hr:∀ (k:Nat) v x,zs[k]? = some v→z.cells[k]? = some x→R w X β v x) :
  ((Array.range (n*zs.length)).map (z.cells[· % z.cells.size]!)).size=(List.replicate n zs).flatten.length ∧
  ∀ (k:Nat) v x,(List.replicate n zs).flatten[k]? = some v→((Array.range (n*zs.length)).map (z.cells[· % z.cells.size]!))[k]? = some x→R w X β v x:=by
 obtain ⟨h1,h2⟩:=flat_rep zs n
 refine ⟨by simp [h1],fun k v x hv hx=>?_⟩
 have hk:k<n*zs.length:=by rw [← h1]; exact (List.getElem?_eq_some_iff.1 hv).1
 rw [h2 k hk] at hv
 simp only [Array.getElem?_map,Array.getElem?_range,hk,if_true,Option.map_some,Option.some.injEq] at hx
 have hpos:0<zs.length:=by
  rcases Nat.eq_zero_or_pos zs.length with h0 | h0
  ·simp [h0] at hk
  ·exact h0
 have hm:=Nat.mod_lt k hpos
 refine hr (k % zs.length) v x hv ?_
 rw [← hx,hs]
 have:k % zs.length<z.cells.size:=by omega
 simp [this]
theorem sound_buildSlice {ref:Bool} {t:TypeId} {len:Nat} {ps:List (Nat × V)} {qs:Array (Nat × Value)} {v:V} {H' : List O} (hE:∀ b o,E b o→b<w.heap.size∧¬ Own H β b o)
  (hR:Rel w (Xs E H β) H β) (hlen:ps.length=qs.size)
  (hpq:∀ (k:Nat) p q,ps[k]? = some p→qs.toList[k]? = some q→p.1=q.1∧R w (Xs E H β) β p.2 q.2) (h:oBuildSlice P H ref t len ps=some (v,H')) :
  ∃ z w' β',(Instr.buildSlice t len qs).run P w = .ok z w' ∧ Step E H β w H' β' w' ∧ R w' (Xs E H' β') β' v z:=by
 unfold oBuildSlice at h
 split at h
 rotate_left
 ·cases h
 rename_i i hi
 split at h
 rotate_left
 ·cases h
 rename_i e hk
 have hu:=slice_spec hi hk
 split at h
 rotate_left
 ·cases h
 rename_i j hj
 cases hb:(Nat.ble (len*j.size) 16777216 && Nat.beq j.zero.length j.size)
 ·simp [hb] at h
 simp only [hb,cond_true] at h
 obtain ⟨b1,b2⟩:=Bool.and_eq_true_iff.1 hb
 have b1:=Nat.le_of_ble_eq_true b1
 have b2:=Nat.eq_of_beq_eq_true b2
 split at h
 rotate_left
 ·cases h
 rename_i es hes
 obtain ⟨z,hz,hzs,hzr⟩:=zero_R (w:=w) (X:=Xs E H β) (β:=β) hj
 obtain ⟨a1,a2⟩:=zero_arr (n:=len) hzs hzr
 obtain ⟨arr,g1,g2,g3,g4⟩:=fill_R (w:=w) (X:=Xs E H β) (β:=β) (place:=fun i=>some (i*j.size,j.size)) (fun i x hx=>hx) ps qs.toList _ es _ (by simpa using hlen) hpq a1 a2 hes
 obtain ⟨f1,f2⟩:=flat_rep j.zero len
 have hrun:(Instr.buildSlice t len qs).run P w = .ok (.slice (some ⟨w.heap.size,0,none⟩) len len) (w.alloc (.cells arr e)):=by
  have hn:¬ (16777216<len*j.size):=by omega
  rw [b2] at g1
  by_cases h0:len*j.size=0
  ·have e0:∀ f:Nat→Value,(Array.range (len*j.size)).map f = #[]:=by intro f; rw [h0]; simp
   rw [e0] at g1
   simp only [Instr.buildSlice,Sem.run_bind,run_und w hu,Result.andThen_ok,ti_size w hj]
   simp [h0,newRow,show Array.range 0 = #[] from rfl,g1]
  ·simp only [Instr.buildSlice,Sem.run_bind,run_und w hu,Result.andThen_ok,ti_size w hj]
   simp [h0,hn,hz,newRow]
   simp [g1]
 cases ref
 ·simp only [cond_false] at h
  split at h
  rotate_left
  ·cases h
  rename_i c hc
  cases hcs:Nat.beq c.size j.size
  ·simp [hcs] at h
  simp only [hcs,cond_true] at h
  have hcs:=Nat.eq_of_beq_eq_true hcs
  obtain ⟨l,hl,he⟩:=Option.map_eq_some_iff.1 h
  simp only [Prod.mk.injEq] at he
  obtain ⟨rfl,rfl⟩:=he
  rw [← hcs] at hl
  obtain ⟨l1,l2⟩:=chunk_dec hl
  obtain ⟨st,hr⟩:=fresh_sl (l:=l) (arr:=arr) (e:=e) (fl:=.full) (cap:=len) (len:=len) hE hR l1.symm (by omega) (fun _=>l1.symm) (by
   intro i x k v hx hv
   obtain ⟨u,hu,_,hu'⟩:=l2 i x k v hx hv
   have hk:i*c.size+k<arr.size:=by rw [g2]; exact (List.getElem?_eq_some_iff.1 hu).1
   exact ⟨arr[i*c.size+k],by simp [hk],hu' w (Xs E H β) β _ (g4 _ u _ hu (by simp [hk]))⟩)
  exact ⟨_,_,β,hrun,st,hr⟩
 ·simp only [cond_true,Option.some.injEq,Prod.mk.injEq] at h
  obtain ⟨rfl,rfl⟩:=h
  have st:=Step.push hR arr e (.cells es (e+4294967296)) { kind:=false,block:=w.heap.size,base:=0,n:=0,size:=arr.size } rfl rfl
   (fun cs e' h=>by
    simp only [O.cells.injEq] at h
    obtain ⟨rfl,rfl⟩:=h
    refine ⟨rfl,by simp [g2],fun k v hv=>?_⟩
    have hk:k<arr.size:=by rw [g2]; exact (List.getElem?_eq_some_iff.1 hv).1
    exact ⟨arr[k],by simp [hk],g4 k v _ hv (by simp [hk])⟩) (fun n sz h=>by cases h)
  refine ⟨_,_,_,hrun,st,?_⟩
  refine .ref _ H.length j.size 0 len { kind:=false,block:=w.heap.size,base:=0,n:=0,size:=arr.size } w.heap.size 0 len (by rw [hR.len]; simp) rfl (Nat.le_refl _) (fun _=>⟨rfl,rfl⟩) ?_
  have:es.length=len*j.size:=by rw [g3,f1,b2]
  simp only [Nat.zero_add]
  omega
theorem sound_makeSlice {ref:Bool} {t:TypeId} {l c v:V} {ly cy:Value} {H' : List O} (hE:∀ b o,E b o→b<w.heap.size∧¬ Own H β b o)
  (hR:Rel w (Xs E H β) H β) (hl:R w (Xs E H β) β l ly) (hc:R w (Xs E H β) β c cy) (h:(oMakeSlice P H ref t l c).run=some (v,H')) :
  ∃ z w' β',(Instr.makeSlice t ly cy).run P w = .ok z w' ∧ Step E H β w H' β' w' ∧ R w' (Xs E H' β') β' v z:=by
 unfold oMakeSlice at h
 split at h
 rotate_left
 ·cases h
 rename_i i k1 l k2 c hi
 cases hl
 cases hc
 split at h
 rotate_left
 ·cases h
 rename_i e hk
 have hu:=slice_spec hi hk
 split at h
 rotate_left
 ·cases h
 rename_i j hj
 obtain ⟨hreq,h⟩:=req_run h
 cases hb:(Nat.beq j.zero.length j.size && Nat.blt 0 j.bytes)
 ·simp [hb,Tree.run] at h
 simp only [hb,cond_true] at h
 obtain ⟨b1,b2⟩:=Bool.and_eq_true_iff.1 hb
 have b1:=Nat.eq_of_beq_eq_true b1
 have b2:0<j.bytes:=by simpa [Nat.blt_eq] using b2
 simp only [Bool.and_eq_true,decide_eq_true_eq] at hreq
 obtain ⟨⟨r1,r2⟩,r3⟩:=hreq
 have r3:=roomy_spec r3
 obtain ⟨ti1,d1,i1,i2,i3,i4,⟨z,z1,z2⟩,_⟩:=(ti_spec hj).info
 have hcb:(ti1.bytes:Int)*c≤281474976710656:=by
  have e1:c=(c.toNat:Int):=by omega
  rw [e1,i4]
  have:((j.bytes*c.toNat:Nat):Int)≤281474976710656:=by rw [Nat.mul_comm]; omega
  simpa using this
 have hc63:c≤9223372036854775807:=by
  have:c.toNat*1≤c.toNat*j.bytes:=Nat.mul_le_mul_left _ b2
  omega
 have hrun:=run_make (P:=P) w t e ti1 z hu i1 z1 k1 k2 l c r1 r2 hcb hc63
 rw [i3] at hrun
 have hz:z.cells.size=j.zero.length:=by simp [z2]
 obtain ⟨a1,a2⟩:=zero_arr (w:=w) (X:=Xs E H β) (β:=β) (z:=z) (n:=c.toNat) (zs:=j.zero) hz (by
  intro k v x hv hx
  rw [z2] at hv
  have:z.cells.toList[k]? = some x:=by simpa using hx
  simp only [List.getElem?_map,this,Option.map_some,Option.some.injEq] at hv
  subst hv
  exact ofVal1_R _ _ _ _)
 rw [b1] at a1 a2
 obtain ⟨f1,f2⟩:=flat_rep j.zero c.toNat
 obtain ⟨f3,f4⟩:=flat_rep j.zero l.toNat
 have hlc:l.toNat≤c.toNat:=by omega
 have hmul:l.toNat*j.zero.length≤c.toNat*j.zero.length:=Nat.mul_le_mul_right _ hlc
 have hget:∀ (k:Nat) u,(List.replicate l.toNat j.zero).flatten[k]? = some u → ∃ x,(madeCells z.cells (c.toNat*j.size))[k]? = some x∧R w (Xs E H β) β u x:=by
  intro k u hu
  have hk:k<l.toNat*j.zero.length:=by rw [← f3]; exact (List.getElem?_eq_some_iff.1 hu).1
  rw [f4 k hk,← f2 k (by omega)] at hu
  have hk' : k<(madeCells z.cells (c.toNat*j.size)).size:=by rw [size_madeCells,← b1]; omega
  exact ⟨_,by rw [Array.getElem?_eq_getElem hk'],a2 k u _ hu (by show (madeCells z.cells (c.toNat*j.size))[k]? = _; rw [Array.getElem?_eq_getElem hk'])⟩
 cases ref
 ·simp only [cond_false] at h
  split at h
  rotate_left
  ·cases h
  rename_i d hd
  cases hds:Nat.beq d.size j.size
  ·simp [hds,Tree.run] at h
  simp only [hds,cond_true] at h
  have hds:=Nat.eq_of_beq_eq_true hds
  split at h
  rotate_left
  ·cases h
  rename_i x0 hx0
  simp only [Tree.run,Option.some.injEq,Prod.mk.injEq] at h
  obtain ⟨rfl,rfl⟩:=h
  obtain ⟨q1,q2⟩:=dec1_spec hx0
  have st:=Step.push hR (madeCells z.cells (c.toNat*j.size)) e (.tok l.toNat d.size) { kind:=true,block:=w.heap.size,base:=0,n:=l.toNat,size:=c.toNat*j.size } rfl (size_madeCells _ _)
   (fun cs e h=>by cases h) (fun n sz h=>by cases h; exact ⟨rfl,rfl⟩)
  refine ⟨_,_,_,hrun,st,mk_gro (loc:={ kind:=true,block:=w.heap.size,base:=0,n:=l.toNat,size:=c.toNat*j.size }) (by simp) (by rw [hR.len]; simp) rfl (by simp) ?_ (by simpa using hlc) ?_⟩
  ·intro _
   refine ⟨rfl,rfl,?_⟩
   simp only [hds]; omega
  ·intro i' x k u hx hv
   have hi:i' < l.toNat:=by have:=(List.getElem?_eq_some_iff.1 hx).1; simpa using this
   have hlt:=idx_lt hi hv
   rw [List.getElem?_replicate,if_pos hi] at hx
   simp only [Option.some.injEq] at hx
   subst hx
   obtain ⟨u0,hu0,_,hu0'⟩:=q2 k u hv
   have hk:k<d.size:=by have:=(List.getElem?_eq_some_iff.1 hv).1; rwa [enc_size] at this
   have hflat:(List.replicate l.toNat j.zero).flatten[i' * d.size+k]? = some u0:=by
    rw [f4 _ (by rw [q1]; exact hlt),q1,Nat.add_comm,Nat.add_mul_mod_self_right,Nat.mod_eq_of_lt hk]
    exact hu0
   obtain ⟨x,hx,hr⟩:=hget _ _ hflat
   refine ⟨?_,x,?_,(hu0' w _ _ x hr).stab st.stab _ (.nil _)⟩
   ·rintro (g | ⟨id,lo,g1,g2,g3⟩)
    ·exact absurd (hE _ _ g).1 (Nat.lt_irrefl _)
    ·rw [getElem?_concat] at g1
     by_cases hid:id<β.length
     ·simp only [hid,if_true] at g1
      have hid' : id<H.length:=by rw [hR.len]; exact hid
      rcases g3 with ⟨cs,e,g3⟩ | ⟨n,sz,g3,g4⟩ | ⟨sh,vs,g3⟩
      ·rw [List.getElem?_append_left hid'] at g3
       have:=live_lt hR (live_cells g3) g1
       omega
      ·rw [List.getElem?_append_left hid'] at g3
       have:=live_lt hR (live_tok g3) g1
       omega
      ·rw [List.getElem?_append_left hid'] at g3
       have:=live_lt hR (live_obj g3) g1
       omega
     ·simp only [hid,if_false] at g1
      split at g1
      ·rename_i hid2
       rcases g3 with ⟨cs,e,g3⟩ | ⟨n,sz,g3,g4⟩ | ⟨sh,vs,g3⟩
       ·rw [hid2,← hR.len] at g3; simp at g3
       ·rw [hid2,← hR.len] at g3
        simp at g3
        obtain ⟨rfl,rfl⟩:=g3
        simp only [Option.some.injEq] at g1
        subst g1
        simp at g4
        omega
       ·rw [hid2,← hR.len] at g3; simp at g3
      ·cases g1
   ·rw [World.cell?_alloc_new]
    simpa using hx
 ·simp only [cond_true,Tree.run,Option.some.injEq,Prod.mk.injEq] at h
  obtain ⟨rfl,rfl⟩:=h
  have st:=Step.push hR (madeCells z.cells (c.toNat*j.size)) e (.cells (List.replicate l.toNat j.zero).flatten 0) { kind:=false,block:=w.heap.size,base:=0,n:=0,size:=c.toNat*j.size } rfl (size_madeCells _ _)
   (fun cs e' h=>by
    simp only [O.cells.injEq] at h
    obtain ⟨rfl,rfl⟩:=h
    refine ⟨rfl,⟨by rw [f3]; simp only [Nat.zero_add]; rw [← b1]; exact hmul,fun h=>absurd h (by decide)⟩,fun k v hv=>?_⟩
    obtain ⟨x,hx,hr⟩:=hget k v hv
    exact ⟨x,by simpa using hx,hr⟩) (fun n sz h=>by cases h)
  refine ⟨_,_,_,hrun,st,?_⟩
  exact .ref _ H.length j.size 0 l.toNat { kind:=false,block:=w.heap.size,base:=0,n:=0,size:=c.toNat*j.size } w.heap.size 0 c.toNat (by rw [hR.len]; simp) rfl hlc (fun _=>⟨rfl,rfl⟩) (by simp)
theorem sound_makePage {t:TypeId} {l c v:V} {ly cy:Value} {H' : List O}
  (hR:Rel w (Xs E H β) H β) (hl:R w (Xs E H β) β l ly) (hc:R w (Xs E H β) β c cy) (h:(oMakePage P H t l c).run=some (v,H')) :
  ∃ z w' β',(Instr.makeSlice t ly cy).run P w = .ok z w' ∧ Step E H β w H' β' w' ∧ R w' (Xs E H' β') β' v z:=by
 unfold oMakePage at h
 split at h
 rotate_left
 ·cases h
 rename_i i k1 l k2 c hi
 cases hl
 cases hc
 split at h
 rotate_left
 ·cases h
 rename_i e hk
 have hu:=slice_spec hi hk
 split at h
 rotate_left
 ·cases h
 rename_i j k hj hik
 obtain ⟨j',hj',_,hjs⟩:=intOf_spec hik
 rw [hj] at hj'
 cases hj'
 obtain ⟨hreq,h⟩:=req_run h
 cases hb:(isZeroK k j.zero && Nat.blt 0 j.bytes)
 ·simp [hb,Tree.run] at h
 simp only [hb,cond_true] at h
 obtain ⟨b1,b2⟩:=Bool.and_eq_true_iff.1 hb
 have b2:0<j.bytes:=by simpa [Nat.blt_eq] using b2
 have b1:j.zero=[.int k 0]:=by
  unfold isZeroK at b1
  split at b1
  ·rename_i l n heq
   simp only [Bool.and_eq_true,decide_eq_true_eq,beq_iff_eq] at b1
   obtain ⟨rfl,rfl⟩:=b1
   exact heq
  ·cases b1
 simp only [Bool.and_eq_true,decide_eq_true_eq] at hreq
 obtain ⟨⟨r1,r2⟩,r3⟩:=hreq
 have r3:=roomy_spec r3
 obtain ⟨ti1,d1,i1,i2,i3,i4,⟨z,z1,z2⟩,_⟩:=(ti_spec hj).info
 have hcb:(ti1.bytes:Int)*c≤281474976710656:=by
  have e1:c=(c.toNat:Int):=by omega
  rw [e1,i4]
  have:((j.bytes*c.toNat:Nat):Int)≤281474976710656:=by rw [Nat.mul_comm]; omega
  simpa using this
 have hc63:c≤9223372036854775807:=by
  have:c.toNat*1≤c.toNat*j.bytes:=Nat.mul_le_mul_left _ b2
  omega
 have hrun:=run_make (P:=P) w t e ti1 z hu i1 z1 k1 k2 l c r1 r2 hcb hc63
 rw [i3,hjs,Nat.mul_one] at hrun
 have hz:z.cells.size=j.zero.length:=by simp [z2]
 obtain ⟨a1,a2⟩:=zero_arr (w:=w) (X:=Xs E H β) (β:=β) (z:=z) (n:=c.toNat) (zs:=j.zero) hz (by
  intro k v x hv hx
  rw [z2] at hv
  have:z.cells.toList[k]? = some x:=by simpa using hx
  simp only [List.getElem?_map,this,Option.map_some,Option.some.injEq] at hv
  subst hv
  exact ofVal1_R _ _ _ _)
 simp only [Tree.run,Option.some.injEq,Prod.mk.injEq] at h
 obtain ⟨rfl,rfl⟩:=h
 have harr:madeCells z.cells c.toNat=(([]:List Value)++(List.replicate c.toNat (0:Int)).map (Value.int k)).toArray:=by
  rw [b1] at a1 a2
  simp only [List.length_cons,List.length_nil,Nat.zero_add,Nat.mul_one] at a1 a2
  have hsz:(madeCells z.cells c.toNat).size=c.toNat:=size_madeCells _ _
  apply Array.ext_getElem?
  intro q
  have er:((List.replicate c.toNat (Value.int k 0)).toArray)[q]? = if q<c.toNat then some (Value.int k 0) else none:=by rw [List.getElem?_toArray,List.getElem?_replicate]
  rw [List.nil_append,List.map_replicate,er]
  by_cases hq:q<c.toNat
  ·rw [if_pos hq]
   have hq' : q<(madeCells z.cells c.toNat).size:=by omega
   have hx:(madeCells z.cells c.toNat)[q]? = some (madeCells z.cells c.toNat)[q]:=Array.getElem?_eq_getElem hq'
   have hv:((List.replicate c.toNat [V.int k 0]).flatten)[q]? = some (.int k 0):=by
    have:(List.replicate c.toNat [V.int k 0]).flatten=List.replicate c.toNat (V.int k 0):=by
     generalize c.toNat=m
     induction m with
     | zero=>rfl
     | succ m ih=>rw [List.replicate_succ,List.replicate_succ,List.flatten_cons,ih]; rfl
    rw [this,List.getElem?_replicate,if_pos hq]
   have:=a2 q (.int k 0) (madeCells z.cells c.toNat)[q] hv hx
   rw [hx]
   generalize (madeCells z.cells c.toNat)[q]=y at this
   cases this
   rfl
  ·rw [if_neg hq]
   exact Array.getElem?_eq_none (by omega)
 have st:=Step.pushObjD hR (.cells (madeCells z.cells c.toNat) e (0,0)) (sh:=.page 0 k (List.replicate c.toNat 0)) (xs:=[]) (vs:=[]) (loc:={ kind:=false,block:=w.heap.size,base:=0,n:=0,size:=c.toNat })
  ⟨rfl,e,by rw [harr]⟩ (fun q v hv=>by simp at hv) rfl rfl rfl
 refine ⟨_,_,_,hrun,st,?_⟩
 refine .ref _ H.length 1 0 l.toNat { kind:=false,block:=w.heap.size,base:=0,n:=0,size:=c.toNat } w.heap.size 0 c.toNat (by rw [hR.len]; simp) rfl (by omega) (fun _=>⟨rfl,rfl⟩) (by simp)
end
end Go.Ab
