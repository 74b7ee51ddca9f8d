/-
  The engine, part K: append, make, composite slices, slice expressions are sound. Conditions: none.
-/
import Derived.Test.YtbefgnmdliefjaaGreatDoorPk05
set_option linter.unusedVariables false
set_option linter.unusedSimpArgs false
namespace Go.Ab
section
variable {P:Program} {E:Nat→Nat→Prop} {H:List O} {β:List Loc} {w:World} {X:Nat→Nat→Prop}
theorem bind_run {β γ:Type} {x:Tree β} {f:β→Tree γ} {c:γ} (h:(x.bind f).run=some c):∃ b,x.run=some b∧(f b).run=some c:=by
 induction x with
 | leaf b=>exact ⟨b,rfl,h⟩
 | fail=>cases h
 | br cd x y ihx ihy =>
  cases cd
  ·exact ihy h
  ·exact ihx h
theorem isEmpty_nil {α:Type} {l:List α} (h:l.isEmpty=true):l=[]:=by cases l <;> simp_all
theorem isEmpty_cons {α:Type} {l:List α} (h:l.isEmpty=false):0<l.length:=by cases l <;> simp_all
theorem sound_append {argTypes:Array TypeId} {ty:TypeId} {s x v:V} {sy y:Value} {H' : List O} (hE:∀ b o,E b o→b<w.heap.size∧¬ Own H β b o) (hR:Rel w (Xs E H β) H β)
  (hs:R w (Xs E H β) β s sy) (hx:R w (Xs E H β) β x y) (h:(oAppend P H argTypes s x).run=some (v,H')) :
  ∃ z w' β',(Builtin.append_ argTypes ty #[sy,y]).run P w = .ok z w' ∧ Step E H β w H' β' w' ∧ R w' (Xs E H' β') β' v z:=by
 unfold oAppend at h
 split at h
 rotate_left
 ·cases h
 rename_i st h0
 split at h
 rotate_left
 ·cases h
 rename_i i hi
 split at h
 rotate_left
 ·cases h
 rename_i e hk
 have hu:=slice_spec hi hk
 split at h
 rotate_left
 ·cases h
 rename_i j c hj hc
 cases hb:(Nat.beq c.size j.size && (Nat.blt 0 j.bytes && (Nat.beq j.zero.length j.size && appendable P argTypes)))
 ·simp [hb,Tree.run] at h
 simp only [hb,cond_true] at h
 obtain ⟨b1,hb⟩:=Bool.and_eq_true_iff.1 hb
 obtain ⟨b2,hb⟩:=Bool.and_eq_true_iff.1 hb
 obtain ⟨b3,b4⟩:=Bool.and_eq_true_iff.1 hb
 have b1:=Nat.eq_of_beq_eq_true b1
 have b2:0<j.bytes:=by simpa [Nat.blt_eq] using b2
 have b3:=Nat.eq_of_beq_eq_true b3
 have happ:AppT P argTypes e j:=by
  refine ⟨⟨st,h0,hu⟩,hj,?_,b2,b3⟩
  unfold appendable at b4
  split at b4
  ·rename_i t ht
   split at b4
   ·rename_i e' hd; exact ⟨t,_,ht,hd,.inl ⟨e',rfl⟩⟩
   ·rename_i hd; exact ⟨t,_,ht,hd,.inr rfl⟩
   ·cases b4
  ·cases b4
 split at h
 rotate_left
 ·cases h
 rename_i xs hxs
 obtain ⟨news,N⟩:=elems_R (P:=P) hR hx hxs
 have hfirst:=N.first
 rw [b1] at hfirst
 unfold grow at h
 split at h
 ·-- nil
  cases hs
  cases he:xs.isEmpty
  ·simp only [he,Tree.run,cond_false] at h
   obtain ⟨hroom,h⟩:=req_run h
   simp only [Tree.run,Option.some.injEq,Prod.mk.injEq] at h
   obtain ⟨rfl,rfl⟩:=h
   have hpos:=isEmpty_cons he
   obtain ⟨rest,hrest,hrun⟩:=run_append_out (ty:=ty) happ (olds:=[]) (base:=none) (sLen:=0) (sCap:=0) (N.lenOf w) (hfirst w.drew rfl) (by rfl) (by omega) (by rw [Nat.zero_add]; exact roomy_spec hroom)
   rw [Nat.zero_add] at hrest hrun
   have hge:=grownCap_ge w xs.length 0 e
   obtain ⟨β',st,hr⟩:=new_gro (ll:=xs) (row:=news) (rest:=rest) (e:=e) (cap:=grownCap w xs.length 0 e) hE hR N.len hge (by rw [hrest,b1]) N.get
   exact ⟨_,_,β',by simpa using hrun,st,hr⟩
  ·simp only [he,Tree.run,cond_true,Option.some.injEq,Prod.mk.injEq] at h
   obtain ⟨rfl,rfl⟩:=h
   have:=isEmpty_nil he
   subst this
   exact ⟨_,w,β,run_append_in (w' := w) happ (n:=0) (N.lenOf w) (hfirst w rfl) (by omega) (fun a h=>by cases h) (fun _=>rfl),Step.refl hR,.val _ _⟩
 ·-- a fixed one
  rename_i d l spare fl
  split at h
  rotate_left
  ·cases h
  rename_i l' hl'
  obtain ⟨e',rfl⟩:=sameL_spec hl'
  subst e'
  simp only [castL] at h ⊢
  rcases sl_get hs with ⟨rfl,rfl,rfl,rfl⟩ | ⟨b,o,cap,rfl,hcap,hfull,_,hh⟩
  ·cases he:xs.isEmpty
   ·simp [he,Tree.run] at h
   ·simp only [he,Tree.run,cond_true,Option.some.injEq,Prod.mk.injEq] at h
    obtain ⟨rfl,rfl⟩:=h
    have:=isEmpty_nil he
    subst this
    exact ⟨_,w,β,run_append_in (w' := w) happ (n:=0) (N.lenOf w) (hfirst w rfl) (by omega) (fun a h=>by cases h) (fun _=>rfl),Step.refl hR,.nil _ _⟩
  cases he:xs.isEmpty
  ·simp only [he,Tree.run,cond_false] at h
   split at h
   ·obtain ⟨hroom,h⟩:=req_run h
    simp only [Tree.run,Option.some.injEq,Prod.mk.injEq] at h
    obtain ⟨rfl,rfl⟩:=h
    have hpos:=isEmpty_cons he
    have hc0:=hfull rfl
    simp only [List.length_nil,Nat.add_zero] at hc0
    subst hc0
    obtain ⟨olds,o1,o2,o3,o4⟩:=row_cells (P:=P) (w:=w) (X:=Xs E H β) (l:=l) (b:=b) (o:=o) (fun i x k v g1 g2=>(hh i x k v (by
     have:i<l.length:=(List.getElem?_eq_some_iff.1 g1).1
     rw [List.getElem?_append_left this]; exact g1) g2).2)
    obtain ⟨rest,hrest,hrun⟩:=run_append_out (ty:=ty) happ (olds:=olds) (base:=some ⟨b,o,none⟩) (sLen:=l.length) (sCap:=l.length) (N.lenOf w) (hfirst w.drew rfl)
     (by rw [← b1]; exact o4 w.drew rfl) (by omega) (roomy_spec hroom)
    have hge:=grownCap_ge w (l.length+xs.length) l.length e
    obtain ⟨β',st,hr⟩:=new_gro (ll:=l++xs) (row:=olds++news) (rest:=rest) (e:=e) (cap:=grownCap w (l.length+xs.length) l.length e) hE hR
     (by simp [o1,N.len,Nat.add_mul]) (by simpa using hge) (by rw [hrest,b1]; simp) (join_cells o1 o3 N.get)
    rw [List.length_append] at st hr
    exact ⟨_,_,β',hrun,st,hr⟩
   ·cases h
  ·simp only [he,Tree.run,cond_true,Option.some.injEq,Prod.mk.injEq] at h
   obtain ⟨rfl,rfl⟩:=h
   have:=isEmpty_nil he
   subst this
   have hn:news=[]:=List.length_eq_zero_iff.1 (by simpa using N.len)
   subst hn
   exact ⟨_,w,β,run_append_in (w' := w) happ (n:=0) (N.lenOf w) (hfirst w rfl) (by omega) (fun a h=>by simp [storeCells]) (fun h=>by cases h),Step.refl hR,by simpa using hs⟩
 ·-- one that grows
  rename_i id d l
  split at h
  ·rename_i l' n sz hl' hH
   obtain ⟨e',rfl⟩:=sameL_spec hl'
   subst e'
   simp only [castL] at h ⊢
   cases hb:Nat.beq sz d.size
   ·simp [hb,Tree.run] at h
   simp only [hb,cond_true] at h
   have hb:=Nat.eq_of_beq_eq_true hb
   subst hb
   obtain ⟨hroom,h⟩:=req_run h
   simp only [Tree.run,Option.some.injEq,Prod.mk.injEq] at h
   obtain ⟨rfl,rfl⟩:=h
   obtain ⟨hn,hroom2⟩:=Bool.and_eq_true_iff.1 hroom
   have hn:=of_decide_eq_true hn
   subst hn
   have hs' := hs
   obtain ⟨b,o,cap,loc,rfl,hloc,hkind,hln,hl,hcap,hh⟩:=gro_get hs
   cases he:xs.isEmpty
   ·have hpos:=isEmpty_cons he
    by_cases hin:l.length+xs.length≤cap
    ·obtain ⟨w',β',g1,g2,g3⟩:=in_gro (P:=P) hE hR hs' hH hpos hin N.len N.one N.get
     rw [List.length_append] at g2 g3
     exact ⟨_,w',β',run_append_in (w' := w') happ (N.lenOf w) (hfirst w rfl) hin (fun a h=>by cases h; rw [← b1]; exact g1) (fun h=>by cases h),g2,g3⟩
    ·obtain ⟨olds,o1,o2,o3,o4⟩:=row_cells (P:=P) (w:=w) (X:=Xs E H β) (l:=l) (b:=b) (o:=o) (fun i x k v g1 g2=>(hh i x k v g1 g2).2)
     obtain ⟨rest,hrest,hrun⟩:=run_append_out (ty:=ty) happ (olds:=olds) (base:=some ⟨b,o,none⟩) (sLen:=l.length) (sCap:=cap) (N.lenOf w) (hfirst w.drew rfl)
      (by rw [← b1]; exact o4 w.drew rfl) (by omega) (roomy_spec hroom2)
     have hge:=grownCap_ge w (l.length+xs.length) cap e
     obtain ⟨β',st,hr⟩:=move_gro (ll:=l++xs) (row:=olds++news) (rest:=rest) (e:=e) (cap:=grownCap w (l.length+xs.length) cap e) hE hR hH hloc (by simp; omega)
      (by simp [o1,N.len,Nat.add_mul]) (by simpa using hge) (by rw [hrest,b1]; simp) (join_cells o1 o3 N.get)
     rw [List.length_append] at st hr
     exact ⟨_,_,β',hrun,st,hr⟩
   ·have:=isEmpty_nil he
    subst this
    have hnw:news=[]:=List.length_eq_zero_iff.1 (by simpa using N.len)
    subst hnw
    have hset:H.set id (.tok (l.length+([]:List d.ty).length) d.size)=H:=by
     apply List.ext_getElem?
     intro k
     rw [get_set]
     split
     ·subst_vars
      have:=(List.getElem?_eq_some_iff.1 hH).1
      simp only [this,if_true,List.length_nil,Nat.add_zero]
      exact hH.symm
     ·rfl
    rw [hset]
    refine ⟨_,w,β,run_append_in (w' := w) happ (n:=0) (N.lenOf w) (hfirst w rfl) (by omega) (fun a h=>by simp [storeCells]) (fun h=>by cases h),Step.refl hR,?_⟩
    rw [List.append_nil]
    simpa using hs'
  ·cases h
 ·cases h
theorem fresh_sl {c:EC} {l:List c.ty} {arr:Array Value} {e:TypeId} {fl:Fl} {cap len:Nat} (hE:∀ b o,E b o→b<w.heap.size∧¬ Own H β b o) (hR:Rel w (Xs E H β) H β)
  (hlen:len=l.length) (hcap:l.length≤cap) (hfull:fl = .full→cap=l.length)
  (h:∀ (i:Nat) x (k:Nat) v,l[i]? = some x→(enc c x)[k]? = some v → ∃ z,arr[i*c.size+k]? = some z∧R w (Xs E H β) [] v z) :
  Step E H β w H β (w.alloc (.cells arr e))∧R (w.alloc (.cells arr e)) (Xs E H β) β (.sl c l [] fl) (.slice (some ⟨w.heap.size,0,none⟩) len cap):=by
 have st:=Step.alloc hR (.cells arr e)
 refine ⟨st,mk_sl hlen (by simpa using hcap) (by simpa using hfull) (fun _=>⟨arr,e,heap_alloc_new w _⟩) ?_⟩
 intro i x k v hx hv
 rw [List.append_nil] at hx
 obtain ⟨z,hz,hr⟩:=h i x k v hx hv
 refine ⟨?_,z,?_,hr.stab st.stab _ (.nil _)⟩
 ·rintro (g | g)
  ·exact absurd (hE _ _ g).1 (Nat.lt_irrefl _)
  ·exact absurd (own_lt hR g) (Nat.lt_irrefl _)
 ·rw [World.cell?_alloc_new]
  simpa using hz
theorem getElem?_dead {id j:Nat} {ob:O} (h:(H.set id .dead)[j]? = some ob) (hd:ob ≠ .dead):H[j]? = some ob∧id ≠ j:=by
 rw [get_set] at h
 split at h
 ·split at h
  ·cases h; exact absurd rfl hd
  ·cases h
 ·exact ⟨h,by assumption⟩
theorem Step.regrow (hR:Rel w (Xs E H β) H β) {id:Nat} {cs cs' : List V} {e e0:TypeId} {loc:Loc} {c c' : Array Value}
  (hid:H[id]? = some (.cells cs e)) (hloc:β[id]? = some loc) (hb:w.heap[loc.block]? = some (.cells c e0 (0,0))) (hsz:c'.size=c.size)
  (hl:loc.base+cs'.length≤loc.size) (hv:∀ (k:Nat) v,cs'[k]? = some v → ∃ x,c'[loc.base+k]? = some x∧R w (Xs E H β) β v x) :
  Step E H β w (H.set id .dead++[.cells cs' 0]) (β++[loc]) (w.setRow loc.block c'):=by
 obtain ⟨hk0,c0,e1,hb0,hs0,_,_⟩:=hR.cells id cs e loc hid hloc
 rw [hb] at hb0
 cases hb0
 have hne:∀ b,b ≠ loc.block→(w.setRow loc.block c').heap[b]? = w.heap[b]? := fun b h=>setRow_other w _ _ _ h
 have hsame:(w.setRow loc.block c').heap[loc.block]? = some (.cells c' e0 (0,0)):=setRow_heap w _ c c' e0 (0,0) hb
 have hself:∀ o,Own H β loc.block o:=fun o=>⟨id,loc,hloc,rfl,.inl ⟨cs,e,hid⟩⟩
 have hlen:(H.set id O.dead).length=β.length:=by rw [List.length_set]; exact hR.len
 have getO:∀ {j ob},(H.set id O.dead++[O.cells cs' 0])[j]? = some ob→ob ≠ .dead→(H[j]? = some ob∧id ≠ j∧j<β.length)∨(j=β.length∧ob = .cells cs' 0):=by
  intro j ob h hd
  rw [getElem?_concat] at h
  split at h
  ·rename_i hlt
   obtain ⟨g1,g2⟩:=getElem?_dead h hd
   exact .inl ⟨g1,g2,by omega⟩
  ·split at h
   ·rename_i hj
    cases h
    exact .inr ⟨by omega,rfl⟩
   ·cases h
 have getL:∀ {j l},(β++[loc])[j]? = some l→(j<β.length∧β[j]? = some l)∨(j=β.length∧l=loc):=by
  intro j l h
  rw [getElem?_concat] at h
  split at h
  ·exact .inl ⟨by assumption,h⟩
  ·split at h
   ·cases h; exact .inr ⟨by assumption,rfl⟩
   ·cases h
 have hown:∀ b o,Own (H.set id .dead++[.cells cs' 0]) (β++[loc]) b o→Own H β b o:=by
  rintro b o ⟨j,l,h1,rfl,h2⟩
  have key:∀ ob,(H.set id O.dead++[O.cells cs' 0])[j]? = some ob→ob ≠ .dead→(H[j]? = some ob∧β[j]? = some l)∨l=loc:=by
   intro ob hob hd
   rcases getO hob hd with ⟨g1,g2,g3⟩ | ⟨g1,g2⟩
   ·rcases getL h1 with ⟨_,g⟩ | ⟨g,_⟩
    ·exact .inl ⟨g1,g⟩
    ·omega
   ·rcases getL h1 with ⟨g,_⟩ | ⟨_,g⟩
    ·omega
    ·exact .inr g
  rcases h2 with ⟨cs2,e2,h2⟩ | ⟨n2,sz2,h2,h3⟩ | ⟨sh2,vs2,h2⟩
  ·rcases key _ h2 (by simp) with ⟨g1,g2⟩ | rfl
   ·exact ⟨j,l,g2,rfl,.inl ⟨_,_,g1⟩⟩
   ·exact hself o
  ·rcases key _ h2 (by simp) with ⟨g1,g2⟩ | rfl
   ·exact ⟨j,l,g2,rfl,.inr (.inl ⟨_,_,g1,h3⟩)⟩
   ·exact hself o
  ·rcases key _ h2 (by simp) with ⟨g1,g2⟩ | rfl
   ·exact ⟨j,l,g2,rfl,.inr (.inr ⟨_,_,g1⟩)⟩
   ·exact hself o
 have hle:LocLe β (β++[loc]):=fun j l h=>⟨l,by
  have:j<β.length:=(List.getElem?_eq_some_iff.1 h).1
  rw [List.getElem?_append_left this]; exact h,.inl rfl⟩
 have st:Stab w (Xs E H β) (w.setRow loc.block c') (Xs E (H.set id .dead++[.cells cs' 0]) (β++[loc])):=by
  refine ⟨fun b o v hx hv=>?_,fun b cs e h=>?_⟩
  ·have hbb:b ≠ loc.block:=fun h=>hx (.inr (h ▸ hself o))
   refine ⟨fun h=>hx ?_,by rw [cell_heap (hne b hbb)]; exact hv⟩
   exact h.imp _root_.id (hown b o)
  ·by_cases hbb:b=loc.block
   ·subst hbb; exact ⟨c',e0,hsame⟩
   ·exact ⟨cs,e,by rw [hne b hbb]; exact h⟩
 have oth:∀ {j l ob},H[j]? = some ob→ob ≠ .dead→id ≠ j→β[j]? = some l→l.block ≠ loc.block:=by
  intro j l ob h1 h2 h3 h4 h5
  exact h3 (hR.disj id j loc l (live_cells hid) ⟨ob,h1,h2⟩ hloc h4 h5.symm)
 refine ⟨⟨by simp [hR.len],fun j cs1 e1 l g1 g2=>?_,fun j n sz l g1 g2=>?_,fun j sh vs l g1 g2=>?_,fun i j l l' hi hj g1 g2 hb=>?_⟩,
  rfl,rfl,rfl,by simp,fun b hb' => ?_,fun b o h=>.inl (hown b o h),hle⟩
 ·rcases getO g1 (by simp) with ⟨h1,h2,h3⟩ | ⟨h1,h2⟩
  ·rcases getL g2 with ⟨_,g2⟩ | ⟨g,_⟩
   ·obtain ⟨k,c2,e2,a1,a2,a3,a4⟩:=hR.cells j cs1 e1 l h1 g2
    exact ⟨k,c2,e2,by rw [hne _ (oth h1 (by simp) h2 g2)]; exact a1,a2,a3,fun k v hv=>let ⟨x,hx,hr⟩:=a4 k v hv; ⟨x,hx,hr.stab st _ hle⟩⟩
   ·omega
  ·rcases getL g2 with ⟨g,_⟩ | ⟨_,g2⟩
   ·omega
   ·cases h2
    subst g2
    exact ⟨hk0,c',e0,hsame,by omega,⟨hl,fun h=>by simp at h⟩,fun k v hv' => let ⟨x,hx,hr⟩:=hv k v hv'; ⟨x,hx,hr.stab st _ hle⟩⟩
 ·rcases getO g1 (by simp) with ⟨h1,h2,h3⟩ | ⟨h1,h2⟩
  ·rcases getL g2 with ⟨_,g2⟩ | ⟨g,_⟩
   ·obtain ⟨k,m,c2,e2,a1,a2⟩:=hR.tok j n sz l h1 g2
    exact ⟨k,m,c2,e2,by rw [hne _ (oth h1 (by simp) h2 g2)]; exact a1,a2⟩
   ·omega
  ·cases h2
 ·rcases getO g1 (by simp) with ⟨h1,h2,h3⟩ | ⟨h1,h2⟩
  ·rcases getL g2 with ⟨_,g2⟩ | ⟨g,_⟩
   ·obtain ⟨k,kb,ob,xs,a1,a2,a3⟩:=hR.objs j sh vs l h1 g2
    exact ⟨k,kb,ob,xs,by rw [hne _ (oth h1 (by simp) h2 g2)]; exact a1,a2,fun k v hv=>let ⟨x,hx,hr⟩:=a3 k v hv; ⟨x,hx,hr.stab st _ hle⟩⟩
   ·omega
  ·cases h2
 ·have cl:∀ {i l},live (H.set id .dead++[.cells cs' 0]) i→(β++[loc])[i]? = some l→(live H i∧id ≠ i∧β[i]? = some l)∨(i=β.length∧l=loc):=by
   rintro i l ⟨o,g1,g2⟩ g3
   rcases getO g1 g2 with ⟨h1,h2,h3⟩ | ⟨h1,h2⟩
   ·rcases getL g3 with ⟨_,g3⟩ | ⟨g,_⟩
    ·exact .inl ⟨⟨o,h1,g2⟩,h2,g3⟩
    ·omega
   ·rcases getL g3 with ⟨g,_⟩ | ⟨_,g3⟩
    ·omega
    ·exact .inr ⟨h1,g3⟩
  rcases cl hi g1 with ⟨a1,a2,a3⟩ | ⟨a1,a2⟩ <;> rcases cl hj g2 with ⟨b1,b2,b3⟩ | ⟨b1,b2⟩
  ·exact hR.disj i j l l' a1 b1 a3 b3 hb
  ·exact absurd (hR.disj id i loc l (live_cells hid) a1 hloc a3 (by rw [hb,b2])) a2
  ·exact absurd (hR.disj id j loc l' (live_cells hid) b1 hloc b3 (by rw [← hb,a2])) b2
  ·omega
 ·by_cases hbb:b=loc.block
  ·subst hbb
   exact .inr (.inl ⟨⟨0,hself 0⟩,c,c',e0,hb,hsame,hsz,fun o ho=>absurd (hself o) ho⟩)
  ·exact .inl (hne b hbb)
theorem Step.close (hR:Rel w (Xs E H β) H β) (id:Nat):Step E H β w (H.set id .dead) β w:=by
 have own:∀ {b o},Own (H.set id .dead) β b o→Own H β b o:=by
  rintro b o ⟨j,l,h1,h2,h3⟩
  refine ⟨j,l,h1,h2,?_⟩
  rcases h3 with ⟨cs,e,h3⟩ | ⟨m,sz,h3,h4⟩ | ⟨sh,vs,h3⟩
  ·exact .inl ⟨cs,e,(getElem?_dead h3 (by simp)).1⟩
  ·exact .inr (.inl ⟨m,sz,(getElem?_dead h3 (by simp)).1,h4⟩)
  ·exact .inr (.inr ⟨sh,vs,(getElem?_dead h3 (by simp)).1⟩)
 have st:Stab w (Xs E H β) w (Xs E (H.set id .dead) β):=⟨fun b o v hx hv=>⟨fun h=>hx (h.imp _root_.id own),hv⟩,fun b cs e h=>⟨cs,e,h⟩⟩
 refine ⟨⟨by rw [List.length_set]; exact hR.len,fun j cs e loc h1 h2=>?_,fun j m sz loc h1 h2=>hR.tok j m sz loc (getElem?_dead h1 (by simp)).1 h2,fun j sh vs loc h1 h2=>?_,fun i j l l' h1 h2 h3 h4 h5=>?_⟩,rfl,rfl,rfl,Nat.le_refl _,fun _ _=>.inl rfl,
  fun b o h=>.inl (own h),.refl _⟩
 ·obtain ⟨a1,c,e',a2,a3,a4,a5⟩:=hR.cells j cs e loc (getElem?_dead h1 (by simp)).1 h2
  exact ⟨a1,c,e',a2,a3,a4,fun k v hv=>let ⟨x,hx,hr⟩:=a5 k v hv; ⟨x,hx,hr.stab st β (.refl _)⟩⟩
 ·obtain ⟨a1,a2,ob,xs,a3,a4,a5⟩:=hR.objs j sh vs loc (getElem?_dead h1 (by simp)).1 h2
  exact ⟨a1,a2,ob,xs,a3,a4,fun k v hv=>let ⟨x,hx,hr⟩:=a5 k v hv; ⟨x,hx,hr.stab st β (.refl _)⟩⟩
 ·obtain ⟨o1,g1,g2⟩:=h1
  obtain ⟨o2,g3,g4⟩:=h2
  exact hR.disj i j l l' ⟨o1,(getElem?_dead g1 g2).1,g2⟩ ⟨o2,(getElem?_dead g3 g4).1,g4⟩ h3 h4 h5
theorem refCells_R {x:V} {y:Value} {sz n:Nat} {news:List V} (hR:Rel w (Xs E H β) H β) (hx:R w (Xs E H β) β x y) (h:refCells H x=some (sz,n,news)) (h0:0<n) (hone:allOne news=true) :
  ∃ ns:List Value,ns.length=n*sz∧news.length=n*sz∧(∀ z ∈ ns,z.oneCell' = true)∧(∀ (k:Nat) v z,news[k]? = some v→ns[k]? = some z→R w (Xs E H β) β v z)∧(∀ w' : World,(Builtin.lenOf y).run P w' = .ok n w') ∧
   ∀ w' : World,w'.heap=w.heap→(Builtin.firstCells sz n y).run P w' = .ok ns.toArray w' := by
 unfold refCells at h
 split at h
 rotate_left
 ·rename_i k l sp fl
  simp only [Option.some.injEq,Prod.mk.injEq] at h
  obtain ⟨rfl,rfl,rfl⟩:=h
  have he:elemsOf (.int k) H (.sl (.int k) l sp fl)=some l:=by
   simp only [elemsOf,sameL,EC.same]
   simp
   rfl
  obtain ⟨ns,N⟩:=elems_R (P:=P) hR hx he
  have hnl:ns.length=l.length*1:=N.len
  refine ⟨ns,hnl,(List.length_map _).trans (Nat.mul_one _).symm,N.one,fun q v z h1 h2=>?_,N.lenOf,fun w' hw=>N.first w' hw⟩
  have h1:Option.map (V.int k) ((l:List Int)[q]?)=some v:=(List.getElem?_map (f:=V.int k) (l:=(l:List Int)) (i:=q)).symm.trans h1
  obtain ⟨a,ha,rfl⟩:=Option.map_eq_some_iff.1 h1
  obtain ⟨z',hz,hr⟩:=N.get q a 0 (.int k a) ha rfl
  have hz:ns[q]? = some z' := by
   have e:q*(EC.int k).size+0=q:=by show q*1+0=q; omega
   rw [e] at hz
   exact hz
  rw [h2] at hz
  cases hz
  cases hr
  exact .int _ _ _
 ·cases h
 rename_i id sz' off len
 split at h
 rotate_left
 ·cases h
 rename_i cs e hH
 cases hb:Nat.ble (off+len*sz') cs.length
 ·rw [hb] at h; cases h
 rw [hb,cond_true] at h
 simp only [Option.some.injEq,Prod.mk.injEq] at h
 obtain ⟨rfl,rfl,rfl⟩:=h
 have hb:=Nat.le_of_ble_eq_true hb
 cases hx with
 | ref _ _ _ _ _ loc b o cap hid hk hlen ha hcap =>
 obtain ⟨rfl,rfl⟩:=ha (by omega)
 obtain ⟨_,arr,e',a1,a2,a3,a4⟩:=hR.cells id cs e loc hH hid
 let f:Nat→Value:=fun k=>(arr[loc.base+off+k]?).getD undef
 have hf:∀ k,k<len*sz' → ∃ v x,((cs.drop off).take (len*sz'))[k]? = some v∧arr[loc.base+off+k]? = some x∧f k=x∧R w (Xs E H β) β v x:=by
  intro k hk
  have hkc:off+k<cs.length:=by omega
  obtain ⟨x,hx,hr⟩:=a4 (off+k) cs[off+k] (by simp [hkc])
  refine ⟨cs[off+k],x,?_,by rw [Nat.add_assoc]; exact hx,?_,hr⟩
  ·rw [List.getElem?_take,if_pos hk,List.getElem?_drop,List.getElem?_eq_getElem hkc]
  ·show (arr[loc.base+off+k]?).getD undef=x
   rw [Nat.add_assoc,hx]
   rfl
 have hnl:((cs.drop off).take (len*sz')).length=len*sz' := by simp; omega
 refine ⟨(List.range (len*sz')).map f,by simp,hnl,fun z hz=>?_,fun k v z h1 h2=>?_,fun w' => rfl,fun w' hw=>?_⟩
 ·obtain ⟨k,hk,rfl⟩:=List.mem_map.1 hz
  obtain ⟨v,x,g1,g2,g3,g4⟩:=hf k (List.mem_range.1 hk)
  rw [g3]
  exact one_spec g4 (allOne_spec hone v (List.mem_of_getElem? g1))
 ·have hk:k<len*sz' := by rw [← hnl]; exact (List.getElem?_eq_some_iff.1 h1).1
  obtain ⟨v',x,g1,g2,g3,g4⟩:=hf k hk
  rw [h1] at g1
  cases g1
  rw [List.getElem?_map,List.getElem?_range hk] at h2
  simp only [Option.map_some,Option.some.injEq] at h2
  rw [← h2,g3]
  exact g4
 ·have hcell:∀ j,j<len*sz' → w'.cell? ((⟨loc.block,loc.base+off,none⟩:Addr).add j)=some (f j):=by
   intro j hj
   obtain ⟨v,x,g1,g2,g3,g4⟩:=hf j hj
   rw [addr_add,cell_of_row w' _ _ arr e' (0,0) (by rw [hw]; exact a1),g2,g3]
  have:=run_loadCells (P:=P) w' ⟨loc.block,loc.base+off,none⟩ (len*sz') f hcell
  show (loadCells ⟨loc.block,loc.base+off,none⟩ (len*sz')).run P w' = _
  rw [this]
theorem push_ref {cs' : List V} {row rest:List Value} {e:TypeId} (hR:Rel w (Xs E H β) H β) (hlen:row.length=cs'.length) (h:∀ (k:Nat) v z,cs'[k]? = some v→row[k]? = some z→R w (Xs E H β) β v z) :
  Step E H β w (H++[.cells cs' 0]) (β++[{ kind:=false,block:=w.heap.size,base:=0,n:=0,size:=row.length+rest.length }]) (w.alloc (.cells (row++rest).toArray e)):=by
 refine Step.push hR (row++rest).toArray e (.cells cs' 0) _ rfl (by simp) (fun cs e' h' => ?_) (fun n sz h=>by cases h)
 simp only [O.cells.injEq] at h'
 obtain ⟨rfl,rfl⟩:=h'
 refine ⟨rfl,⟨by simp; omega,fun h=>by simp at h⟩,fun q v hv=>?_⟩
 have hq:q<row.length:=by rw [hlen]; exact (List.getElem?_eq_some_iff.1 hv).1
 exact ⟨row[q],by rw [List.getElem?_toArray,Nat.zero_add,List.getElem?_append_left hq]; simp [hq],h q v _ hv (by simp [hq])⟩
theorem sound_appendR {argTypes:Array TypeId} {ty:TypeId} {s x v:V} {sy y:Value} {H' : List O} (hR:Rel w (Xs E H β) H β)
  (hs:R w (Xs E H β) β s sy) (hx:R w (Xs E H β) β x y) (h:oAppendR P H argTypes s x=some (v,H')) :
  ∃ z w' β',(Builtin.append_ argTypes ty #[sy,y]).run P w = .ok z w' ∧ Step E H β w H' β' w' ∧ R w' (Xs E H' β') β' v z:=by
 unfold oAppendR at h
 split at h
 rotate_left
 ·cases h
 rename_i st h0
 split at h
 rotate_left
 ·cases h
 rename_i i hi
 split at h
 rotate_left
 ·cases h
 rename_i e hk
 have hu:=slice_spec hi hk
 split at h
 rotate_left
 ·cases h
 rename_i j sz n news hj hnews
 cases hb:(Nat.beq sz j.size && (Nat.blt 0 n && (allOne news && (Nat.blt 0 j.bytes && (Nat.beq j.zero.length j.size && appendable P argTypes)))))
 ·rw [hb] at h; cases h
 rw [hb,cond_true] at h
 obtain ⟨b1,hb⟩:=Bool.and_eq_true_iff.1 hb
 obtain ⟨bn,hb⟩:=Bool.and_eq_true_iff.1 hb
 obtain ⟨bo,hb⟩:=Bool.and_eq_true_iff.1 hb
 obtain ⟨b2,hb⟩:=Bool.and_eq_true_iff.1 hb
 obtain ⟨b3,b4⟩:=Bool.and_eq_true_iff.1 hb
 have b1:=Nat.eq_of_beq_eq_true b1
 have bn:0<n:=by simpa [Nat.blt_eq] using bn
 have b2:0<j.bytes:=by simpa [Nat.blt_eq] using b2
 have b3:=Nat.eq_of_beq_eq_true b3
 subst b1
 have happ:AppT P argTypes e j:=by
  refine ⟨⟨st,h0,hu⟩,hj,?_,b2,b3⟩
  unfold appendable at b4
  split at b4
  ·rename_i t ht
   split at b4
   ·rename_i e' hd; exact ⟨t,_,ht,hd,.inl ⟨e',rfl⟩⟩
   ·rename_i hd; exact ⟨t,_,ht,hd,.inr rfl⟩
   ·cases b4
  ·cases b4
 obtain ⟨ns,n1,n2,n3,n4,n5,n6⟩:=refCells_R (P:=P) hR hx hnews bn bo
 split at h
 ·-- nil
  cases hs
  cases hr:roomy n j.bytes
  ·rw [hr] at h; cases h
  rw [hr,cond_true] at h
  simp only [Option.some.injEq,Prod.mk.injEq] at h
  obtain ⟨rfl,rfl⟩:=h
  obtain ⟨rest,hrest,hrun⟩:=run_append_out (ty:=ty) happ (olds:=[]) (base:=none) (sLen:=0) (sCap:=0) (n5 w) (n6 w.drew rfl) (by rfl) (by omega) (by rw [Nat.zero_add]; exact roomy_spec hr)
  rw [Nat.zero_add] at hrest hrun
  have hge:=grownCap_ge w n 0 e
  have hd:=Step.drew hR
  have hp:=push_ref (rest:=rest) (e:=e) hd.rel (cs' := news) (row:=ns) (by omega) (fun k v z a b=>hd.keepR (n4 k v z a b))
  refine ⟨_,_,_,by simpa using hrun,hd.trans hp,?_⟩
  refine .ref _ H.length j.size 0 n { kind:=false,block:=w.drew.heap.size,base:=0,n:=0,size:=ns.length+rest.length } w.heap.size 0 (grownCap w n 0 e) (by rw [hR.len]; simp) rfl hge (fun _=>⟨rfl,rfl⟩) ?_
  simp only [Nat.zero_add,n1,hrest,← Nat.add_mul]
  rw [show n+(grownCap w n 0 e - n)=grownCap w n 0 e by omega]
  exact Nat.le_refl _
 ·rename_i id sz' len
  split at h
  rotate_left
  ·cases h
  rename_i cs e1 hH
  cases hr:(Nat.beq sz' j.size && (Nat.ble (len*j.size) cs.length && roomy (len+n) j.bytes))
  ·rw [hr] at h; cases h
  rw [hr,cond_true] at h
  simp only [Option.some.injEq,Prod.mk.injEq] at h
  obtain ⟨rfl,rfl⟩:=h
  obtain ⟨c1,hr⟩:=Bool.and_eq_true_iff.1 hr
  obtain ⟨c2,c3⟩:=Bool.and_eq_true_iff.1 hr
  have c1:=Nat.eq_of_beq_eq_true c1
  have c2:=Nat.le_of_ble_eq_true c2
  subst c1
  have hs' := hs
  cases hs with
  | ref _ _ _ _ _ loc b o cap hid hkd hlen ha hcap =>
  obtain ⟨_,arr,e',a1,a2,a3,a4⟩:=hR.cells id cs e1 loc hH hid
  by_cases hin:len+n≤cap
  ·-- in its own room
   obtain ⟨rfl,rfl⟩:=ha (by omega)
   have hm:(len+n)*j.size≤cap*j.size:=Nat.mul_le_mul_right _ hin
   rw [Nat.add_mul] at hm
   have hroom:loc.base+len*j.size+ns.length≤arr.size:=by omega
   have hst:=run_storeCells_at P loc.block (loc.base+len*j.size) e' ns 0 arr w a1 (by simpa using hroom) n3
   simp only [Nat.add_zero] at hst
   have hget:∀ q,(arr.toList.take (loc.base+len*j.size)++ns++arr.toList.drop (loc.base+len*j.size+ns.length))[q]? =
     if loc.base+len*j.size≤q∧q<loc.base+len*j.size+ns.length then ns[q - (loc.base+len*j.size)]? else arr.toList[q]? := splice_get _ _ _ (by simpa using hroom)
   have st:=Step.regrow hR (cs' := cs.take (len*j.size)++news) hH hid a1 (c' := (arr.toList.take (loc.base+len*j.size)++ns++arr.toList.drop (loc.base+len*j.size+ns.length)).toArray) (by simp; omega)
    (by simp; omega) (fun k v hv=>by
     have ht:(cs.take (len*j.size)).length=len*j.size:=by simp; omega
     rw [List.getElem?_toArray,hget]
     by_cases hk:k<len*j.size
     ·rw [List.getElem?_append_left (by omega),List.getElem?_take,if_pos hk] at hv
      obtain ⟨z,hz,hz'⟩:=a4 k v hv
      exact ⟨z,by rw [if_neg (by omega)]; simpa using hz,hz'⟩
     ·rw [List.getElem?_append_right (by omega),ht] at hv
      have hk2:k - len*j.size<ns.length:=by
       have:=(List.getElem?_eq_some_iff.1 hv).1
       omega
      refine ⟨ns[k - len*j.size],?_,n4 _ v _ hv (by simp [hk2])⟩
      rw [if_pos (by omega),show loc.base+k - (loc.base+len*j.size)=k - len*j.size by omega]
      simp [hk2])
   refine ⟨_,_,_,run_append_in (w' := w.setRow loc.block _) happ (n5 w) (n6 w rfl) hin (fun a h=>by cases h; rw [addr_add]; exact hst) (fun h=>by cases h),st,?_⟩
   refine .ref _ H.length j.size 0 (len+n) loc loc.block (loc.base+0) cap (by rw [hR.len]; simp) hkd hin (fun _=>⟨rfl,rfl⟩) hcap
  ·-- in a new block
   let f:Nat→Value:=fun k=>(arr[loc.base+k]?).getD undef
   have hf:∀ k,k<len*j.size → ∃ x,arr[loc.base+k]? = some x∧f k=x ∧ ∀ v,cs[k]? = some v→R w (Xs E H β) β v x:=by
    intro k hk
    have hkc:k<cs.length:=by omega
    obtain ⟨x,hx,hr⟩:=a4 k cs[k] (by simp [hkc])
    refine ⟨x,hx,?_,fun v hv=>?_⟩
    ·show (arr[loc.base+k]?).getD undef=x
     rw [hx]; rfl
    ·rw [List.getElem?_eq_getElem hkc] at hv
     cases hv
     exact hr
   have hold:(Builtin.firstCells j.size len (.slice (some ⟨b,o,none⟩) len cap)).run P w.drew = .ok ((List.range (len*j.size)).map f).toArray w.drew:=by
    show (loadCells ⟨b,o,none⟩ (len*j.size)).run P w.drew=_
    by_cases hl0:0<cap
    ·obtain ⟨rfl,rfl⟩:=ha hl0
     have:=run_loadCells (P:=P) w.drew ⟨loc.block,loc.base+0,none⟩ (len*j.size) f (fun q hq=>by
      obtain ⟨x,g1,g2,_⟩:=hf q hq
      rw [addr_add,Nat.add_zero,cell_of_row w.drew _ _ arr e' (0,0) a1,g1,g2])
     rw [this]
    ·have:len=0:=by omega
     subst this
     simp [loadCells,loadCellsFrom]
   obtain ⟨rest,hrest,hrun⟩:=run_append_out (ty:=ty) happ (olds:=(List.range (len*j.size)).map f) (base:=some ⟨b,o,none⟩) (sLen:=len) (sCap:=cap) (n5 w) (n6 w.drew rfl) hold (by omega) (roomy_spec c3)
   have hge:=grownCap_ge w (len+n) cap e
   have hd:=Step.drew hR
   have hc:=Step.close hd.rel id
   have hp:=push_ref (rest:=rest) (e:=e) hc.rel (cs' := cs.take (len*j.size)++news) (row:=(List.range (len*j.size)).map f++ns) (by simp; omega) (fun k v z p q=>by
    refine (hd.trans hc).keepR ?_
    have ht:(cs.take (len*j.size)).length=len*j.size:=by simp; omega
    by_cases hk:k<len*j.size
    ·rw [List.getElem?_append_left (by omega),List.getElem?_take,if_pos hk] at p
     rw [List.getElem?_append_left (by simp; omega),List.getElem?_map,List.getElem?_range hk] at q
     simp only [Option.map_some,Option.some.injEq] at q
     obtain ⟨x,_,g2,g3⟩:=hf k hk
     rw [← q,g2]
     exact g3 v p
    ·rw [List.getElem?_append_right (by omega),ht] at p
     rw [List.getElem?_append_right (by simp; omega)] at q
     simp only [List.length_map,List.length_range] at q
     exact n4 _ v z p q)
   refine ⟨_,_,_,hrun,(hd.trans hc).trans hp,?_⟩
   refine .ref _ H.length j.size 0 (len+n) { kind:=false,block:=w.drew.heap.size,base:=0,n:=0,size:=((List.range (len*j.size)).map f++ns).length+rest.length } w.heap.size 0 (grownCap w (len+n) cap e) (by rw [hR.len]; simp) rfl hge (fun _=>⟨rfl,rfl⟩) ?_
   simp only [Nat.zero_add,List.length_append,List.length_map,List.length_range,n1,hrest,← Nat.add_mul]
   rw [show len+n+(grownCap w (len+n) cap e - (len+n))=grownCap w (len+n) cap e by omega]
   exact Nat.le_refl _
 ·cases h
end
end Go.Ab
