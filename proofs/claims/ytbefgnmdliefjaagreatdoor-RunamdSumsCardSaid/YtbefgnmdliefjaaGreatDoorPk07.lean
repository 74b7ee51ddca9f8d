/-
  The engine, part L: composite slices, make, slice expressions. Conditions: none.
-/
import Derived.Test.YtbefgnmdliefjaaGreatDoorBbK
import Derived.Laws.BytesArg
import Derived.Laws.IdiomStrings
import Derived.Laws.Runes
set_option linter.unusedVariables false
set_option linter.unusedSimpArgs false
namespace Go.Ab
section
variable {P:Program} {E:Nat→Nat→Prop} {H:List O} {β:List Loc} {w:World} {X:Nat→Nat→Prop}
theorem flat_rep {α:Type} (z:List α):∀ (n:Nat),(List.replicate n z).flatten.length=n*z.length ∧ ∀ k,k<n*z.length→(List.replicate n z).flatten[k]? = z[k % z.length]?
 | 0=>⟨by simp,fun k hk=>by simp at hk⟩
 | n+1=>by
  obtain ⟨h1,h2⟩:=flat_rep z n
  rw [List.replicate_succ,List.flatten_cons]
  refine ⟨by rw [List.length_append,h1,Nat.add_mul]; omega,fun k hk=>?_⟩
  by_cases hz:k<z.length
  ·rw [List.getElem?_append_left hz,Nat.mod_eq_of_lt hz]
  ·have hmod:k % z.length=(k - z.length) % z.length:=Nat.mod_eq_sub_mod (by omega)
   rw [List.getElem?_append_right (by omega),hmod]
   apply h2
   rw [Nat.add_mul] at hk
   omega
theorem zero_arr {z:Value} {n:Nat} {zs:List V} (hs:z.cells.size=zs.length) (hr:∀ (k:Nat) v x,zs[k]? = some v→z.cells[k]? = some x→R w X β v x) :
  ((Array.range (n*zs.length)).map (z.cells[· % z.cells.size]!)).size=(List.replicate n zs).flatten.length ∧
  ∀ (k:Nat) v x,(List.replicate n zs).flatten[k]? = some v→((Array.range (n*zs.length)).map (z.cells[· % z.cells.size]!))[k]? = some x→R w X β v x:=by
 obtain ⟨h1,h2⟩:=flat_rep zs n
 refine ⟨by simp [h1],fun k v x hv hx=>?_⟩
 have hk:k<n*zs.length:=by rw [← h1]; exact (List.getElem?_eq_some_iff.1 hv).1
 rw [h2 k hk] at hv
 simp only [Array.getElem?_map,Array.getElem?_range,hk,if_true,Option.map_some,Option.some.injEq] at hx
 have hpos:0<zs.length:=by
  rcases Nat.eq_zero_or_pos zs.length with h0 | h0
  ·simp [h0] at hk
  ·exact h0
 have hm:=Nat.mod_lt k hpos
 refine hr (k % zs.length) v x hv ?_
 rw [← hx,hs]
 have:k % zs.length<z.cells.size:=by omega
 simp [this]
theorem sound_buildSlice {ref:Bool} {t:TypeId} {len:Nat} {ps:List (Nat × V)} {qs:Array (Nat × Value)} {v:V} {H' : List O} (hE:∀ b o,E b o→b<w.heap.size∧¬ Own H β b o)
  (hR:Rel w (Xs E H β) H β) (hlen:ps.length=qs.size)
  (hpq:∀ (k:Nat) p q,ps[k]? = some p→qs.toList[k]? = some q→p.1=q.1∧R w (Xs E H β) β p.2 q.2) (h:oBuildSlice P H ref t len ps=some (v,H')) :
  ∃ z w' β',(Instr.buildSlice t len qs).run P w = .ok z w' ∧ Step E H β w H' β' w' ∧ R w' (Xs E H' β') β' v z:=by
 unfold oBuildSlice at h
 split at h
 rotate_left
 ·cases h
 rename_i i hi
 split at h
 rotate_left
 ·cases h
 rename_i e hk
 have hu:=slice_spec hi hk
 split at h
 rotate_left
 ·cases h
 rename_i j hj
 cases hb:(Nat.ble (len*j.size) 16777216 && Nat.beq j.zero.length j.size)
 ·simp [hb] at h
 simp only [hb,cond_true] at h
 obtain ⟨b1,b2⟩:=Bool.and_eq_true_iff.1 hb
 have b1:=Nat.le_of_ble_eq_true b1
 have b2:=Nat.eq_of_beq_eq_true b2
 split at h
 rotate_left
 ·cases h
 rename_i es hes
 obtain ⟨z,hz,hzs,hzr⟩:=zero_R (w:=w) (X:=Xs E H β) (β:=β) hj
 obtain ⟨a1,a2⟩:=zero_arr (n:=len) hzs hzr
 obtain ⟨arr,g1,g2,g3,g4⟩:=fill_R (w:=w) (X:=Xs E H β) (β:=β) (place:=fun i=>some (i*j.size,j.size)) (fun i x hx=>hx) ps qs.toList _ es _ (by simpa using hlen) hpq a1 a2 hes
 obtain ⟨f1,f2⟩:=flat_rep j.zero len
 have hrun:(Instr.buildSlice t len qs).run P w = .ok (.slice (some ⟨w.heap.size,0,none⟩) len len) (w.alloc (.cells arr e)):=by
  have hn:¬ (16777216<len*j.size):=by omega
  rw [b2] at g1
  by_cases h0:len*j.size=0
  ·have e0:∀ f:Nat→Value,(Array.range (len*j.size)).map f = #[]:=by intro f; rw [h0]; simp
   rw [e0] at g1
   simp only [Instr.buildSlice,Sem.run_bind,run_und w hu,Result.andThen_ok,ti_size w hj]
   simp [h0,newRow,show Array.range 0 = #[] from rfl,g1]
  ·simp only [Instr.buildSlice,Sem.run_bind,run_und w hu,Result.andThen_ok,ti_size w hj]
   simp [h0,hn,hz,newRow]
   simp [g1]
 cases ref
 ·simp only [cond_false] at h
  split at h
  rotate_left
  ·cases h
  rename_i c hc
  cases hcs:Nat.beq c.size j.size
  ·simp [hcs] at h
  simp only [hcs,cond_true] at h
  have hcs:=Nat.eq_of_beq_eq_true hcs
  obtain ⟨l,hl,he⟩:=Option.map_eq_some_iff.1 h
  simp only [Prod.mk.injEq] at he
  obtain ⟨rfl,rfl⟩:=he
  rw [← hcs] at hl
  obtain ⟨l1,l2⟩:=chunk_dec hl
  obtain ⟨st,hr⟩:=fresh_sl (l:=l) (arr:=arr) (e:=e) (fl:=.full) (cap:=len) (len:=len) hE hR l1.symm (by omega) (fun _=>l1.symm) (by
   intro i x k v hx hv
   obtain ⟨u,hu,_,hu'⟩:=l2 i x k v hx hv
   have hk:i*c.size+k<arr.size:=by rw [g2]; exact (List.getElem?_eq_some_iff.1 hu).1
   exact ⟨arr[i*c.size+k],by simp [hk],hu' w (Xs E H β) β _ (g4 _ u _ hu (by simp [hk]))⟩)
  exact ⟨_,_,β,hrun,st,hr⟩
 ·simp only [cond_true,Option.some.injEq,Prod.mk.injEq] at h
  obtain ⟨rfl,rfl⟩:=h
  have st:=Step.push hR arr e (.cells es (e+4294967296)) { kind:=false,block:=w.heap.size,base:=0,n:=0,size:=arr.size } rfl rfl
   (fun cs e' h=>by
    simp only [O.cells.injEq] at h
    obtain ⟨rfl,rfl⟩:=h
    refine ⟨rfl,by simp [g2],fun k v hv=>?_⟩
    have hk:k<arr.size:=by rw [g2]; exact (List.getElem?_eq_some_iff.1 hv).1
    exact ⟨arr[k],by simp [hk],g4 k v _ hv (by simp [hk])⟩) (fun n sz h=>by cases h)
  refine ⟨_,_,_,hrun,st,?_⟩
  refine .ref _ H.length j.size 0 len { kind:=false,block:=w.heap.size,base:=0,n:=0,size:=arr.size } w.heap.size 0 len (by rw [hR.len]; simp) rfl (Nat.le_refl _) (fun _=>⟨rfl,rfl⟩) ?_
  have:es.length=len*j.size:=by rw [g3,f1,b2]
  simp only [Nat.zero_add]
  omega
theorem sound_makeSlice {ref:Bool} {t:TypeId} {l c v:V} {ly cy:Value} {H' : List O} (hE:∀ b o,E b o→b<w.heap.size∧¬ Own H β b o)
  (hR:Rel w (Xs E H β) H β) (hl:R w (Xs E H β) β l ly) (hc:R w (Xs E H β) β c cy) (h:(oMakeSlice P H ref t l c).run=some (v,H')) :
  ∃ z w' β',(Instr.makeSlice t ly cy).run P w = .ok z w' ∧ Step E H β w H' β' w' ∧ R w' (Xs E H' β') β' v z:=by
 unfold oMakeSlice at h
 split at h
 rotate_left
 ·cases h
 rename_i i k1 l k2 c hi
 cases hl
 cases hc
 split at h
 rotate_left
 ·cases h
 rename_i e hk
 have hu:=slice_spec hi hk
 split at h
 rotate_left
 ·cases h
 rename_i j hj
 obtain ⟨hreq,h⟩:=req_run h
 cases hb:(Nat.beq j.zero.length j.size && Nat.blt 0 j.bytes)
 ·simp [hb,Tree.run] at h
 simp only [hb,cond_true] at h
 obtain ⟨b1,b2⟩:=Bool.and_eq_true_iff.1 hb
 have b1:=Nat.eq_of_beq_eq_true b1
 have b2:0<j.bytes:=by simpa [Nat.blt_eq] using b2
 simp only [Bool.and_eq_true,decide_eq_true_eq] at hreq
 obtain ⟨⟨r1,r2⟩,r3⟩:=hreq
 have r3:=roomy_spec r3
 obtain ⟨ti1,d1,i1,i2,i3,i4,⟨z,z1,z2⟩,_⟩:=(ti_spec hj).info
 have hcb:(ti1.bytes:Int)*c≤281474976710656:=by
  have e1:c=(c.toNat:Int):=by omega
  rw [e1,i4]
  have:((j.bytes*c.toNat:Nat):Int)≤281474976710656:=by rw [Nat.mul_comm]; omega
  simpa using this
 have hc63:c≤9223372036854775807:=by
  have:c.toNat*1≤c.toNat*j.bytes:=Nat.mul_le_mul_left _ b2
  omega
 have hrun:=run_make (P:=P) w t e ti1 z hu i1 z1 k1 k2 l c r1 r2 hcb hc63
 rw [i3] at hrun
 have hz:z.cells.size=j.zero.length:=by simp [z2]
 obtain ⟨a1,a2⟩:=zero_arr (w:=w) (X:=Xs E H β) (β:=β) (z:=z) (n:=c.toNat) (zs:=j.zero) hz (by
  intro k v x hv hx
  rw [z2] at hv
  have:z.cells.toList[k]? = some x:=by simpa using hx
  simp only [List.getElem?_map,this,Option.map_some,Option.some.injEq] at hv
  subst hv
  exact ofVal1_R _ _ _ _)
 rw [b1] at a1 a2
 obtain ⟨f1,f2⟩:=flat_rep j.zero c.toNat
 obtain ⟨f3,f4⟩:=flat_rep j.zero l.toNat
 have hlc:l.toNat≤c.toNat:=by omega
 have hmul:l.toNat*j.zero.length≤c.toNat*j.zero.length:=Nat.mul_le_mul_right _ hlc
 have hget:∀ (k:Nat) u,(List.replicate l.toNat j.zero).flatten[k]? = some u → ∃ x,(madeCells z.cells (c.toNat*j.size))[k]? = some x∧R w (Xs E H β) β u x:=by
  intro k u hu
  have hk:k<l.toNat*j.zero.length:=by rw [← f3]; exact (List.getElem?_eq_some_iff.1 hu).1
  rw [f4 k hk,← f2 k (by omega)] at hu
  have hk' : k<(madeCells z.cells (c.toNat*j.size)).size:=by rw [size_madeCells,← b1]; omega
  exact ⟨_,by rw [Array.getElem?_eq_getElem hk'],a2 k u _ hu (by show (madeCells z.cells (c.toNat*j.size))[k]? = _; rw [Array.getElem?_eq_getElem hk'])⟩
 cases ref
 ·simp only [cond_false] at h
  split at h
  rotate_left
  ·cases h
  rename_i d hd
  cases hds:Nat.beq d.size j.size
  ·simp [hds,Tree.run] at h
  simp only [hds,cond_true] at h
  have hds:=Nat.eq_of_beq_eq_true hds
  split at h
  rotate_left
  ·cases h
  rename_i x0 hx0
  simp only [Tree.run,Option.some.injEq,Prod.mk.injEq] at h
  obtain ⟨rfl,rfl⟩:=h
  obtain ⟨q1,q2⟩:=dec1_spec hx0
  have st:=Step.push hR (madeCells z.cells (c.toNat*j.size)) e (.tok l.toNat d.size) { kind:=true,block:=w.heap.size,base:=0,n:=l.toNat,size:=c.toNat*j.size } rfl (size_madeCells _ _)
   (fun cs e h=>by cases h) (fun n sz h=>by cases h; exact ⟨rfl,rfl⟩)
  refine ⟨_,_,_,hrun,st,mk_gro (loc:={ kind:=true,block:=w.heap.size,base:=0,n:=l.toNat,size:=c.toNat*j.size }) (by simp) (by rw [hR.len]; simp) rfl (by simp) ?_ (by simpa using hlc) ?_⟩
  ·intro _
   refine ⟨rfl,rfl,?_⟩
   simp only [hds]; omega
  ·intro i' x k u hx hv
   have hi:i' < l.toNat:=by have:=(List.getElem?_eq_some_iff.1 hx).1; simpa using this
   have hlt:=idx_lt hi hv
   rw [List.getElem?_replicate,if_pos hi] at hx
   simp only [Option.some.injEq] at hx
   subst hx
   obtain ⟨u0,hu0,_,hu0'⟩:=q2 k u hv
   have hk:k<d.size:=by have:=(List.getElem?_eq_some_iff.1 hv).1; rwa [enc_size] at this
   have hflat:(List.replicate l.toNat j.zero).flatten[i' * d.size+k]? = some u0:=by
    rw [f4 _ (by rw [q1]; exact hlt),q1,Nat.add_comm,Nat.add_mul_mod_self_right,Nat.mod_eq_of_lt hk]
    exact hu0
   obtain ⟨x,hx,hr⟩:=hget _ _ hflat
   refine ⟨?_,x,?_,(hu0' w _ _ x hr).stab st.stab _ (.nil _)⟩
   ·rintro (g | ⟨id,lo,g1,g2,g3⟩)
    ·exact absurd (hE _ _ g).1 (Nat.lt_irrefl _)
    ·rw [getElem?_concat] at g1
     by_cases hid:id<β.length
     ·simp only [hid,if_true] at g1
      have hid' : id<H.length:=by rw [hR.len]; exact hid
      rcases g3 with ⟨cs,e,g3⟩ | ⟨n,sz,g3,g4⟩ | ⟨sh,vs,g3⟩
      ·rw [List.getElem?_append_left hid'] at g3
       have:=live_lt hR (live_cells g3) g1
       omega
      ·rw [List.getElem?_append_left hid'] at g3
       have:=live_lt hR (live_tok g3) g1
       omega
      ·rw [List.getElem?_append_left hid'] at g3
       have:=live_lt hR (live_obj g3) g1
       omega
     ·simp only [hid,if_false] at g1
      split at g1
      ·rename_i hid2
       rcases g3 with ⟨cs,e,g3⟩ | ⟨n,sz,g3,g4⟩ | ⟨sh,vs,g3⟩
       ·rw [hid2,← hR.len] at g3; simp at g3
       ·rw [hid2,← hR.len] at g3
        simp at g3
        obtain ⟨rfl,rfl⟩:=g3
        simp only [Option.some.injEq] at g1
        subst g1
        simp at g4
        omega
       ·rw [hid2,← hR.len] at g3; simp at g3
      ·cases g1
   ·rw [World.cell?_alloc_new]
    simpa using hx
 ·simp only [cond_true,Tree.run,Option.some.injEq,Prod.mk.injEq] at h
  obtain ⟨rfl,rfl⟩:=h
  have st:=Step.push hR (madeCells z.cells (c.toNat*j.size)) e (.cells (List.replicate l.toNat j.zero).flatten 0) { kind:=false,block:=w.heap.size,base:=0,n:=0,size:=c.toNat*j.size } rfl (size_madeCells _ _)
   (fun cs e' h=>by
    simp only [O.cells.injEq] at h
    obtain ⟨rfl,rfl⟩:=h
    refine ⟨rfl,⟨by rw [f3]; simp only [Nat.zero_add]; rw [← b1]; exact hmul,fun h=>absurd h (by decide)⟩,fun k v hv=>?_⟩
    obtain ⟨x,hx,hr⟩:=hget k v hv
    exact ⟨x,by simpa using hx,hr⟩) (fun n sz h=>by cases h)
  refine ⟨_,_,_,hrun,st,?_⟩
  exact .ref _ H.length j.size 0 l.toNat { kind:=false,block:=w.heap.size,base:=0,n:=0,size:=c.toNat*j.size } w.heap.size 0 c.toNat (by rw [hR.len]; simp) rfl hlc (fun _=>⟨rfl,rfl⟩) (by simp)
theorem sound_makePage {t:TypeId} {l c v:V} {ly cy:Value} {H' : List O}
  (hR:Rel w (Xs E H β) H β) (hl:R w (Xs E H β) β l ly) (hc:R w (Xs E H β) β c cy) (h:(oMakePage P H t l c).run=some (v,H')) :
  ∃ z w' β',(Instr.makeSlice t ly cy).run P w = .ok z w' ∧ Step E H β w H' β' w' ∧ R w' (Xs E H' β') β' v z:=by
 unfold oMakePage at h
 split at h
 rotate_left
 ·cases h
 rename_i i k1 l k2 c hi
 cases hl
 cases hc
 split at h
 rotate_left
 ·cases h
 rename_i e hk
 have hu:=slice_spec hi hk
 split at h
 rotate_left
 ·cases h
 rename_i j k hj hik
 obtain ⟨j',hj',_,hjs⟩:=intOf_spec hik
 rw [hj] at hj'
 cases hj'
 obtain ⟨hreq,h⟩:=req_run h
 cases hb:(isZeroK k j.zero && Nat.blt 0 j.bytes)
 ·simp [hb,Tree.run] at h
 simp only [hb,cond_true] at h
 obtain ⟨b1,b2⟩:=Bool.and_eq_true_iff.1 hb
 have b2:0<j.bytes:=by simpa [Nat.blt_eq] using b2
 have b1:j.zero=[.int k 0]:=by
  unfold isZeroK at b1
  split at b1
  ·rename_i l n heq
   simp only [Bool.and_eq_true,decide_eq_true_eq,beq_iff_eq] at b1
   obtain ⟨rfl,rfl⟩:=b1
   exact heq
  ·cases b1
 simp only [Bool.and_eq_true,decide_eq_true_eq] at hreq
 obtain ⟨⟨r1,r2⟩,r3⟩:=hreq
 have r3:=roomy_spec r3
 obtain ⟨ti1,d1,i1,i2,i3,i4,⟨z,z1,z2⟩,_⟩:=(ti_spec hj).info
 have hcb:(ti1.bytes:Int)*c≤281474976710656:=by
  have e1:c=(c.toNat:Int):=by omega
  rw [e1,i4]
  have:((j.bytes*c.toNat:Nat):Int)≤281474976710656:=by rw [Nat.mul_comm]; omega
  simpa using this
 have hc63:c≤9223372036854775807:=by
  have:c.toNat*1≤c.toNat*j.bytes:=Nat.mul_le_mul_left _ b2
  omega
 have hrun:=run_make (P:=P) w t e ti1 z hu i1 z1 k1 k2 l c r1 r2 hcb hc63
 rw [i3,hjs,Nat.mul_one] at hrun
 have hz:z.cells.size=j.zero.length:=by simp [z2]
 obtain ⟨a1,a2⟩:=zero_arr (w:=w) (X:=Xs E H β) (β:=β) (z:=z) (n:=c.toNat) (zs:=j.zero) hz (by
  intro k v x hv hx
  rw [z2] at hv
  have:z.cells.toList[k]? = some x:=by simpa using hx
  simp only [List.getElem?_map,this,Option.map_some,Option.some.injEq] at hv
  subst hv
  exact ofVal1_R _ _ _ _)
 simp only [Tree.run,Option.some.injEq,Prod.mk.injEq] at h
 obtain ⟨rfl,rfl⟩:=h
 have harr:madeCells z.cells c.toNat=(([]:List Value)++(List.replicate c.toNat (0:Int)).map (Value.int k)).toArray:=by
  rw [b1] at a1 a2
  simp only [List.length_cons,List.length_nil,Nat.zero_add,Nat.mul_one] at a1 a2
  have hsz:(madeCells z.cells c.toNat).size=c.toNat:=size_madeCells _ _
  apply Array.ext_getElem?
  intro q
  have er:((List.replicate c.toNat (Value.int k 0)).toArray)[q]? = if q<c.toNat then some (Value.int k 0) else none:=by rw [List.getElem?_toArray,List.getElem?_replicate]
  rw [List.nil_append,List.map_replicate,er]
  by_cases hq:q<c.toNat
  ·rw [if_pos hq]
   have hq' : q<(madeCells z.cells c.toNat).size:=by omega
   have hx:(madeCells z.cells c.toNat)[q]? = some (madeCells z.cells c.toNat)[q]:=Array.getElem?_eq_getElem hq'
   have hv:((List.replicate c.toNat [V.int k 0]).flatten)[q]? = some (.int k 0):=by
    have:(List.replicate c.toNat [V.int k 0]).flatten=List.replicate c.toNat (V.int k 0):=by
     generalize c.toNat=m
     induction m with
     | zero=>rfl
     | succ m ih=>rw [List.replicate_succ,List.replicate_succ,List.flatten_cons,ih]; rfl
    rw [this,List.getElem?_replicate,if_pos hq]
   have:=a2 q (.int k 0) (madeCells z.cells c.toNat)[q] hv hx
   rw [hx]
   generalize (madeCells z.cells c.toNat)[q]=y at this
   cases this
   rfl
  ·rw [if_neg hq]
   exact Array.getElem?_eq_none (by omega)
 have st:=Step.pushObjD hR (.cells (madeCells z.cells c.toNat) e (0,0)) (sh:=.page 0 k (List.replicate c.toNat 0)) (xs:=[]) (vs:=[]) (loc:={ kind:=false,block:=w.heap.size,base:=0,n:=0,size:=c.toNat })
  ⟨rfl,e,by rw [harr]⟩ (fun q v hv=>by simp at hv) rfl rfl rfl
 refine ⟨_,_,_,hrun,st,?_⟩
 refine .ref _ H.length 1 0 l.toNat { kind:=false,block:=w.heap.size,base:=0,n:=0,size:=c.toNat } w.heap.size 0 c.toNat (by rw [hR.len]; simp) rfl (by omega) (fun _=>⟨rfl,rfl⟩) (by simp)
end
end Go.Ab

namespace Go.Ab
section
variable {P:Program} {E:Nat→Nat→Prop} {H:List O} {β:List Loc} {w:World} {X:Nat→Nat→Prop}
def optR (w:World) (X:Nat→Nat→Prop) (β:List Loc):Option V→Option Value→Prop
 | none,none=>True
 | some v,some y=>R w X β v y
 | _,_=>False
theorem run_bounds {isS:Bool} {len cap:Nat} {lo hi:Option V} {loy hiy:Option Value} {l h:Int} (hlo:optR w X β lo loy) (hhi:optR w X β hi hiy)
  (bl:bound? lo 0=some l) (bh:bound? hi len=some h) (h0:0≤l) (h1:l≤h) (h2:h≤cap) (_h3:len≤cap) :
  (Instr.sliceBounds isS len cap loy hiy none).run P w = .ok (l.toNat,h.toNat,cap) w:=by
 have e1:((h.toNat:Nat):Int)=h:=by omega
 unfold Instr.sliceBounds
 cases hi with
 | none =>
  cases hiy with
  | some _=>cases hhi
  | none =>
   simp only [bound?,Option.some.injEq] at bh
   subst bh
   cases lo with
   | none =>
    cases loy with
    | some _=>cases hlo
    | none=>simp only [bound?,Option.some.injEq] at bl; subst bl; simp
   | some v =>
    cases loy with
    | none=>cases hlo
    | some y =>
     cases v <;> simp only [bound?,reduceCtorEq,Option.some.injEq] at bl
     subst bl
     cases hlo
     simp [Instr.sliceBound,asIntOf,h0,h1]
 | some hv =>
  cases hiy with
  | none=>cases hhi
  | some hy =>
   cases hv <;> simp only [bound?,reduceCtorEq,Option.some.injEq] at bh
   rename_i kh nh
   subst bh
   cases hhi
   have h00:0≤nh:=by omega
   cases lo with
   | none =>
    cases loy with
    | some _=>cases hlo
    | none=>simp only [bound?,Option.some.injEq] at bl; subst bl; simp [Instr.sliceBound,asIntOf,h00,h2]
   | some v =>
    cases loy with
    | none=>cases hlo
    | some y =>
     cases v <;> simp only [bound?,reduceCtorEq,Option.some.injEq] at bl
     subst bl
     cases hlo
     simp [Instr.sliceBound,asIntOf,h0,h1,h00,h2,e1]
theorem sub_get {α:Type} (l:List α) (lo hi i:Nat):(sub l lo hi)[i]? = if lo+i<hi then l[lo+i]? else none:=by
 unfold sub
 rw [List.getElem?_drop,List.getElem?_take]
theorem sub_length {α:Type} (l:List α) (lo hi:Nat) (h:hi≤l.length):(sub l lo hi).length=hi - lo:=by
 unfold sub; simp; omega
theorem sl_piece {c:EC} {all:List c.ty} {b o cap l h:Nat} {fl:Fl} (hl:l≤h) (hh:h≤all.length) (hcap:all.length≤cap) (hfull:fl = .full→cap=all.length)
  (hrw:fl.fixed=false → ∃ (cs:Array Value) (e:TypeId),w.heap[b]? = some (.cells cs e (0,0)))
  (hc:∀ (i:Nat) x (k:Nat) v,all[i]? = some x→(enc c x)[k]? = some v→¬ X b (o+i*c.size+k) ∧ ∃ y,w.cell? ⟨b,o+i*c.size+k,none⟩=some y∧R w X [] v y) :
  R w X β (.sl c (sub all l h) (all.drop h) fl) (.slice (if cap=l then some ⟨b,o,none⟩ else (some (⟨b,o,none⟩:Addr)).map (·.add (l*c.size))) (h - l) (cap - l)):=by
 have hlen:=sub_length all l h hh
 have hshift:∀ (i:Nat) x (k:Nat) v,(sub all l h++all.drop h)[i]? = some x→(enc c x)[k]? = some v →
   ¬ X b (o+l*c.size+i*c.size+k) ∧ ∃ y,w.cell? ⟨b,o+l*c.size+i*c.size+k,none⟩=some y∧R w X [] v y:=by
  intro i x k v hx hv
  have hx' : all[l+i]? = some x:=by
   by_cases hi:i<h - l
   ·rw [List.getElem?_append_left (by rw [hlen]; exact hi),sub_get,if_pos (by omega)] at hx
    exact hx
   ·rw [List.getElem?_append_right (by rw [hlen]; omega),hlen,List.getElem?_drop] at hx
    rw [← hx]; congr 1; omega
  have:=hc (l+i) x k v hx' hv
  rwa [Nat.add_mul,show o+(l*c.size+i*c.size)+k=o+l*c.size+i*c.size+k from by omega] at this
 split
 ·rename_i hcl
  have h1:sub all l h=[]:=List.length_eq_zero_iff.1 (by rw [hlen]; omega)
  have h2:all.drop h=[]:=List.length_eq_zero_iff.1 (by simp; omega)
  rw [h1,h2]
  exact mk_sl (by simp; omega) (by simp) (fun e=>by have:=hfull e; simp; omega) hrw (by simp)
 ·simp only [Option.map_some,addr_add]
  exact mk_sl hlen.symm (by rw [hlen]; simp; omega) (fun e=>by have:=hfull e; rw [hlen]; simp; omega) hrw hshift
theorem run_slice_sl {t e:TypeId} {a:Option Addr} {len cap size:Nat} {loy hiy:Option Value} {l h:Nat} (hu:P.underlying t=some (.slice e)) (hs:(sizeOf e).run P w = .ok size w)
  (hb:(Instr.sliceBounds true len cap loy hiy none).run P w = .ok (l,h,cap) w) :
  (Instr.sliceAt t (.slice a len cap) loy hiy none).run P w = .ok (.slice (if cap=l then a else a.map (·.add (l*size))) (h - l) (cap - l)) w:=by
 simp [Instr.sliceAt,Instr.slice,run_und w hu,hb,hs]
theorem run_slice_str {t:TypeId} {s:ByteArray} {loy hiy:Option Value} {l h:Nat} (hu:P.underlying t=some .string)
  (hb:(Instr.sliceBounds false s.size s.size loy hiy none).run P w = .ok (l,h,s.size) w) :
  (Instr.sliceAt t (.string s) loy hiy none).run P w = .ok (.string (s.extract l h)) w:=by
 simp [Instr.sliceAt,Instr.slice,run_und w hu,hb]
theorem extract_sub (s:List UInt8) (l h:Nat):(ByteArray.mk s.toArray).extract l h=⟨(sub s l h).toArray⟩:=by
 apply ByteArray.ext
 apply Array.ext'
 simp [sub,List.extract_eq_take_drop,List.drop_take]
theorem sound_slice {t:TypeId} {x v:V} {y:Value} {lo hi:Option V} {loy hiy:Option Value} (_hR:Rel w X H β) (hx:R w X β x y) (hlo:optR w X β lo loy) (hhi:optR w X β hi hiy)
  (h:(oSlice P H t x lo hi).run=some v):∃ z,(Instr.sliceAt t y loy hiy none).run P w = .ok z w∧R w X β v z:=by
 unfold oSlice at h
 split at h
 ·rename_i s
  split at h
  rotate_left
  ·cases h
  rename_i h1 l1 hu bh bl
  obtain ⟨hreq,h⟩:=req_run h
  simp only [Tree.run,Option.some.injEq] at h
  subst h
  simp only [Bool.and_eq_true,decide_eq_true_eq] at hreq
  obtain ⟨⟨r1,r2⟩,r3⟩:=hreq
  cases hx
  have hsz:(ByteArray.mk s.toArray).size=s.length:=by simp [ByteArray.size]
  have hb:=run_bounds (P:=P) (isS:=false) (len:=s.length) (cap:=s.length) hlo hhi bl bh r1 r2 r3 (Nat.le_refl _)
  refine ⟨_,run_slice_str hu (by rw [hsz]; exact hb),?_⟩
  rw [extract_sub]
  exact .str _ _
 ·split at h
  rotate_left
  ·cases h
  rename_i i hi'
  split at h
  rotate_left
  ·cases h
  rename_i e hk
  have hu:=slice_spec hi' hk
  split at h
  rotate_left
  ·cases h
  rename_i j hj
  split at h
  ·rename_i c ls spare fl _
   rcases sl_get hx with ⟨rfl,rfl,rfl,rfl⟩ | ⟨b,o,cap,rfl,hcap,hfull,hrw,hh⟩
   ·split at h
    ·rename_i h1 l1 bl bh
     obtain ⟨hreq,g⟩:=req_run h
     simp only [Bool.and_eq_true,decide_eq_true_eq] at hreq
     obtain ⟨r1,r2⟩:=hreq
     have bh' : h1=0:=by simpa [bound?] using bh.symm
     subst bh'
     cases hcs:Nat.beq c.size j.size
     ·rw [hcs] at g; simp [Tree.run] at g
     rw [hcs] at g
     simp only [cond_true,Tree.run,Option.some.injEq] at g
     subst g
     have l0:l1=0:=by omega
     subst l0
     have hb:=run_bounds (P:=P) (isS:=true) (len:=0) (cap:=0) hlo hhi bl bh (by omega) (by omega) (by omega) (by omega)
     exact ⟨_,run_slice_sl hu (ti_size w hj) hb,.nil _ _⟩
    ·rename_i h1 l1 bl _ bh
     obtain ⟨hreq,h⟩:=req_run h
     simp only [Bool.and_eq_true,decide_eq_true_eq] at hreq
     obtain ⟨⟨r1,r2⟩,r3⟩:=hreq
     cases hcs:Nat.beq c.size j.size
     ·simp [hcs,Tree.run] at h
     simp only [hcs,cond_true,Tree.run,Option.some.injEq] at h
     subst h
     have r3' : h1≤0:=by simpa using r3
     have h0:h1=0:=by omega
     have l0:l1=0:=by omega
     subst h0
     subst l0
     have hb:=run_bounds (P:=P) (isS:=true) (len:=0) (cap:=0) hlo hhi bl bh (by omega) (by omega) (by omega) (by omega)
     exact ⟨_,run_slice_sl hu (ti_size w hj) hb,.nil _ _⟩
    ·cases h
   split at h
   ·rename_i h1 l1 bl bh
    obtain ⟨hreq,g⟩:=req_run h
    simp only [Bool.and_eq_true,decide_eq_true_eq] at hreq
    obtain ⟨r1,r2⟩:=hreq
    have bh' : h1=ls.length:=by simpa [bound?] using bh.symm
    subst bh'
    cases hcs:Nat.beq c.size j.size
    ·rw [hcs] at g; simp [Tree.run] at g
    rw [hcs] at g
    simp only [cond_true,Tree.run,Option.some.injEq] at g
    subst g
    have hcs:=Nat.eq_of_beq_eq_true hcs
    have hb:=run_bounds (P:=P) (isS:=true) (len:=ls.length) (cap:=cap) hlo hhi bl bh r1 r2 (by omega) (by omega)
    refine ⟨_,run_slice_sl hu (ti_size w hj) hb,?_⟩
    have:=sl_piece (w:=w) (X:=X) (β:=β) (all:=ls++spare) (b:=b) (o:=o) (cap:=cap) (l:=l1.toNat) (h:=ls.length) (fl:=fl) (by omega) (by simp) (by simpa using hcap) (by simpa using hfull) hrw hh
    rw [hcs] at this
    simpa [sub] using this
   ·rename_i h1 l1 bl _ bh
    obtain ⟨hreq,h⟩:=req_run h
    simp only [Bool.and_eq_true,decide_eq_true_eq] at hreq
    obtain ⟨⟨r1,r2⟩,r3⟩:=hreq
    cases hcs:Nat.beq c.size j.size
    ·simp [hcs,Tree.run] at h
    simp only [hcs,cond_true,Tree.run,Option.some.injEq] at h
    subst h
    have hcs:=Nat.eq_of_beq_eq_true hcs
    have hb:=run_bounds (P:=P) (isS:=true) (len:=ls.length) (cap:=cap) hlo hhi bl bh r1 r2 (by omega) (by omega)
    refine ⟨_,run_slice_sl hu (ti_size w hj) hb,?_⟩
    have:=sl_piece (w:=w) (X:=X) (β:=β) (all:=ls++spare) (b:=b) (o:=o) (cap:=cap) (l:=l1.toNat) (h:=h1.toNat) (fl:=fl) (by omega) (by simp; omega) (by simpa using hcap) (by simpa using hfull) hrw hh
    rw [hcs] at this
    exact this
   ·cases h
  ·rename_i id c ls _
   obtain ⟨b,o,cap,loc,rfl,_,_,_,_,hcap,hh⟩:=gro_get hx
   split at h
   ·rename_i h1 l1 bh bl
    obtain ⟨hreq,h⟩:=req_run h
    simp only [Bool.and_eq_true,decide_eq_true_eq] at hreq
    obtain ⟨⟨r1,r2⟩,r3⟩:=hreq
    cases hcs:Nat.beq c.size j.size
    ·simp [hcs,Tree.run] at h
    simp only [hcs,cond_true,Tree.run,Option.some.injEq] at h
    subst h
    have hcs:=Nat.eq_of_beq_eq_true hcs
    have hb:=run_bounds (P:=P) (isS:=true) (len:=ls.length) (cap:=cap) hlo hhi bl bh r1 r2 (by omega) (by omega)
    refine ⟨_,run_slice_sl hu (ti_size w hj) hb,?_⟩
    have:=sl_piece (w:=w) (X:=X) (β:=β) (all:=ls) (b:=b) (o:=o) (cap:=cap) (l:=l1.toNat) (h:=h1.toNat) (fl:=.ro) (by omega) (by omega) hcap (fun h=>by cases h) (fun h=>by cases h) hh
    rw [hcs] at this
    exact this
   ·cases h
  ·rename_i id sz off len _
   split at h
   rotate_left
   ·cases h
   rename_i cs e' hH
   split at h
   rotate_left
   ·cases h
   rename_i h1 l1 bh bl
   obtain ⟨hreq,h⟩:=req_run h
   simp only [Bool.and_eq_true,decide_eq_true_eq] at hreq
   obtain ⟨⟨r1,r2⟩,r3⟩:=hreq
   cases hcs:Nat.beq sz j.size
   ·simp [hcs,Tree.run] at h
   simp only [hcs,cond_true,Tree.run,Option.some.injEq] at h
   subst h
   have hcs:=Nat.eq_of_beq_eq_true hcs
   subst hcs
   cases hx with
   | ref _ _ _ _ _ loc b o cap hid hkd hlen ha hcap =>
    have hb:=run_bounds (P:=P) (isS:=true) (len:=len) (cap:=cap) hlo hhi bl bh r1 r2 (by omega) hlen
    refine ⟨_,run_slice_sl hu (ti_size w hj) hb,?_⟩
    have hm:l1.toNat*j.size+(cap - l1.toNat)*j.size=cap*j.size:=by rw [← Nat.add_mul]; congr 1; omega
    split
    ·rename_i hcl
     exact .ref β id j.size _ _ loc b o _ hid hkd (by omega) (fun h=>by omega) (by omega)
    ·obtain ⟨rfl,rfl⟩:=ha (by omega)
     simp only [Option.map_some,addr_add]
     exact .ref β id j.size _ _ loc _ _ _ hid hkd (by omega) (fun _=>⟨rfl,by omega⟩) (by omega)
  ·split at h
   rotate_left
   ·cases h
   rename_i h1 l1 bh bl
   obtain ⟨hreq,h⟩:=req_run h
   simp only [Tree.run,Option.some.injEq] at h
   subst h
   simp only [Bool.and_eq_true,decide_eq_true_eq] at hreq
   obtain ⟨rfl,rfl⟩:=hreq
   cases hx
   have hb:=run_bounds (P:=P) (isS:=true) (len:=0) (cap:=0) hlo hhi bl bh (by omega) (by omega) (by omega) (by omega)
   refine ⟨_,run_slice_sl hu (ti_size w hj) hb,?_⟩
   exact .val _ _
  ·cases h
end
end Go.Ab

namespace Go.Ab
section
variable {P:Program} {E:Nat→Nat→Prop} {H:List O} {β:List Loc} {w:World} {X:Nat→Nat→Prop}
theorem nums_of (c:List Int):∀ (news:List Value),news.length=c.length→(∀ (i:Nat) n,c[i]? = some n→news[i]? = some (Value.int .u8 n))→news=c.map (Value.int .u8):=by
 intro news hl h
 apply List.ext_getElem?
 intro i
 by_cases hi:i<c.length
 ·rw [h i c[i] (by simp [hi])]
  simp [hi]
 ·rw [List.getElem?_eq_none (by omega),List.getElem?_eq_none (by simp; omega)]
theorem News.nums {xs:List Int} {y:Value} {news:List Value} (N:News P w X (.int .u8) xs y news):news=xs.map (Value.int .u8):=by
 refine nums_of xs news (by have:news.length=xs.length*1:=N.len; omega) ?_
 intro i n hn
 obtain ⟨z,hz,hr⟩:=N.get i n 0 (.int .u8 n) hn rfl
 have hz:news[i*1+0]? = some z:=hz
 simp only [Nat.mul_one,Nat.add_zero] at hz
 rw [hz]
 cases hr
 rfl
theorem foldl_bytes (ns:List Int):ns.foldl (fun (r:ByteArray) n=>r.push (UInt8.ofNat n.toNat)) ByteArray.empty=⟨(ns.map fun n=>UInt8.ofNat n.toNat).toArray⟩:=by
 rw [foldl_push_bytes]
 congr 1
 show (#[]:Array UInt8)++_=_
 simp
theorem Step.allocAny (hR:Rel w (Xs E H β) H β) {w' : World} {ob:Obj} (hh:w'.heap=w.heap.push ob) (h1:w'.os=w.os) (h2:w'.tape=w.tape) (h3:w'.output=w.output):Step E H β w H β w' := by
 have s1:=Step.alloc hR ob
 exact s1.trans (Step.heap_same s1.rel hh h1 h2 h3)
theorem sound_strBytes {src dst:TypeId} {x v:V} {y:Value} (hE:∀ b o,E b o→b<w.heap.size∧¬ Own H β b o) (hR:Rel w (Xs E H β) H β) (hx:R w (Xs E H β) β x y)
  (ht:isStrSl P src dst=true) (h:strBytes x=some v):∃ z w',(convert src dst y).run P w = .ok z w' ∧ Step E H β w H β w' ∧ R w' (Xs E H β) β v z:=by
 unfold isStrSl at ht
 split at ht
 rotate_left
 ·cases ht
 rename_i e hs hd
 split at ht
 rotate_left
 ·cases ht
 rename_i he
 unfold strBytes at h
 split at h
 rotate_left
 ·cases h
 rename_i s
 simp only [Option.some.injEq] at h
 subst h
 cases hx
 have hrun:=run_bytes_of_string (P:=P) w src dst e ⟨s.toArray⟩ hs hd he
 have hge:s.length≤grownCap w s.length 0 e:=grownCap_ge w s.length 0 e
 refine ⟨_,_,hrun,Step.allocAny hR (w' := w.drew.alloc _) rfl rfl rfl rfl,?_⟩
 have hl:List.length (α:=Int) (s.map fun b=>(b.toNat:Int))=s.length:=List.length_map _
 refine mk_sl (l:=(s.map fun b=>(b.toNat:Int):List Int)) (spare:=[]) (c:=.int .u8) (fl:=.ro) hl.symm (show List.length (α:=Int) (s.map fun b=>(b.toNat:Int))+0≤_ by rw [hl]; exact hge) (fun h=>by cases h) (fun h=>by cases h) ?_
 intro i n k v hi hv
 have hi:((s.map fun b=>(b.toNat:Int))++([]:List Int))[i]? = some n:=hi
 rw [List.append_nil] at hi
 have hk:k=0:=by
  cases k with
  | zero=>rfl
  | succ k=>cases hv
 subst hk
 cases hv
 rw [List.getElem?_map] at hi
 obtain ⟨b,hb,rfl⟩:=Option.map_eq_some_iff.1 hi
 have hil:i<s.length:=(List.getElem?_eq_some_iff.1 hb).1
 refine ⟨?_,.int .u8 (b.toNat:Int),?_,.int _ _ _⟩
 ·rintro (g | g)
  ·exact absurd (hE _ _ g).1 (Nat.lt_irrefl _)
  ·exact absurd (own_lt hR g) (Nat.lt_irrefl _)
 ·have h1:(EC.int .u8).size=1:=rfl
  refine (cell_of_row _ _ _ _ _ _ (heap_alloc_new w.drew _)).trans ?_
  show (bytesRow ⟨s.toArray⟩ (grownCap w s.length 0 e))[0+i*(EC.int .u8).size+0]? = _
  rw [h1,show 0+i*1+0=i by omega]
  unfold bytesRow
  rw [Array.getElem?_append_left (by simpa using hil)]
  simp [hb]
theorem elemsOf_val {c:EC} {y:Value} {l:List c.ty} (h:elemsOf c H (.val y)=some l):y = .slice none 0 0∧l=[]:=by
 unfold elemsOf at h
 split at h <;> first | (rename_i e; cases e; done) | skip
 all_goals first
  | (rename_i e; cases e; simp only [Option.some.injEq] at h; exact ⟨rfl,h.symm⟩)
  | (cases h; done)
  | skip
 all_goals simp_all
theorem sound_convert {src dst:TypeId} {x v:V} {y:Value} (hR:Rel w X H β)
  (hx:R w X β x y) (h:oConvert P H src dst x=some v) :
  ∃ z,(convert src dst y).run P w = .ok z w∧R w X β v z:=by
 unfold oConvert at h
 split at h
 ·rename_i e hs hd
  split at h
  rotate_left
  ·cases h
  rename_i he
  split at h
  ·cases h
  rename_i hnot
  obtain ⟨l,hl,rfl⟩:=Option.map_eq_some_iff.1 h
  obtain ⟨news,N⟩:=elems_R (P:=P) hR hx hl
  change List Int at l
  have hnums:=News.nums (xs:=l) N
  have key:∀ a len cap,y = .slice (some a) len cap → ∃ z,(convert src dst y).run P w = .ok z w ∧
    R w X β (.str (l.map fun (n:Int)=>UInt8.ofNat n.toNat)) z:=by
   intro a len cap hy
   subst hy
   have h1:=N.first w rfl
   have hlen:(Result.ok len w:Result Nat) = .ok (List.length (α:=Int) l) w:=N.lenOf w
   have hlen:len=List.length (α:=Int) l:=by simpa using hlen
   subst hlen
   have h2:(loadCells a (List.length (α:=Int) l)).run P w = .ok (l.map (Value.int .u8)).toArray w:=by
    rw [← hnums]
    have:(Builtin.firstCells 1 (List.length (α:=Int) l) (.slice (some a) (List.length (α:=Int) l) cap)).run P w = .ok news.toArray w:=h1
    simpa [Builtin.firstCells] using this
   refine ⟨_,by rw [run_convert_bytes_string w src dst e _ _ _ hs he hd,run_bytesToString w a _ cap l h2],?_⟩
   rw [foldl_bytes]
   exact .str _ _
  cases hx with
  | sl _ _ _ _ _ b o cap f=>exact key _ _ _ rfl
  | nil _ c0 =>
   have hl0:l=[]:=by
    have hl2:sameL (.int .u8) c0 ([]:List c0.ty)=some (show List (EC.ty (.int .u8)) from l):=hl
    obtain ⟨e1,e2⟩:=sameL_spec hl2
    subst e1
    exact e2
   subst hl0
   exact ⟨_,run_convert_bytes_nil (P:=P) w src e hs he 0 0 dst hd,.str _ []⟩
  | gro _ _ _ _ b o cap=>exact key _ _ _ rfl
  | ref _ _ _ _ _ _ b o cap=>exact key _ _ _ rfl
  | str=>exact absurd rfl (hnot _)
  | val _ =>
   obtain ⟨rfl,rfl⟩:=elemsOf_val hl
   exact ⟨_,run_convert_bytes_nil (P:=P) w src e hs he 0 0 dst hd,.str _ []⟩
  | _=>simp [elemsOf] at hl
 ·rename_i hs hd
  split at h
  ·simp only [Option.some.injEq] at h
   subst h
   cases hx
   exact ⟨_,by simp [convert,run_und w hs,run_und w hd],.str _ _⟩
  ·cases h
 ·rename_i k1 k hs hd
  split at h
  ·simp only [Option.some.injEq] at h
   subst h
   cases hx
   exact ⟨_,by simp [convert,run_und w hs,run_und w hd,Conv.intToInt],.int _ _ _⟩
  ·cases h
 ·rename_i k1 hs hd
  split at h
  ·rename_i k n
   cases hb:(decide (0≤n) && decide (n<128))
   ·rw [hb] at h; cases h
   ·rw [hb,cond_true] at h
    simp only [Option.some.injEq] at h
    subst h
    cases hx
    obtain ⟨h1,h2⟩:=Bool.and_eq_true_iff.1 hb
    have h1:=of_decide_eq_true h1
    have h2:=of_decide_eq_true h2
    refine ⟨_,run_convert_int_string w src dst k n (by rw [hs]; rfl) hd,?_⟩
    have e:Utf8.encode n=⟨([UInt8.ofNat n.toNat]:List UInt8).toArray⟩:=by
     have hv:Utf8.valid n=true:=by
      unfold Utf8.valid
      simp only [Bool.and_eq_true,Bool.or_eq_true,decide_eq_true_eq]
      omega
     unfold Utf8.encode
     rw [if_pos hv,if_pos (by omega)]
    rw [e]
    exact .str _ _
  ·cases h
 ·cases h
theorem guard_int (op:BinOp) (t:TypeId) (x y:Operand) (k l:IntKind) (a b:Int):(eqGuard op t x y (.int k a) (.int l b)).run P w = .ok () w:=by
 cases op <;> simp [eqGuard]
theorem guard_str (op:BinOp) (t:TypeId) (x y:Operand) (a b:ByteArray):(eqGuard op t x y (.string a) (.string b)).run P w = .ok () w:=by
 cases op <;> simp [eqGuard]
theorem guard_bool (op:BinOp) (t:TypeId) (x y:Operand) (a b:Bool):(eqGuard op t x y (.bool a) (.bool b)).run P w = .ok () w:=by
 cases op <;> simp [eqGuard]
def bin (op:BinOp) (t:TypeId) (xo yo:Operand) (x y:Value):Sem Value:=do eqGuard op t xo yo x y; binOp op t x y
theorem sound_int {op:BinOp} {t:TypeId} {xo yo:Operand} {k l:IntKind} {a b:Int} {v:V} (hop:op ≠ .shl∧op ≠ .shr) (hk:k=l) (h:(intBin op k a b).run=some v) :
  ∃ z,(bin op t xo yo (.int k a) (.int l b)).run P w = .ok z w∧R w X β v z:=by
 subst hk
 unfold intBin at h
 cases op <;> first | (exact absurd rfl hop.1) | (exact absurd rfl hop.2) | skip
 case quo =>
  obtain ⟨h0,h⟩:=req_run h
  simp only [Tree.run,Option.some.injEq] at h
  subst h
  have h0:¬ b=0:=by simpa using h0
  exact ⟨_,by simp [bin,guard_int,binOp,Op.intDiv,h0],.int _ _ _⟩
 case rem =>
  obtain ⟨h0,h⟩:=req_run h
  simp only [Tree.run,Option.some.injEq] at h
  subst h
  have h0:¬ b=0:=by simpa using h0
  exact ⟨_,by simp [bin,guard_int,binOp,Op.intDiv,h0],.int _ _ _⟩
 all_goals
  simp only [Tree.run,Option.some.injEq] at h
  subst h
  first
   | exact ⟨_,by simp only [bin,Sem.run_bind,guard_int,Result.andThen_ok,binOp,ne_eq,not_true_eq_false,if_false]; rfl,.int _ _ _⟩
   | exact ⟨_,by simp only [bin,Sem.run_bind,guard_int,Result.andThen_ok,binOp,ne_eq,not_true_eq_false,if_false]; rfl,.bool _ _⟩
theorem sound_shift {op:BinOp} {t:TypeId} {xo yo:Operand} {k l:IntKind} {a b:Int} {v:V} (h:(intShift op k a b).run=some v) :
  ∃ z,(bin op t xo yo (.int k a) (.int l b)).run P w = .ok z w∧R w X β v z:=by
 unfold intShift at h
 cases op <;> first | (cases h; done) | skip
 all_goals
  obtain ⟨h0,h⟩:=req_run h
  simp only [Tree.run,Option.some.injEq] at h
  subst h
  have h0:¬ b<0:=by have:=of_decide_eq_true h0; omega
  exact ⟨_,by simp [bin,guard_int,binOp,Op.shift,h0] <;> rfl,.int _ _ _⟩
theorem str_append (a b:List UInt8):(ByteArray.mk a.toArray)++(ByteArray.mk b.toArray)=⟨(a++b).toArray⟩:=by
 apply ByteArray.ext
 apply Array.ext'
 simp
theorem sound_str {op:BinOp} {t:TypeId} {xo yo:Operand} {a b:List UInt8} {v:V} (h:(strBin op a b).run=some v) :
  ∃ z,(bin op t xo yo (.string ⟨a.toArray⟩) (.string ⟨b.toArray⟩)).run P w = .ok z w∧R w X β v z:=by
 unfold strBin at h
 cases op <;> first | (cases h; done) | skip
 case add =>
  obtain ⟨h0,h⟩:=req_run h
  simp only [Tree.run,Option.some.injEq] at h
  subst h
  have h0:=of_decide_eq_true h0
  have e1:(ByteArray.mk a.toArray).size=a.length:=by simp [ByteArray.size]
  have e2:(ByteArray.mk b.toArray).size=b.length:=by simp [ByteArray.size]
  have hmax:IntKind.i64.max=9223372036854775807:=by decide
  have h1:¬ (9223372036854775807<(a.length:Int)+(b.length:Int)):=by simp at h0; omega
  refine ⟨.string ⟨(a++b).toArray⟩,?_,.str _ _⟩
  simp [bin,guard_str,binOp,Op.stringOp,e1,e2,hmax,h1,str_append]
 all_goals
  simp only [Tree.run,Option.some.injEq] at h
  subst h
  exact ⟨_,by simp [bin,guard_str,binOp,Op.stringOp] <;> rfl,.bool _ _⟩
theorem cellEq_spec {a b:V} {x y:Value} {r:Bool} {t:TypeId} (d:Nat) (hx:R w X β a x) (hy:R w X β b y) (h:cellEq a b=some r)
  (hfit:(∃ k n,a = .int k n ∧ ∃ k',P.underlying t=some (.int k'))∨(∃ c,a = .bool c∧P.underlying t=some .bool)∨(∃ s,a = .str s∧P.underlying t=some .string)) :
  (Op.equalIn (d+1) t x y).run P w = .ok r w:=by
 unfold cellEq at h
 split at h
 ·rename_i k n l m
  cases hk:decide (k=l)
  ·simp [hk] at h
  simp only [hk,cond_true,Option.some.injEq] at h
  subst h
  have:=of_decide_eq_true hk
  subst this
  cases hx
  cases hy
  rcases hfit with ⟨_,_,_,k',hu⟩ | ⟨_,e,_⟩ | ⟨_,e,_⟩
  ·exact run_equalIn_int w d t k k' n m hu
  ·cases e
  ·cases e
 ·simp only [Option.some.injEq] at h
  subst h
  cases hx
  cases hy
  rcases hfit with ⟨_,_,e,_⟩ | ⟨_,_,hu⟩ | ⟨_,e,_⟩
  ·cases e
  ·exact run_equalIn_bool w d t _ _ hu
  ·cases e
 ·simp only [Option.some.injEq] at h
  subst h
  cases hx
  cases hy
  rcases hfit with ⟨_,_,e,_⟩ | ⟨_,e,_⟩ | ⟨_,_,hu⟩
  ·cases e
  ·cases e
  ·rw [run_equalIn_string w d t _ _ hu]; simp
 ·cases h
end
end Go.Ab
