/-
  The engine, part E: operations on memory and values. Conditions: none.
-/
import Derived.Test.YtbefgnmdliefjaaGreatDoorPk02
import Derived.Laws.Tables
import Derived.Laws.Slices
import Derived.Laws.Append
import Derived.Laws.MakeOwn
set_option linter.unusedVariables false
set_option linter.unusedSimpArgs false
namespace Go.Ab
section
variable {P:Program} {E:Nat→Nat→Prop} {H:List O} {β:List Loc} {w:World} {X:Nat→Nat→Prop}
theorem one_spec {v:V} {y:Value} (h:R w X β v y) (h1:v.one=true):y.oneCell' = true:=by
 cases h <;> first | rfl | (simp [V.one] at h1; done) | skip
 cases y <;> first | rfl | (simp [V.one] at h1)
theorem allOne_spec {vs:List V} (h:allOne vs=true):∀ v ∈ vs,v.one=true:=by
 induction vs with
 | nil=>simp
 | cons u r ih =>
  unfold allOne at h
  cases hu:u.one
  ·simp [hu] at h
  ·simp only [hu,cond_true] at h
   intro v hv
   rcases List.mem_cons.1 hv with rfl | hv
   ·exact hu
   ·exact ih h v hv
theorem cells_spec {v:V} {y:Value} {vs:List V} (h:R w X β v y) (hc:v.cells? = some vs) :
  ∃ ys:List Value,y.cells=ys.toArray∧ys.length=vs.length∧(∀ (k:Nat) v z,vs[k]? = some v→ys[k]? = some z→R w X β v z) ∧ ∀ z ∈ ys,z.oneCell' = true:=by
 have single:v.one=true→vs=[v]→y.cells = #[y] → ∃ ys:List Value,y.cells=ys.toArray∧ys.length=vs.length∧(∀ (k:Nat) v z,vs[k]? = some v→ys[k]? = some z→R w X β v z) ∧ ∀ z ∈ ys,z.oneCell' = true:=by
  intro h1 h2 h3
  subst h2
  refine ⟨[y],h3,rfl,?_,by simpa using one_spec h h1⟩
  intro k v' z hv hz
  cases k with
  | zero=>simp at hv hz; subst hv; subst hz; exact h
  | succ k=>simp at hv
 cases h with
 | agg _ cells xs hl hh =>
  simp only [V.cells?] at hc
  cases ha:allOne cells
  ·simp [ha] at hc
  ·simp only [ha,cond_true,Option.some.injEq] at hc
   subst hc
   refine ⟨xs,rfl,hl,hh,fun z hz=>?_⟩
   obtain ⟨k,hk,hk'⟩:=List.getElem_of_mem hz
   have hkc:k<cells.length:=by omega
   exact one_spec (hh k cells[k] z (by simp [hkc]) (by simp [hk,hk'])) (allOne_spec ha _ (List.getElem_mem hkc))
 | val _ =>
  simp only [V.cells?] at hc
  cases ha:V.one (.val y)
  ·simp [ha] at hc
  ·simp only [ha,cond_true,Option.some.injEq] at hc
   refine single ha hc.symm ?_
   cases y <;> first | rfl | (simp [V.one] at ha)
 | tup=>simp [V.cells?] at hc
 | any=>simp [V.cells?] at hc
 | _=>exact single rfl (by simpa [V.cells?] using hc.symm) rfl
theorem sound_store {ty:TypeId} {a v:V} {x y:Value} {H' : List O} (hR:Rel w (Xs E H β) H β) (hx:R w (Xs E H β) β a x) (hy:R w (Xs E H β) β v y)
  (h:oStore P H ty a v=some H'):∃ w',(Instr.storeAt ty x y).run P w = .ok () w' ∧ Step E H β w H' β w' := by
 unfold oStore at h
 split at h
 ·rename_i i vs id off h1 h2
  split at h
  ·rename_i cs e hH
   cases hcond:(Nat.beq vs.length i.size && Nat.ble (off+vs.length) cs.length)
   ·simp [hcond] at h
   ·simp only [hcond,cond_true,Option.some.injEq] at h
    subst h
    obtain ⟨hsz,hfit⟩:=Bool.and_eq_true_iff.1 hcond
    have hsz:=Nat.eq_of_beq_eq_true hsz
    have hfit:=Nat.le_of_ble_eq_true hfit
    cases hx with
    | ptr _ _ _ loc hid hk =>
     obtain ⟨_,c,e',a1,a2,a3,a4⟩:=hR.cells id cs e loc hH hid
     obtain ⟨ys,hys,hl,hr,hone⟩:=cells_spec hy h2
     have hrun:=run_storeCells_at P loc.block (loc.base+off) e' ys 0 c w a1 (by simp; omega) hone
     simp only [Nat.add_zero] at hrun
     refine ⟨_,?_,Step.setCells (e0:=e') hR hH hid a1 (c' := (c.toList.take (loc.base+off)++ys++c.toList.drop (loc.base+off+ys.length)).toArray) ?_ ?_ ?_⟩
     ·simp [Instr.storeAt,Instr.sureAddr,storeVar,hys,ti_size w h1,hl,hsz]
      rw [← hl] at hsz
      simpa [hsz,hl] using hrun
     ·simp; omega
     ·simp [splice]; omega
     ·intro k u hu
      unfold splice at hu
      rw [List.append_assoc] at hu
      by_cases hk1:k<off
      ·rw [List.getElem?_append_left (by simp; omega),List.getElem?_take,if_pos hk1] at hu
       obtain ⟨z,hz,hz'⟩:=a4 k u hu
       refine ⟨z,?_,hz'⟩
       simp only [List.getElem?_toArray,List.append_assoc]
       rw [List.getElem?_append_left (by simp; omega),List.getElem?_take,if_pos (by omega)]
       simpa using hz
      ·rw [List.getElem?_append_right (by simp; omega)] at hu
       have hmin:min off cs.length=off:=by omega
       simp only [List.length_take,hmin] at hu
       by_cases hk2:k - off<vs.length
       ·rw [List.getElem?_append_left hk2] at hu
        have hky:k - off<ys.length:=by omega
        refine ⟨ys[k - off],?_,hr (k - off) u _ hu (by simp [hky])⟩
        simp only [List.getElem?_toArray,List.append_assoc]
        have hmin2:min (loc.base+off) c.size=loc.base+off:=by omega
        rw [List.getElem?_append_right (by simp; omega),List.getElem?_append_left (by simp [hmin2]; omega)]
        simp only [List.length_take,Array.length_toList,hmin2]
        rw [show loc.base+k - (loc.base+off)=k - off from by omega]
        simp [hky]
       ·rw [List.getElem?_append_right (by omega),List.getElem?_drop] at hu
        have hkk:off+vs.length+(k - off - vs.length)=k:=by omega
        rw [hkk] at hu
        obtain ⟨z,hz,hz'⟩:=a4 k u hu
        refine ⟨z,?_,hz'⟩
        simp only [List.getElem?_toArray,List.append_assoc]
        have hmin2:min (loc.base+off) c.size=loc.base+off:=by omega
        rw [List.getElem?_append_right (by simp; omega),List.getElem?_append_right (by simp [hmin2]; omega),List.getElem?_drop]
        simp only [List.length_take,Array.length_toList,hmin2]
        rw [show loc.base+off+ys.length+(loc.base+k - (loc.base+off) - ys.length)=loc.base+k from by omega]
        simpa using hz
  ·rename_i n k xs hd hH
   cases hcond:(Nat.beq vs.length i.size && Nat.ble (off+vs.length) hd.length)
   ·simp [hcond] at h
   ·simp only [hcond,cond_true,Option.some.injEq] at h
    subst h
    obtain ⟨hsz,hfit⟩:=Bool.and_eq_true_iff.1 hcond
    have hsz:=Nat.eq_of_beq_eq_true hsz
    have hfit:=Nat.le_of_ble_eq_true hfit
    cases hx with
    | ptr _ _ _ loc hid hk =>
     obtain ⟨_,hb0,ob,zs,a1,⟨hn,e',rfl⟩,a4⟩:=hR.objs id _ _ loc hH hid
     obtain ⟨ys,hys,hl,hr,hone⟩:=cells_spec hy h2
     have hdn:hd.length≤n:=by
      rcases Nat.lt_or_ge n hd.length with g | g
      ·obtain ⟨z,hz,_⟩:=a4 n hd[n] (by simp [g])
       have:=(List.getElem?_eq_some_iff.1 hz).1
       omega
      ·exact g
     have hrun:=run_storeCells_at P loc.block (loc.base+off) e' ys 0 (zs++xs.map (Value.int k)).toArray w a1 (by simp; omega) hone
     simp only [Nat.add_zero] at hrun
     have harr:((zs++xs.map (Value.int k)).toArray.toList.take (loc.base+off)++ys++(zs++xs.map (Value.int k)).toArray.toList.drop (loc.base+off+ys.length)).toArray=((zs.take off++ys++zs.drop (off+ys.length))++xs.map (Value.int k)).toArray:=by
      rw [hb0,Nat.zero_add]
      congr 1
      rw [List.toList_toArray,List.take_append_of_le_length (by omega),List.drop_append_of_le_length (by omega)]
      simp only [List.append_assoc]
     refine ⟨_,?_,Step.setPage (n:=n) (k:=k) (l' := xs) (xs' := zs.take off++ys++zs.drop (off+ys.length)) hR hH hid a1 (by simp; omega) hn harr rfl fun q v hv=>?_⟩
     ·simp [Instr.storeAt,Instr.sureAddr,storeVar,hys,ti_size w h1,hl,hsz]
      rw [← hl] at hsz
      simpa [hsz,hl] using hrun
     ·unfold splice at hv
      rw [List.append_assoc] at hv ⊢
      by_cases hq1:q<off
      ·rw [List.getElem?_append_left (by simp; omega),List.getElem?_take,if_pos hq1] at hv
       obtain ⟨z,hz,hz'⟩:=a4 q v hv
       exact ⟨z,by rw [List.getElem?_append_left (by simp; omega),List.getElem?_take,if_pos hq1]; exact hz,hz'⟩
      ·have hm1:(hd.take off).length=off:=by simp; omega
       have hm2:(zs.take off).length=off:=by simp; omega
       rw [List.getElem?_append_right (by omega),hm1] at hv
       by_cases hq2:q - off<vs.length
       ·rw [List.getElem?_append_left hq2] at hv
        have hky:q - off<ys.length:=by omega
        exact ⟨ys[q - off],by rw [List.getElem?_append_right (by omega),hm2,List.getElem?_append_left hky]; simp [hky],hr (q - off) v _ hv (by simp [hky])⟩
       ·rw [List.getElem?_append_right (by omega),List.getElem?_drop,show off+vs.length+(q - off - vs.length)=q by omega] at hv
        obtain ⟨z,hz,hz'⟩:=a4 q v hv
        exact ⟨z,by rw [List.getElem?_append_right (by omega),hm2,List.getElem?_append_right (by omega),List.getElem?_drop,show off+ys.length+(q - off - ys.length)=q by omega]; exact hz,hz'⟩
  ·cases h
 ·cases h
theorem sound_storeZ {ty:TypeId} {a v:V} {x y:Value} {H' : List O} (hR:Rel w (Xs E H β) H β) (hx:R w (Xs E H β) β a x) (hy:R w (Xs E H β) β v y)
  (h:(oStoreZ P H ty a v).run=some H'):∃ w',(Instr.storeAt ty x y).run P w = .ok () w' ∧ Step E H β w H' β w' := by
 rcases oStoreZ_spec h with h | ⟨id,off,n,k,xs,hd,m,i,rfl,rfl,hH,h1,h2,rfl,hi,hs⟩
 ·exact sound_store hR hx hy h
 ·cases hy
  cases hx with
  | ptr _ _ _ loc hid hk =>
  obtain ⟨_,hb0,ob,zs,a1,⟨hn,e',rfl⟩,a4⟩:=hR.objs id _ _ loc hH hid
  have hrun:=run_storeCells_at P loc.block (loc.base+off) e' [.int k m] 0 (zs++xs.map (Value.int k)).toArray w a1 (by simp; omega) (by simp [Value.oneCell'])
  simp only [Nat.add_zero] at hrun
  have harr:((zs++xs.map (Value.int k)).toArray.toList.take (loc.base+off)++[Value.int k m]++(zs++xs.map (Value.int k)).toArray.toList.drop (loc.base+off+[Value.int k m].length)).toArray=(zs++(xs.set (off - n) m).map (Value.int k)).toArray:=by
   rw [hb0,Nat.zero_add]
   congr 1
   apply List.ext_getElem?
   intro q
   simp only [List.length_cons,List.length_nil,Nat.zero_add,List.map_set]
   have hlen:(List.take off (zs++xs.map (Value.int k))).length=off:=by simp; omega
   rw [List.append_assoc]
   by_cases hq:q<off
   ·rw [List.getElem?_append_left (by omega),List.getElem?_take,if_pos hq]
    by_cases hq2:q<n
    ·rw [List.getElem?_append_left (by omega),List.getElem?_append_left (by omega)]
    ·rw [List.getElem?_append_right (by omega),List.getElem?_append_right (by omega),List.getElem?_set_ne (by omega)]
   ·rw [List.getElem?_append_right (by omega),hlen]
    by_cases hq2:q=off
    ·subst hq2
     rw [Nat.sub_self,List.getElem?_append_right (l₁:=zs) (by omega),hn,List.getElem?_set_self (by simp; omega)]
     rfl
    ·rw [List.getElem?_append_right (by simp; omega),List.getElem?_drop]
     simp only [List.length_cons,List.length_nil,Nat.zero_add]
     rw [show off+1+(q - off - 1)=q by omega,List.getElem?_append_right (by omega),List.getElem?_append_right (by omega),List.getElem?_set_ne (by omega)]
  refine ⟨_,?_,Step.setPage (n:=n) (k:=k) (l' := xs.set (off - n) m) (xs' := zs) hR hH hid a1 hn hn harr (by simp) a4⟩
  simp [Instr.storeAt,Instr.sureAddr,storeVar,Value.cells,ti_size w hi,hs]
  simpa using hrun
theorem sound_newVar {vs:List V} {y:Value} {ys:List Value} (e:TypeId) (hR:Rel w (Xs E H β) H β) (hys:y.cells=ys.toArray) (hl:ys.length=vs.length)
  (hr:∀ (k:Nat) v z,vs[k]? = some v→ys[k]? = some z→R w (Xs E H β) β v z) :
  ∃ w' β',(newVar e y).run P w = .ok ⟨w.heap.size,0,none⟩ w' ∧ Step E H β w (H++[.cells vs e]) β' w' ∧ R w' (Xs E (H++[.cells vs e]) β') β' (.ptr H.length 0) (.pointer (some ⟨w.heap.size,0,none⟩)):=by
 refine ⟨w.alloc (.cells ys.toArray e),β++[{ kind:=false,block:=w.heap.size,base:=0,n:=0,size:=ys.length }],?_,?_,?_⟩
 ·simp [newVar,newRow,hys]
 ·refine Step.push hR ys.toArray e _ _ rfl (by simp) ?_ ?_
  ·intro cs e' h
   simp only [O.cells.injEq] at h
   obtain ⟨rfl,rfl⟩:=h
   refine ⟨rfl,by simp [hl],fun k v hv=>?_⟩
   have hk:k<ys.length:=by rw [hl]; exact (List.getElem?_eq_some_iff.1 hv).1
   exact ⟨ys[k],by simp [hk],hr k v _ hv (by simp [hk])⟩
  ·intro n sz h; cases h
 ·have:=R.ptr (w:=w.alloc (.cells ys.toArray e)) (X:=Xs E (H++[.cells vs e]) (β++[{ kind:=false,block:=w.heap.size,base:=0,n:=0,size:=ys.length }]))
   (β++[{ kind:=false,block:=w.heap.size,base:=0,n:=0,size:=ys.length }]) H.length 0 { kind:=false,block:=w.heap.size,base:=0,n:=0,size:=ys.length } (by rw [hR.len]; simp) rfl
  simpa using this
theorem zero_cells {t:TypeId} {i:TI} (h:ti P t=some i):∃ z,(∀ w,(zeroValue t).run P w = .ok z w)∧i.zero=z.cells.toList.map ofVal1:=by
 obtain ⟨j,d,h1,_,_,_,⟨z,hz,hz'⟩,_⟩:=(ti_spec h).info
 exact ⟨z,fun w=>by simp [zeroValue,typeInfo,h1,hz],hz'⟩
theorem sound_alloc {e:TypeId} {i:TI} (hR:Rel w (Xs E H β) H β) (h:ti P e=some i) :
  ∃ w' β',(Instr.alloc e true (.tuple #[])).run P w = .ok (.pointer (some ⟨w.heap.size,0,none⟩)) w' ∧ Step E H β w (H++[.cells i.zero e]) β' w' ∧
   R w' (Xs E (H++[.cells i.zero e]) β') β' (.ptr H.length 0) (.pointer (some ⟨w.heap.size,0,none⟩)):=by
 obtain ⟨z,hz,hz'⟩:=zero_cells h
 obtain ⟨w',β',h1,h2,h3⟩:=sound_newVar (P:=P) (vs:=i.zero) (y:=z) (ys:=z.cells.toList) e hR (by simp) (by simp [hz']) (by
  intro k v y hv hy
  rw [hz'] at hv
  simp only [List.getElem?_map,hy,Option.map_some,Option.some.injEq] at hv
  subst hv
  exact ofVal1_R _ _ _ _)
 exact ⟨w',β',by simp [Instr.alloc,hz,h1],h2,h3⟩
theorem sameInts_spec {k:IntKind} {x:Int}:∀ {m:Nat} {cs:List V},sameInts k x m cs=true→cs=(List.replicate m x).map (V.int k)
 | 0,[],_=>rfl
 | 0,_ :: _,h=>by cases h
 | m+1,[],h=>by cases h
 | m+1,v :: r,h=>by
  cases v with
  | int l y =>
   unfold sameInts at h
   cases hl:decide (l=k) && decide (y=x)
   ·rw [hl] at h; cases h
   rw [hl,cond_true] at h
   obtain ⟨h1,h2⟩:=Bool.and_eq_true_iff.1 hl
   have h1:=of_decide_eq_true h1
   have h2:=of_decide_eq_true h2
   subst h1 h2
   rw [List.replicate_succ,List.map_cons,← sameInts_spec h]
  | _=>cases h
theorem newO_spec (P:Program) (e:TypeId) (cs:List V):newO P e cs = .cells cs e ∨ ∃ n k l,newO P e cs = .obj (.page n k l) (cs.take n)∧cs=cs.take n++l.map (V.int k)∧n≤cs.length:=by
 unfold newO
 split
 rotate_left
 ·exact .inl rfl
 rename_i n m _
 split
 rotate_left
 ·exact .inl rfl
 rename_i k x r hd
 cases hb:sameInts k x m (.int k x :: r) && Nat.ble n (cs.take n).length
 ·exact .inl rfl
 ·obtain ⟨h1,h2⟩:=Bool.and_eq_true_iff.1 hb
  refine .inr ⟨n,k,List.replicate m x,rfl,?_,?_⟩
  ·rw [← sameInts_spec h1,← hd,List.take_append_drop]
  ·have h2:=Nat.le_of_ble_eq_true h2
   rw [List.length_take] at h2
   omega
theorem sound_box {e:TypeId} {v:V} {y:Value} {vs:List V} (hR:Rel w (Xs E H β) H β) (hy:R w (Xs E H β) β v y) (h:v.cells? = some vs) :
  ∃ w' β',(Instr.box e y).run P w = .ok (.pointer (some ⟨w.heap.size,0,none⟩)) w' ∧ Step E H β w (H++[newO P e vs]) β' w' ∧
   R w' (Xs E (H++[newO P e vs]) β') β' (.ptr H.length 0) (.pointer (some ⟨w.heap.size,0,none⟩)):=by
 obtain ⟨ys,hys,hl,hr,_⟩:=cells_spec hy h
 rcases newO_spec P e vs with h0 | ⟨n,k,l,h0,hvs,hn⟩
 ·rw [h0]
  obtain ⟨w',β',h1,h2,h3⟩:=sound_newVar (P:=P) e hR hys hl hr
  exact ⟨w',β',by simp [Instr.box,h1],h2,h3⟩
 ·rw [h0]
  have hys2:ys=ys.take n++l.map (Value.int k):=by
   apply List.ext_getElem?
   intro q
   have hlt:vs.length=n+l.length:=by
    have:=congrArg List.length hvs
    simp only [List.length_append,List.length_take,List.length_map] at this
    omega
   by_cases hq:q<n
   ·rw [List.getElem?_append_left (by simp; omega),List.getElem?_take,if_pos hq]
   ·rw [List.getElem?_append_right (by simp; omega)]
    have hm:(ys.take n).length=n:=by simp; omega
    rw [hm,List.getElem?_map]
    by_cases hq2:q - n<l.length
    ·have hv:vs[q]? = some (.int k l[q - n]):=by
      rw [hvs,List.getElem?_append_right (by simp; omega),List.length_take,Nat.min_eq_left hn,List.getElem?_map,List.getElem?_eq_getElem hq2]
      rfl
     have hy' : ys[q]? = some ys[q]:=List.getElem?_eq_getElem (by omega)
     have:=hr q _ _ hv hy'
     rw [hy',List.getElem?_eq_getElem hq2]
     generalize ys[q]=z at this
     cases this
     rfl
    ·rw [List.getElem?_eq_none (by omega),List.getElem?_eq_none (by omega)]
     rfl
  let loc:Loc:={ kind:=false,block:=w.heap.size,base:=0,n:=0,size:=ys.length }
  refine ⟨w.alloc (.cells ys.toArray e),β++[loc],by simp [Instr.box,newVar,newRow,hys],?_,?_⟩
  ·refine Step.pushObjD hR (.cells ys.toArray e (0,0)) (loc:=loc) (xs:=ys.take n) ⟨by simp; omega,e,by rw [← hys2]⟩ (fun q v hv=>?_) rfl rfl rfl
   have hq:q<n:=by
    have:=(List.getElem?_eq_some_iff.1 hv).1
    simp only [List.length_take] at this
    omega
   rw [List.getElem?_take,if_pos hq] at hv
   have hq2:q<ys.length:=by rw [hl]; exact (List.getElem?_eq_some_iff.1 hv).1
   exact ⟨ys[q],by rw [List.getElem?_take,if_pos hq]; simp [hq2],hr q v _ hv (by simp [hq2])⟩
  ·have:=R.ptr (w:=w.alloc (.cells ys.toArray e)) (X:=Xs E (H++[.obj (.page n k l) (vs.take n)]) (β++[loc])) (β++[loc]) H.length 0 loc (by rw [hR.len]; simp) rfl
   simpa [loc] using this
theorem pin_drop {cells:List V} {b o:Nat} (h:R w X β (.pin cells) (.pointer (some ⟨b,o,none⟩))) (k:Nat):R w X β (.pin (cells.drop k)) (.pointer (some ⟨b,o+k,none⟩)):=by
 cases h with
 | pin _ _ _ _ f hc hr =>
  refine .pin β _ b (o+k) (fun j=>f (k+j)) (fun j hj=>?_) (fun j v hv=>?_)
  ·rw [Nat.add_assoc]
   exact hc (k+j) (by simp at hj; omega)
  ·rw [List.getElem?_drop] at hv
   exact hr (k+j) v hv
theorem offs_spec {t:TypeId} {i:TI} {offs:List (Nat × Nat × Bool)} (h:ti P t=some i) (hk:i.k = .st offs) :
  ∃ fs:Array Field,P.underlying t=some (.struct fs)∧offs=fs.toList.map fun f=>(f.offset,P.cellsOf f.type,isAggB P f.type):=by
 obtain ⟨j,d,h1,h2,_,_,_,h6,_⟩:=(ti_spec h).info
 rw [hk] at h6
 cases d with
 | struct fs=>simp only [TK.st.injEq] at h6; exact ⟨fs,h2,h6⟩
 | _=>cases h6
theorem slice_spec {t:TypeId} {i:TI} {e:TypeId} (h:ti P t=some i) (hk:i.k = .slice e):P.underlying t=some (.slice e):=by
 obtain ⟨j,d,h1,h2,_,_,_,h6,_⟩:=(ti_spec h).info
 rw [hk] at h6
 cases d with
 | slice e' => simp only [TK.slice.injEq] at h6; rw [h6]; exact h2
 | _=>cases h6
theorem arr_spec {t:TypeId} {i:TI} {n:Nat} {e:TypeId} (h:ti P t=some i) (hk:i.k = .arr n e):P.underlying t=some (.array n e):=by
 obtain ⟨j,d,h1,h2,_,_,_,h6,_⟩:=(ti_spec h).info
 rw [hk] at h6
 cases d with
 | array n' e' => simp only [TK.arr.injEq] at h6; obtain ⟨rfl,rfl⟩:=h6; exact h2
 | _=>cases h6
theorem sound_fieldAddr {t:TypeId} {x v:V} {y:Value} {f:Nat} (hx:R w X β x y) (h:oFieldAddr P t x f=some v) :
  ∃ z,(Instr.fieldAt t y f).run P w = .ok z w∧R w X β v z:=by
 unfold oFieldAddr at h
 split at h
 ·rename_i i h1
  split at h
  ·rename_i offs hk
   obtain ⟨fs,hu,hoffs⟩:=offs_spec h1 hk
   split at h
   ·rename_i off size _ ho
    rw [hoffs] at ho
    simp only [List.getElem?_map,Option.map_eq_some_iff,Prod.mk.injEq] at ho
    obtain ⟨fl,hf,rfl,hsz,_⟩:=ho
    cases hb:Nat.beq size 0
    ·simp only [hb,cond_false] at h
     have hne:size ≠ 0:=fun e=>by subst e; simp at hb
     have hinfo:∃ j,P.info? fl.type=some j∧j.size=size:=by
      unfold Program.cellsOf at hsz
      cases hj:P.info? fl.type with
      | none=>simp [hj] at hsz; omega
      | some j=>exact ⟨j,rfl,by simpa [hj] using hsz⟩
     obtain ⟨j,hj,hjs⟩:=hinfo
     have hfa:fs[f]? = some fl:=by simpa using hf
     have hrun:∀ b o,(Instr.fieldAt t (.pointer (some ⟨b,o,none⟩)) f).run P w = .ok (.pointer (some ⟨b,o+fl.offset,none⟩)) w:=by
      intro b o
      simp [Instr.fieldAt,run_und w hu,hfa,Instr.sureAddr,fieldPlace,run_sizeOf' w hj,hjs,hne,addr_add]
     split at h
     ·rename_i id o
      simp only [Option.some.injEq] at h
      subst h
      cases hx with
      | ptr _ _ _ loc hid hk' =>
       refine ⟨_,hrun _ _,?_⟩
       rw [Nat.add_assoc]
       exact .ptr β id (o+fl.offset) loc hid hk'
     ·rename_i cells
      simp only [Option.some.injEq] at h
      subst h
      cases hx with
      | pin _ _ b o f' hc hr=>exact ⟨_,hrun _ _,pin_drop (.pin β cells b o f' hc hr) _⟩
     ·cases h
    ·simp [hb] at h
   ·cases h
  ·cases h
 ·cases h
theorem enc_size:∀ (c:EC) (x:c.ty),(enc c x).length=c.size:=by
 intro c
 refine EC.rec (motive_1:=fun c=>∀ x:c.ty,(enc c x).length=c.size) (motive_2:=fun cs=>∀ x:EC.tys cs,(encs cs x).length=EC.sizes cs) ?_ ?_ ?_ ?_ ?_ ?_ ?_ c
 ·intro k x; rfl
 ·intro x; rfl
 ·intro x; rfl
 ·intro c _ x; simp [enc,EC.size]
 ·intro cs ih x; simpa [enc,EC.size] using ih x
 ·intro x; rfl
 ·intro c cs ih ihs x
  cases cs with
  | nil=>simpa [encs,EC.sizes] using ih x
  | cons d cs =>
   simp only [encs,EC.sizes,List.length_append]
   rw [ih x.1,ihs x.2]
theorem elem_pin {c:EC} {l:List c.ty} {m:Nat} {b o:Nat} {f:Nat→Nat→Value} {x:c.ty} (_hx:l[m]? = some x) (hc:∀ k,k<c.size→¬ X b (o+k)∧w.cell? ⟨b,o+k,none⟩=some (f m k))
  (hr:∀ (k:Nat) (v:V),(enc c x)[k]? = some v→R w X [] v (f m k)):R w X β (.pin (enc c x)) (.pointer (some ⟨b,o,none⟩)):=
 .pin β _ b o (f m) (fun k hk=>hc k (by rw [enc_size] at hk; exact hk)) hr
theorem inside_spec {i:Int} {n:Nat} (h:inside i n=true):0≤i∧i<n∧i.toNat<n:=by
 simp only [inside,Bool.and_eq_true,decide_eq_true_eq] at h
 exact ⟨h.1,h.2,by omega⟩
theorem req_run {β:Type} {c:Bool} {x:Tree β} {b:β} (h:(Tree.req c x).run=some b):c=true∧x.run=some b:=by
 cases c
 ·simp [Tree.req,Tree.run] at h
 ·exact ⟨rfl,h⟩
theorem sound_indexAddr {t:TypeId} {x ix v:V} {y iy:Value} (hx:R w X β x y) (hi:R w X β ix iy) (h:(oIndexAddr P t x ix).run=some v) :
  ∃ z,(Instr.indexAt t y iy).run P w = .ok z w∧R w X β v z:=by
 unfold oIndexAddr at h
 split at h
 ·rename_i i k n h1
  cases hi
  split at h
  ·rename_i e hk
   have hu:=slice_spec h1 hk
   split at h
   ·rename_i j hj
    split at h
    ·rename_i c l sp fl
     cases hb:Nat.beq c.size j.size
     ·simp [hb,Tree.run] at h
     ·simp only [hb,cond_true] at h
      have hsz:=Nat.eq_of_beq_eq_true hb
      obtain ⟨hin,h⟩:=req_run h
      simp only [Tree.run,Option.some.injEq] at h
      subst h
      obtain ⟨i0,i1,i2⟩:=inside_spec hin
      cases hx with
      | nil=>simp at i2
      | sl _ _ _ _ _ b o cap f hcap hfull hrw hc hr =>
       refine ⟨.pointer (some ⟨b,o+n.toNat*j.size,none⟩),?_,?_⟩
       ·simp [Instr.indexAt,asIntOf,run_und w hu,i0,i1,ti_size w hj,addr_add]
       ·rw [List.getD_eq_getElem?_getD,List.getElem?_eq_getElem i2,Option.getD_some]
        refine elem_pin (l:=l) (f:=f) (m:=n.toNat) (List.getElem?_eq_getElem i2) (fun k hk=>?_) (fun k u hu=>?_)
        ·rw [← hsz]; exact hc n.toNat k (by omega) hk
        ·exact hr n.toNat _ k u (by rw [List.getElem?_append_left i2]; exact List.getElem?_eq_getElem i2) hu
    ·rename_i id c l
     cases hb:Nat.beq c.size j.size
     ·simp [hb,Tree.run] at h
     ·simp only [hb,cond_true] at h
      have hsz:=Nat.eq_of_beq_eq_true hb
      obtain ⟨hin,h⟩:=req_run h
      simp only [Tree.run,Option.some.injEq] at h
      subst h
      obtain ⟨i0,i1,i2⟩:=inside_spec hin
      cases hx with
      | gro _ _ _ _ b o cap loc f hid hk hn hl hcap hc hr =>
       refine ⟨.pointer (some ⟨b,o+n.toNat*j.size,none⟩),?_,?_⟩
       ·simp [Instr.indexAt,asIntOf,run_und w hu,i0,i1,ti_size w hj,addr_add]
       ·rw [List.getD_eq_getElem?_getD,List.getElem?_eq_getElem i2,Option.getD_some]
        refine elem_pin (l:=l) (f:=f) (m:=n.toNat) (List.getElem?_eq_getElem i2) (fun k hk=>?_) (fun k u hu=>?_)
        ·rw [← hsz]; exact hc n.toNat k (by omega) hk
        ·exact hr n.toNat _ k u (List.getElem?_eq_getElem i2) hu
    ·rename_i id sz off len
     cases hb:Nat.beq sz j.size
     ·simp [hb,Tree.run] at h
     ·simp only [hb,cond_true] at h
      have hsz:=Nat.eq_of_beq_eq_true hb
      obtain ⟨hin,h⟩:=req_run h
      simp only [Tree.run,Option.some.injEq] at h
      subst h
      obtain ⟨i0,i1,i2⟩:=inside_spec hin
      cases hx with
      | ref _ _ _ _ _ loc b o cap hid hk hlen ha hcap =>
       obtain ⟨rfl,rfl⟩:=ha (by omega)
       refine ⟨.pointer (some ⟨loc.block,loc.base+off+n.toNat*j.size,none⟩),?_,?_⟩
       ·simp [Instr.indexAt,asIntOf,run_und w hu,i0,i1,ti_size w hj,addr_add]
       ·rw [Nat.add_assoc,← hsz]
        exact .ptr β id _ loc hid hk
    ·cases h
   ·cases h
  ·rename_i len e hk
   have hu:=arr_spec h1 hk
   split at h
   ·rename_i j hj
    have hrun:∀ b o,0≤n→n<len→(Instr.indexAt t (.pointer (some ⟨b,o,none⟩)) (.int k n)).run P w = .ok (.pointer (some ⟨b,o+n.toNat*j.size,none⟩)) w:=by
     intro b o i0 i1
     simp [Instr.indexAt,asIntOf,run_und w hu,i0,i1,ti_size w hj,addr_add,Instr.sureAddr]
    split at h
    ·rename_i id off
     obtain ⟨hin,h⟩:=req_run h
     simp only [Tree.run,Option.some.injEq] at h
     subst h
     obtain ⟨i0,i1,i2⟩:=inside_spec hin
     cases hx with
     | ptr _ _ _ loc hid hk' =>
      refine ⟨_,hrun _ _ i0 i1,?_⟩
      rw [Nat.add_assoc]
      exact .ptr β id _ loc hid hk'
    ·rename_i cells
     obtain ⟨hin,h⟩:=req_run h
     simp only [Tree.run,Option.some.injEq] at h
     subst h
     obtain ⟨i0,i1,i2⟩:=inside_spec hin
     cases hx with
     | pin _ _ b o f' hc hr=>exact ⟨_,hrun _ _ i0 i1,pin_drop (.pin β cells b o f' hc hr) _⟩
    ·cases h
   ·cases h
  ·cases h
 ·cases h
end
end Go.Ab

namespace Go.Ab
section
variable {P:Program} {E:Nat→Nat→Prop} {H:List O} {β:List Loc} {w:World} {X:Nat→Nat→Prop}
theorem known_spec {fs:List Field} (h:allKnown P fs=true):∀ f ∈ fs,∃ d,P.underlying f.type=some d:=by
 induction fs with
 | nil=>simp
 | cons f r ih =>
  unfold allKnown at h
  cases hu:P.underlying f.type with
  | none=>simp [hu] at h
  | some d =>
   simp only [hu,Option.isSome_some,cond_true] at h
   intro g hg
   rcases List.mem_cons.1 hg with rfl | hg
   ·exact ⟨d,hu⟩
   ·exact ih h g hg
theorem und_info {t:TypeId} {d:TypeDesc} (h:P.underlying t=some d):∃ j,P.info? t=some j:=by
 unfold Program.underlying at h
 cases hj:P.info? t with
 | none=>simp [hj] at h
 | some j=>exact ⟨j,rfl⟩
theorem run_isAgg' (w:World) {t:TypeId} {d:TypeDesc} (h:P.underlying t=some d):(isAgg t).run P w = .ok (isAggB P t) w:=by
 unfold isAggB
 rw [h]
 cases d <;> simp [isAgg,run_und w h]
theorem offs_known {t:TypeId} {i:TI} {fs:Array Field} (h:ti P t=some i) (hu:P.underlying t=some (.struct fs)):∀ f ∈ fs.toList,∃ d,P.underlying f.type=some d:=by
 obtain ⟨j,d,h1,h2,_,_,_,_,h7⟩:=(ti_spec h).info
 rw [hu] at h2
 simp only [Option.some.injEq] at h2
 subst h2
 exact known_spec h7
theorem sound_part {agg:Bool} {cells:List V} {xs:List Value} {off size:Nat} {v:V} {ft:TypeId} (hl:xs.length=cells.length)
  (hr:∀ (k:Nat) v x,cells[k]? = some v→xs[k]? = some x→R w X β v x) (hagg:(isAgg ft).run P w = .ok agg w) (hsz:(sizeOf ft).run P w = .ok size w)
  (h:part? agg cells off size=some v):∃ z,(part ft xs.toArray off).run P w = .ok z w∧R w X β v z:=by
 cases agg
 ·simp only [part?,cond_false] at h
  have hk:off<xs.length:=by rw [hl]; exact (List.getElem?_eq_some_iff.1 h).1
  refine ⟨xs[off],by simp [part,hagg,hk],hr off v _ h (by simp [hk])⟩
 ·simp only [part?,cond_true,Option.some.injEq] at h
  subst h
  refine ⟨.agg (xs.toArray.extract off (off+size)),by simp [part,hagg,hsz],?_⟩
  rw [List.extract_toArray]
  refine .agg β _ _ ?_ ?_
  ·simp [List.extract_eq_take_drop,hl]
  ·intro k v x h1 h2
   rw [List.getElem?_take] at h1
   rw [List.extract_eq_take_drop,List.getElem?_take] at h2
   split at h1
   ·rw [if_pos (by omega),List.getElem?_drop] at h2
    rw [List.getElem?_drop] at h1
    exact hr _ v x h1 h2
   ·cases h1
theorem sound_field {t:TypeId} {x v:V} {y:Value} {f:Nat} (hx:R w X β x y) (h:oField P t x f=some v):∃ z,(Instr.field t y f).run P w = .ok z w∧R w X β v z:=by
 unfold oField at h
 split at h
 ·rename_i i cells h1
  split at h
  ·rename_i offs hk
   obtain ⟨fs,hu,hoffs⟩:=offs_spec h1 hk
   split at h
   ·rename_i off size agg ho
    rw [hoffs] at ho
    simp only [List.getElem?_map,Option.map_eq_some_iff,Prod.mk.injEq] at ho
    obtain ⟨fl,hf,rfl,hsz,hag⟩:=ho
    obtain ⟨d,hd⟩:=offs_known h1 hu fl (List.mem_of_getElem? hf)
    obtain ⟨j,hj⟩:=und_info hd
    have hfa:fs[f]? = some fl:=by simpa using hf
    cases hx with
    | agg _ _ xs hl hr =>
     have hsz' : (sizeOf fl.type).run P w = .ok size w:=by rw [run_sizeOf' w hj,← hsz]; simp [Program.cellsOf,hj]
     obtain ⟨z,hz,hz'⟩:=sound_part (ft:=fl.type) hl hr (by rw [run_isAgg' w hd,hag]) hsz' h
     exact ⟨z,by simp [Instr.field,run_und w hu,hfa,asAgg,hz],hz'⟩
   ·cases h
  ·cases h
 ·cases h
theorem splice_get {α:Type} (cs:List α) (off:Nat) (vs:List α) (h:off+vs.length≤cs.length) (k:Nat) :
  (cs.take off++vs++cs.drop (off+vs.length))[k]? = if off≤k∧k<off+vs.length then vs[k - off]? else cs[k]? := by
 have hmin:min off cs.length=off:=by omega
 rw [List.append_assoc]
 by_cases h1:k<off
 ·rw [List.getElem?_append_left (by simp; omega),List.getElem?_take,if_pos h1,if_neg (by omega)]
 ·rw [List.getElem?_append_right (by simp; omega)]
  simp only [List.length_take,hmin]
  by_cases h2:k<off+vs.length
  ·rw [List.getElem?_append_left (by omega),if_pos (by omega)]
  ·rw [List.getElem?_append_right (by omega),List.getElem?_drop,if_neg (by omega)]
   congr 1
   omega
theorem foldl_set {vs:List Value}:∀ (off j:Nat) (c:Array Value) ,off+j+vs.length≤c.size →
  ((vs.zipIdx j).foldl (fun cs (p:Value × Nat)=>cs.setIfInBounds (off+p.2) p.1) c).toList=c.toList.take (off+j)++vs++c.toList.drop (off+j+vs.length):=by
 induction vs with
 | nil=>intro off j c _; simp
 | cons u r ih =>
  intro off j c h
  simp only [List.length_cons] at h
  simp only [List.zipIdx_cons,List.foldl_cons]
  rw [ih off (j+1) _ (by simp; omega)]
  have e:=list_seg_step c.toList (off+j) u r (by simp; omega)
  simpa [Array.toList_setIfInBounds,Nat.add_assoc] using e
theorem fill_R {place:Nat→Option (Nat × Nat)} {offs:Nat→Option (Nat × Nat)} (hp:∀ i x,offs i=some x→place i=some x) :
  ∀ (ps:List (Nat × V)) (qs:List (Nat × Value)) (l l' : List V) (c:Array Value),ps.length=qs.length →
  (∀ (k:Nat) p q,ps[k]? = some p→qs[k]? = some q→p.1=q.1∧R w X β p.2 q.2)→c.size=l.length→(∀ (k:Nat) v x,l[k]? = some v→c[k]? = some x→R w X β v x) →
  fillCells offs ps l=some l' → ∃ c' : Array Value,Instr.fill place c qs=some c' ∧ c'.size=l'.length∧l'.length=l.length ∧ ∀ (k:Nat) v x,l'[k]? = some v→c'[k]? = some x→R w X β v x
 | [],qs,l,l',c,hlen,_,hs,hr,h=>by
  have:qs=[]:=List.length_eq_zero_iff.1 (by simpa using hlen.symm)
  subst this
  simp only [fillCells,Option.some.injEq] at h
  subst h
  exact ⟨c,rfl,hs,rfl,hr⟩
 | (i,v) :: ps,[],_,_,_,hlen,_,_,_,_=>by simp at hlen
 | (i,v) :: ps,(i',y) :: qs,l,l',c,hlen,hpq,hs,hr,h=>by
  obtain ⟨e,hvy⟩:=hpq 0 _ _ rfl rfl
  simp only at e hvy
  subst e
  unfold fillCells at h
  split at h
  ·rename_i cs off size hcs hoff
   cases hb:(Nat.beq cs.length size && Nat.ble (off+cs.length) l.length)
   ·simp [hb] at h
   ·simp only [hb,cond_true] at h
    obtain ⟨b1,b2⟩:=Bool.and_eq_true_iff.1 hb
    have b1:=Nat.eq_of_beq_eq_true b1
    have b2:=Nat.le_of_ble_eq_true b2
    obtain ⟨ys,hys,hyl,hyr,_⟩:=cells_spec hvy hcs
    have hl2:(splice l off cs).length=l.length:=by simp [splice]; omega
    have htl:=foldl_set (vs:=ys) off 0 c (by omega)
    simp only [Nat.add_zero] at htl
    obtain ⟨c',h1,h2,h3,h4⟩:=fill_R hp ps qs (splice l off cs) l' ((ys.zipIdx).foldl (fun cs (p:Value × Nat)=>cs.setIfInBounds (off+p.2) p.1) c) (by simpa using hlen)
     (fun k p q hp hq=>hpq (k+1) p q (by simpa using hp) (by simpa using hq)) (by rw [hl2,← hs,← Array.length_toList,htl]; simp; omega)
     (by
      intro k u x hu hx
      rw [← Array.getElem?_toList,htl,splice_get c.toList off ys (by simp; omega)] at hx
      unfold splice at hu
      rw [splice_get l off cs (by omega)] at hu
      by_cases hk:off≤k∧k<off+cs.length
      ·rw [if_pos hk] at hu
       rw [if_pos (by omega)] at hx
       exact hyr _ u x hu hx
      ·rw [if_neg hk] at hu
       rw [if_neg (by omega)] at hx
       exact hr k u x hu (by simpa using hx)) h
    refine ⟨c',?_,h2,by rw [h3,hl2],h4⟩
    unfold Instr.fill
    simp only [hp i _ hoff]
    have hcsz:y.cells.size=cs.length:=by rw [hys]; simp [hyl]
    have hcond:(decide (y.cells.size ≠ size) || decide (off+y.cells.size > c.size))=false:=by
     simp only [Bool.or_eq_false_iff,decide_eq_false_iff_not]
     omega
    have e1:(y.cells.zipIdx.foldl (fun cs (p:Value × Nat)=>cs.setIfInBounds (off+p.2) p.1) c)=(ys.zipIdx).foldl (fun cs (p:Value × Nat)=>cs.setIfInBounds (off+p.2) p.1) c:=by
     rw [hys]; simp
    rw [← e1] at h1
    have hne:¬ (y.cells.size ≠ size || off+y.cells.size > c.size)=true:=by
     simp only [Bool.or_eq_true,decide_eq_true_eq]
     omega
    rw [if_neg hne]
    exact h1
  ·cases h
theorem zero_R {t:TypeId} {i:TI} (h:ti P t=some i):∃ z,(∀ w,(zeroValue t).run P w = .ok z w)∧z.cells.size=i.zero.length ∧ ∀ (k:Nat) v x,i.zero[k]? = some v→z.cells[k]? = some x→R w X β v x:=by
 obtain ⟨z,h1,h2⟩:=zero_cells h
 refine ⟨z,h1,by simp [h2],fun k v x hv hx=>?_⟩
 rw [h2] at hv
 have:z.cells.toList[k]? = some x:=by simpa using hx
 simp only [List.getElem?_map,this,Option.map_some,Option.some.injEq] at hv
 subst hv
 exact ofVal1_R _ _ _ _
theorem mapM_offs {fs:List Field} (hk:∀ f ∈ fs,∃ d,P.underlying f.type=some d) :
  fs.mapM (fun f=>(P.info? f.type).map fun i=>(f.offset,i.size))=some (fs.map fun f=>(f.offset,P.cellsOf f.type)):=by
 induction fs with
 | nil=>rfl
 | cons f r ih =>
  obtain ⟨d,hd⟩:=hk f (by simp)
  obtain ⟨j,hj⟩:=und_info hd
  simp [List.mapM_cons,hj,ih (fun g hg=>hk g (by simp [hg])),Program.cellsOf]
theorem sound_build {t:TypeId} {ps:List (Nat × V)} {qs:Array (Nat × Value)} {v:V} (hlen:ps.length=qs.size)
  (hpq:∀ (k:Nat) p q,ps[k]? = some p→qs.toList[k]? = some q→p.1=q.1∧R w X β p.2 q.2) (h:oBuild P t ps=some v) :
  ∃ z,(Instr.build t qs).run P w = .ok z w∧R w X β v z:=by
 unfold oBuild at h
 split at h
 ·rename_i i h1
  obtain ⟨z,hz,hzs,hzr⟩:=zero_R (w:=w) (X:=X) (β:=β) h1
  split at h
  ·rename_i offs hk
   obtain ⟨fs,hu,hoffs⟩:=offs_spec h1 hk
   obtain ⟨l',hl',rfl⟩:=Option.map_eq_some_iff.1 h
   have hmm:=run_places (P:=P) w _ _ (mapM_offs (offs_known h1 hu))
   obtain ⟨c',g1,g2,g3,g4⟩:=fill_R (w:=w) (X:=X) (β:=β) (place:=fun x=>(fs.toList.map fun f=>(f.offset,P.cellsOf f.type))[x]?)
    (by
     intro i x hx
     rw [hoffs] at hx
     simp only [List.getElem?_map,Option.map_map] at hx ⊢
     rw [← hx]; rfl) ps qs.toList i.zero l' z.cells (by simpa using hlen) hpq hzs hzr hl'
   refine ⟨.agg c',?_,?_⟩
   ·have g1' : Instr.fill (fun x=>Option.map (fun f=>(f.offset,P.cellsOf f.type)) fs[x]?) z.cells qs.toList=some c' := by simpa using g1
    simp [Instr.build,hz,run_und w hu,Array.mapM_eq_mapM_toList,hmm,g1']
   ·have:c' = c'.toList.toArray:=by simp
    rw [this]
    exact .agg β l' c'.toList (by simpa using g2) (fun k v x h1 h2=>g4 k v x h1 (by simpa using h2))
  ·rename_i n e hk
   have hu:=arr_spec h1 hk
   split at h
   ·rename_i j hj
    obtain ⟨l',hl',rfl⟩:=Option.map_eq_some_iff.1 h
    obtain ⟨c',g1,g2,g3,g4⟩:=fill_R (w:=w) (X:=X) (β:=β) (place:=fun i=>some (i*j.size,j.size)) (fun i x hx=>hx) ps qs.toList i.zero l' z.cells (by simpa using hlen) hpq hzs hzr hl'
    refine ⟨.agg c',?_,?_⟩
    ·simp [Instr.build,hz,run_und w hu,ti_size w hj,g1]
    ·have:c' = c'.toList.toArray:=by simp
     rw [this]
     exact .agg β l' c'.toList (by simpa using g2) (fun k v x h1 h2=>g4 k v x h1 (by simpa using h2))
   ·cases h
  ·cases h
 ·cases h
end
end Go.Ab

namespace Go.Ab
section
variable {P:Program} {E:Nat→Nat→Prop} {H:List O} {β:List Loc} {w:World} {X:Nat→Nat→Prop}
theorem enc_get {c:EC} (x:c.ty) {k:Nat} (hk:k<c.size):∃ v,(enc c x)[k]? = some v:=
 ⟨(enc c x)[k]'(by rw [enc_size]; exact hk),by simp [enc_size,hk]⟩
theorem mk_sl {c:EC} {l spare:List c.ty} {fl:Fl} {b o len cap:Nat} (hlen:len=l.length) (hcap:l.length+spare.length≤cap)
  (hfull:fl = .full→cap=l.length+spare.length) (hrw:fl.fixed=false → ∃ (cs:Array Value) (e:TypeId),w.heap[b]? = some (.cells cs e (0,0)))
  (h:∀ (i:Nat) x (k:Nat) v,(l++spare)[i]? = some x→(enc c x)[k]? = some v→¬ X b (o+i*c.size+k) ∧ ∃ y,w.cell? ⟨b,o+i*c.size+k,none⟩=some y∧R w X [] v y) :
  R w X β (.sl c l spare fl) (.slice (some ⟨b,o,none⟩) len cap):=by
 subst hlen
 refine .sl β c l spare fl b o cap (fun i k=>(w.cell? ⟨b,o+i*c.size+k,none⟩).getD undef) hcap hfull hrw (fun i k hi hk=>?_) (fun i x k v h1 h2=>?_)
 ·have hi' : i<(l++spare).length:=by simpa using hi
  obtain ⟨v,hv⟩:=enc_get (l++spare)[i] hk
  obtain ⟨h1,y,h2,_⟩:=h i _ k v (by rw [List.getElem?_eq_getElem hi']) hv
  exact ⟨h1,by rw [h2]; rfl⟩
 ·obtain ⟨_,y,h3,h4⟩:=h i x k v h1 h2
  rw [h3]; exact h4
theorem sl_get {c:EC} {l spare:List c.ty} {fl:Fl} {y:Value} (h:R w X β (.sl c l spare fl) y) :
  (y = .slice none 0 0∧l=[]∧spare=[]∧fl = .may) ∨
  ∃ b o cap,y = .slice (some ⟨b,o,none⟩) l.length cap∧l.length+spare.length≤cap∧(fl = .full→cap=l.length+spare.length) ∧
   (fl.fixed=false → ∃ (cs:Array Value) (e:TypeId),w.heap[b]? = some (.cells cs e (0,0))) ∧
   ∀ (i:Nat) x (k:Nat) v,(l++spare)[i]? = some x→(enc c x)[k]? = some v→¬ X b (o+i*c.size+k) ∧ ∃ y,w.cell? ⟨b,o+i*c.size+k,none⟩=some y∧R w X [] v y:=by
 cases h with
 | sl _ _ _ _ _ b o cap f hcap hfull hrw hc hr =>
  refine .inr ⟨b,o,cap,rfl,hcap,hfull,hrw,fun i x k v h1 h2=>?_⟩
  have hk:k<c.size:=by have:=(List.getElem?_eq_some_iff.1 h2).1; rwa [enc_size] at this
  have hi:i<l.length+spare.length:=by have:=(List.getElem?_eq_some_iff.1 h1).1; simpa using this
  exact ⟨(hc i k hi hk).1,f i k,(hc i k hi hk).2,hr i x k v h1 h2⟩
 | nil=>exact .inl ⟨rfl,rfl,rfl,rfl⟩
theorem sl_get_may {c:EC} {l spare:List c.ty} {fl:Fl} {y:Value} (h:R w X β (.sl c l spare fl) y) (hf:fl.isMay=false) :
  ∃ b o cap,y = .slice (some ⟨b,o,none⟩) l.length cap∧l.length+spare.length≤cap∧(fl = .full→cap=l.length+spare.length) ∧
   (fl.fixed=false → ∃ (cs:Array Value) (e:TypeId),w.heap[b]? = some (.cells cs e (0,0))) ∧
   ∀ (i:Nat) x (k:Nat) v,(l++spare)[i]? = some x→(enc c x)[k]? = some v→¬ X b (o+i*c.size+k) ∧ ∃ y,w.cell? ⟨b,o+i*c.size+k,none⟩=some y∧R w X [] v y:=by
 rcases sl_get h with ⟨_,_,_,rfl⟩ | h
 ·cases hf
 ·exact h
theorem gro_get {id:Nat} {c:EC} {l:List c.ty} {y:Value} (h:R w X β (.gro id c l) y) :
  ∃ b o cap loc,y = .slice (some ⟨b,o,none⟩) l.length cap∧β[id]? = some loc∧loc.kind=true∧l.length≤loc.n ∧
   (loc.n=l.length→b=loc.block∧o=loc.base∧o+cap*c.size≤loc.size)∧l.length≤cap ∧
   ∀ (i:Nat) x (k:Nat) v,l[i]? = some x→(enc c x)[k]? = some v→¬ X b (o+i*c.size+k) ∧ ∃ y,w.cell? ⟨b,o+i*c.size+k,none⟩=some y∧R w X [] v y:=by
 cases h with
 | gro _ _ _ _ b o cap loc f hid hk hn hl hcap hc hr =>
  refine ⟨b,o,cap,loc,rfl,hid,hk,hn,hl,hcap,fun i x k v h1 h2=>?_⟩
  have hk:k<c.size:=by have:=(List.getElem?_eq_some_iff.1 h2).1; rwa [enc_size] at this
  have hi:i<l.length:=(List.getElem?_eq_some_iff.1 h1).1
  exact ⟨(hc i k hi hk).1,f i k,(hc i k hi hk).2,hr i x k v h1 h2⟩
theorem mk_gro {id:Nat} {c:EC} {l:List c.ty} {b o len cap:Nat} {loc:Loc} (hlen:len=l.length) (hid:β[id]? = some loc) (hk:loc.kind=true) (hn:l.length≤loc.n)
  (hl:loc.n=l.length→b=loc.block∧o=loc.base∧o+cap*c.size≤loc.size) (hcap:l.length≤cap)
  (h:∀ (i:Nat) x (k:Nat) v,l[i]? = some x→(enc c x)[k]? = some v→¬ X b (o+i*c.size+k) ∧ ∃ y,w.cell? ⟨b,o+i*c.size+k,none⟩=some y∧R w X [] v y) :
  R w X β (.gro id c l) (.slice (some ⟨b,o,none⟩) len cap):=by
 subst hlen
 refine .gro β id c l b o cap loc (fun i k=>(w.cell? ⟨b,o+i*c.size+k,none⟩).getD undef) hid hk hn hl hcap (fun i k hi hk=>?_) (fun i x k v h1 h2=>?_)
 ·obtain ⟨v,hv⟩:=enc_get l[i] hk
  obtain ⟨h1,y,h2,_⟩:=h i _ k v (by rw [List.getElem?_eq_getElem hi]) hv
  exact ⟨h1,by rw [h2]; rfl⟩
 ·obtain ⟨_,y,h3,h4⟩:=h i x k v h1 h2
  rw [h3]; exact h4
theorem gro_sl {id:Nat} {c:EC} {l:List c.ty} {y:Value} (h:R w X β (.gro id c l) y):R w X [] (.sl c l [] .ro) y:=by
 obtain ⟨b,o,cap,loc,rfl,_,_,_,_,hcap,hh⟩:=gro_get h
 exact mk_sl rfl (by simpa using hcap) (fun h=>by cases h) (fun h=>by cases h) (by simpa using hh)
theorem sl_weak {c:EC} {l spare:List c.ty} {fl:Fl} {y:Value} (h:R w X β (.sl c l spare fl) y) (hf:fl.isMay=false):R w X [] (.sl c l [] .ro) y:=by
 obtain ⟨b,o,cap,rfl,hcap,_,_,hh⟩:=sl_get_may h hf
 refine mk_sl rfl (by simp; omega) (fun h=>by cases h) (fun h=>by cases h) (fun i x k v h1 h2=>hh i x k v ?_ h2)
 have:i<l.length:=by have:=(List.getElem?_eq_some_iff.1 h1).1; simpa using this
 rw [List.getElem?_append_left this]
 simpa using h1
def DecOk (c:EC):Prop:=∀ (l:List V) (x:c.ty) (rest:List V),dec c l=some (x,rest)→rest=l.drop c.size∧c.size≤l.length ∧
 ∀ (k:Nat) v,(enc c x)[k]? = some v → ∃ u,l[k]? = some u∧u.one=true ∧ ∀ (w:World) (X:Nat→Nat→Prop) (β:List Loc) (y:Value),R w X β u y→R w X [] v y
def DecsOk (cs:List EC):Prop:=∀ (l:List V) (x:EC.tys cs) (rest:List V),decs cs l=some (x,rest)→rest=l.drop (EC.sizes cs)∧EC.sizes cs≤l.length ∧
 ∀ (k:Nat) v,(encs cs x)[k]? = some v → ∃ u,l[k]? = some u∧u.one=true ∧ ∀ (w:World) (X:Nat→Nat→Prop) (β:List Loc) (y:Value),R w X β u y→R w X [] v y
theorem one_cell {u v:V} {k:Nat} {r:List V} (h1:u.one=true) (h:∀ (w:World) (X:Nat→Nat→Prop) (β:List Loc) (y:Value),R w X β u y→R w X [] v y) (z:V) (hz:[v][k]? = some z) :
  ∃ u',(u :: r)[k]? = some u' ∧ u'.one=true ∧ ∀ (w:World) (X:Nat→Nat→Prop) (β:List Loc) (y:Value),R w X β u' y→R w X [] z y:=by
 cases k with
 | zero=>simp at hz; subst hz; exact ⟨u,rfl,h1,h⟩
 | succ k=>simp at hz
theorem sameL_spec {c d:EC} {l:List d.ty} {l' : List c.ty} (h:sameL c d l=some l'):∃ e:d=c,l' = castL e l:=by
 unfold sameL at h
 split at h
 ·rename_i e _
  simp only [Option.some.injEq] at h
  exact ⟨e,h.symm⟩
 ·cases h
theorem decInt_spec {k:IntKind} {l rest:List V} {x:Int} (h:decInt k l=some (x,rest)):l = .int k x :: rest:=by
 unfold decInt at h
 split at h
 ·rename_i k' n r
  cases hk:decide (k=k')
  ·simp [hk] at h
  ·simp only [hk,cond_true,Option.some.injEq,Prod.mk.injEq] at h
   obtain ⟨rfl,rfl⟩:=h
   rw [of_decide_eq_true hk]
 ·cases h
theorem decBool_spec {l rest:List V} {x:Bool} (h:decBool l=some (x,rest)):l = .bool x :: rest:=by
 unfold decBool at h
 split at h
 ·simp only [Option.some.injEq,Prod.mk.injEq] at h
  obtain ⟨rfl,rfl⟩:=h
  rfl
 ·cases h
theorem decStr_spec {l rest:List V} {x:List UInt8} (h:decStr l=some (x,rest)):l = .str x :: rest:=by
 unfold decStr at h
 split at h
 ·simp only [Option.some.injEq,Prod.mk.injEq] at h
  obtain ⟨rfl,rfl⟩:=h
  rfl
 ·cases h
theorem dec_ok (c:EC):DecOk c:=by
 refine EC.rec (motive_1:=DecOk) (motive_2:=DecsOk) ?_ ?_ ?_ ?_ ?_ ?_ ?_ c
 ·intro k l x rest h
  have e:=decInt_spec (k:=k) (x:=x) h
  subst e
  exact ⟨by simp [EC.size],by simp [EC.size],fun j v hv=>one_cell rfl (fun w X β y hy=>by cases hy; exact .int _ _ _) v hv⟩
 ·intro l x rest h
  have e:=decBool_spec (x:=x) h
  subst e
  exact ⟨by simp [EC.size],by simp [EC.size],fun j v hv=>one_cell rfl (fun w X β y hy=>by cases hy; exact .bool _ _) v hv⟩
 ·intro l x rest h
  have e:=decStr_spec (x:=x) h
  subst e
  exact ⟨by simp [EC.size],by simp [EC.size],fun j v hv=>one_cell rfl (fun w X β y hy=>by cases hy; exact .str _ _) v hv⟩
 ·intro c _ l x rest h
  change Option (List c.ty) at x
  change decSl c l=some (x,rest) at h
  show _∧_ ∧ ∀ (k:Nat) v,([match x with | none=>nilSl | some l=>V.sl c l [] .ro]:List V)[k]? = some v→_
  unfold decSl at h
  split at h
  ·simp only [Option.some.injEq,Prod.mk.injEq] at h
   obtain ⟨rfl,rfl⟩:=h
   exact ⟨by simp [EC.size],by simp [EC.size],fun j v hv=>one_cell rfl (fun w X β y hy=>by cases hy; exact .val _ _) v hv⟩
  ·rename_i _ d ll sp fl r
   cases hf:fl.isMay
   rotate_left
   ·rw [hf] at h; cases h
   rw [hf] at h
   obtain ⟨l',hl',e⟩:=Option.map_eq_some_iff.1 h
   simp only [Prod.mk.injEq] at e
   obtain ⟨rfl,rfl⟩:=e
   obtain ⟨e,rfl⟩:=sameL_spec hl'
   subst e
   exact ⟨by simp [EC.size],by simp [EC.size],fun j v hv=>one_cell rfl (fun w X β y hy=>sl_weak hy hf) v hv⟩
  ·obtain ⟨l',hl',e⟩:=Option.map_eq_some_iff.1 h
   simp only [Prod.mk.injEq] at e
   obtain ⟨rfl,rfl⟩:=e
   obtain ⟨e,rfl⟩:=sameL_spec hl'
   subst e
   exact ⟨by simp [EC.size],by simp [EC.size],fun j v hv=>one_cell rfl (fun w X β y hy=>gro_sl hy) v hv⟩
  ·cases h
 ·intro cs ih l x rest h
  exact ih l x rest h
 ·intro l x rest h
  change some ((),l)=some (x,rest) at h
  have:l=rest:=congrArg Prod.snd (Option.some.inj h)
  subst this
  exact ⟨by simp [EC.sizes],by simp [EC.sizes],fun k v hv=>by simp [encs] at hv⟩
 ·intro c cs ih ihs l x rest h
  cases cs with
  | nil=>exact ih l x rest h
  | cons d cs =>
   change c.ty × EC.tys (d :: cs) at x
   change (match dec c l with
    | some (x,r)=>match decs (d :: cs) r with
     | some (y,r)=>some ((x,y),r)
     | none=>none
    | none=>none)=some (x,rest) at h
   split at h
   ·rename_i x1 r1 h1
    split at h
    ·rename_i x2 r2 h2
     simp only [Option.some.injEq,Prod.mk.injEq] at h
     obtain ⟨rfl,rfl⟩:=h
     obtain ⟨a1,a2,a3⟩:=ih l x1 r1 h1
     obtain ⟨b1,b2,b3⟩:=ihs r1 x2 r2 h2
     subst a1
     refine ⟨?_,?_,?_⟩
     ·rw [b1,List.drop_drop]; rfl
     ·simp only [List.length_drop] at b2
      show c.size+EC.sizes (d :: cs)≤l.length
      omega
     ·intro k v hv
      have hv:(enc c x1++encs (d :: cs) x2)[k]? = some v:=hv
      by_cases hk:k<c.size
      ·rw [List.getElem?_append_left (by rw [enc_size]; exact hk)] at hv
       exact a3 k v hv
      ·rw [List.getElem?_append_right (by rw [enc_size]; omega),enc_size] at hv
       obtain ⟨u,hu,h1⟩:=b3 _ v hv
       rw [List.getElem?_drop] at hu
       exact ⟨u,by rw [← hu]; congr 1; omega,h1⟩
    ·cases h
   ·cases h
theorem dec1_spec {c:EC} {l:List V} {x:c.ty} (h:dec1 c l=some x):l.length=c.size ∧
  ∀ (k:Nat) v,(enc c x)[k]? = some v → ∃ u,l[k]? = some u∧u.one=true ∧ ∀ (w:World) (X:Nat→Nat→Prop) (β:List Loc) (y:Value),R w X β u y→R w X [] v y:=by
 unfold dec1 at h
 split at h
 ·rename_i y hy
  simp only [Option.some.injEq] at h
  subst h
  obtain ⟨h1,h2,h3⟩:=dec_ok c l _ _ hy
  have:(l.drop c.size).length=0:=by rw [← h1]; rfl
  simp at this
  exact ⟨by omega,h3⟩
 ·cases h
theorem decAll_spec {c:EC}:∀ {rows:List (List V)} {xs:List c.ty},decAll c rows=some xs→xs.length=rows.length ∧
  ∀ (i:Nat) x,xs[i]? = some x → ∃ row,rows[i]? = some row∧dec1 c row=some x
 | [],xs,h=>by
  simp only [decAll,Option.some.injEq] at h
  subst h
  exact ⟨rfl,fun i x h=>by simp at h⟩
 | row :: rows,xs,h=>by
  unfold decAll at h
  split at h
  ·rename_i y ys h1 h2
   simp only [Option.some.injEq] at h
   subst h
   obtain ⟨a,b⟩:=decAll_spec h2
   refine ⟨by simp [a],fun i x hx=>?_⟩
   cases i with
   | zero=>simp at hx; subst hx; exact ⟨row,rfl,h1⟩
   | succ i=>simp at hx; obtain ⟨r,hr,hr'⟩:=b i x hx; exact ⟨r,by simpa using hr,hr'⟩
  ·cases h
theorem chunks_spec (sz:Nat):∀ (n:Nat) (l:List V),(chunks sz n l).length=n ∧ ∀ (i:Nat) row,(chunks sz n l)[i]? = some row→row=(l.drop (i*sz)).take sz
 | 0,l=>⟨rfl,fun i row h=>by simp [chunks] at h⟩
 | n+1,l=>by
  obtain ⟨h1,h2⟩:=chunks_spec sz n (l.drop sz)
  refine ⟨by simp [chunks,h1],fun i row h=>?_⟩
  cases i with
  | zero=>simp [chunks] at h; simp [h]
  | succ i =>
   simp only [chunks,List.getElem?_cons_succ] at h
   rw [h2 i row h,List.drop_drop]
   congr 2
   rw [Nat.add_mul]; omega
theorem chunk_dec {c:EC} {n:Nat} {cells:List V} {xs:List c.ty} (h:decAll c (chunks c.size n cells)=some xs):xs.length=n ∧
  ∀ (i:Nat) x (k:Nat) v,xs[i]? = some x→(enc c x)[k]? = some v → ∃ u,cells[i*c.size+k]? = some u∧u.one=true ∧
   ∀ (w:World) (X:Nat→Nat→Prop) (β:List Loc) (y:Value),R w X β u y→R w X [] v y:=by
 obtain ⟨h1,h2⟩:=decAll_spec h
 obtain ⟨g1,g2⟩:=chunks_spec c.size n cells
 refine ⟨by rw [h1,g1],fun i x k v hx hv=>?_⟩
 obtain ⟨row,hr,hd⟩:=h2 i x hx
 have hrow:=g2 i row hr
 obtain ⟨hl,hh⟩:=dec1_spec hd
 obtain ⟨u,hu,hu'⟩:=hh k v hv
 refine ⟨u,?_,hu'⟩
 rw [hrow,List.getElem?_take] at hu
 split at hu
 ·rw [List.getElem?_drop] at hu; exact hu
 ·cases hu
end
end Go.Ab

namespace Go.Ab
section
variable {P:Program} {E:Nat→Nat→Prop} {H:List O} {β:List Loc} {w:World} {X:Nat→Nat→Prop}
def OneOk (c:EC):Prop:=∀ (x:c.ty) v,v ∈ enc c x→v.one=true
def OnesOk (cs:List EC):Prop:=∀ (x:EC.tys cs) v,v ∈ encs cs x→v.one=true
theorem enc_one (c:EC):OneOk c:=by
 refine EC.rec (motive_1:=OneOk) (motive_2:=OnesOk) ?_ ?_ ?_ ?_ ?_ ?_ ?_ c
 ·intro k x v hv; change v ∈ [V.int k x] at hv; simp at hv; subst hv; rfl
 ·intro x v hv; change v ∈ [V.bool x] at hv; simp at hv; subst hv; rfl
 ·intro x v hv; change v ∈ [V.str x] at hv; simp at hv; subst hv; rfl
 ·intro c _ x v hv
  change Option (List c.ty) at x
  cases x with
  | none=>change v ∈ [nilSl] at hv; simp at hv; subst hv; rfl
  | some l=>change v ∈ [V.sl c l [] .ro] at hv; simp at hv; subst hv; rfl
 ·intro cs ih x v hv; exact ih x v hv
 ·intro x v hv; change v ∈ [] at hv; simp at hv
 ·intro c cs ih ihs x v hv
  cases cs with
  | nil=>exact ih x v hv
  | cons d cs =>
   change c.ty × EC.tys (d :: cs) at x
   change v ∈ enc c x.1++encs (d :: cs) x.2 at hv
   rcases List.mem_append.1 hv with hv | hv
   ·exact ih _ v hv
   ·exact ihs _ v hv
theorem row_cells {c:EC} {l:List c.ty} {b o:Nat}
  (h:∀ (i:Nat) x (k:Nat) v,l[i]? = some x→(enc c x)[k]? = some v → ∃ y,w.cell? ⟨b,o+i*c.size+k,none⟩=some y∧R w X [] v y) :
  ∃ news:List Value,news.length=l.length*c.size∧(∀ z ∈ news,z.oneCell' = true) ∧
   (∀ (i:Nat) x (k:Nat) v,l[i]? = some x→(enc c x)[k]? = some v → ∃ z,news[i*c.size+k]? = some z∧R w X [] v z) ∧
   ∀ w' : World,w'.heap=w.heap→(loadCells ⟨b,o,none⟩ (l.length*c.size)).run P w' = .ok news.toArray w' := by
 let f:Nat→Value:=fun j=>(w.cell? ⟨b,o+j,none⟩).getD undef
 have split:∀ j,j<l.length*c.size → ∃ i k x v,j=i*c.size+k∧l[i]? = some x∧(enc c x)[k]? = some v:=by
  intro j hj
  have hpos:0<c.size:=by
   rcases Nat.eq_zero_or_pos c.size with h0 | h0
   ·simp [h0] at hj
   ·exact h0
  have hi:j / c.size<l.length:=(Nat.div_lt_iff_lt_mul hpos).2 hj
  obtain ⟨v,hv⟩:=enc_get l[j / c.size] (Nat.mod_lt j hpos)
  exact ⟨j / c.size,j % c.size,_,v,(Nat.div_add_mod' j c.size).symm,List.getElem?_eq_getElem hi,hv⟩
 have hf:∀ j,j<l.length*c.size→w.cell? ⟨b,o+j,none⟩=some (f j):=by
  intro j hj
  obtain ⟨i,k,x,v,rfl,h1,h2⟩:=split j hj
  obtain ⟨y,hy,_⟩:=h i x k v h1 h2
  rw [Nat.add_assoc] at hy
  simp [f,hy]
 refine ⟨(List.range (l.length*c.size)).map f,by simp,?_,?_,?_⟩
 ·intro z hz
  obtain ⟨j,hj,rfl⟩:=List.mem_map.1 hz
  obtain ⟨i,k,x,v,rfl,h1,h2⟩:=split j (List.mem_range.1 hj)
  obtain ⟨y,hy,hr⟩:=h i x k v h1 h2
  have:f (i*c.size+k)=y:=by rw [Nat.add_assoc] at hy; simp [f,hy]
  rw [this]
  exact one_spec hr (enc_one c x v (List.mem_of_getElem? h2))
 ·intro i x k v h1 h2
  obtain ⟨y,hy,hr⟩:=h i x k v h1 h2
  have hk:k<c.size:=by have:=(List.getElem?_eq_some_iff.1 h2).1; rwa [enc_size] at this
  have hi:i<l.length:=(List.getElem?_eq_some_iff.1 h1).1
  have hlt:i*c.size+k<l.length*c.size:=by
   have:(i+1)*c.size≤l.length*c.size:=Nat.mul_le_mul_right _ hi
   rw [Nat.add_mul] at this
   omega
  refine ⟨y,?_,hr⟩
  rw [Nat.add_assoc] at hy
  simp [List.getElem?_range hlt,f,hy]
 ·intro w' hw
  rw [run_loadCells (P:=P) w' ⟨b,o,none⟩ _ f]
  intro j hj
  rw [addr_add]
  exact (cell_heap (w:=w) (w' := w') (by rw [hw]) (o+j)).trans (hf j hj)
structure News (P:Program) (w:World) (X:Nat→Nat→Prop) (c:EC) (xs:List c.ty) (y:Value) (news:List Value):Prop where
 len:news.length=xs.length*c.size
 one:∀ z ∈ news,z.oneCell' = true
 get:∀ (i:Nat) x (k:Nat) v,xs[i]? = some x→(enc c x)[k]? = some v → ∃ z,news[i*c.size+k]? = some z∧R w X [] v z
 lenOf:∀ w' : World,(Builtin.lenOf y).run P w' = .ok xs.length w'
 first:∀ w' : World,w'.heap=w.heap→(Builtin.firstCells c.size xs.length y).run P w' = .ok news.toArray w'
theorem str_news (s:List UInt8) (xs:List Int) (h:xs=s.map fun b=>(b.toNat:Int)) :
  News P w X (.int .u8) xs (.string ⟨s.toArray⟩) (s.map fun b=>.int .u8 b.toNat):=by
 have hl:xs.length=s.length:=by rw [h]; simp
 refine ⟨?_,?_,?_,fun w' => ?_,fun w' hw=>?_⟩
 ·show (s.map _).length=xs.length*1
  simp [hl]
 ·intro z hz; obtain ⟨b,_,rfl⟩:=List.mem_map.1 hz; rfl
 ·intro i (x:Int) k v (h1:xs[i]? = some x) h2
  change ([V.int .u8 x]:List V)[k]? = some v at h2
  cases k with
  | zero =>
   simp at h2
   subst h2
   rw [h,List.getElem?_map] at h1
   obtain ⟨b,hb,rfl⟩:=Option.map_eq_some_iff.1 h1
   refine ⟨.int .u8 b.toNat,?_,.int _ _ _⟩
   show (s.map _)[i*1+0]? = _
   simp [hb]
  | succ k=>simp at h2
 ·show _=Result.ok xs.length w'
  rw [hl]; rfl
 ·show (Builtin.firstCells 1 xs.length _).run P w' = _
  rw [hl]
  simp [Builtin.firstCells]
theorem int_news {k:IntKind} {L:List (EC.int k).ty} {len b o cap:Nat} (hlen:L.length=len) (hc:∀ (i:Nat) (x:(EC.int k).ty),L[i]? = some x→w.cell? ⟨b,o+i,none⟩=some (.int k x)) :
  ∃ news,News P w X (.int k) L (.slice (some ⟨b,o,none⟩) len cap) news:=by
 obtain ⟨news,h1,h2,h3,h4⟩:=row_cells (P:=P) (w:=w) (X:=X) (c:=.int k) (l:=L) (b:=b) (o:=o) (fun i x q v q1 q2=>by
  have hq:q=0:=by
   have:=(List.getElem?_eq_some_iff.1 q2).1
   simp only [enc,List.length_cons,List.length_nil] at this
   omega
  subst hq
  simp only [enc,List.getElem?_cons_zero,Option.some.injEq] at q2
  subst q2
  have hsz:(EC.int k).size=1:=rfl
  rw [hsz,Nat.mul_one,Nat.add_zero]
  exact ⟨.int k x,hc i x q1,.int _ _ _⟩)
 subst hlen
 exact ⟨news,h1,h2,h3,fun w' => rfl,fun w' hw=>h4 w' hw⟩
theorem nil_news {c:EC} {b o cap:Nat}:News P w X c ([]:List c.ty) (.slice (some ⟨b,o,none⟩) 0 cap) []:=
 ⟨by simp,by simp,fun i x k v h=>by simp at h,fun w' => rfl,fun w' hw=>by simp [Builtin.firstCells,loadCells,loadCellsFrom]⟩
theorem drop_take_get {l:List Int} {m len i:Nat} {x:Int} (h:((l.drop m).take len)[i]? = some x):i<len∧l[m+i]? = some x:=by
 have hi:i<len:=by
  have:=(List.getElem?_eq_some_iff.1 h).1
  simp at this
  omega
 rw [List.getElem?_take,if_pos hi,List.getElem?_drop] at h
 exact ⟨hi,h⟩
theorem drop_take_len {l:List Int} {m len:Nat} (h:m+len≤l.length):((l.drop m).take len).length=len:=by simp; omega
theorem elems_R {c:EC} {x:V} {y:Value} {xs:List c.ty} (hR:Rel w X H β) (hx:R w X β x y) (h:elemsOf c H x=some xs):∃ news,News P w X c xs y news:=by
 unfold elemsOf at h
 split at h
 ·rename_i d l sp fl
  obtain ⟨e,rfl⟩:=sameL_spec h
  subst e
  rcases sl_get hx with ⟨rfl,rfl,rfl,rfl⟩ | ⟨b,o,cap,rfl,hcap,_,_,hh⟩
  ·exact ⟨[],by simp [castL],by simp,by simp [castL],fun w' => rfl,fun w' hw=>rfl⟩
  obtain ⟨news,h1,h2,h3,h4⟩:=row_cells (P:=P) (w:=w) (X:=X) (l:=l) (b:=b) (o:=o) (fun i x k v g1 g2=>(hh i x k v (by
   have:i<l.length:=(List.getElem?_eq_some_iff.1 g1).1
   rw [List.getElem?_append_left this]; exact g1) g2).2)
  exact ⟨news,h1,h2,h3,fun w' => rfl,fun w' hw=>h4 w' hw⟩
 ·rename_i id d l
  obtain ⟨e,rfl⟩:=sameL_spec h
  subst e
  obtain ⟨b,o,cap,loc,rfl,_,_,_,_,hcap,hh⟩:=gro_get hx
  obtain ⟨news,h1,h2,h3,h4⟩:=row_cells (P:=P) (w:=w) (X:=X) (l:=l) (b:=b) (o:=o) (fun i x k v g1 g2=>(hh i x k v g1 g2).2)
  exact ⟨news,h1,h2,h3,fun w' => rfl,fun w' hw=>h4 w' hw⟩
 ·rename_i id s off len
  split at h
  ·rename_i cs e hH
   cases hb:(Nat.beq s c.size && Nat.ble (off+len*s) cs.length)
   ·simp [hb] at h
   ·simp only [hb,cond_true] at h
    obtain ⟨b1,b2⟩:=Bool.and_eq_true_iff.1 hb
    have b1:=Nat.eq_of_beq_eq_true b1
    have b2:=Nat.le_of_ble_eq_true b2
    subst b1
    obtain ⟨g1,g2⟩:=chunk_dec h
    cases hx with
    | ref _ _ _ _ _ loc b o cap hid hk hlen ha hcap =>
     obtain ⟨_,arr,e',a1,a2,a3,a4⟩:=hR.cells id cs e loc hH hid
     by_cases h0:0<cap
     ·obtain ⟨rfl,rfl⟩:=ha h0
      obtain ⟨news,h1,h2,h3,h4⟩:=row_cells (P:=P) (w:=w) (X:=X) (l:=xs) (b:=loc.block) (o:=loc.base+off) (fun i x k v q1 q2=>by
       obtain ⟨u,hu,hone,hu'⟩:=g2 i x k v q1 q2
       rw [List.getElem?_drop] at hu
       obtain ⟨z,hz,hz'⟩:=a4 _ u hu
       refine ⟨z,?_,hu' w X β z hz'⟩
       rw [cell_of_row w _ _ arr e' (0,0) a1,← hz]
       congr 1; omega)
      refine ⟨news,h1,h2,h3,fun w' => ?_,fun w' hw=>?_⟩
      ·rw [g1]; rfl
      ·rw [g1] at h4 ⊢; exact h4 w' hw
     ·have hl0:len=0:=by omega
      subst hl0
      have hx0:xs=[]:=List.length_eq_zero_iff.1 g1
      subst hx0
      exact ⟨[],by simp,by simp,by simp,fun w' => rfl,fun w' hw=>by simp [Builtin.firstCells,loadCells,loadCellsFrom]⟩
  ·rename_i n k l hd hH
   cases hb:(Nat.beq s 1 && (Nat.ble n off && Nat.ble (off - n+len) l.length))
   ·rw [hb] at h; cases h
   rw [hb,cond_true] at h
   obtain ⟨b1,hb⟩:=Bool.and_eq_true_iff.1 hb
   obtain ⟨b2,b3⟩:=Bool.and_eq_true_iff.1 hb
   have b1:=Nat.eq_of_beq_eq_true b1
   have b2:=Nat.le_of_ble_eq_true b2
   have b3:=Nat.le_of_ble_eq_true b3
   subst b1
   unfold pageElems at h
   split at h
   rotate_left
   ·cases h
   rename_i k'
   cases hk:decide (k' = k)
   ·rw [hk] at h; cases h
   rw [hk,cond_true] at h
   have:=of_decide_eq_true hk
   subst this
   cases h
   cases hx with
   | ref _ _ _ _ _ loc b o cap hid hkd hlen' ha hcap =>
    obtain ⟨_,hb0,ob,ys,a1,⟨hn,e',rfl⟩,_⟩:=hR.objs id _ _ loc hH hid
    by_cases h0:0<cap
    ·obtain ⟨rfl,rfl⟩:=ha h0
     exact int_news (drop_take_len b3) fun i x hx=>by
      obtain ⟨hi,hx⟩:=drop_take_get hx
      rw [cell_of_row w _ _ _ e' (0,0) a1,hb0,Nat.zero_add,List.getElem?_toArray,List.getElem?_append_right (by omega),hn,List.getElem?_map,show off+i - n=(off - n)+i by omega,hx]
      rfl
    ·have hl0:len=0:=by omega
     subst hl0
     have e0:((l.drop (off - n)).take 0:List Int)=[]:=List.take_zero
     have e1:(((l.drop (off - n)).take 0:List Int):List (EC.int k').ty)=[]:=e0
     rw [e1]
     exact ⟨[],nil_news⟩
  ·cases h
 ·simp only [Option.some.injEq] at h
  subst h
  cases hx
  exact ⟨[],by simp,by simp,by simp,fun w' => rfl,fun w' hw=>rfl⟩
 ·rename_i s
  unfold strElems at h
  split at h <;> first | (cases h; done) | skip
  cases hx
  exact ⟨_,str_news s xs (Option.some.inj h).symm⟩
 ·cases h
end
end Go.Ab

namespace Go.Ab
section
variable {P:Program} {E:Nat→Nat→Prop} {H:List O} {β:List Loc} {w:World} {X:Nat→Nat→Prop}
structure AppT (P:Program) (argTypes:Array TypeId) (e:TypeId) (j:TI):Prop where
 st:∃ st,argTypes[0]? = some st∧P.underlying st=some (.slice e)
 el:ti P e=some j
 xt:∃ t d,argTypes[1]? = some t∧P.underlying t=some d∧((∃ e,d = .slice e)∨d = .string)
 bytes:0<j.bytes
 zero:j.zero.length=j.size
theorem roomy_spec {n b:Nat} (h:roomy n b=true):n*b≤140737488355328:=of_decide_eq_true h
theorem run_append_in {argTypes:Array TypeId} {e ty:TypeId} {j:TI} (t:AppT P argTypes e j) {n:Nat} {news:List Value} {y:Value} {base:Option Addr} {sLen sCap:Nat}
  (hlen:(Builtin.lenOf y).run P w = .ok n w) (hfirst:(Builtin.firstCells j.size n y).run P w = .ok news.toArray w) (hneed:sLen+n≤sCap) {w' : World}
  (hst:∀ a,base=some a→(storeCells (a.add (sLen*j.size)) news).run P w = .ok () w') (hnone:base=none→w' = w) :
  (Builtin.append_ argTypes ty #[.slice base sLen sCap,y]).run P w = .ok (.slice base (sLen+n) sCap) w' := by
 obtain ⟨st,h0,h1⟩:=t.st
 obtain ⟨xt,d,h2,h3,h4⟩:=t.xt
 cases base with
 | none =>
  rw [hnone rfl]
  rcases h4 with ⟨e',rfl⟩ | rfl <;> simp [Builtin.append_,h0,h2,run_und w h1,run_und w h3,ti_size w t.el,hlen,hfirst,hneed]
 | some a =>
  rcases h4 with ⟨e',rfl⟩ | rfl <;> simp [Builtin.append_,h0,h2,run_und w h1,run_und w h3,ti_size w t.el,hlen,hfirst,hneed,hst a rfl]
theorem run_append_out {argTypes:Array TypeId} {e ty:TypeId} {j:TI} (t:AppT P argTypes e j) {n:Nat} {olds news:List Value} {y:Value} {base:Option Addr} {sLen sCap:Nat}
  (hlen:(Builtin.lenOf y).run P w = .ok n w) (hfirst:(Builtin.firstCells j.size n y).run P w.drew = .ok news.toArray w.drew)
  (hold:(Builtin.firstCells j.size sLen (.slice base sLen sCap)).run P w.drew = .ok olds.toArray w.drew) (hneed:sCap<sLen+n) (hb:(sLen+n)*j.bytes≤140737488355328) :
  ∃ rest:List Value,rest.length=(grownCap w (sLen+n) sCap e - (sLen+n))*j.size ∧
  (Builtin.append_ argTypes ty #[.slice base sLen sCap,y]).run P w = .ok (.slice (some ⟨w.heap.size,0,none⟩) (sLen+n) (grownCap w (sLen+n) sCap e))
   (w.drew.alloc (.cells (olds++news++rest).toArray e)):=by
 obtain ⟨st,h0,h1⟩:=t.st
 obtain ⟨xt,d,h2,h3,h4⟩:=t.xt
 obtain ⟨ti1,d1,i1,i2,i3,i4,⟨z,z1,z2⟩,_⟩:=(ti_spec t.el).info
 have hz:z.cells.size=j.size:=by have:=t.zero; rw [z2] at this; simpa using this
 have hfit:=growslice_fits hneed hb
 rw [← i4] at hfit
 refine ⟨(Builtin.zeroCells z.cells (grownCap w (sLen+n) sCap e - (sLen+n))).toList,by simp [size_zeroCells,hz],?_⟩
 have hnb:¬ (ti1.bytes=0):=by rw [i4]; have:=t.bytes; omega
 have hn:¬ (sLen+n≤sCap):=by omega
 have hfit' : ¬ (281474976710656<Builtin.nextslicecap (sLen+n) sCap*ti1.bytes):=by omega
 have hcat:∀ Z:Array Value,w.drew.alloc (Obj.cells (olds.toArray++(news.toArray++Z)) e)=w.drew.alloc (Obj.cells (olds++(news++Z.toList)).toArray e):=by
  intro Z
  congr 2
  apply Array.ext'
  simp
 rcases h4 with ⟨e',rfl⟩ | rfl <;>
  simp [Builtin.append_,h0,h2,run_und w h1,run_und w h3,ti_size w t.el,hlen,hn,hcat,run_typeInfo' w i1,run_typeInfo' w.drew i1,hnb,hfit',Question.forced,grownCap,hfirst,hold,zeroValue,z1,newRow]
end
end Go.Ab
