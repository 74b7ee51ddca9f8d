/-
  The engine, part E: operations on memory and values. Conditions: none.
-/
import Derived.Test.YtbefgnmdliefjaaGreatDoorPk02
import Derived.Laws.Tables
import Derived.Laws.Slices
import Derived.Laws.Append
import Derived.Laws.MakeOwn
open Bool renaming and_eq_true_iff→ZA0
open List renaming getElem?_append_left→ZB0,getElem?_append_right→ZB1,getElem?_eq_some_iff→ZB2,getElem?_eq_getElem→ZB3,getElem?_map→ZC0,getElem?_drop→ZC1,getElem?_take→ZC2,length_cons→ZD3,length_append→ZE0,length_nil→ZE2,mem_cons→ZE3,length_take→ZF2,getD_eq_getElem?_getD→ZG0
open Nat renaming eq_of_beq_eq_true→ZG1,le_of_ble_eq_true→ZG2
open Option renaming map_eq_some_iff→ZH0,map_some→ZH2
open Option.some renaming injEq→ZH3
set_option linter.unusedVariables false
set_option linter.unusedSimpArgs false
namespace Go.Ab
section
variable {P:Program} {E:Nat->Nat->Prop} {H:List O} {β:List Loc} {w:World} {X:Nat->Nat->Prop}
theorem KL {v:V} {y:Value} (h:R w X β v y) (a:v.one=true):y.oneCell' = true:=by
 cases h <;> first | rfl | (simp [V.one] at a; done) | skip
 cases y <;> first | rfl | (simp [V.one] at a)
theorem aC5 {vs:List V} (h:vR vs=true):∀ v ∈ vs,v.one=true:=by
 induction vs with
 | nil=>simp
 | cons u r c =>
  unfold vR at h;cases a:u.one
  ·simp [a] at h
  ·simp only [a,cond_true] at h
   intro v b
   rcases ZE3.1 b with rfl | b
   ·exact a
   ·exact c h v b
theorem I7 {v:V} {y:Value} {vs:List V} (h:R w X β v y) (b:v.cells? = some vs) :
  ∃ ys:List Value,y.cells=ys.toArray/\ys.length=vs.length/\(∀ (k:Nat) v z,vs[k]? = some v->ys[k]? = some z->R w X β v z) /\ ∀ z ∈ ys,z.oneCell' = true:=by
 have a:v.one=true->vs=[v]->y.cells = #[y] -> ∃ ys:List Value,y.cells=ys.toArray/\ys.length=vs.length/\(∀ (k:Nat) v z,vs[k]? = some v->ys[k]? = some z->R w X β v z) /\ ∀ z ∈ ys,z.oneCell' = true:=by
  intro i j l;subst j;refine ⟨[y],l,rfl,?_,by simpa using KL h i⟩;intro k n z f e
  cases k with
  | zero=>simp at f e; subst f; subst e; exact h
  | succ k=>simp at f
 cases h with
 | agg _ cells xs m g =>
  simp only [V.cells?] at b;cases c:vR cells
  ·simp [c] at b
  ·simp only [c,cond_true,ZH3] at b
   subst b;refine ⟨xs,rfl,m,g,fun z e=>?_⟩;obtain ⟨k,hk,hk'⟩:=List.getElem_of_mem e
   have d:k<cells.length:=by omega
   exact KL (g k cells[k] z (by simp [d]) (by simp [hk,hk'])) (aC5 c _ (List.getElem_mem d))
 | val _ =>
  simp only [V.cells?] at b;cases c:V.one (.val y)
  ·simp [c] at b
  ·simp only [c,cond_true,ZH3] at b
   refine a c b.symm ?_
   cases y <;> first | rfl | (simp [V.one] at c)
 | tup=>simp [V.cells?] at b
 | any=>simp [V.cells?] at b
 | _=>exact a rfl (by simpa [V.cells?] using b.symm) rfl
theorem aCA {ty:TypeId} {a v:V} {x y:Value} {H' : List O} (D:Rel w (Xs E H β) H β) (K:R w (Xs E H β) β a x) (L:R w (Xs E H β) β v y)
  (h:zD P H ty a v=some H'):∃ w',(Instr.storeAt ty x y).run P w = .ok () w' /\ Step E H β w H' β w' := by
 unfold zD at h;split at h
 ·rename_i i vs id off I J
  split at h
  ·rename_i cs e s
   cases b:(Nat.beq vs.length i.size&&Nat.ble (off+vs.length) cs.length)
   ·simp [b] at h
   ·simp only [b,cond_true,ZH3] at h
    subst h;obtain ⟨f,j⟩:=ZA0.1 b;have f:=ZG1 f;have j:=ZG2 j
    cases K with
    | ptr _ _ _ loc o N =>
     obtain ⟨_,c,e',a1,a2,a3,a4⟩:=D.cells id cs e loc s o;obtain ⟨ys,hys,hl,hr,hone⟩:=I7 L J;have l:=run_storeCells_at P loc.block (loc.base+off) e' ys 0 c w a1 (by simp; omega) hone;simp only [Nat.add_zero] at l;refine ⟨_,?_,Step.setCells (e0:=e') D s o a1 (c' := (c.toList.take (loc.base+off)++ys++c.toList.drop (loc.base+off+ys.length)).toArray) ?_ ?_ ?_⟩
     ·simp [Instr.storeAt,Instr.sureAddr,storeVar,hys,hU w I,hl,f]
      rw [<- hl] at f;simpa [f,hl] using l
     ·simp; omega
     ·simp [mL]; omega
     ·intro k u p
      unfold mL at p;rw [List.append_assoc] at p;by_cases hk1:k<off
      ·rw [ZB0 (by simp; omega),ZC2,if_pos hk1] at p
       obtain ⟨z,hz,hz'⟩:=a4 k u p;refine ⟨z,?_,hz'⟩;simp only [List.getElem?_toArray,List.append_assoc];rw [ZB0 (by simp; omega),ZC2,if_pos (by omega)];simpa using hz
      ·rw [ZB1 (by simp; omega)] at p
       have C:min off cs.length=off:=by omega
       simp only [ZF2,C] at p;by_cases hk2:k - off<vs.length
       ·rw [ZB0 hk2] at p
        have m:k - off<ys.length:=by omega
        refine ⟨ys[k - off],?_,hr (k - off) u _ p (by simp [m])⟩;simp only [List.getElem?_toArray,List.append_assoc]
        have d:min (loc.base+off) c.size=loc.base+off:=by omega
        rw [ZB1 (by simp; omega),ZB0 (by simp [d]; omega)];simp only [ZF2,Array.length_toList,d];rw [show loc.base+k - (loc.base+off)=k - off from by omega];simp [m]
       ·rw [ZB1 (by omega),ZC1] at p
        have F:off+vs.length+(k - off - vs.length)=k:=by omega
        rw [F] at p;obtain ⟨z,hz,hz'⟩:=a4 k u p;refine ⟨z,?_,hz'⟩;simp only [List.getElem?_toArray,List.append_assoc]
        have d:min (loc.base+off) c.size=loc.base+off:=by omega
        rw [ZB1 (by simp; omega),ZB1 (by simp [d]; omega),ZC1];simp only [ZF2,Array.length_toList,d];rw [show loc.base+off+ys.length+(loc.base+k - (loc.base+off) - ys.length)=loc.base+k from by omega];simpa using hz
  ·rename_i n k xs A s
   cases b:(Nat.beq vs.length i.size&&Nat.ble (off+vs.length) A.length)
   ·simp [b] at h
   ·simp only [b,cond_true,ZH3] at h
    subst h;obtain ⟨f,j⟩:=ZA0.1 b;have f:=ZG1 f;have j:=ZG2 j
    cases K with
    | ptr _ _ _ loc o N =>
     obtain ⟨_,hb0,ob,zs,a1,⟨hn,e',rfl⟩,a4⟩:=D.objs id _ _ loc s o;obtain ⟨ys,hys,hl,hr,hone⟩:=I7 L J
     have M:A.length<=n:=by
      rcases Nat.lt_or_ge n A.length with g | g
      ·obtain ⟨z,hz,_⟩:=a4 n A[n] (by simp [g])
       have:=(ZB2.1 hz).1;omega
      ·exact g
     have l:=run_storeCells_at P loc.block (loc.base+off) e' ys 0 (zs++xs.map (Value.int k)).toArray w a1 (by simp; omega) hone;simp only [Nat.add_zero] at l
     have t:((zs++xs.map (Value.int k)).toArray.toList.take (loc.base+off)++ys++(zs++xs.map (Value.int k)).toArray.toList.drop (loc.base+off+ys.length)).toArray=((zs.take off++ys++zs.drop (off+ys.length))++xs.map (Value.int k)).toArray:=by
      rw [hb0,Nat.zero_add];congr 1;rw [List.toList_toArray,List.take_append_of_le_length (by omega),List.drop_append_of_le_length (by omega)];simp only [List.append_assoc]
     refine ⟨_,?_,Step.setPage (n:=n) (k:=k) (l' := xs) (xs' := zs.take off++ys++zs.drop (off+ys.length)) D s o a1 (by simp; omega) hn t rfl fun q v r=>?_⟩
     ·simp [Instr.storeAt,Instr.sureAddr,storeVar,hys,hU w I,hl,f]
      rw [<- hl] at f;simpa [f,hl] using l
     ·unfold mL at r
      rw [List.append_assoc] at r ⊢;by_cases hq1:q<off
      ·rw [ZB0 (by simp; omega),ZC2,if_pos hq1] at r
       obtain ⟨z,hz,hz'⟩:=a4 q v r;exact ⟨z,by rw [ZB0 (by simp; omega),ZC2,if_pos hq1]; exact hz,hz'⟩
      ·have G:(A.take off).length=off:=by simp; omega
       have B:(zs.take off).length=off:=by simp; omega
       rw [ZB1 (by omega),G] at r;by_cases hq2:q - off<vs.length
       ·rw [ZB0 hq2] at r
        have m:q - off<ys.length:=by omega
        exact ⟨ys[q - off],by rw [ZB1 (by omega),B,ZB0 m]; simp [m],hr (q - off) v _ r (by simp [m])⟩
       ·rw [ZB1 (by omega),ZC1,show off+vs.length+(q - off - vs.length)=q by omega] at r
        obtain ⟨z,hz,hz'⟩:=a4 q v r;exact ⟨z,by rw [ZB1 (by omega),B,ZB1 (by omega),ZC1,show off+ys.length+(q - off - ys.length)=q by omega]; exact hz,hz'⟩
  ·cases h
 ·cases h
theorem aRT {ty:TypeId} {a v:V} {x y:Value} {H' : List O} (e:Rel w (Xs E H β) H β) (f:R w (Xs E H β) β a x) (g:R w (Xs E H β) β v y)
  (h:(FZ P H ty a v).run=some H'):∃ w',(Instr.storeAt ty x y).run P w = .ok () w' /\ Step E H β w H' β w' := by
 rcases aSE h with h | ⟨id,off,n,k,xs,hd,m,i,rfl,rfl,hH,h1,h2,rfl,hi,hs⟩
 ·exact aCA e f g h
 ·cases g
  cases f with
  | ptr _ _ _ loc d j =>
  obtain ⟨_,hb0,ob,zs,a1,⟨hn,e',rfl⟩,a4⟩:=e.objs id _ _ loc hH d;have b:=run_storeCells_at P loc.block (loc.base+off) e' [.int k m] 0 (zs++xs.map (Value.int k)).toArray w a1 (by simp; omega) (by simp [Value.oneCell']);simp only [Nat.add_zero] at b
  have c:((zs++xs.map (Value.int k)).toArray.toList.take (loc.base+off)++[Value.int k m]++(zs++xs.map (Value.int k)).toArray.toList.drop (loc.base+off+[Value.int k m].length)).toArray=(zs++(xs.set (off - n) m).map (Value.int k)).toArray:=by
   rw [hb0,Nat.zero_add];congr 1;apply List.ext_getElem?;intro q;simp only [ZD3,ZE2,Nat.zero_add,List.map_set]
   have hlen:(List.take off (zs++xs.map (Value.int k))).length=off:=by simp; omega
   rw [List.append_assoc];by_cases hq:q<off
   ·rw [ZB0 (by omega),ZC2,if_pos hq]
    by_cases hq2:q<n
    ·rw [ZB0 (by omega),ZB0 (by omega)]
    ·rw [ZB1 (by omega),ZB1 (by omega),List.getElem?_set_ne (by omega)]
   ·rw [ZB1 (by omega),hlen]
    by_cases hq2:q=off
    ·subst hq2
     rw [Nat.sub_self,ZB1 (l₁:=zs) (by omega),hn,List.getElem?_set_self (by simp; omega)];rfl
    ·rw [ZB1 (by simp; omega),ZC1]
     simp only [ZD3,ZE2,Nat.zero_add];rw [show off+1+(q - off - 1)=q by omega,ZB1 (by omega),ZB1 (by omega),List.getElem?_set_ne (by omega)]
  refine ⟨_,?_,Step.setPage (n:=n) (k:=k) (l' := xs.set (off - n) m) (xs' := zs) e hH d a1 hn hn c (by simp) a4⟩;simp [Instr.storeAt,Instr.sureAddr,storeVar,Value.cells,hU w hi,hs];simpa using b
theorem aBP {vs:List V} {y:Value} {ys:List Value} (e:TypeId) (c:Rel w (Xs E H β) H β) (b:y.cells=ys.toArray) (f:ys.length=vs.length)
  (i:∀ (k:Nat) v z,vs[k]? = some v->ys[k]? = some z->R w (Xs E H β) β v z) :
  ∃ w' a,(newVar e y).run P w = .ok ⟨w.heap.size,0,none⟩ w' /\ Step E H β w (H++[.cells vs e]) a w' /\ R w' (Xs E (H++[.cells vs e]) a) a (.ptr H.length 0) (.pointer (some ⟨w.heap.size,0,none⟩)):=by
 refine ⟨w.alloc (.cells ys.toArray e),β++[{ kind:=false,block:=w.heap.size,base:=0,n:=0,size:=ys.length }],?_,?_,?_⟩
 ·simp [newVar,newRow,b]
 ·refine Step.push c ys.toArray e _ _ rfl (by simp) ?_ ?_
  ·intro cs e' h
   simp only [O.cells.injEq] at h;obtain ⟨rfl,rfl⟩:=h;refine ⟨rfl,by simp [f],fun k v g=>?_⟩
   have d:k<ys.length:=by rw [f]; exact (ZB2.1 g).1
   exact ⟨ys[k],by simp [d],i k v _ g (by simp [d])⟩
  ·intro n j h; cases h
 ·have:=R.ptr (w:=w.alloc (.cells ys.toArray e)) (X:=Xs E (H++[.cells vs e]) (β++[{ kind:=false,block:=w.heap.size,base:=0,n:=0,size:=ys.length }]))
   (β++[{ kind:=false,block:=w.heap.size,base:=0,n:=0,size:=ys.length }]) H.length 0 { kind:=false,block:=w.heap.size,base:=0,n:=0,size:=ys.length } (by rw [c.len]; simp) rfl
  simpa using this
theorem aD4 {t:TypeId} {i:TI} (h:ti P t=some i):∃ z,(∀ w,(zeroValue t).run P w = .ok z w)/\i.zero=z.cells.toList.map ofVal1:=by
 obtain ⟨j,d,h1,_,_,_,⟨z,hz,hz'⟩,_⟩:=(rR h).info;exact ⟨z,fun w=>by simp [zeroValue,typeInfo,h1,hz],hz'⟩
theorem aSQ {e:TypeId} {i:TI} (c:Rel w (Xs E H β) H β) (h:ti P e=some i) :
  ∃ w' a,(Instr.alloc e true (.tuple #[])).run P w = .ok (.pointer (some ⟨w.heap.size,0,none⟩)) w' /\ Step E H β w (H++[.cells i.zero e]) a w' /\
   R w' (Xs E (H++[.cells i.zero e]) a) a (.ptr H.length 0) (.pointer (some ⟨w.heap.size,0,none⟩)):=by
 obtain ⟨z,hz,hz'⟩:=aD4 h
 obtain ⟨w',a,h1,h2,h3⟩:=aBP (P:=P) (vs:=i.zero) (y:=z) (ys:=z.cells.toList) e c (by simp) (by simp [hz']) (by
  intro k v y b d;rw [hz'] at b;simp only [ZC0,d,ZH2,ZH3] at b;subst b
  exact BC _ _ _ _)
 exact ⟨w',a,by simp [Instr.alloc,hz,h1],h2,h3⟩
theorem aBJ {k:IntKind} {x:Int}:∀ {m:Nat} {cs:List V},FE k x m cs=true->cs=(List.replicate m x).map (V.int k)
 | 0,[],_=>rfl
 | 0,_ :: _,h=>by cases h
 | m+1,[],h=>by cases h
 | m+1,v :: r,h=>by
  cases v with
  | int l y =>
   unfold FE at h;cases c:decide (l=k)&&decide (y=x)
   ·rw [c] at h; cases h
   rw [c,cond_true] at h;obtain ⟨a,b⟩:=ZA0.1 c;have a:=of_decide_eq_true a;have b:=of_decide_eq_true b;subst a b;rw [List.replicate_succ,List.map_cons,<- aBJ h]
  | _=>cases h
theorem aWM (P:Program) (e:TypeId) (cs:List V):DI P e cs = .cells cs e \/ ∃ n k l,DI P e cs = .obj (.page n k l) (cs.take n)/\cs=cs.take n++l.map (V.int k)/\n<=cs.length:=by
 unfold DI;split;rotate_left
 ·exact .inl rfl
 rename_i n m _;split;rotate_left
 ·exact .inl rfl
 rename_i k x r c;cases hb:FE k x m (.int k x :: r)&&Nat.ble n (cs.take n).length
 ·exact .inl rfl
 ·obtain ⟨b,a⟩:=ZA0.1 hb
  refine .inr ⟨n,k,List.replicate m x,rfl,?_,?_⟩
  ·rw [<- aBJ b,<- c,List.take_append_drop]
  ·have a:=ZG2 a
   rw [ZF2] at a;omega
theorem aYH {e:TypeId} {v:V} {y:Value} {vs:List V} (j:Rel w (Xs E H β) H β) (p:R w (Xs E H β) β v y) (h:v.cells? = some vs) :
  ∃ w' b,(Instr.box e y).run P w = .ok (.pointer (some ⟨w.heap.size,0,none⟩)) w' /\ Step E H β w (H++[DI P e vs]) b w' /\
   R w' (Xs E (H++[DI P e vs]) b) b (.ptr H.length 0) (.pointer (some ⟨w.heap.size,0,none⟩)):=by
 obtain ⟨ys,hys,hl,hr,_⟩:=I7 p h
 rcases aWM P e vs with i | ⟨n,k,l,i,hvs,hn⟩
 ·rw [i]
  obtain ⟨w',b,h1,h2,h3⟩:=aBP (P:=P) e j hys hl hr;exact ⟨w',b,by simp [Instr.box,h1],h2,h3⟩
 ·rw [i]
  have f:ys=ys.take n++l.map (Value.int k):=by
   apply List.ext_getElem?;intro q
   have m:vs.length=n+l.length:=by
    have:=congrArg List.length hvs;simp only [ZE0,ZF2,List.length_map] at this;omega
   by_cases g:q<n
   ·rw [ZB0 (by simp; omega),ZC2,if_pos g]
   ·rw [ZB1 (by simp; omega)]
    have o:(ys.take n).length=n:=by simp; omega
    rw [o,ZC0];by_cases a:q - n<l.length
    ·have c:vs[q]? = some (.int k l[q - n]):=by
      rw [hvs,ZB1 (by simp; omega),ZF2,Nat.min_eq_left hn,ZC0,ZB3 a];rfl
     have d : ys[q]? = some ys[q]:=ZB3 (by omega);have:=hr q _ _ c d;rw [d,ZB3 a];generalize ys[q]=z at this;cases this;rfl
    ·rw [List.getElem?_eq_none (by omega),List.getElem?_eq_none (by omega)]
     rfl
  let loc:Loc:={ kind:=false,block:=w.heap.size,base:=0,n:=0,size:=ys.length }
  refine ⟨w.alloc (.cells ys.toArray e),β++[loc],by simp [Instr.box,newVar,newRow,hys],?_,?_⟩
  ·refine Step.pushObjD j (.cells ys.toArray e (0,0)) (loc:=loc) (xs:=ys.take n) ⟨by simp; omega,e,by rw [<- f]⟩ (fun q v c=>?_) rfl rfl rfl
   have g:q<n:=by
    have:=(ZB2.1 c).1;simp only [ZF2] at this;omega
   rw [ZC2,if_pos g] at c
   have a:q<ys.length:=by rw [hl]; exact (ZB2.1 c).1
   exact ⟨ys[q],by rw [ZC2,if_pos g]; simp [a],hr q v _ c (by simp [a])⟩
  ·have:=R.ptr (w:=w.alloc (.cells ys.toArray e)) (X:=Xs E (H++[.obj (.page n k l) (vs.take n)]) (β++[loc])) (β++[loc]) H.length 0 loc (by rw [j.len]; simp) rfl
   simpa [loc] using this
theorem aFX {cells:List V} {b o:Nat} (h:R w X β (.pin cells) (.pointer (some ⟨b,o,none⟩))) (k:Nat):R w X β (.pin (cells.drop k)) (.pointer (some ⟨b,o+k,none⟩)):=by
 cases h with
 | pin _ _ _ _ f c e =>
  refine .pin β _ b (o+k) (fun j=>f (k+j)) (fun j d=>?_) (fun j v a=>?_)
  ·rw [Nat.add_assoc]
   exact c (k+j) (by simp at d; omega)
  ·rw [ZC1] at a
   exact e (k+j) v a
theorem Q9 {t:TypeId} {i:TI} {a:List (Nat × Nat × Bool)} (h:ti P t=some i) (c:i.k = .st a) :
  ∃ fs:Array Field,P.underlying t=some (.struct fs)/\a=fs.toList.map fun f=>(f.offset,P.cellsOf f.type,isAggB P f.type):=by
 obtain ⟨j,d,h1,h2,_,_,_,b,_⟩:=(rR h).info;rw [c] at b
 cases d with
 | struct fs=>simp only [TK.st.injEq] at b; exact ⟨fs,h2,b⟩
 | _=>cases b
theorem yD {t:TypeId} {i:TI} {e:TypeId} (h:ti P t=some i) (b:i.k = .slice e):P.underlying t=some (.slice e):=by
 obtain ⟨j,d,h1,h2,_,_,_,a,_⟩:=(rR h).info;rw [b] at a
 cases d with
 | slice e' => simp only [TK.slice.injEq] at a; rw [a]; exact h2
 | _=>cases a
theorem SB {t:TypeId} {i:TI} {n:Nat} {e:TypeId} (h:ti P t=some i) (b:i.k = .arr n e):P.underlying t=some (.array n e):=by
 obtain ⟨j,d,h1,h2,_,_,_,a,_⟩:=(rR h).info;rw [b] at a
 cases d with
 | array n' e' => simp only [TK.arr.injEq] at a; obtain ⟨rfl,rfl⟩:=a; exact h2
 | _=>cases a
theorem aQP {t:TypeId} {x v:V} {y:Value} {f:Nat} (p:R w X β x y) (h:ES P t x f=some v) :
  ∃ z,(Instr.fieldAt t y f).run P w = .ok z w/\R w X β v z:=by
 unfold ES at h;split at h
 ·rename_i i s
  split at h
  ·rename_i q A
   obtain ⟨fs,hu,hoffs⟩:=Q9 s A;split at h
   ·rename_i off size _ n
    rw [hoffs] at n;simp only [ZC0,ZH0,Prod.mk.injEq] at n;obtain ⟨fl,hf,rfl,hsz,_⟩:=n;cases hb:Nat.beq size 0
    ·simp only [hb,cond_false] at h
     have m:size ≠ 0:=fun e=>by subst e; simp at hb
     have c:∃ j,P.info? fl.type=some j/\j.size=size:=by
      unfold Program.cellsOf at hsz
      cases d:P.info? fl.type with
      | none=>simp [d] at hsz; omega
      | some j=>exact ⟨j,rfl,by simpa [d] using hsz⟩
     obtain ⟨j,d,hjs⟩:=c
     have g:fs[f]? = some fl:=by simpa using hf
     have a:∀ b o,(Instr.fieldAt t (.pointer (some ⟨b,o,none⟩)) f).run P w = .ok (.pointer (some ⟨b,o+fl.offset,none⟩)) w:=by
      intro b o;simp [Instr.fieldAt,cZ w hu,g,Instr.sureAddr,fieldPlace,I1 w d,hjs,m,n8]
     split at h
     ·rename_i id o
      simp only [ZH3] at h;subst h
      cases p with
      | ptr _ _ _ loc k l =>
       refine ⟨_,a _ _,?_⟩;rw [Nat.add_assoc];exact .ptr β id (o+fl.offset) loc k l
     ·rename_i cells
      simp only [ZH3] at h;subst h
      cases p with
      | pin _ _ b o r u B=>exact ⟨_,a _ _,aFX (.pin β cells b o r u B) _⟩
     ·cases h
    ·simp [hb] at h
   ·cases h
  ·cases h
 ·cases h
theorem enc_size:∀ (c:EC) (x:c.ty),(enc c x).length=c.size:=by
 intro c;refine EC.rec (motive_1:=fun c=>∀ x:c.ty,(enc c x).length=c.size) (motive_2:=fun cs=>∀ x:EC.tys cs,(encs cs x).length=EC.sizes cs) ?_ ?_ ?_ ?_ ?_ ?_ ?_ c
 ·intro k x; rfl
 ·intro x; rfl
 ·intro x; rfl
 ·intro c _ x; simp [enc,EC.size]
 ·intro cs a x; simpa [enc,EC.size] using a x
 ·intro x; rfl
 ·intro c cs a b x
  cases cs with
  | nil=>simpa [encs,EC.sizes] using a x
  | cons d cs =>
   simp only [encs,EC.sizes,ZE0];rw [a x.1,b x.2]
theorem aGH {c:EC} {l:List c.ty} {m:Nat} {b o:Nat} {f:Nat->Nat->Value} {x:c.ty} (d:l[m]? = some x) (e:∀ k,k<c.size->¬ X b (o+k)/\w.cell? ⟨b,o+k,none⟩=some (f m k))
  (g:∀ (k:Nat) (v:V),(enc c x)[k]? = some v->R w X [] v (f m k)):R w X β (.pin (enc c x)) (.pointer (some ⟨b,o,none⟩)):=
 .pin β _ b o (f m) (fun k a=>e k (by rw [enc_size] at a; exact a)) g
theorem xW {i:Int} {n:Nat} (h:inside i n=true):0<=i/\i<n/\i.toNat<n:=by
 simp only [inside,Bool.and_eq_true,decide_eq_true_eq] at h;exact ⟨h.1,h.2,by omega⟩
theorem aM {β:Type} {c:Bool} {x:Tree β} {b:β} (h:(Tree.aF c x).run=some b):c=true/\x.run=some b:=by
 cases c
 ·simp [Tree.aF,Tree.run] at h
 ·exact ⟨rfl,h⟩
theorem aQR {t:TypeId} {x L v:V} {y M:Value} (G:R w X β x y) (hi:R w X β L M) (h:(QG P t x L).run=some v) :
  ∃ z,(Instr.indexAt t y M).run P w = .ok z w/\R w X β v z:=by
 unfold QG at h;split at h
 ·rename_i i k n K
  cases hi;split at h
  ·rename_i e q
   have s:=yD K q;split at h
   ·rename_i j D
    split at h
    ·rename_i c l sp fl
     cases hb:Nat.beq c.size j.size
     ·simp [hb,Tree.run] at h
     ·simp only [hb,cond_true] at h
      have d:=ZG1 hb;obtain ⟨a,h⟩:=aM h;simp only [Tree.run,ZH3] at h;subst h;obtain ⟨g,p,i2⟩:=xW a
      cases G with
      | nil=>simp at i2
      | sl _ _ _ _ _ b o cap f A I S C F =>
       refine ⟨.pointer (some ⟨b,o+n.toNat*j.size,none⟩),?_,?_⟩
       ·simp [Instr.indexAt,asIntOf,cZ w s,g,p,hU w D,n8]
       ·rw [ZG0,ZB3 i2,Option.getD_some]
        refine aGH (l:=l) (f:=f) (m:=n.toNat) (ZB3 i2) (fun k q=>?_) (fun k u s=>?_)
        ·rw [<- d]; exact C n.toNat k (by omega) q
        ·exact F n.toNat _ k u (by rw [ZB0 i2]; exact ZB3 i2) s
    ·rename_i id c l
     cases hb:Nat.beq c.size j.size
     ·simp [hb,Tree.run] at h
     ·simp only [hb,cond_true] at h
      have d:=ZG1 hb;obtain ⟨a,h⟩:=aM h;simp only [Tree.run,ZH3] at h;subst h;obtain ⟨g,p,i2⟩:=xW a
      cases G with
      | gro _ _ _ _ b o cap loc f r q W U A C F =>
       refine ⟨.pointer (some ⟨b,o+n.toNat*j.size,none⟩),?_,?_⟩
       ·simp [Instr.indexAt,asIntOf,cZ w s,g,p,hU w D,n8]
       ·rw [ZG0,ZB3 i2,Option.getD_some]
        refine aGH (l:=l) (f:=f) (m:=n.toNat) (ZB3 i2) (fun k q=>?_) (fun k u s=>?_)
        ·rw [<- d]; exact C n.toNat k (by omega) q
        ·exact F n.toNat _ k u (ZB3 i2) s
    ·rename_i id T off len
     cases hb:Nat.beq T j.size
     ·simp [hb,Tree.run] at h
     ·simp only [hb,cond_true] at h
      have d:=ZG1 hb;obtain ⟨a,h⟩:=aM h;simp only [Tree.run,ZH3] at h;subst h;obtain ⟨g,p,i2⟩:=xW a
      cases G with
      | ref _ _ _ _ _ loc b o cap r q hlen Q A =>
       obtain ⟨rfl,rfl⟩:=Q (by omega);refine ⟨.pointer (some ⟨loc.block,loc.base+off+n.toNat*j.size,none⟩),?_,?_⟩
       ·simp [Instr.indexAt,asIntOf,cZ w s,g,p,hU w D,n8]
       ·rw [Nat.add_assoc,<- d]
        exact .ptr β id _ loc r q
    ·cases h
   ·cases h
  ·rename_i len e q
   have s:=SB K q;split at h
   ·rename_i j D
    have B:∀ b o,0<=n->n<len->(Instr.indexAt t (.pointer (some ⟨b,o,none⟩)) (.int k n)).run P w = .ok (.pointer (some ⟨b,o+n.toNat*j.size,none⟩)) w:=by
     intro b o g p;simp [Instr.indexAt,asIntOf,cZ w s,g,p,hU w D,n8,Instr.sureAddr]
    split at h
    ·rename_i id off
     obtain ⟨a,h⟩:=aM h;simp only [Tree.run,ZH3] at h;subst h;obtain ⟨g,p,i2⟩:=xW a
     cases G with
     | ptr _ _ _ loc r J =>
      refine ⟨_,B _ _ g p,?_⟩;rw [Nat.add_assoc];exact .ptr β id _ loc r J
    ·rename_i cells
     obtain ⟨a,h⟩:=aM h;simp only [Tree.run,ZH3] at h;subst h;obtain ⟨g,p,i2⟩:=xW a
     cases G with
     | pin _ _ b o N C F=>exact ⟨_,B _ _ g p,aFX (.pin β cells b o N C F) _⟩
    ·cases h
   ·cases h
  ·cases h
 ·cases h
end
end Go.Ab

namespace Go.Ab
section
variable {P:Program} {E:Nat->Nat->Prop} {H:List O} {β:List Loc} {w:World} {X:Nat->Nat->Prop}
theorem aV4 {fs:List Field} (h:allKnown P fs=true):∀ f ∈ fs,∃ d,P.underlying f.type=some d:=by
 induction fs with
 | nil=>simp
 | cons f r c =>
  unfold allKnown at h
  cases b:P.underlying f.type with
  | none=>simp [b] at h
  | some d =>
   simp only [b,Option.isSome_some,cond_true] at h;intro g a
   rcases ZE3.1 a with rfl | a
   ·exact ⟨d,b⟩
   ·exact c h g a
theorem aGU {t:TypeId} {d:TypeDesc} (h:P.underlying t=some d):∃ j,P.info? t=some j:=by
 unfold Program.underlying at h
 cases a:P.info? t with
 | none=>simp [a] at h
 | some j=>exact ⟨j,rfl⟩
theorem P8 (w:World) {t:TypeId} {d:TypeDesc} (h:P.underlying t=some d):(isAgg t).run P w = .ok (isAggB P t) w:=by
 unfold isAggB;rw [h];cases d <;> simp [isAgg,cZ w h]
theorem aDG {t:TypeId} {i:TI} {fs:Array Field} (h:ti P t=some i) (a:P.underlying t=some (.struct fs)):∀ f ∈ fs.toList,∃ d,P.underlying f.type=some d:=by
 obtain ⟨j,d,h1,h2,_,_,_,_,h7⟩:=(rR h).info;rw [a] at h2;simp only [ZH3] at h2;subst h2;exact aV4 h7
theorem aD9 {agg:Bool} {cells:List V} {xs:List Value} {off size:Nat} {v:V} {ft:TypeId} (f:xs.length=cells.length)
  (g:∀ (k:Nat) v x,cells[k]? = some v->xs[k]? = some x->R w X β v x) (a:(isAgg ft).run P w = .ok agg w) (d:(sizeOf ft).run P w = .ok size w)
  (h:GW agg cells off size=some v):∃ z,(part ft xs.toArray off).run P w = .ok z w/\R w X β v z:=by
 cases agg
 ·simp only [GW,cond_false] at h
  have e:off<xs.length:=by rw [f]; exact (ZB2.1 h).1
  refine ⟨xs[off],by simp [part,a,e],g off v _ h (by simp [e])⟩
 ·simp only [GW,cond_true,ZH3] at h
  subst h;refine ⟨.agg (xs.toArray.extract off (off+size)),by simp [part,a,d],?_⟩;rw [List.extract_toArray];refine .agg β _ _ ?_ ?_
  ·simp [List.extract_eq_take_drop,f]
  ·intro k v x b c
   rw [ZC2] at b;rw [List.extract_eq_take_drop,ZC2] at c;split at b
   ·rw [if_pos (by omega),ZC1] at c
    rw [ZC1] at b;exact g _ v x b c
   ·cases b
theorem aT9 {t:TypeId} {x v:V} {y:Value} {f:Nat} (n:R w X β x y) (h:US P t x f=some v):∃ z,(Instr.field t y f).run P w = .ok z w/\R w X β v z:=by
 unfold US at h;split at h
 ·rename_i i cells e
  split at h
  ·rename_i g k
   obtain ⟨fs,hu,hoffs⟩:=Q9 e k;split at h
   ·rename_i off size agg c
    rw [hoffs] at c;simp only [ZC0,ZH0,Prod.mk.injEq] at c;obtain ⟨fl,hf,rfl,hsz,hag⟩:=c;obtain ⟨d,hd⟩:=aDG e hu fl (List.mem_of_getElem? hf);obtain ⟨j,hj⟩:=aGU hd
    have b:fs[f]? = some fl:=by simpa using hf
    cases n with
    | agg _ _ xs l m =>
     have a : (sizeOf fl.type).run P w = .ok size w:=by rw [I1 w hj,<- hsz]; simp [Program.cellsOf,hj]
     obtain ⟨z,hz,hz'⟩:=aD9 (ft:=fl.type) l m (by rw [P8 w hd,hag]) a h;exact ⟨z,by simp [Instr.field,cZ w hu,b,asAgg,hz],hz'⟩
   ·cases h
  ·cases h
 ·cases h
theorem I9 {α:Type} (cs:List α) (off:Nat) (vs:List α) (h:off+vs.length<=cs.length) (k:Nat) :
  (cs.take off++vs++cs.drop (off+vs.length))[k]? = if off<=k/\k<off+vs.length then vs[k - off]? else cs[k]? := by
 have a:min off cs.length=off:=by omega
 rw [List.append_assoc];by_cases h1:k<off
 ·rw [ZB0 (by simp; omega),ZC2,if_pos h1,if_neg (by omega)]
 ·rw [ZB1 (by simp; omega)]
  simp only [ZF2,a];by_cases h2:k<off+vs.length
  ·rw [ZB0 (by omega),if_pos (by omega)]
  ·rw [ZB1 (by omega),ZC1,if_neg (by omega)]
   congr 1;omega
theorem aWI {vs:List Value}:∀ (off j:Nat) (c:Array Value) ,off+j+vs.length<=c.size ->
  ((vs.zipIdx j).foldl (fun cs (p:Value × Nat)=>cs.setIfInBounds (off+p.2) p.1) c).toList=c.toList.take (off+j)++vs++c.toList.drop (off+j+vs.length):=by
 induction vs with
 | nil=>intro off j c _; simp
 | cons u r a =>
  intro off j c h;simp only [ZD3] at h;simp only [List.zipIdx_cons,List.foldl_cons];rw [a off (j+1) _ (by simp; omega)];have e:=list_seg_step c.toList (off+j) u r (by simp; omega);simpa [Array.toList_setIfInBounds,Nat.add_assoc] using e
theorem ME {place:Nat->Option (Nat × Nat)} {a:Nat->Option (Nat × Nat)} (o:∀ i x,a i=some x->place i=some x) :
  ∀ (g:List (Nat × V)) (d:List (Nat × Value)) (l l' : List V) (c:Array Value),g.length=d.length ->
  (∀ (k:Nat) p q,g[k]? = some p->d[k]? = some q->p.1=q.1/\R w X β p.2 q.2)->c.size=l.length->(∀ (k:Nat) v x,l[k]? = some v->c[k]? = some x->R w X β v x) ->
  yI a g l=some l' -> ∃ c' : Array Value,Instr.fill place c d=some c' /\ c'.size=l'.length/\l'.length=l.length /\ ∀ (k:Nat) v x,l'[k]? = some v->c'[k]? = some x->R w X β v x
 | [],d,l,l',c,hlen,_,hs,hr,h=>by
  have:d=[]:=List.length_eq_zero_iff.1 (by simpa using hlen.symm);subst this;simp only [yI,ZH3] at h;subst h;exact ⟨c,rfl,hs,rfl,hr⟩
 | (i,v) :: g,[],_,_,_,hlen,_,_,_,_=>by simp at hlen
 | (i,v) :: g,(i',y) :: d,l,l',c,hlen,hpq,hs,hr,h=>by
  obtain ⟨e,hvy⟩:=hpq 0 _ _ rfl rfl;simp only at e hvy;subst e;unfold yI at h;split at h
  ·rename_i cs off size s m
   cases hb:(Nat.beq cs.length size&&Nat.ble (off+cs.length) l.length)
   ·simp [hb] at h
   ·simp only [hb,cond_true] at h
    obtain ⟨z,A⟩:=ZA0.1 hb;have z:=ZG1 z;have A:=ZG2 A;obtain ⟨ys,hys,hyl,hyr,_⟩:=I7 hvy s
    have j:(mL l off cs).length=l.length:=by simp [mL]; omega
    have b:=aWI (vs:=ys) off 0 c (by omega);simp only [Nat.add_zero] at b
    obtain ⟨c',h1,h2,h3,h4⟩:=ME o g d (mL l off cs) l' ((ys.zipIdx).foldl (fun cs (p:Value × Nat)=>cs.setIfInBounds (off+p.2) p.1) c) (by simpa using hlen)
     (fun k p q o D=>hpq (k+1) p q (by simpa using o) (by simpa using D)) (by rw [j,<- hs,<- Array.length_toList,b]; simp; omega)
     (by
      intro k u x f n;rw [<- Array.getElem?_toList,b,I9 c.toList off ys (by simp; omega)] at n;unfold mL at f;rw [I9 l off cs (by omega)] at f;by_cases hk:off<=k/\k<off+cs.length
      ·rw [if_pos hk] at f
       rw [if_pos (by omega)] at n;exact hyr _ u x f n
      ·rw [if_neg hk] at f
       rw [if_neg (by omega)] at n
       exact hr k u x f (by simpa using n)) h
    refine ⟨c',?_,h2,by rw [h3,j],h4⟩;unfold Instr.fill;simp only [o i _ m]
    have B:y.cells.size=cs.length:=by rw [hys]; simp [hyl]
    have r:(decide (y.cells.size ≠ size) || decide (off+y.cells.size > c.size))=false:=by
     simp only [Bool.or_eq_false_iff,decide_eq_false_iff_not];omega
    have C:(y.cells.zipIdx.foldl (fun cs (p:Value × Nat)=>cs.setIfInBounds (off+p.2) p.1) c)=(ys.zipIdx).foldl (fun cs (p:Value × Nat)=>cs.setIfInBounds (off+p.2) p.1) c:=by
     rw [hys]; simp
    rw [<- C] at h1
    have t:¬ (y.cells.size ≠ size || off+y.cells.size > c.size)=true:=by
     simp only [Bool.or_eq_true,decide_eq_true_eq];omega
    rw [if_neg t];exact h1
  ·cases h
theorem aLO {t:TypeId} {i:TI} (h:ti P t=some i):∃ z,(∀ w,(zeroValue t).run P w = .ok z w)/\z.cells.size=i.zero.length /\ ∀ (k:Nat) v x,i.zero[k]? = some v->z.cells[k]? = some x->R w X β v x:=by
 obtain ⟨z,h1,h2⟩:=aD4 h;refine ⟨z,h1,by simp [h2],fun k v x a b=>?_⟩;rw [h2] at a
 have:z.cells.toList[k]? = some x:=by simpa using b
 simp only [ZC0,this,ZH2,ZH3] at a;subst a;exact BC _ _ _ _
theorem aZK {fs:List Field} (a:∀ f ∈ fs,∃ d,P.underlying f.type=some d) :
  fs.mapM (fun f=>(P.info? f.type).map fun i=>(f.offset,i.size))=some (fs.map fun f=>(f.offset,P.cellsOf f.type)):=by
 induction fs with
 | nil=>rfl
 | cons f r c =>
  obtain ⟨d,hd⟩:=a f (by simp);obtain ⟨j,hj⟩:=aGU hd;simp [List.mapM_cons,hj,c (fun g b=>a g (by simp [b])),Program.cellsOf]
theorem aTY {t:TypeId} {g:List (Nat × V)} {b:Array (Nat × Value)} {v:V} (hlen:g.length=b.size)
  (c:∀ (k:Nat) p q,g[k]? = some p->b.toList[k]? = some q->p.1=q.1/\R w X β p.2 q.2) (h:UD P t g=some v) :
  ∃ z,(Instr.build t b).run P w = .ok z w/\R w X β v z:=by
 unfold UD at h;split at h
 ·rename_i i a
  obtain ⟨z,hz,hzs,hzr⟩:=aLO (w:=w) (X:=X) (β:=β) a;split at h
  ·rename_i u r
   obtain ⟨fs,l,hoffs⟩:=Q9 a r;obtain ⟨l',hl',rfl⟩:=ZH0.1 h;have s:=run_places (P:=P) w _ _ (aZK (aDG a l))
   obtain ⟨c',g1,g2,g3,g4⟩:=ME (w:=w) (X:=X) (β:=β) (place:=fun x=>(fs.toList.map fun f=>(f.offset,P.cellsOf f.type))[x]?)
    (by
     intro i x d;rw [hoffs] at d;simp only [ZC0,Option.map_map] at d ⊢
     rw [<- d]; rfl) g b.toList i.zero l' z.cells (by simpa using hlen) c hzs hzr hl'
   refine ⟨.agg c',?_,?_⟩
   ·have m : Instr.fill (fun x=>Option.map (fun f=>(f.offset,P.cellsOf f.type)) fs[x]?) z.cells b.toList=some c' := by simpa using g1
    simp [Instr.build,hz,cZ w l,Array.mapM_eq_mapM_toList,s,m]
   ·have:c' = c'.toList.toArray:=by simp
    rw [this];exact .agg β l' c'.toList (by simpa using g2) (fun k v x a o=>g4 k v x a (by simpa using o))
  ·rename_i n e r
   have l:=SB a r;split at h
   ·rename_i j y
    obtain ⟨l',hl',rfl⟩:=ZH0.1 h;obtain ⟨c',g1,g2,g3,g4⟩:=ME (w:=w) (X:=X) (β:=β) (place:=fun i=>some (i*j.size,j.size)) (fun i x d=>d) g b.toList i.zero l' z.cells (by simpa using hlen) c hzs hzr hl';refine ⟨.agg c',?_,?_⟩
    ·simp [Instr.build,hz,cZ w l,hU w y,g1]
    ·have:c' = c'.toList.toArray:=by simp
     rw [this];exact .agg β l' c'.toList (by simpa using g2) (fun k v x a o=>g4 k v x a (by simpa using o))
   ·cases h
  ·cases h
 ·cases h
end
end Go.Ab

namespace Go.Ab
section
variable {P:Program} {E:Nat->Nat->Prop} {H:List O} {β:List Loc} {w:World} {X:Nat->Nat->Prop}
theorem S1 {c:EC} (x:c.ty) {k:Nat} (a:k<c.size):∃ v,(enc c x)[k]? = some v:=
 ⟨(enc c x)[k]'(by rw [enc_size]; exact a),by simp [enc_size,a]⟩
theorem C2 {c:EC} {l spare:List c.ty} {fl:Fl} {b o len cap:Nat} (hlen:len=l.length) (d:l.length+spare.length<=cap)
  (a:fl = .full->cap=l.length+spare.length) (m:fl.fixed=false -> ∃ (cs:Array Value) (e:TypeId),w.heap[b]? = some (.cells cs e (0,0)))
  (h:∀ (i:Nat) x (k:Nat) v,(l++spare)[i]? = some x->(enc c x)[k]? = some v->¬ X b (o+i*c.size+k) /\ ∃ y,w.cell? ⟨b,o+i*c.size+k,none⟩=some y/\R w X [] v y) :
  R w X β (.sl c l spare fl) (.slice (some ⟨b,o,none⟩) len cap):=by
 subst hlen;refine .sl β c l spare fl b o cap (fun i k=>(w.cell? ⟨b,o+i*c.size+k,none⟩).getD undef) d a m (fun i k hi n=>?_) (fun i x k v f g=>?_)
 ·have j : i<(l++spare).length:=by simpa using hi
  obtain ⟨v,hv⟩:=S1 (l++spare)[i] n;obtain ⟨f,y,g,_⟩:=h i _ k v (by rw [ZB3 j]) hv;exact ⟨f,by rw [g]; rfl⟩
 ·obtain ⟨_,y,h3,h4⟩:=h i x k v f g
  rw [h3]; exact h4
theorem LW {c:EC} {l spare:List c.ty} {fl:Fl} {y:Value} (h:R w X β (.sl c l spare fl) y) :
  (y = .slice none 0 0/\l=[]/\spare=[]/\fl = .may) \/
  ∃ b o cap,y = .slice (some ⟨b,o,none⟩) l.length cap/\l.length+spare.length<=cap/\(fl = .full->cap=l.length+spare.length) /\
   (fl.fixed=false -> ∃ (cs:Array Value) (e:TypeId),w.heap[b]? = some (.cells cs e (0,0))) /\
   ∀ (i:Nat) x (k:Nat) v,(l++spare)[i]? = some x->(enc c x)[k]? = some v->¬ X b (o+i*c.size+k) /\ ∃ y,w.cell? ⟨b,o+i*c.size+k,none⟩=some y/\R w X [] v y:=by
 cases h with
 | sl _ _ _ _ _ b o cap f d a g n q =>
  refine .inr ⟨b,o,cap,rfl,d,a,g,fun i x k v j m=>?_⟩
  have p:k<c.size:=by have:=(ZB2.1 m).1; rwa [enc_size] at this
  have hi:i<l.length+spare.length:=by have:=(ZB2.1 j).1; simpa using this
  exact ⟨(n i k hi p).1,f i k,(n i k hi p).2,q i x k v j m⟩
 | nil=>exact .inl ⟨rfl,rfl,rfl,rfl⟩
theorem aWA {c:EC} {l spare:List c.ty} {fl:Fl} {y:Value} (h:R w X β (.sl c l spare fl) y) (a:fl.isMay=false) :
  ∃ b o cap,y = .slice (some ⟨b,o,none⟩) l.length cap/\l.length+spare.length<=cap/\(fl = .full->cap=l.length+spare.length) /\
   (fl.fixed=false -> ∃ (cs:Array Value) (e:TypeId),w.heap[b]? = some (.cells cs e (0,0))) /\
   ∀ (i:Nat) x (k:Nat) v,(l++spare)[i]? = some x->(enc c x)[k]? = some v->¬ X b (o+i*c.size+k) /\ ∃ y,w.cell? ⟨b,o+i*c.size+k,none⟩=some y/\R w X [] v y:=by
 rcases LW h with ⟨_,_,_,rfl⟩ | h
 ·cases a
 ·exact h
theorem FV {id:Nat} {c:EC} {l:List c.ty} {y:Value} (h:R w X β (.gro id c l) y) :
  ∃ b o cap loc,y = .slice (some ⟨b,o,none⟩) l.length cap/\β[id]? = some loc/\loc.kind=true/\l.length<=loc.n /\
   (loc.n=l.length->b=loc.block/\o=loc.base/\o+cap*c.size<=loc.size)/\l.length<=cap /\
   ∀ (i:Nat) x (k:Nat) v,l[i]? = some x->(enc c x)[k]? = some v->¬ X b (o+i*c.size+k) /\ ∃ y,w.cell? ⟨b,o+i*c.size+k,none⟩=some y/\R w X [] v y:=by
 cases h with
 | gro _ _ _ _ b o cap loc f e d q p a m r =>
  refine ⟨b,o,cap,loc,rfl,e,d,q,p,a,fun i x k v g j=>?_⟩
  have d:k<c.size:=by have:=(ZB2.1 j).1; rwa [enc_size] at this
  have hi:i<l.length:=(ZB2.1 g).1;exact ⟨(m i k hi d).1,f i k,(m i k hi d).2,r i x k v g j⟩
theorem L0 {id:Nat} {c:EC} {l:List c.ty} {b o len cap:Nat} {loc:Loc} (hlen:len=l.length) (f:β[id]? = some loc) (g:loc.kind=true) (m:l.length<=loc.n)
  (j:loc.n=l.length->b=loc.block/\o=loc.base/\o+cap*c.size<=loc.size) (a:l.length<=cap)
  (h:∀ (i:Nat) x (k:Nat) v,l[i]? = some x->(enc c x)[k]? = some v->¬ X b (o+i*c.size+k) /\ ∃ y,w.cell? ⟨b,o+i*c.size+k,none⟩=some y/\R w X [] v y) :
  R w X β (.gro id c l) (.slice (some ⟨b,o,none⟩) len cap):=by
 subst hlen;refine .gro β id c l b o cap loc (fun i k=>(w.cell? ⟨b,o+i*c.size+k,none⟩).getD undef) f g m j a (fun i k hi g=>?_) (fun i x k v d e=>?_)
 ·obtain ⟨v,hv⟩:=S1 l[i] g
  obtain ⟨d,y,e,_⟩:=h i _ k v (by rw [ZB3 hi]) hv;exact ⟨d,by rw [e]; rfl⟩
 ·obtain ⟨_,y,h3,h4⟩:=h i x k v d e
  rw [h3]; exact h4
theorem aLX {id:Nat} {c:EC} {l:List c.ty} {y:Value} (h:R w X β (.gro id c l) y):R w X [] (.sl c l [] .ro) y:=by
 obtain ⟨b,o,cap,loc,rfl,_,_,_,_,hcap,a⟩:=FV h;exact C2 rfl (by simpa using hcap) (fun h=>by cases h) (fun h=>by cases h) (by simpa using a)
theorem a5G {c:EC} {l spare:List c.ty} {fl:Fl} {y:Value} (h:R w X β (.sl c l spare fl) y) (e:fl.isMay=false):R w X [] (.sl c l [] .ro) y:=by
 obtain ⟨b,o,cap,rfl,hcap,_,_,hh⟩:=aWA h e;refine C2 rfl (by simp; omega) (fun h=>by cases h) (fun h=>by cases h) (fun i x k v a d=>hh i x k v ?_ d)
 have:i<l.length:=by have:=(ZB2.1 a).1; simpa using this
 rw [ZB0 this];simpa using a
def aMU (c:EC):Prop:=∀ (l:List V) (x:c.ty) (rest:List V),dec c l=some (x,rest)->rest=l.drop c.size/\c.size<=l.length /\
 ∀ (k:Nat) v,(enc c x)[k]? = some v -> ∃ u,l[k]? = some u/\u.one=true /\ ∀ (w:World) (X:Nat->Nat->Prop) (β:List Loc) (y:Value),R w X β u y->R w X [] v y
def adO (cs:List EC):Prop:=∀ (l:List V) (x:EC.tys cs) (rest:List V),decs cs l=some (x,rest)->rest=l.drop (EC.sizes cs)/\EC.sizes cs<=l.length /\
 ∀ (k:Nat) v,(encs cs x)[k]? = some v -> ∃ u,l[k]? = some u/\u.one=true /\ ∀ (w:World) (X:Nat->Nat->Prop) (β:List Loc) (y:Value),R w X β u y->R w X [] v y
theorem BO {u v:V} {k:Nat} {r:List V} (c:u.one=true) (h:∀ (w:World) (X:Nat->Nat->Prop) (β:List Loc) (y:Value),R w X β u y->R w X [] v y) (z:V) (a:[v][k]? = some z) :
  ∃ b,(u :: r)[k]? = some b /\ b.one=true /\ ∀ (w:World) (X:Nat->Nat->Prop) (β:List Loc) (y:Value),R w X β b y->R w X [] z y:=by
 cases k with
 | zero=>simp at a; subst a; exact ⟨u,rfl,c,h⟩
 | succ k=>simp at a
theorem xZ {c d:EC} {l:List d.ty} {l' : List c.ty} (h:sG c d l=some l'):∃ e:d=c,l' = C3 e l:=by
 unfold sG at h;split at h
 ·rename_i e _
  simp only [ZH3] at h;exact ⟨e,h.symm⟩
 ·cases h
theorem aSO {k:IntKind} {l rest:List V} {x:Int} (h:decInt k l=some (x,rest)):l = .int k x :: rest:=by
 unfold decInt at h;split at h
 ·rename_i b n r
  cases a:decide (k=b)
  ·simp [a] at h
  ·simp only [a,cond_true,ZH3,Prod.mk.injEq] at h
   obtain ⟨rfl,rfl⟩:=h;rw [of_decide_eq_true a]
 ·cases h
theorem aRF {l rest:List V} {x:Bool} (h:decBool l=some (x,rest)):l = .bool x :: rest:=by
 unfold decBool at h;split at h
 ·simp only [ZH3,Prod.mk.injEq] at h
  obtain ⟨rfl,rfl⟩:=h;rfl
 ·cases h
theorem aSN {l rest:List V} {x:List UInt8} (h:decStr l=some (x,rest)):l = .str x :: rest:=by
 unfold decStr at h;split at h
 ·simp only [ZH3,Prod.mk.injEq] at h
  obtain ⟨rfl,rfl⟩:=h;rfl
 ·cases h
theorem aaV (c:EC):aMU c:=by
 refine EC.rec (motive_1:=aMU) (motive_2:=adO) ?_ ?_ ?_ ?_ ?_ ?_ ?_ c
 ·intro k l x rest h
  have e:=aSO (k:=k) (x:=x) h;subst e;exact ⟨by simp [EC.size],by simp [EC.size],fun j v a=>BO rfl (fun w X β y b=>by cases b; exact .int _ _ _) v a⟩
 ·intro l x rest h
  have e:=aRF (x:=x) h;subst e;exact ⟨by simp [EC.size],by simp [EC.size],fun j v a=>BO rfl (fun w X β y b=>by cases b; exact .bool _ _) v a⟩
 ·intro l x rest h
  have e:=aSN (x:=x) h;subst e;exact ⟨by simp [EC.size],by simp [EC.size],fun j v a=>BO rfl (fun w X β y b=>by cases b; exact .str _ _) v a⟩
 ·intro c _ l x rest h
  change Option (List c.ty) at x;change decSl c l=some (x,rest) at h;show _/\_ /\ ∀ (k:Nat) v,([match x with | none=>nilSl | some l=>V.sl c l [] .ro]:List V)[k]? = some v->_;unfold decSl at h;split at h
  ·simp only [ZH3,Prod.mk.injEq] at h
   obtain ⟨rfl,rfl⟩:=h;exact ⟨by simp [EC.size],by simp [EC.size],fun j v a=>BO rfl (fun w X β y b=>by cases b; exact .val _ _) v a⟩
  ·rename_i _ d ll sp fl r
   cases i:fl.isMay;rotate_left
   ·rw [i] at h; cases h
   rw [i] at h;obtain ⟨l',hl',e⟩:=ZH0.1 h;simp only [Prod.mk.injEq] at e;obtain ⟨rfl,rfl⟩:=e;obtain ⟨e,rfl⟩:=xZ hl';subst e;exact ⟨by simp [EC.size],by simp [EC.size],fun j v a=>BO rfl (fun w X β y b=>a5G b i) v a⟩
  ·obtain ⟨l',hl',e⟩:=ZH0.1 h
   simp only [Prod.mk.injEq] at e;obtain ⟨rfl,rfl⟩:=e;obtain ⟨e,rfl⟩:=xZ hl';subst e;exact ⟨by simp [EC.size],by simp [EC.size],fun j v a=>BO rfl (fun w X β y b=>aLX b) v a⟩
  ·cases h
 ·intro cs f l x rest h
  exact f l x rest h
 ·intro l x rest h
  change some ((),l)=some (x,rest) at h;have:l=rest:=congrArg Prod.snd (Option.some.inj h);subst this;exact ⟨by simp [EC.sizes],by simp [EC.sizes],fun k v a=>by simp [encs] at a⟩
 ·intro c cs f m l x rest h
  cases cs with
  | nil=>exact f l x rest h
  | cons d cs =>
   change c.ty × EC.tys (d :: cs) at x
   change (match dec c l with
    | some (x,r)=>match decs (d :: cs) r with
     | some (y,r)=>some ((x,y),r)
     | none=>none
    | none=>none)=some (x,rest) at h
   split at h
   ·rename_i o n g
    split at h
    ·rename_i p z t
     simp only [ZH3,Prod.mk.injEq] at h;obtain ⟨rfl,rfl⟩:=h;obtain ⟨q,a2,a3⟩:=f l o n g;obtain ⟨s,b2,b3⟩:=m n p z t;subst q;refine ⟨?_,?_,?_⟩
     ·rw [s,List.drop_drop]; rfl
     ·simp only [List.length_drop] at b2
      show c.size+EC.sizes (d :: cs)<=l.length;omega
     ·intro k v a
      have a:(enc c o++encs (d :: cs) p)[k]? = some v:=a;by_cases hk:k<c.size
      ·rw [ZB0 (by rw [enc_size]; exact hk)] at a
       exact a3 k v a
      ·rw [ZB1 (by rw [enc_size]; omega),enc_size] at a
       obtain ⟨u,hu,g⟩:=b3 _ v a;rw [ZC1] at hu;exact ⟨u,by rw [<- hu]; congr 1; omega,g⟩
    ·cases h
   ·cases h
theorem aEB {c:EC} {l:List V} {x:c.ty} (h:HG c l=some x):l.length=c.size /\
  ∀ (k:Nat) v,(enc c x)[k]? = some v -> ∃ u,l[k]? = some u/\u.one=true /\ ∀ (w:World) (X:Nat->Nat->Prop) (β:List Loc) (y:Value),R w X β u y->R w X [] v y:=by
 unfold HG at h;split at h
 ·rename_i y b
  simp only [ZH3] at h;subst h;obtain ⟨a,h2,h3⟩:=aaV c l _ _ b
  have:(l.drop c.size).length=0:=by rw [<- a]; rfl
  simp at this;exact ⟨by omega,h3⟩
 ·cases h
theorem aC4 {c:EC}:∀ {rows:List (List V)} {xs:List c.ty},yY c rows=some xs->xs.length=rows.length /\
  ∀ (i:Nat) x,xs[i]? = some x -> ∃ row,rows[i]? = some row/\HG c row=some x
 | [],xs,h=>by
  simp only [yY,ZH3] at h;subst h;exact ⟨rfl,fun i x h=>by simp at h⟩
 | row :: rows,xs,h=>by
  unfold yY at h;split at h
  ·rename_i y ys e f
   simp only [ZH3] at h;subst h;obtain ⟨a,b⟩:=aC4 f;refine ⟨by simp [a],fun i x d=>?_⟩
   cases i with
   | zero=>simp at d; subst d; exact ⟨row,rfl,e⟩
   | succ i=>simp at d; obtain ⟨r,hr,hr'⟩:=b i x d; exact ⟨r,by simpa using hr,hr'⟩
  ·cases h
theorem aC9 (a:Nat):∀ (n:Nat) (l:List V),(chunks a n l).length=n /\ ∀ (i:Nat) row,(chunks a n l)[i]? = some row->row=(l.drop (i*a)).take a
 | 0,l=>⟨rfl,fun i row h=>by simp [chunks] at h⟩
 | n+1,l=>by
  obtain ⟨b,h2⟩:=aC9 a n (l.drop a);refine ⟨by simp [chunks,b],fun i row h=>?_⟩
  cases i with
  | zero=>simp [chunks] at h; simp [h]
  | succ i =>
   simp only [chunks,List.getElem?_cons_succ] at h;rw [h2 i row h,List.drop_drop];congr 2;rw [Nat.add_mul]; omega
theorem aDY {c:EC} {n:Nat} {cells:List V} {xs:List c.ty} (h:yY c (chunks c.size n cells)=some xs):xs.length=n /\
  ∀ (i:Nat) x (k:Nat) v,xs[i]? = some x->(enc c x)[k]? = some v -> ∃ u,cells[i*c.size+k]? = some u/\u.one=true /\
   ∀ (w:World) (X:Nat->Nat->Prop) (β:List Loc) (y:Value),R w X β u y->R w X [] v y:=by
 obtain ⟨e,h2⟩:=aC4 h;obtain ⟨d,g2⟩:=aC9 c.size n cells;refine ⟨by rw [e,d],fun i x k v g f=>?_⟩;obtain ⟨row,hr,hd⟩:=h2 i x g;have a:=g2 i row hr;obtain ⟨j,hh⟩:=aEB hd;obtain ⟨u,b,hu'⟩:=hh k v f;refine ⟨u,?_,hu'⟩;rw [a,ZC2] at b;split at b
 ·rw [ZC1] at b; exact b
 ·cases b
end
end Go.Ab

namespace Go.Ab
section
variable {P:Program} {E:Nat->Nat->Prop} {H:List O} {β:List Loc} {w:World} {X:Nat->Nat->Prop}
def aMT (c:EC):Prop:=∀ (x:c.ty) v,v ∈ enc c x->v.one=true
def af8 (cs:List EC):Prop:=∀ (x:EC.tys cs) v,v ∈ encs cs x->v.one=true
theorem a4X (c:EC):aMT c:=by
 refine EC.rec (motive_1:=aMT) (motive_2:=af8) ?_ ?_ ?_ ?_ ?_ ?_ ?_ c
 ·intro k x v a; change v ∈ [V.int k x] at a; simp at a; subst a; rfl
 ·intro x v a; change v ∈ [V.bool x] at a; simp at a; subst a; rfl
 ·intro x v a; change v ∈ [V.str x] at a; simp at a; subst a; rfl
 ·intro c _ x v a
  change Option (List c.ty) at x
  cases x with
  | none=>change v ∈ [nilSl] at a; simp at a; subst a; rfl
  | some l=>change v ∈ [V.sl c l [] .ro] at a; simp at a; subst a; rfl
 ·intro cs b x v a; exact b x v a
 ·intro x v a; change v ∈ [] at a; simp at a
 ·intro c cs b e x v a
  cases cs with
  | nil=>exact b x v a
  | cons d cs =>
   change c.ty × EC.tys (d :: cs) at x;change v ∈ enc c x.1++encs (d :: cs) x.2 at a
   rcases List.mem_append.1 a with a | a
   ·exact b _ v a
   ·exact e _ v a
theorem A9 {c:EC} {l:List c.ty} {b o:Nat}
  (h:∀ (i:Nat) x (k:Nat) v,l[i]? = some x->(enc c x)[k]? = some v -> ∃ y,w.cell? ⟨b,o+i*c.size+k,none⟩=some y/\R w X [] v y) :
  ∃ news:List Value,news.length=l.length*c.size/\(∀ z ∈ news,z.oneCell' = true) /\
   (∀ (i:Nat) x (k:Nat) v,l[i]? = some x->(enc c x)[k]? = some v -> ∃ z,news[i*c.size+k]? = some z/\R w X [] v z) /\
   ∀ w' : World,w'.heap=w.heap->(loadCells ⟨b,o,none⟩ (l.length*c.size)).run P w' = .ok news.toArray w' := by
 let f:Nat->Value:=fun j=>(w.cell? ⟨b,o+j,none⟩).getD undef
 have split:∀ j,j<l.length*c.size -> ∃ i k x v,j=i*c.size+k/\l[i]? = some x/\(enc c x)[k]? = some v:=by
  intro j a
  have d:0<c.size:=by
   rcases Nat.eq_zero_or_pos c.size with m | m
   ·simp [m] at a
   ·exact m
  have hi:j / c.size<l.length:=(Nat.div_lt_iff_lt_mul d).2 a;obtain ⟨v,hv⟩:=S1 l[j / c.size] (Nat.mod_lt j d);exact ⟨j / c.size,j % c.size,_,v,(Nat.div_add_mod' j c.size).symm,ZB3 hi,hv⟩
 have p:∀ j,j<l.length*c.size->w.cell? ⟨b,o+j,none⟩=some (f j):=by
  intro j a;obtain ⟨i,k,x,v,rfl,g,e⟩:=split j a;obtain ⟨y,hy,_⟩:=h i x k v g e;rw [Nat.add_assoc] at hy;simp [f,hy]
 refine ⟨(List.range (l.length*c.size)).map f,by simp,?_,?_,?_⟩
 ·intro z r
  obtain ⟨j,a,rfl⟩:=List.mem_map.1 r;obtain ⟨i,k,x,v,rfl,g,e⟩:=split j (List.mem_range.1 a);obtain ⟨y,hy,hr⟩:=h i x k v g e
  have:f (i*c.size+k)=y:=by rw [Nat.add_assoc] at hy; simp [f,hy]
  rw [this];exact KL hr (a4X c x v (List.mem_of_getElem? e))
 ·intro i x k v g e
  obtain ⟨y,hy,hr⟩:=h i x k v g e
  have s:k<c.size:=by have:=(ZB2.1 e).1; rwa [enc_size] at this
  have hi:i<l.length:=(ZB2.1 g).1
  have n:i*c.size+k<l.length*c.size:=by
   have:(i+1)*c.size<=l.length*c.size:=Nat.mul_le_mul_right _ hi;rw [Nat.add_mul] at this;omega
  refine ⟨y,?_,hr⟩;rw [Nat.add_assoc] at hy;simp [List.getElem?_range n,f,hy]
 ·intro w' q
  rw [run_loadCells (P:=P) w' ⟨b,o,none⟩ _ f];intro j a;rw [n8];exact (o9 (w:=w) (w' := w') (by rw [q]) (o+j)).trans (p j a)
structure News (P:Program) (w:World) (X:Nat->Nat->Prop) (c:EC) (xs:List c.ty) (y:Value) (news:List Value):Prop where
 len:news.length=xs.length*c.size
 one:∀ z ∈ news,z.oneCell' = true
 get:∀ (i:Nat) x (k:Nat) v,xs[i]? = some x->(enc c x)[k]? = some v -> ∃ z,news[i*c.size+k]? = some z/\R w X [] v z
 lenOf:∀ w' : World,(Builtin.lenOf y).run P w' = .ok xs.length w'
 first:∀ w' : World,w'.heap=w.heap->(Builtin.firstCells c.size xs.length y).run P w' = .ok news.toArray w'
theorem a1V (s:List UInt8) (xs:List Int) (h:xs=s.map fun b=>(b.toNat:Int)) :
  News P w X (.int .u8) xs (.string ⟨s.toArray⟩) (s.map fun b=>.int .u8 b.toNat):=by
 have c:xs.length=s.length:=by rw [h]; simp
 refine ⟨?_,?_,?_,fun w' => ?_,fun w' f=>?_⟩
 ·show (s.map _).length=xs.length*1
  simp [c]
 ·intro z e; obtain ⟨b,_,rfl⟩:=List.mem_map.1 e; rfl
 ·intro i (x:Int) k v (d:xs[i]? = some x) a
  change ([V.int .u8 x]:List V)[k]? = some v at a
  cases k with
  | zero =>
   simp at a;subst a;rw [h,ZC0] at d;obtain ⟨b,hb,rfl⟩:=ZH0.1 d;refine ⟨.int .u8 b.toNat,?_,.int _ _ _⟩;show (s.map _)[i*1+0]? = _;simp [hb]
  | succ k=>simp at a
 ·show _=Result.ok xs.length w'
  rw [c]; rfl
 ·show (Builtin.firstCells 1 xs.length _).run P w' = _
  rw [c];simp [Builtin.firstCells]
theorem a2T {k:IntKind} {L:List (EC.int k).ty} {len b o cap:Nat} (hlen:L.length=len) (e:∀ (i:Nat) (x:(EC.int k).ty),L[i]? = some x->w.cell? ⟨b,o+i,none⟩=some (.int k x)) :
  ∃ news,News P w X (.int k) L (.slice (some ⟨b,o,none⟩) len cap) news:=by
 obtain ⟨news,h1,h2,h3,h4⟩:=A9 (P:=P) (w:=w) (X:=X) (c:=.int k) (l:=L) (b:=b) (o:=o) (fun i x q v h d=>by
  have f:q=0:=by
   have:=(ZB2.1 d).1;simp only [enc,ZD3,ZE2] at this;omega
  subst f;simp only [enc,List.getElem?_cons_zero,ZH3] at d;subst d;have a:(EC.int k).size=1:=rfl;rw [a,Nat.mul_one,Nat.add_zero]
  exact ⟨.int k x,e i x h,.int _ _ _⟩)
 subst hlen;exact ⟨news,h1,h2,h3,fun w' => rfl,fun w' g=>h4 w' g⟩
theorem a35 {c:EC} {b o cap:Nat}:News P w X c ([]:List c.ty) (.slice (some ⟨b,o,none⟩) 0 cap) []:=
 ⟨by simp,by simp,fun i x k v h=>by simp at h,fun w' => rfl,fun w' a=>by simp [Builtin.firstCells,loadCells,loadCellsFrom]⟩
theorem aR3 {l:List Int} {m len i:Nat} {x:Int} (h:((l.drop m).take len)[i]? = some x):i<len/\l[m+i]? = some x:=by
 have hi:i<len:=by
  have:=(ZB2.1 h).1;simp at this;omega
 rw [ZC2,if_pos hi,ZC1] at h;exact ⟨hi,h⟩
theorem aR0 {l:List Int} {m len:Nat} (h:m+len<=l.length):((l.drop m).take len).length=len:=by simp; omega
theorem T5 {c:EC} {x:V} {y:Value} {xs:List c.ty} (I:Rel w X H β) (f:R w X β x y) (h:qQ c H x=some xs):∃ news,News P w X c xs y news:=by
 unfold qQ at h;split at h
 ·rename_i d l sp fl
  obtain ⟨e,rfl⟩:=xZ h;subst e
  rcases LW f with ⟨rfl,rfl,rfl,rfl⟩ | ⟨b,o,cap,rfl,a,_,_,hh⟩
  ·exact ⟨[],by simp [C3],by simp,by simp [C3],fun w' => rfl,fun w' j=>rfl⟩
  obtain ⟨news,h1,h2,h3,h4⟩:=A9 (P:=P) (w:=w) (X:=X) (l:=l) (b:=b) (o:=o) (fun i x k v g t=>(hh i x k v (by
   have:i<l.length:=(ZB2.1 g).1
   rw [ZB0 this]; exact g) t).2)
  exact ⟨news,h1,h2,h3,fun w' => rfl,fun w' j=>h4 w' j⟩
 ·rename_i id d l
  obtain ⟨e,rfl⟩:=xZ h;subst e;obtain ⟨b,o,cap,loc,rfl,_,_,_,_,a,hh⟩:=FV f;obtain ⟨news,h1,h2,h3,h4⟩:=A9 (P:=P) (w:=w) (X:=X) (l:=l) (b:=b) (o:=o) (fun i x k v g t=>(hh i x k v g t).2);exact ⟨news,h1,h2,h3,fun w' => rfl,fun w' j=>h4 w' j⟩
 ·rename_i id s off len
  split at h
  ·rename_i cs e C
   cases hb:(Nat.beq s c.size&&Nat.ble (off+len*s) cs.length)
   ·simp [hb] at h
   ·simp only [hb,cond_true] at h
    obtain ⟨m,r⟩:=ZA0.1 hb;have m:=ZG1 m;have r:=ZG2 r;subst m;obtain ⟨g,t⟩:=aDY h
    cases f with
    | ref _ _ _ _ _ loc b o cap p A hlen D a =>
     obtain ⟨_,arr,e',a1,a2,a3,a4⟩:=I.cells id cs e loc C p;by_cases h0:0<cap
     ·obtain ⟨rfl,rfl⟩:=D h0
      obtain ⟨news,h1,h2,h3,h4⟩:=A9 (P:=P) (w:=w) (X:=X) (l:=xs) (b:=loc.block) (o:=loc.base+off) (fun i x k v M N=>by
       obtain ⟨u,hu,hone,hu'⟩:=t i x k v M N;rw [ZC1] at hu;obtain ⟨z,hz,hz'⟩:=a4 _ u hu;refine ⟨z,?_,hu' w X β z hz'⟩;rw [cell_of_row w _ _ arr e' (0,0) a1,<- hz]
       congr 1; omega)
      refine ⟨news,h1,h2,h3,fun w' => ?_,fun w' j=>?_⟩
      ·rw [g]; rfl
      ·rw [g] at h4 ⊢; exact h4 w' j
     ·have q:len=0:=by omega
      subst q;have G:xs=[]:=List.length_eq_zero_iff.1 g;subst G;exact ⟨[],by simp,by simp,by simp,fun w' => rfl,fun w' j=>by simp [Builtin.firstCells,loadCells,loadCellsFrom]⟩
  ·rename_i n k l Q C
   cases hb:(Nat.beq s 1&&(Nat.ble n off&&Nat.ble (off - n+len) l.length))
   ·rw [hb] at h; cases h
   rw [hb,cond_true] at h;obtain ⟨m,hb⟩:=ZA0.1 hb;obtain ⟨r,B⟩:=ZA0.1 hb;have m:=ZG1 m;have r:=ZG2 r;have B:=ZG2 B;subst m;unfold aEO at h;split at h;rotate_left
   ·cases h
   rename_i J;cases A:decide (J = k)
   ·rw [A] at h; cases h
   rw [A,cond_true] at h;have:=of_decide_eq_true A;subst this;cases h
   cases f with
   | ref _ _ _ _ _ loc b o cap p L F D a =>
    obtain ⟨_,hb0,ob,ys,a1,⟨hn,e',rfl⟩,_⟩:=I.objs id _ _ loc C p;by_cases h0:0<cap
    ·obtain ⟨rfl,rfl⟩:=D h0
     exact a2T (aR0 B) fun i x f=>by
      obtain ⟨hi,f⟩:=aR3 f;rw [cell_of_row w _ _ _ e' (0,0) a1,hb0,Nat.zero_add,List.getElem?_toArray,ZB1 (by omega),hn,ZC0,show off+i - n=(off - n)+i by omega,f];rfl
    ·have q:len=0:=by omega
     subst q;have e0:((l.drop (off - n)).take 0:List Int)=[]:=List.take_zero;have K:(((l.drop (off - n)).take 0:List Int):List (EC.int J).ty)=[]:=e0;rw [K];exact ⟨[],a35⟩
  ·cases h
 ·simp only [ZH3] at h
  subst h;cases f;exact ⟨[],by simp,by simp,by simp,fun w' => rfl,fun w' j=>rfl⟩
 ·rename_i s
  unfold aGF at h
  split at h <;> first | (cases h; done) | skip
  cases f;exact ⟨_,a1V s xs (Option.some.inj h).symm⟩
 ·cases h
end
end Go.Ab

namespace Go.Ab
section
variable {P:Program} {E:Nat->Nat->Prop} {H:List O} {β:List Loc} {w:World} {X:Nat->Nat->Prop}
structure AppT (P:Program) (argTypes:Array TypeId) (e:TypeId) (j:TI):Prop where
 st:∃ st,argTypes[0]? = some st/\P.underlying st=some (.slice e)
 el:ti P e=some j
 xt:∃ t d,argTypes[1]? = some t/\P.underlying t=some d/\((∃ e,d = .slice e)\/d = .string)
 bytes:0<j.bytes
 zero:j.zero.length=j.size
theorem yC {n b:Nat} (h:roomy n b=true):n*b<=140737488355328:=of_decide_eq_true h
theorem A1 {argTypes:Array TypeId} {e ty:TypeId} {j:TI} (t:AppT P argTypes e j) {n:Nat} {news:List Value} {y:Value} {base:Option Addr} {sLen sCap:Nat}
  (hlen:(Builtin.lenOf y).run P w = .ok n w) (b:(Builtin.firstCells j.size n y).run P w = .ok news.toArray w) (c:sLen+n<=sCap) {w' : World}
  (g:∀ a,base=some a->(storeCells (a.add (sLen*j.size)) news).run P w = .ok () w') (f:base=none->w' = w) :
  (Builtin.append_ argTypes ty #[.slice base sLen sCap,y]).run P w = .ok (.slice base (sLen+n) sCap) w' := by
 obtain ⟨st,h0,h1⟩:=t.st;obtain ⟨xt,d,h2,h3,h⟩:=t.xt
 cases base with
 | none =>
  rw [f rfl]
  rcases h with ⟨e',rfl⟩ | rfl <;> simp [Builtin.append_,h0,h2,cZ w h1,cZ w h3,hU w t.el,hlen,b,c]
 | some a =>
  rcases h with ⟨e',rfl⟩ | rfl <;> simp [Builtin.append_,h0,h2,cZ w h1,cZ w h3,hU w t.el,hlen,b,c,g a rfl]
theorem EM {argTypes:Array TypeId} {e ty:TypeId} {j:TI} (t:AppT P argTypes e j) {n:Nat} {olds news:List Value} {y:Value} {base:Option Addr} {sLen sCap:Nat}
  (hlen:(Builtin.lenOf y).run P w = .ok n w) (a:(Builtin.firstCells j.size n y).run P w.drew = .ok news.toArray w.drew)
  (hold:(Builtin.firstCells j.size sLen (.slice base sLen sCap)).run P w.drew = .ok olds.toArray w.drew) (c:sCap<sLen+n) (hb:(sLen+n)*j.bytes<=140737488355328) :
  ∃ rest:List Value,rest.length=(grownCap w (sLen+n) sCap e - (sLen+n))*j.size /\
  (Builtin.append_ argTypes ty #[.slice base sLen sCap,y]).run P w = .ok (.slice (some ⟨w.heap.size,0,none⟩) (sLen+n) (grownCap w (sLen+n) sCap e))
   (w.drew.alloc (.cells (olds++news++rest).toArray e)):=by
 obtain ⟨st,h0,h1⟩:=t.st;obtain ⟨xt,d,h2,h3,k⟩:=t.xt;obtain ⟨h,d1,i1,i2,i3,i4,⟨z,z1,z2⟩,_⟩:=(rR t.el).info
 have m:z.cells.size=j.size:=by have:=t.zero; rw [z2] at this; simpa using this
 have g:=growslice_fits c hb;rw [<- i4] at g;refine ⟨(Builtin.zeroCells z.cells (grownCap w (sLen+n) sCap e - (sLen+n))).toList,by simp [size_zeroCells,m],?_⟩
 have i:¬ (h.bytes=0):=by rw [i4]; have:=t.bytes; omega
 have l:¬ (sLen+n<=sCap):=by omega
 have b : ¬ (281474976710656<Builtin.nextslicecap (sLen+n) sCap*h.bytes):=by omega
 have f:∀ Z:Array Value,w.drew.alloc (Obj.cells (olds.toArray++(news.toArray++Z)) e)=w.drew.alloc (Obj.cells (olds++(news++Z.toList)).toArray e):=by
  intro Z;congr 2;apply Array.ext';simp
 rcases k with ⟨e',rfl⟩ | rfl <;>
  simp [Builtin.append_,h0,h2,cZ w h1,cZ w h3,hU w t.el,hlen,l,f,aBN w i1,aBN w.drew i1,i,b,Question.forced,grownCap,a,hold,zeroValue,z1,newRow]
end
end Go.Ab
