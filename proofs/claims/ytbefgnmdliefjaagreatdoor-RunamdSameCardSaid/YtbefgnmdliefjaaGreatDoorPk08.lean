/-
  The engine, part T: regions whose operations come in an order that is open. Conditions: none.
-/
import Derived.Test.YtbefgnmdliefjaaGreatDoorPk07
set_option linter.unusedVariables false
set_option linter.unusedSimpArgs false
namespace Go.Ab
section
variable {cx:Cx} {t s:T} {H H' H1:List O} {o x y:Oper} {v:V}
def TEq (t s:T):Prop:=∀ d,get d t=get d s
theorem rd_eq (h:TEq t s) (x:Operand):rd t x=rd s x:=by
 cases x <;> first | exact h _ | rfl
theorem rdG_eq {G:List (Nat × List V)} {x:Operand} (h:rd t x=rd s x):rdG G t x=rdG G s x:=by
 cases x with
 | tmp i=>exact h
 | const v=>rfl
 | func f=>rfl
 | global g=>rfl
theorem rdG_ptr {G:List (Nat × List V)} {x:Operand} {id off:Nat} (h:rdG G t x = .ptr id off):rd t x = .ptr id off:=by
 cases x with
 | tmp i=>exact h
 | const v=>exact h
 | func f=>exact h
 | global g =>
  have h:(match globAt g G with | some cs=>V.pin cs | none=>rd t (.global g)) = .ptr id off:=h
  cases hg:globAt g G with
  | none=>rw [hg] at h; cases h
  | some cs=>rw [hg] at h; cases h
theorem map_rd {l:List Operand} (h:∀ x ∈ l,rd t x=rd s x):l.map (rd t)=l.map (rd s):=List.map_congr_left h
theorem dop_congr (h:∀ x ∈ o.op.operands,rd t x=rd s x):dop cx t H o=dop cx s H o:=by
 unfold dop
 split <;> rename_i ho
 all_goals (try simp only [ho,Op.operands,Call.operands] at h)
 all_goals (try (simp only [List.mem_toArray,Array.mem_append,List.mem_cons,List.not_mem_nil,or_false,forall_eq_or_imp,forall_eq] at h))
 all_goals first
  | (simp only [h]; done)
  | (obtain ⟨h1,h2⟩:=h; simp only [h1]; done)
  | (simp only [rdG_eq h,h]; done)
  | (obtain ⟨h1,h2⟩:=h; simp only [rdG_eq h1,h2]; done)
  | (obtain ⟨h1,h2,h3⟩:=h; simp only [h1,h2,h3]; done)
  | rfl
  | skip
 ·rename_i ty parts
  have e:parts.toList.map (fun p=>(p.1,rd t p.2))=parts.toList.map (fun p=>(p.1,rd s p.2)):=
   List.map_congr_left fun p hp=>by rw [h p.2 (List.mem_map.2 ⟨p,hp,rfl⟩)]
  rw [e]
 ·rename_i ty len parts
  have e:parts.toList.map (fun p=>(p.1,rd t p.2))=parts.toList.map (fun p=>(p.1,rd s p.2)):=
   List.map_congr_left fun p hp=>by rw [h p.2 (List.mem_map.2 ⟨p,hp,rfl⟩)]
  rw [e]
 ·rw [map_rd (fun x hx=>h x (.inl (by simpa using hx))),map_rd (fun x hx=>h x (.inr (by simpa using hx)))]
 ·rename_i ty x lo hi
  have e1:lo.map (rd t)=lo.map (rd s):=by
   cases lo with
   | none=>rfl
   | some y=>simp only [Option.map_some,h y (.inl (.inl (.inr (by simp))))]
  have e2:hi.map (rd t)=hi.map (rd s):=by
   cases hi with
   | none=>rfl
   | some y=>simp only [Option.map_some,h y (.inl (.inr (by simp)))]
  rw [e1,e2,h x (.inl (.inl (.inl rfl)))]
 ·rw [map_rd (fun x hx=>h x (.inr (by simpa using hx)))]
 ·rw [h.1,map_rd (fun x hx=>h.2 x (by simpa using hx))]
theorem holdO_calm {x:Option V} (h:(holdO H x).run=some (.ok v H1)):H1=H ∧ ∀ H',(holdO H' x).run=some (.ok v H'):=by
 obtain ⟨u,rfl,e⟩:=holdO_run h
 simp only [Res.ok.injEq] at e
 exact ⟨e.2,fun H' => by simp [holdO,Tree.run,e.1]⟩
theorem hold_calm {x:V} (h:(hold H x).run=some (.ok v H1)):H1=H ∧ ∀ H',(hold H' x).run=some (.ok v H'):=by
 simp only [hold,Tree.run,Option.some.injEq,Res.ok.injEq] at h
 exact ⟨h.2.symm,fun H' => by simp [hold,Tree.run,h.1]⟩
theorem bind_calm {x:Tree V} (h:(x.bind (hold H)).run=some (.ok v H1)):H1=H ∧ ∀ H',(x.bind (hold H')).run=some (.ok v H'):=by
 induction x with
 | leaf b=>exact hold_calm h
 | fail=>cases h
 | br c x y ihx ihy =>
  cases c
  ·exact ihy h
  ·exact ihx h
theorem look_calm {x:Tree V} (h:(x.bind fun v=>Tree.leaf (Res.ok v H)).run=some (.ok v H1)):H1=H ∧ ∀ H',(x.bind fun v=>Tree.leaf (Res.ok v H')).run=some (.ok v H'):=
 bind_calm (H:=H) h
theorem build_calm {P:Program} {H H1:List O} {ty:TypeId} {len:Nat} {parts:List (Nat × V)} {v:V} (h:(bothO (oBuildSlice P H false ty len parts)).run=some (.ok v H1)) :
  H1=H ∧ ∀ H',(bothO (oBuildSlice P H' false ty len parts)).run=some (.ok v H'):=by
 cases hb:oBuildSlice P H false ty len parts with
 | none=>rw [hb] at h; cases h
 | some p =>
  have key:p.2=H ∧ ∀ H',oBuildSlice P H' false ty len parts=some (p.1,H'):=by
   unfold oBuildSlice at hb ⊢
   split at hb
   rotate_left
   ·cases hb
   split at hb
   rotate_left
   ·cases hb
   split at hb
   rotate_left
   ·cases hb
   rename_i j _
   revert hb
   cases (Nat.ble (len*j.size) 16777216 && Nat.beq j.zero.length j.size)
   ·intro hb; cases hb
   simp only [cond_true,cond_false]
   intro hb
   split at hb
   rotate_left
   ·cases hb
   split at hb
   rotate_left
   ·cases hb
   rename_i c _
   revert hb
   cases Nat.beq c.size j.size
   ·intro hb; cases hb
   simp only [cond_true]
   intro hb
   obtain ⟨l,hl,rfl⟩:=Option.map_eq_some_iff.1 hb
   exact ⟨rfl,fun H' => by rw [hl]; rfl⟩
  rw [hb] at h
  obtain ⟨u,H2⟩:=p
  simp only [bothO,Tree.run,Option.some.injEq,Res.ok.injEq] at h
  obtain ⟨rfl,rfl⟩:=h
  exact ⟨key.1,fun H' => by rw [key.2 H']; rfl⟩
theorem callP_calm {f:Nat} {as:List V} (h:(callP cx H f as).run=some (.ok v H1)):H1=H ∧ ∀ H',(callP cx H' f as).run=some (.ok v H'):=by
 unfold callP at h ⊢
 split at h
 ·exact look_calm h
 ·cases h
theorem calm_spec (hc:calm cx o=true) (h:(dop cx t H o).run=some (.ok v H1)):H1=H ∧ ∀ H',(dop cx t H' o).run=some (.ok v H'):=by
 unfold calm at hc
 unfold dop at h ⊢
 split at hc <;> (rename_i ho; simp only [ho] at h ⊢)
 all_goals first
  | exact hold_calm h
  | exact holdO_calm h
  | exact bind_calm h
  | skip
 ·-- pick
  split at h
  ·exact bind_calm h
  ·cases h
 ·split at h
  ·exact hold_calm h
  ·exact hold_calm h
  ·cases h
 ·split at h
  ·exact holdO_calm h
  ·cases h
 ·split at h
  ·cases h
  ·exact hold_calm h
  ·cases h
 ·-- a literal
  cases hd:o.dst with
  | none=>simp only [hd] at h ⊢; exact build_calm h
  | some d =>
   have hr:hasN d cx.refs=false:=by rw [hd] at hc; simpa using hc
   simp only [hd,hr] at h ⊢
   exact build_calm h
 ·-- a named function
  rename_i g _ _
  obtain ⟨hm,hm2⟩:=Bool.and_eq_true_iff.1 hc
  have hm:hasKey g cx.mtab=false:=by simpa using hm
  have hm2:hasKey g cx.rtab=false:=by simpa using hm2
  simp only [rd,oCall,callF,hm,hm2,cond_false] at h ⊢
  exact callP_calm h
 ·-- a value
  obtain ⟨hm,hm2⟩:=Bool.and_eq_true_iff.1 hc
  have hm:cx.mtab=[]:=List.eq_nil_of_length_eq_zero (Nat.eq_of_beq_eq_true hm)
  have hm2:cx.rtab=[]:=List.eq_nil_of_length_eq_zero (Nat.eq_of_beq_eq_true hm2)
  unfold oCall at h ⊢
  have key:∀ f as,(callF cx H f as).run=some (.ok v H1)→H1=H ∧ ∀ H',(callF cx H' f as).run=some (.ok v H'):=by
   intro f as h
   unfold callF at h ⊢
   simp only [hm,hm2,hasKey,cond_false] at h ⊢
   exact callP_calm (cx:=cx) h
  split at h
  ·rename_i g first captured _
   cases hb:(Nat.beq first.size 0 && Nat.beq captured.size 0)
   ·rw [hb] at h; cases h
   ·rw [hb] at h; exact key _ _ h
  ·exact key _ _ h
  ·cases h
 ·rename_i args argTypes
  have hm:mapArg cx.P argTypes=false:=by simpa using hc
  generalize args.toList.map (rd t)=l at h ⊢
  match l with
  | [x] =>
   simp only [oBuiltin,oLenM,hm,cond_false] at h ⊢
   exact holdO_calm h
  | []=>cases h
  | _ :: _ :: _=>cases h
 ·rename_i args _
  generalize args.toList.map (rd t)=l at h ⊢
  match l with
  | [x,y]=>exact holdO_calm h
  | []=>cases h
  | [_]=>cases h
  | _ :: _ :: _ :: _=>cases h
 ·rename_i args _
  generalize args.toList.map (rd t)=l at h ⊢
  match l with
  | [x,y]=>exact holdO_calm h
  | []=>cases h
  | [_]=>cases h
  | _ :: _ :: _ :: _=>cases h
 ·cases hc
theorem callR_same {f:Nat} {as:List V} (h:(callR cx H f as).run=some (.ok v H1)):H1=H:=by
 unfold callR at h
 simp only at h
 split at h
 rotate_left
 ·cases h
 split at h
 rotate_left
 ·cases h
 cases hd:noDup (reach H 64 (V.idss as) [])
 ·rw [hd] at h; cases h
 rw [hd,cond_true] at h
 obtain ⟨u,_,h2⟩:=bind_run h
 split at h2
 ·have e:=(numO_run h2).1
  cases e
  rfl
 ·cases h2
theorem run_bind {β γ:Type} {x:Tree β} {f:β→Tree γ} {b:β} (h:x.run=some b):(x.bind f).run=(f b).run:=by
 induction x with
 | leaf c=>simp only [Tree.run,Option.some.injEq] at h; subst h; rfl
 | fail=>cases h
 | br cd x y ihx ihy =>
  cases cd
  ·exact ihy h
  ·exact ihx h
theorem reach_acc:∀ (f:Nat) (l acc:List Nat) {x:Nat},x ∈ acc→x ∈ reach H f l acc
 | 0,_,_,_,h=>h
 | _+1,[],_,_,h=>h
 | f+1,i :: r,acc,x,h=>by
  unfold reach
  cases hasN i acc
  ·exact reach_acc f _ _ (List.mem_append_left _ h)
  ·exact reach_acc f _ _ h
theorem reach_more {ob:O}:∀ (f:Nat) (l acc:List Nat),(∀ i ∈ reach H f l acc,i<H.length)→reach (H++[ob]) f l acc=reach H f l acc
 | 0,_,_,_=>rfl
 | _+1,[],_,_=>rfl
 | f+1,i :: r,acc,h=>by
  unfold reach at h ⊢
  cases hb:hasN i acc
  ·rw [hb,cond_false] at h
   have hi:i<H.length:=h i (reach_acc f _ _ (List.mem_append_right _ (List.mem_singleton.2 rfl)))
   rw [cond_false,cond_false,List.getElem?_append_left hi]
   exact reach_more f _ _ h
  ·rw [hb,cond_true] at h
   exact reach_more f _ _ h
theorem pickO_lt:∀ {σ:List Nat} {os:List O},pickO H σ=some os → ∀ i ∈ σ,i<H.length
 | [],_,_,i,hi=>by cases hi
 | j :: σ,os,h,i,hi=>by
  unfold pickO at h
  split at h
  ·rename_i h1 h2
   rcases List.mem_cons.1 hi with rfl | hi
   ·exact (List.getElem?_eq_some_iff.1 h1).1
   ·exact pickO_lt h2 i hi
  ·cases h
theorem pickO_more {ob:O}:∀ {σ:List Nat},(∀ i ∈ σ,i<H.length)→pickO (H++[ob]) σ=pickO H σ
 | [],_=>rfl
 | j :: σ,h=>by
  unfold pickO
  rw [List.getElem?_append_left (h j List.mem_cons_self),pickO_more fun i hi=>h i (List.mem_cons_of_mem _ hi)]
theorem callR_more {f:Nat} {as:List V} (h:(callR cx H f as).run=some (.ok v H1)) (ob:O):(callR cx (H++[ob]) f as).run=some (.ok v (H++[ob])):=by
 unfold callR at h ⊢
 simp only at h ⊢
 cases hp:pickO H (reach H 64 (V.idss as) []) with
 | none=>rw [hp] at h; cases h
 | some os =>
  have hlt:=pickO_lt hp
  rw [reach_more 64 _ _ hlt,pickO_more hlt,hp]
  rw [hp] at h
  simp only at h ⊢
  split at h
  rotate_left
  ·cases h
  cases hd:noDup (reach H 64 (V.idss as) [])
  ·rw [hd] at h; cases h
  rw [hd,cond_true] at h
  rw [cond_true]
  obtain ⟨u,h1,h2⟩:=bind_run h
  rw [run_bind h1]
  split at h2
  ·obtain ⟨e1,e2⟩:=numO_run h2
   simp only [Res.ok.injEq] at e1
   rw [e1.1]
   exact e2 _
  ·cases h2
theorem look_more {g:V} {as:List V} (hm:cx.mtab=[]) (h:(oCall cx H g as).run=some (.ok v H1)) :
  H1=H ∧ ∀ ob,(oCall cx (H++[ob]) g as).run=some (.ok v (H++[ob])):=by
 have key:∀ f as,(callF cx H f as).run=some (.ok v H1)→H1=H ∧ ∀ ob,(callF cx (H++[ob]) f as).run=some (.ok v (H++[ob])):=by
  intro f as h
  unfold callF at h ⊢
  simp only [hm,hasKey,cond_false] at h ⊢
  cases hk:hasKey f cx.rtab
  ·rw [hk,cond_false] at h
   obtain ⟨a,b⟩:=callP_calm (cx:=cx) h
   exact ⟨a,fun ob=>b _⟩
  ·rw [hk,cond_true] at h
   exact ⟨callR_same h,fun ob=>callR_more h ob⟩
 unfold oCall at h ⊢
 split at h
 ·rename_i first captured
  cases hb:(Nat.beq first.size 0 && Nat.beq captured.size 0)
  ·rw [hb] at h; cases h
  ·rw [hb] at h; exact key _ _ h
 ·exact key _ _ h
 ·cases h
theorem quiet_spec (hc:quiet cx o=true) (h:(dop cx t H o).run=some (.ok v H1)):H1=H:=by
 unfold quiet at hc
 rcases Bool.or_eq_true_iff.1 hc with hc | hc
 ·exact (calm_spec hc h).1
 ·unfold dop at h
  split at hc <;> first | (cases hc; done) | (rename_i ho; simp only [ho] at h)
  ·rename_i a
   cases hz:isLz cx.lz a
   ·rw [hz,cond_false] at h
    exact (holdO_calm h).1
   ·rw [hz,cond_true] at h
    exact (bind_calm h).1
  ·exact (bind_calm h).1
  ·rename_i args argTypes
   generalize args.toList.map (rd t)=l at h
   match l with
   | [x]=>exact (holdO_calm (x:=oLenM cx.P H argTypes x) h).1
   | []=>cases h
   | _ :: _ :: _=>cases h
  ·rename_i src dst _
   have hc:isStrSl cx.P src dst=false:=by simpa using hc
   rw [hc,cond_false] at h
   exact (bind_calm h).1
  ·rename_i g _ _
   obtain ⟨m1,m2⟩:=Bool.and_eq_true_iff.1 hc
   have m1:hasKey g cx.mtab=false:=by simpa using m1
   simp only [rd,oCall,callF,m1,m2,cond_false,cond_true] at h
   exact callR_same h
  ·exact (look_more (List.eq_nil_of_length_eq_zero (Nat.eq_of_beq_eq_true hc)) h).1
theorem loadZ_same {P:Program} {ty:TypeId} {a v:V} {H' : List O} (h:(oLoadZ P H ty a).run=some v) (hc:∀ (id off:Nat),a = .ptr id off→H'[id]? = H[id]?):(oLoadZ P H' ty a).run=some v:=by
 unfold oLoadZ at h ⊢
 split at h
 rotate_left
 ·cases h
 rename_i k id off hk
 rw [hc id off rfl]
 exact h
theorem loadZ_ptr {P:Program} {ty:TypeId} {a v:V} (h:(oLoadZ P H ty a).run=some v):∃ id off ob,a = .ptr id off∧H[id]? = some ob ∧ ∀ n sz,ob ≠ .tok n sz:=by
 unfold oLoadZ at h
 split at h
 rotate_left
 ·cases h
 split at h
 ·rename_i cs e hH
  exact ⟨_,_,_,rfl,hH,fun _ _ e=>by cases e⟩
 ·rename_i hH
  exact ⟨_,_,_,rfl,hH,fun _ _ e=>by cases e⟩
 ·cases h
theorem load_cells (hl:isLoad o=true) (h:(dop cx t H o).run=some (.ok v H1)) {H' : List O} (hc:∀ (id:Nat) ob,(∀ n sz,ob ≠ O.tok n sz)→H[id]? = some ob→H'[id]? = some ob) :
  (dop cx t H' o).run=some (.ok v H'):=by
 unfold isLoad at hl
 unfold dop at h ⊢
 split at hl
 rotate_left
 ·cases hl
 rename_i ho
 simp only [ho] at h ⊢
 rename_i ty a
 cases hz:isLz cx.lz a
 rotate_left
 ·rw [hz,cond_true] at h
  rw [cond_true]
  obtain ⟨u,hu,e⟩:=bind_hold h
  simp only [Res.ok.injEq] at e
  obtain ⟨rfl,rfl⟩:=e
  obtain ⟨id,off,ob,ha,hH,hob⟩:=loadZ_ptr hu
  rw [run_bind (loadZ_same (H' := H') hu fun i o hio=>by rw [ha] at hio; cases hio; rw [hH]; exact hc _ _ hob hH)]
  rfl
 rw [hz,cond_false] at h
 rw [cond_false]
 obtain ⟨u,hu,e⟩:=holdO_run h
 simp only [Res.ok.injEq] at e
 obtain ⟨rfl,rfl⟩:=e
 have:oLoad cx.P H' ty (rdG cx.globs t a)=some v:=by
  unfold oLoad at hu ⊢
  split at hu
  ·rename_i i cells h1 h2
   have:cellsAt H' (rdG cx.globs t a)=some cells:=by
    unfold cellsAt at h2 ⊢
    split at h2
    ·exact h2
    ·rename_i id off _
     split at h2
     ·rename_i cs e hH
      rw [hc id _ (fun _ _ e=>by cases e) hH]
      exact h2
     ·rename_i n k l hd hH
      rw [hc id _ (fun _ _ e=>by cases e) hH]
      exact h2
     ·cases h2
    ·cases h2
   simp only [h1,this]
   exact hu
  ·cases hu
 rw [this]
 rfl
theorem grow_cells {c:EC} {bytes:Nat} {s:V} {xs:List c.ty} {u:V} (h:(grow H c bytes s xs).run=some (u,H1)) :
  ∀ (id:Nat) ob,(∀ n sz,ob ≠ O.tok n sz)→(H1[id]? = some ob ↔ H[id]? = some ob):=by
 have new:∀ n sz (id:Nat) ob,(∀ n sz,ob ≠ O.tok n sz)→((H++[O.tok n sz])[id]? = some ob ↔ H[id]? = some ob):=by
  intro n sz id ob hob
  by_cases hlt:id<H.length
  ·rw [List.getElem?_append_left hlt]
  ·rw [List.getElem?_append_right (by omega),List.getElem?_eq_none (by omega:H.length≤id)]
   cases id - H.length with
   | zero=>simp only [List.getElem?_cons_zero,Option.some.injEq]; exact ⟨fun e=>absurd e.symm (hob n sz),fun e=>by cases e⟩
   | succ k=>simp
 unfold grow at h
 split at h
 ·cases hx:xs.isEmpty
  ·rw [hx] at h
   obtain ⟨_,h⟩:=req_run h
   simp only [Tree.run,Option.some.injEq,Prod.mk.injEq] at h
   obtain ⟨_,rfl⟩:=h
   exact new _ _
  ·rw [hx] at h
   simp only [Tree.run,cond_true,Option.some.injEq,Prod.mk.injEq] at h
   obtain ⟨_,rfl⟩:=h
   exact fun _ _ _=>Iff.rfl
 ·split at h
  rotate_left
  ·cases h
  cases hx:xs.isEmpty
  ·rw [hx] at h
   simp only [Tree.run,cond_false] at h
   split at h
   ·obtain ⟨_,h⟩:=req_run h
    simp only [Tree.run,Option.some.injEq,Prod.mk.injEq] at h
    obtain ⟨_,rfl⟩:=h
    exact new _ _
   ·cases h
  ·rw [hx] at h
   simp only [Tree.run,cond_true,Option.some.injEq,Prod.mk.injEq] at h
   obtain ⟨_,rfl⟩:=h
   exact fun _ _ _=>Iff.rfl
 ·split at h
  rotate_left
  ·cases h
  rename_i id d l l' n sz h1 h2
  cases hb:Nat.beq sz c.size
  ·rw [hb] at h; cases h
  rw [hb,cond_true] at h
  obtain ⟨_,h⟩:=req_run h
  simp only [Tree.run,Option.some.injEq,Prod.mk.injEq] at h
  obtain ⟨_,rfl⟩:=h
  intro j ob hob
  rw [List.getElem?_set]
  split
  ·rename_i hj
   subst hj
   split
   ·rw [h2]
    simp only [Option.some.injEq]
    exact ⟨fun e=>absurd e.symm (hob _ _),fun e=>absurd e.symm (hob _ _)⟩
   ·rename_i hlt; rw [List.getElem?_eq_none (by omega)]
  ·exact Iff.rfl
 ·cases h
theorem app_cells (ha:isApp cx o=true) (h:(dop cx t H o).run=some (.ok v H1)):∀ (id:Nat) ob,(∀ n sz,ob ≠ O.tok n sz)→(H1[id]? = some ob ↔ H[id]? = some ob):=by
 unfold isApp at ha
 unfold dop at h
 split at ha <;> first | (cases ha; done) | (rename_i ho; simp only [ho] at h)
 have hr:appR cx o .append=false:=by simpa using ha
 rw [hr,cond_false] at h
 unfold oBuiltin at h
 split at h <;> first | (rename_i hq _; cases hq; done) | (rename_i hq; cases hq; done) | skip
 ·obtain ⟨u,H',hu,e⟩:=bind_both h
  simp only [Res.ok.injEq] at e
  obtain ⟨rfl,rfl⟩:=e
  unfold oAppend at hu
  split at hu
  rotate_left
  ·cases hu
  split at hu
  rotate_left
  ·cases hu
  split at hu
  rotate_left
  ·cases hu
  split at hu
  rotate_left
  ·cases hu
  rename_i j c _ _
  cases hb:(Nat.beq c.size j.size && (Nat.blt 0 j.bytes && (Nat.beq j.zero.length j.size && appendable cx.P _)))
  ·rw [hb] at hu; cases hu
  rw [hb,cond_true] at hu
  split at hu
  ·exact grow_cells hu
  ·cases hu
 ·cases h
theorem load_more (hl:isLoad o=true) (h:(dop cx t H o).run=some (.ok v H1)) (ob:O):(dop cx t (H++[ob]) o).run=some (.ok v (H++[ob])):=by
 unfold isLoad at hl
 unfold dop at h ⊢
 split at hl
 rotate_left
 ·cases hl
 rename_i ho
 simp only [ho] at h ⊢
 rename_i ty a
 cases hz:isLz cx.lz a
 rotate_left
 ·rw [hz,cond_true] at h
  rw [cond_true]
  obtain ⟨u,hu,e⟩:=bind_hold h
  simp only [Res.ok.injEq] at e
  obtain ⟨rfl,rfl⟩:=e
  obtain ⟨id,off,ob',ha,hH,_⟩:=loadZ_ptr hu
  rw [run_bind (loadZ_same (H' := H1++[ob]) hu fun i o hio=>by rw [ha] at hio; cases hio; exact List.getElem?_append_left (List.getElem?_eq_some_iff.1 hH).1)]
  rfl
 rw [hz,cond_false] at h
 rw [cond_false]
 obtain ⟨u,hu,e⟩:=holdO_run h
 simp only [Res.ok.injEq] at e
 obtain ⟨rfl,rfl⟩:=e
 have:oLoad cx.P (H1++[ob]) ty (rdG cx.globs t a)=some v:=by
  unfold oLoad at hu ⊢
  split at hu
  ·rename_i i cells h1 h2
   have:cellsAt (H1++[ob]) (rdG cx.globs t a)=some cells:=by
    unfold cellsAt at h2 ⊢
    split at h2
    ·exact h2
    ·rename_i id off _
     split at h2
     ·rename_i cs e hH
      have hlt:id<H1.length:=(List.getElem?_eq_some_iff.1 hH).1
      rw [List.getElem?_append_left hlt,hH]
      exact h2
     ·rename_i hH
      have hlt:id<H1.length:=(List.getElem?_eq_some_iff.1 hH).1
      rw [List.getElem?_append_left hlt,hH]
      exact h2
     ·cases h2
    ·cases h2
   simp only [h1,this]
   exact hu
  ·cases hu
 rw [this]
 rfl
theorem isLook_spec (hl:isLook cx o=true) (h:(dop cx t H o).run=some (.ok v H1)):H1=H ∧ ∀ ob,(dop cx t (H++[ob]) o).run=some (.ok v (H++[ob])):=by
 unfold isLook at hl
 unfold dop at h ⊢
 split at hl
 rotate_left
 ·cases hl
 rename_i ho
 simp only [ho] at h ⊢
 exact look_more (List.eq_nil_of_length_eq_zero (Nat.eq_of_beq_eq_true hl)) h
theorem makeSlice_more {P:Program} {ref:Bool} {ty:TypeId} {l c u:V} (h:(oMakeSlice P H ref ty l c).run=some (u,H1)):∃ ob,H1=H++[ob]:=by
 unfold oMakeSlice at h
 split at h
 rotate_left
 ·cases h
 split at h
 rotate_left
 ·cases h
 split at h
 rotate_left
 ·cases h
 rename_i j _
 obtain ⟨_,h⟩:=req_run h
 cases hb:Nat.beq j.zero.length j.size && Nat.blt 0 j.bytes
 ·rw [hb] at h; cases h
 rw [hb,cond_true] at h
 cases ref
 ·rw [cond_false] at h
  split at h
  rotate_left
  ·cases h
  rename_i d _
  cases hs:Nat.beq d.size j.size
  ·rw [hs] at h; cases h
  rw [hs,cond_true] at h
  split at h
  ·cases h; exact ⟨_,rfl⟩
  ·cases h
 ·cases h; exact ⟨_,rfl⟩
theorem makePage_more {P:Program} {ty:TypeId} {l c u:V} (h:(oMakePage P H ty l c).run=some (u,H1)):∃ ob,H1=H++[ob]:=by
 unfold oMakePage at h
 split at h
 rotate_left
 ·cases h
 split at h
 rotate_left
 ·cases h
 split at h
 rotate_left
 ·cases h
 rename_i j k _ _
 obtain ⟨_,h⟩:=req_run h
 cases hb:isZeroK k j.zero && Nat.blt 0 j.bytes
 ·rw [hb] at h; cases h
 ·rw [hb,cond_true] at h
  cases h; exact ⟨_,rfl⟩
theorem buildSlice_more {P:Program} {ref:Bool} {ty:TypeId} {n:Nat} {ps:List (Nat × V)} {u:V} (h:oBuildSlice P H ref ty n ps=some (u,H1)):H1=H ∨ ∃ ob,H1=H++[ob]:=by
 unfold oBuildSlice at h
 split at h
 rotate_left
 ·cases h
 split at h
 rotate_left
 ·cases h
 split at h
 rotate_left
 ·cases h
 rename_i j _
 cases hb:Nat.ble (n*j.size) 16777216 && Nat.beq j.zero.length j.size
 ·rw [hb] at h; cases h
 rw [hb,cond_true] at h
 split at h
 rotate_left
 ·cases h
 cases ref
 ·rw [cond_false] at h
  split at h
  rotate_left
  ·cases h
  rename_i c _
  cases hs:Nat.beq c.size j.size
  ·rw [hs] at h; cases h
  rw [hs,cond_true] at h
  obtain ⟨_,_,e⟩:=Option.map_eq_some_iff.1 h
  cases e
  exact .inl rfl
 ·cases h; exact .inr ⟨_,rfl⟩
theorem new_spec (hn:isNew o=true) (h:(dop cx t H o).run=some (.ok v H1)):H1=H ∨ ∃ ob,H1=H++[ob]:=by
 unfold isNew at hn
 unfold dop at h
 split at hn <;> first | (cases hn; done) | (rename_i ho; simp only [ho] at h)
 ·split at h
  ·simp only [Tree.run,Option.some.injEq,Res.ok.injEq] at h
   exact .inr ⟨_,h.2.symm⟩
  ·cases h
 ·split at h
  ·simp only [Tree.run,Option.some.injEq,Res.ok.injEq] at h
   exact .inr ⟨_,h.2.symm⟩
  ·cases h
 ·cases hd:dstIn o cx.lz
  ·rw [hd,cond_false] at h
   obtain ⟨u,H',hu,e⟩:=bind_both h
   simp only [Res.ok.injEq] at e
   obtain ⟨_,rfl⟩:=e
   exact .inr (makeSlice_more hu)
  ·rw [hd,cond_true] at h
   obtain ⟨u,H',hu,e⟩:=bind_both h
   simp only [Res.ok.injEq] at e
   obtain ⟨_,rfl⟩:=e
   exact .inr (makePage_more hu)
 ·unfold bothO at h
  split at h
  ·rename_i hu
   simp only [Tree.run,Option.some.injEq,Res.ok.injEq] at h
   obtain ⟨_,rfl⟩:=h
   exact buildSlice_more hu
  ·cases h
def wantedT (ops:Array Oper) (t:T) (o:Oper):Option Bool:=
 match o.guard with
 | none=>some true
 | some (j,want)=>match (ops[j]?).bind (·.dst) with
  | some d=>match get d t with
   | .bool b=>some (b == want)
   | .val (.tuple _)=>some false
   | _=>none
  | none=>none
def puts (cx:Cx) (o:Oper) (v:V) (t:T) (H:List O):Option (T × List O):=(putO cx.n o.dst v t).map (·,H)
def step1 (cx:Cx) (ops:Array Oper) (o:Oper) (q:T × List O):Option (T × List O):=
 match wantedT ops q.1 o with
 | some true=>match (dop cx q.1 q.2 o).run with
  | some (.ok v H)=>puts cx o v q.1 H
  | _=>none
 | some false=>puts cx o vundef q.1 q.2
 | none=>none
def Like (p q:T × List O):Prop:=TEq p.1 q.1∧p.2=q.2
theorem Like.refl (p:T × List O):Like p p:=⟨fun _=>rfl,rfl⟩
theorem Like.trans {p q r:T × List O} (h:Like p q) (g:Like q r):Like p r:=⟨fun d=>(h.1 d).trans (g.1 d),h.2.trans g.2⟩
theorem Like.symm {p q:T × List O} (h:Like p q):Like q p:=⟨fun d=>(h.1 d).symm,h.2.symm⟩
variable {ops:Array Oper}
theorem wanted_eq (h:∀ d ∈ o.looksAt ops,get d t=get d s):wantedT ops t o=wantedT ops s o:=by
 unfold wantedT
 split
 ·rfl
 ·rename_i j want hg
  split
  ·rename_i d hd
   rw [h d (by unfold Oper.looksAt; rw [hg]; simp [hd])]
  ·rfl
theorem dop_eq (h:∀ d ∈ o.looksAt ops,get d t=get d s):dop cx t H o=dop cx s H o:=by
 refine dop_congr fun x hx=>?_
 cases x with
 | tmp d =>
  refine h d ?_
  unfold Oper.looksAt
  refine List.mem_append.2 (.inl (List.mem_filterMap.2 ⟨.tmp d,by simpa using hx,rfl⟩))
 | _=>rfl
theorem puts_like {p q:T × List O} (h:TEq p.1 q.1) {r:T × List O} (hp:puts cx o v p.1 H=some r):∃ r',puts cx o v q.1 H=some r' ∧ Like r r' := by
 unfold puts putO at hp ⊢
 cases hd:o.dst with
 | none=>simp only [hd,Option.map_some,Option.some.injEq] at hp ⊢; subst hp; exact ⟨_,rfl,h,rfl⟩
 | some d =>
  simp only [hd] at hp ⊢
  cases hb:Nat.blt d cx.n
  ·simp [hb] at hp
  ·simp only [hb,cond_true,Option.map_some,Option.some.injEq] at hp ⊢
   subst hp
   exact ⟨_,rfl,fun e=>by simp only [get_put]; split; rfl; exact h e,rfl⟩
theorem step1_like {p q r:T × List O} (h:Like p q) (hp:step1 cx ops o p=some r):∃ r',step1 cx ops o q=some r' ∧ Like r r' := by
 obtain ⟨t,H⟩:=p
 obtain ⟨s,H'⟩:=q
 obtain ⟨h1,h2⟩:=h
 simp only at h1 h2
 subst h2
 unfold step1 at hp ⊢
 have e1:wantedT ops s o=wantedT ops t o:=wanted_eq fun d _=>(h1 d).symm
 have e2:dop cx s H o=dop cx t H o:=dop_congr fun x _=>(rd_eq h1 x).symm
 simp only at hp ⊢
 rw [e1,e2]
 cases hw:wantedT ops t o with
 | none=>rw [hw] at hp; cases hp
 | some b =>
  rw [hw] at hp
  cases b
  ·exact puts_like (p:=(t,H)) (q:=(s,H)) h1 hp
  ·simp only at hp ⊢
   cases hu:(dop cx t H o).run with
   | none=>rw [hu] at hp; cases hp
   | some res =>
    rw [hu] at hp
    cases res with
    | pan u H2=>cases hp
    | ok u H2=>exact puts_like (p:=(t,H)) (q:=(s,H)) h1 hp
theorem puts_spec {r:T × List O} (h:puts cx o v t H=some r):r.2=H∧(∀ d,o.dst ≠ some d→get d r.1=get d t)∧(∀ d,o.dst=some d→get d r.1=v∧Nat.blt d cx.n=true):=by
 unfold puts putO at h
 cases hd:o.dst with
 | none =>
  simp only [hd,Option.map_some,Option.some.injEq] at h
  subst h
  exact ⟨rfl,fun _ _=>rfl,fun d h=>by cases h⟩
 | some d =>
  simp only [hd] at h
  cases hb:Nat.blt d cx.n
  ·simp [hb] at h
  ·simp only [hb,cond_true,Option.map_some,Option.some.injEq] at h
   subst h
   refine ⟨rfl,fun e he=>?_,fun e he=>?_⟩
   ·simp only [get_put]; rw [if_neg]; intro h; exact he (by rw [h])
   ·simp only [Option.some.injEq] at he; subst he; exact ⟨by simp [get_put],hb⟩
theorem puts_make (hb:∀ d,o.dst=some d→Nat.blt d cx.n=true):∃ r,puts cx o v t H=some r:=by
 unfold puts putO
 cases hd:o.dst with
 | none=>exact ⟨_,rfl⟩
 | some d=>simp [hb d hd]
def SepAt (x y:Oper) (t:T):Prop:=∃ a b,memAt x=some a∧memAt y=some b ∧ ∀ i j o o',rd t a = .ptr i o→rd t b = .ptr j o' → i ≠ j
theorem mem_spec {a:Operand} (hm:memAt x=some a) (h:(dop cx t H x).run=some (.ok v H1)) :
  (H1=H ∧ ∀ H',(∀ id off,rd t a = .ptr id off→H'[id]? = H[id]?)→(dop cx t H' x).run=some (.ok v H')) ∨
  (∃ id off ob,rd t a = .ptr id off∧H1=H.set id ob ∧ ∀ H',H'[id]? = H[id]? → (dop cx t H' x).run=some (.ok v (H'.set id ob))):=by
 unfold memAt at hm
 unfold dop at h ⊢
 split at hm
 ·rename_i ty b u ho
  simp only [Option.some.injEq] at hm
  subst hm
  simp only [ho] at h ⊢
  right
  cases hz:isLz cx.lz b
  rotate_left
  ·rw [hz,cond_true] at h
   simp only [cond_true]
   obtain ⟨H2,hH2,h⟩:=bind_run h
   simp only [Tree.run,Option.some.injEq,Res.ok.injEq] at h
   obtain ⟨rfl,rfl⟩:=h
   unfold oStoreZ at hH2 ⊢
   split at hH2
   rotate_left
   ·cases hH2
   rename_i k id off l x hk ha hx
   split at hH2
   ·rename_i cs e hH
    cases hc:decide (l=k)
    ·rw [hc] at hH2; cases hH2
    rw [hc,cond_true] at hH2
    obtain ⟨r1,r2⟩:=req_run hH2
    cases r2
    refine ⟨id,off,.cells (setI k off x 0 cs) e,ha,rfl,fun H' hH' => ?_⟩
    simp only [hH',hH,cond_true,r1]
    rfl
   ·rename_i n k' xs hd hH
    cases hc:(decide (l=k) && decide (k' = k))
    ·rw [hc] at hH2; cases hH2
    rw [hc,cond_true] at hH2
    obtain ⟨r1,r2⟩:=req_run hH2
    cases r2
    refine ⟨id,off,.obj (.page n k' (xs.set (off - n) x)) hd,ha,rfl,fun H' hH' => ?_⟩
    simp only [hH',hH,hc,cond_true,r1]
    rfl
   ·cases hH2
  rw [hz,cond_false] at h
  simp only [cond_false]
  cases hst:oStore cx.P H ty (rd t b) (rd t u) with
  | none=>rw [hst] at h; cases h
  | some H2 =>
   rw [hst] at h
   simp only [Tree.run,Option.some.injEq,Res.ok.injEq] at h
   obtain ⟨rfl,rfl⟩:=h
   unfold oStore at hst ⊢
   split at hst
   rotate_left
   ·cases hst
   rename_i i vs id off hi hvs ha
   split at hst
   ·rename_i cs e hH
    cases hc:(Nat.beq vs.length i.size && Nat.ble (off+vs.length) cs.length)
    ·rw [hc] at hst; cases hst
    rw [hc,cond_true] at hst
    simp only [Option.some.injEq] at hst
    refine ⟨id,off,.cells (splice cs off vs) e,ha,hst.symm,fun H' hH' => ?_⟩
    simp only [hH',hH,hc,cond_true]
    rfl
   ·rename_i n k xs hd hH
    cases hc:(Nat.beq vs.length i.size && Nat.ble (off+vs.length) hd.length)
    ·rw [hc] at hst; cases hst
    rw [hc,cond_true] at hst
    simp only [Option.some.injEq] at hst
    refine ⟨id,off,.obj (.page n k xs) (splice hd off vs),ha,hst.symm,fun H' hH' => ?_⟩
    simp only [hH',hH,hc,cond_true]
    rfl
   ·cases hst
 ·rename_i ty b ho
  simp only [Option.some.injEq] at hm
  subst hm
  simp only [ho] at h ⊢
  left
  cases hz:isLz cx.lz b
  rotate_left
  ·rw [hz,cond_true] at h
   simp only [cond_true]
   obtain ⟨w,hu,e⟩:=bind_hold h
   simp only [Res.ok.injEq] at e
   obtain ⟨rfl,rfl⟩:=e
   refine ⟨rfl,fun H' hH' => ?_⟩
   rw [run_bind (loadZ_same (H' := H') hu hH')]
   rfl
  rw [hz,cond_false] at h
  simp only [cond_false]
  obtain ⟨w,hu,e⟩:=holdO_run h
  simp only [Res.ok.injEq] at e
  obtain ⟨rfl,rfl⟩:=e
  refine ⟨rfl,fun H' hH' => ?_⟩
  have:oLoad cx.P H' ty (rdG cx.globs t b)=some v:=by
   unfold oLoad at hu ⊢
   split at hu
   ·rename_i i cells h1 h2
    have:cellsAt H' (rdG cx.globs t b)=some cells:=by
     unfold cellsAt at h2 ⊢
     split at h2
     ·exact h2
     ·rename_i id off hb
      rw [hH' id off (rdG_ptr hb)]
      exact h2
     ·cases h2
    simp only [h1,this]
    exact hu
   ·cases hu
  rw [this]
  rfl
 ·cases hm
theorem mem_turn {vx vy:V} {H2:List O} (hs:SepAt x y t) (h1:(dop cx t H x).run=some (.ok vx H1)) (h2:(dop cx t H1 y).run=some (.ok vy H2)) :
  ∃ Hy',(dop cx t H y).run=some (.ok vy Hy')∧(dop cx t Hy' x).run=some (.ok vx H2):=by
 obtain ⟨a,b,ha,hb,sep⟩:=hs
 rcases mem_spec ha h1 with ⟨rfl,g1⟩ | ⟨i,oi,ob,ri,rfl,g1⟩
 ·rcases mem_spec hb h2 with ⟨rfl,g2⟩ | ⟨j,oj,oc,rj,rfl,g2⟩
  ·exact ⟨H2,h2,h1⟩
  ·refine ⟨H1.set j oc,h2,g1 _ fun id off hr=>?_⟩
   exact List.getElem?_set_ne (fun e=>sep id j off oj hr rj e.symm)
 ·rcases mem_spec hb h2 with ⟨rfl,g2⟩ | ⟨j,oj,oc,rj,rfl,g2⟩
  ·refine ⟨H,g2 H fun id off hr=>?_,g1 H rfl⟩
   exact (List.getElem?_set_ne (fun e=>sep i id oi off ri hr e)).symm
  ·have hne:i ≠ j:=sep i j oi oj ri rj
   refine ⟨H.set j oc,g2 H (List.getElem?_set_ne hne).symm,?_⟩
   rw [List.set_comm _ _ hne]
   exact g1 _ (List.getElem?_set_ne (fun e=>hne e.symm))
theorem mem_hasN {i:Nat}:∀ {l:List Nat},i ∈ l→hasN i l=true
 | [],h=>by cases h
 | j :: l,h=>by
  unfold hasN
  cases hb:Nat.beq i j
  ·rcases List.mem_cons.1 h with rfl | h
   ·simp at hb
   ·exact mem_hasN h
  ·rfl
theorem setAll_get {α:Type} {i:Nat}:∀ (σ:List Nat) (os H:List α),i ∉ σ→i<H.length→(setAll H σ os)[i]? = H[i]?
 | [],os,H,_,hl=>by
  unfold setAll
  exact List.getElem?_append_left hl
 | j :: σ,[],H,_,hl=>by
  unfold setAll
  exact List.getElem?_append_left hl
 | j :: σ,o :: os,H,hn,hl=>by
  unfold setAll
  rw [setAll_get σ os (H.set j o) (fun h=>hn (List.mem_cons_of_mem _ h)) (by rw [List.length_set]; exact hl)]
  refine List.getElem?_set_ne (fun e=>hn ?_)
  rw [e]
  exact List.mem_cons_self
theorem callM0_keep {f:Nat} {as:List V} (h:(callM0 cx H f as).run=some (.ok v H1)) {i:Nat} (hi:hasN i (reach H 64 (V.idss as) [])=false) (hl:i<H.length):H1[i]? = H[i]? := by
 unfold callM0 at h
 simp only at h
 split at h
 rotate_left
 ·cases h
 split at h
 rotate_left
 ·cases h
 cases hd:noDup (reach H 64 (V.idss as) [])
 ·rw [hd] at h; cases h
 rw [hd,cond_true] at h
 obtain ⟨u,_,h2⟩:=bind_run h
 have hn:i ∉ reach H 64 (V.idss as) []:=fun hm=>by rw [mem_hasN hm] at hi; cases hi
 have key:∀ {v2:V} {H2:List O} {k:V→List O→Res} ,(∀ v H,k v H = .ok v H∨k v H = .pan v H)→(backRes H (reach H 64 (V.idss as) []) v2 H2 k).run=some (.ok v H1)→H1[i]? = H[i]? := by
  intro v2 H2 k hk h
  unfold backRes at h
  split at h
  rotate_left
  ·cases h
  rename_i v3 H3 _ _
  cases hb:Nat.ble (reach H 64 (V.idss as) []).length H3.length
  ·rw [hb] at h; cases h
  rw [hb,cond_true] at h
  simp only [Tree.run,Option.some.injEq] at h
  rcases hk v3 (setAll H (reach H 64 (V.idss as) []) H3) with e | e
  ·rw [e] at h
   cases h
   exact setAll_get _ _ _ hn hl
  ·rw [e] at h; cases h
 cases u with
 | ok v2 H2=>exact key (k:=.ok) (fun _ _=>.inl rfl) h2
 | pan v2 H2=>exact key (k:=.pan) (fun _ _=>.inr rfl) h2
theorem callM_keep {f:Nat} {as:List V} (h:(callM cx H f as).run=some (.ok v H1)) {i:Nat} (hi:hasN i (reach H 64 (V.idss as) [])=false) (hl:i<H.length):H1[i]? = H[i]? := callM0_keep (callM_0 h) hi hl
theorem setAll_more {α:Type} {ob:α}:∀ (σ:List Nat) (os H:List α),σ.length=os.length→(∀ i ∈ σ,i<H.length)→setAll (H++[ob]) σ os=setAll H σ os++[ob]
 | [],[],H,_,_=>by
  unfold setAll
  rw [List.append_nil,List.append_nil]
 | [],_ :: _,_,h,_=>by cases h
 | _ :: _,[],_,h,_=>by cases h
 | i :: σ,o :: os,H,h,hl=>by
  unfold setAll
  rw [List.set_append_left _ _ (hl i List.mem_cons_self)]
  exact setAll_more σ os (H.set i o) (by simpa using h) fun j hj=>by rw [List.length_set]; exact hl j (List.mem_cons_of_mem _ hj)
theorem callS_more {f:Nat} {as:List V} (h:(callS cx H f as).run=some (.ok v H1)):H1.length=H.length ∧ ∀ ob,(callS cx (H++[ob]) f as).run=some (.ok v (H1++[ob])):=by
 unfold callS at h ⊢
 simp only at h ⊢
 cases hp:pickO H (reach H 64 (V.idss as) []) with
 | none=>rw [hp] at h; cases h
 | some os =>
  have hlt:=pickO_lt hp
  rw [hp] at h
  simp only at h
  cases ha:V.rens? (fun i=>place i (reach H 64 (V.idss as) [])) as with
  | none=>rw [ha] at h; cases h
  | some as' =>
  cases ho:rensO (fun i=>place i (reach H 64 (V.idss as) [])) os with
  | none=>rw [ha,ho] at h; cases h
  | some Hs =>
  rw [ha,ho] at h
  simp only at h
  cases hd:noDup (reach H 64 (V.idss as) [])
  ·rw [hd] at h; cases h
  rw [hd,cond_true] at h
  obtain ⟨u,h1,h2⟩:=bind_run h
  obtain ⟨v2,H2,v',H2',rfl,e1,e2,e3,e4⟩:=backS_spec h2
  simp only [Res.ok.injEq] at e4
  obtain ⟨rfl,rfl⟩:=e4
  refine ⟨by rw [setAll_len _ _ _ (Nat.le_of_eq e3)]; omega,fun ob=>?_⟩
  rw [reach_more 64 _ _ hlt,pickO_more hlt,hp]
  simp only
  rw [ha,ho]
  simp only
  rw [hd,cond_true,run_bind h1]
  simp only [backS]
  rw [e1,e2]
  simp only
  rw [e3,Nat.beq_refl,setAll_more _ _ _ e3 hlt]
  rfl
theorem still_more (hs:isStill cx o=true) (h:(dop cx t H o).run=some (.ok v H1)):H1.length=H.length ∧ ∀ ob,(dop cx t (H++[ob]) o).run=some (.ok v (H1++[ob])):=by
 unfold isStill at hs
 split at hs
 rotate_left
 ·cases hs
 rename_i g args _ ho
 obtain ⟨h1,h2⟩:=Bool.and_eq_true_iff.1 hs
 unfold dop at h ⊢
 simp only [ho,rd,oCall,callF,h1,cond_true,callM,h2] at h ⊢
 exact callS_more h
theorem alloc_any (ha:isAlloc o=true) (h:(dop cx t H o).run=some (.ok v H1)):∃ ob,H1=H++[ob] ∧ ∀ H',H'.length=H.length→(dop cx t H' o).run=some (.ok v (H' ++ [ob])):=by
 unfold isAlloc at ha
 split at ha
 rotate_left
 ·cases ha
 rename_i e ho
 unfold dop at h ⊢
 simp only [ho] at h ⊢
 cases ht:ti cx.P e with
 | none=>rw [ht] at h; cases h
 | some i =>
  rw [ht] at h
  simp only [Tree.run,Option.some.injEq,Res.ok.injEq] at h
  obtain ⟨rfl,rfl⟩:=h
  exact ⟨_,rfl,fun H' hl=>by simp only [Tree.run,hl]⟩
def CallSep (cx:Cx) (x y:Oper) (p:T × List O):Prop:=
 isLoad x=true ∧ ∃ a as,memAt x=some a∧callAt cx y=some as ∧ ∀ i o,rd p.1 a = .ptr i o→i<p.2.length∧hasN i (reach p.2 64 (V.idss (as.map (rd p.1))) [])=false
theorem callAt_spec {as:List Operand} (h:callAt cx o=some as):∃ g,∀ t H,dop cx t H o=callM cx H g (as.map (rd t)):=by
 unfold callAt at h
 split at h
 rotate_left
 ·cases h
 rename_i g args _ ho
 cases hk:hasKey g cx.mtab
 ·rw [hk] at h; cases h
 rw [hk,cond_true] at h
 cases h
 refine ⟨g,fun t H=>?_⟩
 unfold dop
 simp only [ho,rd,oCall,callF,hk,cond_true]
 rfl
theorem load_mem {a:Operand} (hl:isLoad x=true) (hm:memAt x=some a) (h:(dop cx t H x).run=some (.ok v H1)) :
  H1=H ∧ ∀ H',(∀ id off,rd t a = .ptr id off→H'[id]? = H[id]?)→(dop cx t H' x).run=some (.ok v H'):=by
 have e:=quiet_spec (by unfold isLoad at hl; unfold quiet; split at hl <;> simp_all) h
 refine ⟨e,fun H' hH' => ?_⟩
 unfold isLoad at hl
 split at hl
 rotate_left
 ·cases hl
 rename_i ty b ho
 have hb:b=a:=by
  unfold memAt at hm
  simp only [ho,Option.some.injEq] at hm
  exact hm
 subst hb
 unfold dop at h ⊢
 simp only [ho] at h ⊢
 cases hz:isLz cx.lz b
 rotate_left
 ·rw [hz,cond_true] at h
  rw [cond_true]
  obtain ⟨w,hu,e⟩:=bind_hold h
  simp only [Res.ok.injEq] at e
  obtain ⟨rfl,rfl⟩:=e
  rw [run_bind (loadZ_same (H' := H') hu hH')]
  rfl
 rw [hz,cond_false] at h
 rw [cond_false]
 obtain ⟨w,hu,e⟩:=holdO_run h
 simp only [Res.ok.injEq] at e
 obtain ⟨rfl,rfl⟩:=e
 have:oLoad cx.P H' ty (rdG cx.globs t b)=some v:=by
  unfold oLoad at hu ⊢
  split at hu
  ·rename_i i cells h1 h2
   have:cellsAt H' (rdG cx.globs t b)=some cells:=by
    unfold cellsAt at h2 ⊢
    split at h2
    ·exact h2
    ·rename_i id off hb
     rw [hH' id off (rdG_ptr hb)]
     exact h2
    ·cases h2
   simp only [h1,this]
   exact hu
  ·cases hu
 rw [this]
 rfl
theorem call_turn {vx vy:V} {H2:List O} (hs:CallSep cx x y (t,H)∨CallSep cx y x (t,H)) (h1:(dop cx t H x).run=some (.ok vx H1)) (h2:(dop cx t H1 y).run=some (.ok vy H2)) :
  ∃ Hy',(dop cx t H y).run=some (.ok vy Hy')∧(dop cx t Hy' x).run=some (.ok vx H2):=by
 rcases hs with ⟨hl,a,as,ha,hc,sep⟩ | ⟨hl,a,as,ha,hc,sep⟩
 ·obtain ⟨rfl,g⟩:=load_mem hl ha h1
  obtain ⟨f,hf⟩:=callAt_spec hc
  refine ⟨H2,h2,g H2 fun id off hr=>?_⟩
  rw [hf] at h2
  obtain ⟨g1,g2⟩:=sep id off hr
  exact callM_keep h2 g2 g1
 ·obtain ⟨rfl,g⟩:=load_mem hl ha h2
  obtain ⟨f,hf⟩:=callAt_spec hc
  refine ⟨H,g H fun id off hr=>?_,h1⟩
  rw [hf] at h1
  obtain ⟨g1,g2⟩:=sep id off hr
  exact (callM_keep h1 g2 g1).symm
theorem turn {p q r:T × List O} (hap:x.apart ops y=true) (hmS:mayTurn cx x y=true∨SepAt x y p.1∨(CallSep cx x y p∨CallSep cx y x p)) (h1:step1 cx ops x p=some q) (h2:step1 cx ops y q=some r) :
  ∃ q' r',step1 cx ops y p=some q' ∧ step1 cx ops x q' = some r' ∧ Like r r' := by
 obtain ⟨t,H⟩:=p
 obtain ⟨a1,a2,a3⟩:=Oper.apart_spec hap
 have out:∀ {o:Oper} {p q:T × List O},step1 cx ops o p=some q →
   (∃ v,wantedT ops p.1 o=some true∧(dop cx p.1 p.2 o).run=some (.ok v q.2)∧puts cx o v p.1 q.2=some q)∨(wantedT ops p.1 o=some false∧puts cx o vundef p.1 p.2=some q):=by
  intro o p q h
  unfold step1 at h
  cases hw:wantedT ops p.1 o with
  | none=>rw [hw] at h; cases h
  | some b =>
   rw [hw] at h
   cases b
   ·exact .inr ⟨rfl,h⟩
   ·simp only at h
    cases hu:(dop cx p.1 p.2 o).run with
    | none=>rw [hu] at h; cases h
    | some res =>
     rw [hu] at h
     cases res with
     | pan u H2=>cases h
     | ok u H2 =>
      have:=(puts_spec h).1
      subst this
      exact .inl ⟨u,rfl,rfl,h⟩
 have ex:∀ {v:V} {H' : List O},puts cx x v t H' = some q → ∀ d ∈ y.looksAt ops,get d q.1=get d t:=fun hp d hd =>
  (puts_spec hp).2.1 d fun e=>a1 d e hd
 have mk:∀ {o:Oper} {p:T × List O} {v:V} {H' : List O} {q:T × List O},wantedT ops p.1 o=some true→(dop cx p.1 p.2 o).run=some (.ok v H')→puts cx o v p.1 H' = some q→step1 cx ops o p=some q:=by
  intro o p v H' q h1 h2 h3
  unfold step1; simp only [h1,h2]; exact h3
 have mk0:∀ {o:Oper} {p:T × List O} {q:T × List O},wantedT ops p.1 o=some false→puts cx o vundef p.1 p.2=some q→step1 cx ops o p=some q:=by
  intro o p q h1 h3
  unfold step1; simp only [h1]; exact h3
 have fin:∀ {vx vy:V} {Hx Hy Hx' Hy' : List O},puts cx x vx t Hx=some q→puts cx y vy q.1 Hy=some r →
   ∃ q' r',puts cx y vy t Hx' = some q' ∧ puts cx x vx q'.1 Hy' = some r' ∧ TEq r.1 r'.1∧q'.2=Hx' ∧ r'.2=Hy' ∧ ∀ d ∈ x.looksAt ops,get d q'.1=get d t:=by
  intro vx vy Hx Hy Hx' Hy' hq hr
  obtain ⟨b1,b2,b3⟩:=puts_spec hq
  obtain ⟨c1,c2,c3⟩:=puts_spec hr
  obtain ⟨q',hq'⟩:=puts_make (cx:=cx) (o:=y) (v:=vy) (t:=t) (H:=Hx') (fun d hd=>(c3 d hd).2)
  obtain ⟨r',hr'⟩:=puts_make (cx:=cx) (o:=x) (v:=vx) (t:=q'.1) (H:=Hy') (fun d hd=>(b3 d hd).2)
  obtain ⟨d1,d2,d3⟩:=puts_spec hq'
  obtain ⟨e1,e2,e3⟩:=puts_spec hr'
  refine ⟨q',r',hq',hr',fun d=>?_,d1,e1,fun d hd=>d2 d fun e=>a3 d e hd⟩
  by_cases hx:x.dst=some d
  ·have hy:y.dst ≠ some d:=a2 d hx
   rw [c2 d hy,(b3 d hx).1,(e3 d hx).1]
  ·rw [e2 d hx]
   by_cases hy:y.dst=some d
   ·rw [(c3 d hy).1,(d3 d hy).1]
   ·rw [c2 d hy,b2 d hx,d2 d hy]
 rcases out h1 with ⟨vx,w1,d1,p1⟩ | ⟨w1,p1⟩
 ·have ly:=ex p1
  simp only at w1 d1 p1
  have ew:wantedT ops q.1 y=wantedT ops t y:=wanted_eq ly
  have ed:∀ H,dop cx q.1 H y=dop cx t H y:=fun H=>dop_eq ly
  rcases out h2 with ⟨vy,w2,d2,p2⟩ | ⟨w2,p2⟩
  ·rw [ew] at w2
   rw [ed] at d2
   have heaps:∃ Hy',(dop cx t H y).run=some (.ok vy Hy')∧(dop cx t Hy' x).run=some (.ok vx r.2):=by
    rcases hmS with hm | hsep | hcs
    rotate_left
    ·exact mem_turn hsep d1 d2
    ·exact call_turn hcs d1 d2
    unfold mayTurn at hm
    rcases Bool.or_eq_true_iff.1 hm with hm | hm
    ·obtain ⟨e,hall⟩:=calm_spec hm d1
     rw [e] at d2
     exact ⟨r.2,d2,hall _⟩
    rcases Bool.or_eq_true_iff.1 hm with hm | hm
    ·obtain ⟨e,hall⟩:=calm_spec hm d2
     rw [e]
     exact ⟨H,hall H,d1⟩
    rcases Bool.or_eq_true_iff.1 hm with hm | hm
    ·obtain ⟨m1,m2⟩:=Bool.and_eq_true_iff.1 hm
     have e1:=quiet_spec m1 d1
     have e2:=quiet_spec m2 d2
     rw [e1] at d1 d2 e2
     rw [e2] at d2 ⊢
     exact ⟨H,d2,d1⟩
    rcases Bool.or_eq_true_iff.1 hm with hm | hm
    ·obtain ⟨m1,m2⟩:=Bool.and_eq_true_iff.1 hm
     have e1:=quiet_spec (by unfold isLoad at m1; unfold quiet; split at m1 <;> simp_all) d1
     rw [e1] at d1 d2
     rcases new_spec m2 d2 with e2 | ⟨ob,e2⟩
     ·rw [e2] at d2 ⊢
      exact ⟨H,d2,d1⟩
     rw [e2] at d2 ⊢
     exact ⟨H++[ob],d2,load_more m1 d1 ob⟩
    rcases Bool.or_eq_true_iff.1 hm with hm | hm
    ·obtain ⟨m1,m2⟩:=Bool.and_eq_true_iff.1 hm
     have e1:=quiet_spec (by unfold isLoad at m1; unfold quiet; split at m1 <;> simp_all) d1
     rw [e1] at d1 d2
     exact ⟨r.2,d2,load_cells m1 d1 fun id ob hob h=>(app_cells m2 d2 id ob hob).2 h⟩
    rcases Bool.or_eq_true_iff.1 hm with hm | hm
    ·obtain ⟨m1,m2⟩:=Bool.and_eq_true_iff.1 hm
     have e2:=quiet_spec (by unfold isLoad at m2; unfold quiet; split at m2 <;> simp_all) d2
     rw [e2] at d2 ⊢
     exact ⟨H,load_cells m2 d2 fun id ob hob h=>(app_cells m1 d1 id ob hob).1 h,d1⟩
    rcases Bool.or_eq_true_iff.1 hm with hm | hm
    rotate_left
    ·obtain ⟨m1,m2⟩:=Bool.and_eq_true_iff.1 hm
     obtain ⟨e1,g1⟩:=still_more m1 d1
     obtain ⟨ob,e2,g2⟩:=alloc_any m2 d2
     rw [e2]
     exact ⟨H++[ob],g2 H e1.symm,g1 ob⟩
    ·obtain ⟨m1,m2⟩:=Bool.and_eq_true_iff.1 hm
     obtain ⟨e1,g1⟩:=isLook_spec m1 d1
     rw [e1] at d1 d2
     rcases new_spec m2 d2 with e2 | ⟨ob,e2⟩
     ·rw [e2] at d2 ⊢
      exact ⟨H,d2,d1⟩
     rw [e2] at d2 ⊢
     exact ⟨H++[ob],d2,g1 ob⟩
   obtain ⟨Hy',g1,g2⟩:=heaps
   obtain ⟨q',r',f1,f2,f3,f4,f5,f6⟩:=fin (Hx' := Hy') (Hy' := r.2) p1 p2
   refine ⟨q',r',mk w2 g1 f1,mk (v:=vx) (H' := r.2) ?_ ?_ f2,f3,f5.symm⟩
   ·rw [wanted_eq f6]; exact w1
   ·rw [f4,dop_eq f6]; exact g2
  ·rw [ew] at w2
   obtain ⟨q',r',f1,f2,f3,f4,f5,f6⟩:=fin (Hx' := H) (Hy' := q.2) p1 p2
   refine ⟨q',r',mk0 w2 f1,mk (v:=vx) (H' := q.2) ?_ ?_ f2,f3,?_⟩
   ·rw [wanted_eq f6]; exact w1
   ·rw [f4,dop_eq f6]; exact d1
   ·rw [f5,(puts_spec p2).1]
 ·have ly:=ex p1
  simp only at w1 p1
  have ew:wantedT ops q.1 y=wantedT ops t y:=wanted_eq ly
  have ed:∀ H,dop cx q.1 H y=dop cx t H y:=fun H=>dop_eq ly
  have eH:q.2=H:=(puts_spec p1).1
  rcases out h2 with ⟨vy,w2,d2,p2⟩ | ⟨w2,p2⟩
  ·rw [ew] at w2
   rw [ed,eH] at d2
   obtain ⟨q',r',f1,f2,f3,f4,f5,f6⟩:=fin (Hx' := r.2) (Hy' := r.2) p1 p2
   refine ⟨q',r',mk w2 d2 f1,mk0 ?_ (by rw [f4]; exact f2),f3,f5.symm⟩
   rw [wanted_eq f6]; exact w1
  ·rw [ew] at w2
   rw [eH] at p2
   obtain ⟨q',r',f1,f2,f3,f4,f5,f6⟩:=fin (Hx' := H) (Hy' := H) p1 p2
   refine ⟨q',r',mk0 w2 f1,mk0 ?_ (by rw [f4]; exact f2),f3,?_⟩
   ·rw [wanted_eq f6]; exact w1
   ·rw [f5,(puts_spec p2).1]
end
end Go.Ab

namespace Go.Ab
section
variable {cx:Cx} {ops:Array Oper} {I:T × List O→Prop}
def runI (cx:Cx) (ops:Array Oper):List Nat→T × List O→Option (T × List O)
 | [],p=>some p
 | i :: r,p=>match ops[i]? with
  | none=>runI cx ops r p
  | some o=>match step1 cx ops o p with
   | some q=>runI cx ops r q
   | none=>none
theorem runI_append (l m:List Nat) (p:T × List O):runI cx ops (l++m) p=(runI cx ops l p).bind (runI cx ops m):=by
 induction l generalizing p with
 | nil=>rfl
 | cons i r ih =>
  simp only [List.cons_append,runI]
  split
  ·exact ih p
  ·split
   ·exact ih _
   ·rfl
theorem runI_like:∀ (l:List Nat) {p q r:T × List O},Like p q→runI cx ops l p=some r → ∃ r',runI cx ops l q=some r' ∧ Like r r'
 | [],p,q,r,h,hp=>by simp only [runI,Option.some.injEq] at hp; subst hp; exact ⟨q,rfl,h⟩
 | i :: l,p,q,r,h,hp=>by
  simp only [runI] at hp ⊢
  cases ho:ops[i]? with
  | none=>rw [ho] at hp; exact runI_like l h hp
  | some o =>
   rw [ho] at hp
   simp only at hp ⊢
   cases h1:step1 cx ops o p with
   | none=>rw [h1] at hp; cases hp
   | some p1 =>
    rw [h1] at hp
    obtain ⟨q1,hq1,hl⟩:=step1_like h h1
    rw [hq1]
    exact runI_like l hl hp
def Turns (cx:Cx) (ops:Array Oper) (I:T × List O→Prop) (i j:Nat):Prop:=
 ∀ x y,ops[i]? = some x→ops[j]? = some y→x.apart ops y=true∧(mayTurn cx x y=true ∨ ∀ p,I p→SepAt x y p.1)
def Keeps (cx:Cx) (ops:Array Oper) (I:T × List O→Prop):Prop:=∀ (i:Nat) o p q,ops[i]? = some o→I p→step1 cx ops o p=some q→I q
theorem runI_keeps (hK:Keeps cx ops I):∀ (l:List Nat) {p q:T × List O},I p→runI cx ops l p=some q→I q
 | [],p,q,h,hp=>by simp only [runI,Option.some.injEq] at hp; subst hp; exact h
 | i :: l,p,q,h,hp=>by
  simp only [runI] at hp
  cases ho:ops[i]? with
  | none=>rw [ho] at hp; exact runI_keeps hK l h hp
  | some o =>
   rw [ho] at hp
   simp only at hp
   cases h1:step1 cx ops o p with
   | none=>rw [h1] at hp; cases hp
   | some p1=>rw [h1] at hp; exact runI_keeps hK l (hK i o p p1 ho h h1) hp
theorem move_end (hK:Keeps cx ops I) {i:Nat}:∀ (B:List Nat) {p r:T × List O},I p→(∀ j ∈ B,Turns cx ops I i j)→runI cx ops (i :: B) p=some r → ∃ r',runI cx ops (B++[i]) p=some r' ∧ Like r r'
 | [],p,r,_,_,h=>⟨r,h,.refl r⟩
 | j :: B,p,r,hI,hB,h=>by
  cases hi:ops[i]? with
  | none =>
   have e:∀ l p,runI cx ops (i :: l) p=runI cx ops l p:=fun l p=>by simp [runI,hi]
   refine ⟨r,?_,.refl r⟩
   rw [e] at h
   rw [runI_append,h]
   simp [runI,hi]
  | some x =>
   cases hj:ops[j]? with
   | none =>
    have e:∀ l p,runI cx ops (j :: l) p=runI cx ops l p:=fun l p=>by simp [runI,hj]
    have h' : runI cx ops (i :: B) p=some r:=by
     simp only [runI,hi,hj] at h ⊢
     exact h
    obtain ⟨r',h1,h2⟩:=move_end hK B hI (fun k hk=>hB k (List.mem_cons_of_mem _ hk)) h'
    exact ⟨r',by rw [List.cons_append,e]; exact h1,h2⟩
   | some y =>
    simp only [runI,hi,hj] at h
    cases h1:step1 cx ops x p with
    | none=>rw [h1] at h; cases h
    | some q =>
     rw [h1] at h
     simp only at h
     cases h2:step1 cx ops y q with
     | none=>rw [h2] at h; cases h
     | some q2 =>
      rw [h2] at h
      simp only at h
      obtain ⟨ha,hm⟩:=hB j List.mem_cons_self x y hi hj
      obtain ⟨q',r1,g1,g2,g3⟩:=turn ha (hm.imp id (fun hs=>.inl (hs p hI))) h1 h2
      obtain ⟨r2,k1,k2⟩:=runI_like B g3 h
      have h3:runI cx ops (i :: B) q' = some r2:=by simp only [runI,hi,g2]; exact k1
      obtain ⟨r3,m1,m2⟩:=move_end hK B (hK j y p q' hj hI g1) (fun k hk=>hB k (List.mem_cons_of_mem _ hk)) h3
      refine ⟨r3,?_,k2.trans m2⟩
      simp only [List.cons_append,runI,hj,g1]
      exact m1
def TurnsAt (cx:Cx) (ops:Array Oper) (i j:Nat) (p:T × List O):Prop:=
 ∀ x y,ops[i]? = some x→ops[j]? = some y→x.apart ops y=true∧(mayTurn cx x y=true∨SepAt x y p.1∨(CallSep cx x y p∨CallSep cx y x p))
theorem move_endA {i:Nat}:∀ (B:List Nat) {p r:T × List O},(∀ B1 j B2,B=B1++j :: B2 → ∀ q,runI cx ops B1 p=some q→TurnsAt cx ops i j q)→runI cx ops (i :: B) p=some r → ∃ r',runI cx ops (B++[i]) p=some r' ∧ Like r r'
 | [],p,r,_,h=>⟨r,h,.refl r⟩
 | j :: B,p,r,hB,h=>by
  cases hi:ops[i]? with
  | none =>
   have e:∀ l p,runI cx ops (i :: l) p=runI cx ops l p:=fun l p=>by simp [runI,hi]
   refine ⟨r,?_,.refl r⟩
   rw [e] at h
   rw [runI_append,h]
   simp [runI,hi]
  | some x =>
   cases hj:ops[j]? with
   | none =>
    have e:∀ l p,runI cx ops (j :: l) p=runI cx ops l p:=fun l p=>by simp [runI,hj]
    have h' : runI cx ops (i :: B) p=some r:=by
     simp only [runI,hi,hj] at h ⊢
     exact h
    obtain ⟨r',h1,h2⟩:=move_endA B (fun B1 k B2 hB12 q hq=>hB (j :: B1) k B2 (by rw [hB12]; rfl) q (by rw [e]; exact hq)) h'
    exact ⟨r',by rw [List.cons_append,e]; exact h1,h2⟩
   | some y =>
    simp only [runI,hi,hj] at h
    cases h1:step1 cx ops x p with
    | none=>rw [h1] at h; cases h
    | some q =>
     rw [h1] at h
     simp only at h
     cases h2:step1 cx ops y q with
     | none=>rw [h2] at h; cases h
     | some q2 =>
      rw [h2] at h
      simp only at h
      obtain ⟨ha,hm⟩:=hB [] j B rfl p rfl x y hi hj
      obtain ⟨q',r1,g1,g2,g3⟩:=turn ha hm h1 h2
      obtain ⟨r2,k1,k2⟩:=runI_like B g3 h
      have h3:runI cx ops (i :: B) q' = some r2:=by simp only [runI,hi,g2]; exact k1
      obtain ⟨r3,m1,m2⟩:=move_endA B (fun B1 k B2 hB12 q hq=>hB (j :: B1) k B2 (by rw [hB12]; rfl) q (by simp only [runI,hj,g1]; exact hq)) h3
      refine ⟨r3,?_,k2.trans m2⟩
      simp only [List.cons_append,runI,hj,g1]
      exact m1
def Closed (ops:Array Oper) (S:Nat→Bool):Prop:=∀ (j:Nat) o,ops[j]? = some o→S j=true → ∀ e ∈ o.after,Region.binds .any e=true→S e.on=true
def Anc (ops:Array Oper) (i j:Nat):Prop:=∀ S,Closed ops S→S j=true→S i=true
structure DrawOk (cx:Cx) (ops:Array Oper) (p0:T × List O):Prop where
 back:∀ (j:Nat) o,ops[j]? = some o → ∀ e ∈ o.after,Region.binds .any e=true→e.on<j
 pairs:∀ i j,i<j→j<ops.size→Anc ops i j ∨ ∀ l p,(∀ k ∈ l,k<j∧k ≠ i)→runI cx ops l p0=some p→TurnsAt cx ops i j p
def stateOf (cx:Cx) (ops:Array Oper) (S:Nat→Bool) (p:T × List O):Option (T × List O):=runI cx ops ((List.range ops.size).filter S) p
def with1 (S:Nat→Bool) (i:Nat):Nat→Bool:=fun j=>S j || j == i
theorem range_parts {n i:Nat} (h:i<n):List.range n=List.range i++i :: List.range' (i+1) (n - i - 1):=by
 have h1:List.range n=List.range' 0 i++List.range' i (n - i):=by
  have:=List.range'_append (s:=0) (m:=i) (n:=n - i) (step:=1)
  rw [List.range_eq_range']
  simp only [Nat.one_mul,Nat.zero_add] at this
  rw [this]; congr 1; omega
 rw [h1,← List.range_eq_range']
 congr 1
 rw [show n - i=(n - i - 1)+1 from by omega,List.range'_succ]
 simp
theorem filter_with {n i:Nat} {S:Nat→Bool} (h:i<n) (hS:S i=false) :
  ∃ A B,(List.range n).filter (with1 S i)=A++i :: B∧(List.range n).filter S=A++B∧(∀ j ∈ B,i<j∧j<n∧S j=true)∧(∀ j ∈ A,j<i)∧B.Pairwise (· < ·):=by
 refine ⟨(List.range i).filter S,(List.range' (i+1) (n - i - 1)).filter S,?_,?_,?_,fun j hj=>List.mem_range.1 (List.mem_filter.1 hj).1,(List.pairwise_lt_range' (s:=i+1) (n:=n - i - 1) 1 (by decide)).filter _⟩
 ·rw [range_parts h,List.filter_append,List.filter_cons]
  have e1:(List.range i).filter (with1 S i)=(List.range i).filter S:=by
   apply List.filter_congr
   intro j hj
   have:=List.mem_range.1 hj
   simp [with1]; omega
  have e2:(List.range' (i+1) (n - i - 1)).filter (with1 S i)=(List.range' (i+1) (n - i - 1)).filter S:=by
   apply List.filter_congr
   intro j hj
   have:=List.mem_range'_1.1 hj
   simp [with1]; omega
  rw [e1,e2]
  simp [with1]
 ·rw [range_parts h,List.filter_append,List.filter_cons]
  simp [hS]
 ·intro j hj
  obtain ⟨h1,h2⟩:=List.mem_filter.1 hj
  have:=List.mem_range'_1.1 h1
  exact ⟨by omega,by omega,h2⟩
theorem step_to {p0 r:T × List O} (hd:DrawOk cx ops p0) {S:Nat→Bool} {i:Nat} (hc:Closed ops S) (hi:i<ops.size) (hS:S i=false) (h:stateOf cx ops (with1 S i) p0=some r) :
  ∃ p r',stateOf cx ops S p0=some p∧(∀ o,ops[i]? = some o→step1 cx ops o p=some r')∧Like r r' := by
 obtain ⟨A,B,e1,e2,e3,e4,e5⟩:=filter_with hi hS
 unfold stateOf at h ⊢
 rw [e1,runI_append] at h
 rw [e2,runI_append]
 obtain ⟨q,hq,h⟩:=Option.bind_eq_some_iff.1 h
 have hB:∀ B1 j B2,B=B1++j :: B2 → ∀ q',runI cx ops B1 q=some q' → TurnsAt cx ops i j q' := by
  intro B1 j B2 hB12 q' hq'
  obtain ⟨h1,h2,h3⟩:=e3 j (by rw [hB12]; simp)
  rcases hd.pairs i j h1 h2 with h | h
  ·have:=h S hc h3
   rw [hS] at this; cases this
  ·refine h (A++B1) q' (fun k hk=>?_) (by rw [runI_append,hq]; exact hq')
   rcases List.mem_append.1 hk with hk | hk
   ·have:=e4 k hk; omega
   ·have g1:=(e3 k (by rw [hB12]; exact List.mem_append_left _ hk)).1
    rw [hB12] at e5
    have g2:=(List.pairwise_append.1 e5).2.2 k hk j List.mem_cons_self
    omega
 obtain ⟨r',h1,h2⟩:=move_endA B hB h
 rw [runI_append] at h1
 obtain ⟨p,hp,h1⟩:=Option.bind_eq_some_iff.1 h1
 refine ⟨p,r',by rw [hq]; exact hp,fun o ho=>?_,h2⟩
 simp only [runI,ho] at h1
 cases hs:step1 cx ops o p with
 | none=>rw [hs] at h1; cases h1
 | some q2=>rw [hs] at h1; exact h1
theorem closed_with {S:Nat→Bool} {i:Nat} (hc:Closed ops S) (h:∀ o,ops[i]? = some o → ∀ e ∈ o.after,Region.binds .any e=true→S e.on=true):Closed ops (with1 S i):=by
 intro j o ho hj e he hb
 unfold with1 at hj ⊢
 rcases Bool.or_eq_true_iff.1 hj with hj | hj
 ·rw [hc j o ho hj e he hb]; rfl
 ·have:j=i:=by simpa using hj
  subst this
  rw [h o ho e he hb]; rfl
def missing (n:Nat) (S:Nat→Bool):Nat:=((List.range n).filter fun i=>!S i).length
theorem missing_with {n i:Nat} {S:Nat→Bool} (hi:i<n) (hS:S i=false):missing n S=missing n (with1 S i)+1:=by
 unfold missing
 have hS' : (fun j=>!(with1 S i) j) i=false:=by simp [with1]
 obtain ⟨A,B,e1,e2,_,_,_⟩:=filter_with (S:=fun j=>!(with1 S i) j) hi hS'
 have:with1 (fun j=>!(with1 S i) j) i=fun j=>!S j:=by
  funext j
  by_cases hj:j=i
  ·subst hj; simp [with1,hS]
  ·have hji:(j == i)=false:=by simpa using hj
   simp [with1,hji]
 rw [this] at e1
 rw [e1,e2]
 simp; omega
theorem first_missing {n:Nat} {S:Nat→Bool} (h:0<missing n S):∃ i,i<n∧S i=false ∧ ∀ j,j<i→S j=true:=by
 unfold missing at h
 induction n with
 | zero=>simp at h
 | succ n ih =>
  by_cases hn:0<((List.range n).filter fun i=>!S i).length
  ·obtain ⟨i,h1,h2,h3⟩:=ih hn
   exact ⟨i,by omega,h2,h3⟩
  ·rw [List.range_succ,List.filter_append] at h
   have h0:(List.range n).filter (fun i=>!S i)=[]:=List.length_eq_zero_iff.1 (by omega)
   rw [h0] at h
   have hnn:S n=false:=by
    cases hs:S n
    ·rfl
    ·simp [hs] at h
   refine ⟨n,by omega,hnn,fun j hj=>?_⟩
   cases hs:S j
   ·have:j ∈ (List.range n).filter fun i=>!S i:=List.mem_filter.2 ⟨List.mem_range.2 hj,by simp [hs]⟩
    rw [h0] at this; cases this
   ·rfl
theorem stateOf_full {S:Nat→Bool} (h:missing ops.size S=0) (p:T × List O):stateOf cx ops S p=runI cx ops (List.range ops.size) p:=by
 unfold stateOf
 congr 1
 rw [List.filter_eq_self]
 intro i hi
 cases hs:S i
 ·have:i ∈ (List.range ops.size).filter fun i=>!S i:=List.mem_filter.2 ⟨hi,by simp [hs]⟩
  have h0:=List.length_eq_zero_iff.1 h
  rw [h0] at this; cases this
 ·rfl
theorem closed_some {p0 r0:T × List O} (hd:DrawOk cx ops p0) (h:runI cx ops (List.range ops.size) p0=some r0) :
  ∀ (m:Nat) (S:Nat→Bool),missing ops.size S=m→Closed ops S → ∃ p,stateOf cx ops S p0=some p
 | 0,S,hm,_=>⟨r0,by rw [stateOf_full hm]; exact h⟩
 | m+1,S,hm,hc=>by
  obtain ⟨i,hi,hS,hlt⟩:=first_missing (S:=S) (n:=ops.size) (by omega)
  have hm' := missing_with hi hS
  obtain ⟨r,hr⟩:=closed_some hd h m (with1 S i) (by omega) (closed_with hc fun o ho e he hb=>hlt _ (hd.back i o ho e he hb))
  obtain ⟨p,_,hp,_⟩:=step_to hd hc hi hS hr
  exact ⟨p,hp⟩
end
end Go.Ab
