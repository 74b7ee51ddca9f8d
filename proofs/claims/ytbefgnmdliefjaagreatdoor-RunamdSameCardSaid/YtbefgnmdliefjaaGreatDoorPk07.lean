/-
  The engine, part Q: every operation of the evaluator is sound. Conditions: none.
-/
import Derived.Test.YtbefgnmdliefjaaGreatDoorPk06
set_option linter.unusedVariables false
set_option linter.unusedSimpArgs false
namespace Go.Ab
section
variable {E:Nat→Nat→Prop} {H:List O} {β:List Loc} {w:World} {n:Nat} {t:T} {a:Act} {o:Oper} {cx:Cx} {K:Act→World→Prop} {Q:Exit→Act→World→Prop}
theorem dop_sound (hT:CxOk cx) (hE:StartOk cx.P E H β w) (hR:Rel w (Xs E H β) H β) (hF:FR w (Xs E H β) β n t a) {res:Res}
  (h:(dop cx t H o).run=some res) (hk:Then E H β w a o K Q res):o.wp cx.P a w K Q:=by
 have hrd:=fun x=>rd_R hF x
 have hrg:=fun x=>rdG_R hE.2 hT.2.2.2 hF x
 have same:∀ {s:Sem Value} {u:V},execOp a.eval o=(do pure (Next.value (← s)))→(∃ z,s.run cx.P w = .ok z w∧R w (Xs E H β) β u z)→res = .ok u H→o.wp cx.P a w K Q:=by
  rintro s u he ⟨z,h1,h2⟩ rfl
  exact wp_sem he h1 (hk z w β (Step.refl hR) h2)
 have some' : ∀ {s:Sem Value} {u:V} {H' : List O},execOp a.eval o=(do pure (Next.value (← s))) →
   (∃ z w' β',s.run cx.P w = .ok z w' ∧ Step E H β w H' β' w' ∧ R w' (Xs E H' β') β' u z)→res = .ok u H' → o.wp cx.P a w K Q:=by
  rintro s u H' he ⟨z,w',β',h1,h2,h3⟩ rfl
  exact wp_sem he h1 (hk z w' β' h2 h3)
 unfold dop at h
 split at h
 ·-- move
  rename_i x ho
  simp only [hold,Tree.run,Option.some.injEq] at h
  subst h
  unfold Oper.wp
  simp only [execOp,ho]
  exact hk _ w β (Step.refl hR) (hrd x)
 ·-- assign
  rename_i x ho
  simp only [hold,Tree.run,Option.some.injEq] at h
  subst h
  unfold Oper.wp
  simp only [execOp,ho]
  exact hk _ w β (Step.refl hR) (hrd x)
 ·-- pick
  rename_i c x y ho
  split at h
  rotate_left
  ·cases h
  rename_i b hb
  have hc:=hrd c
  rw [hb] at hc
  generalize hev:a.eval c=cv at hc
  cases hc
  have run:∀ u,R w (Xs E H β) β u (if b=true then a.eval x else a.eval y)→res = .ok u H→o.wp cx.P a w K Q:=by
   intro u hu hr
   subst hr
   unfold Oper.wp
   simp only [execOp,ho,hev,asBool,Sem.run_bind,Sem.run_pure,Result.andThen_ok]
   exact hk _ w β (Step.refl hR) hu
  obtain ⟨u,hu,rfl⟩:=bind_hold h
  refine run u ?_ rfl
  unfold pickV at hu
  split at hu
  ·rename_i p q hp hq
   simp only [Tree.run,Option.some.injEq] at hu
   subst hu
   have h1:=hrd x
   have h2:=hrd y
   rw [hp] at h1
   rw [hq] at h2
   cases b
   ·simpa using h2
   ·simpa using h1
  ·cases b
   ·simp only [Tree.run,cond_false,Option.some.injEq] at hu
    subst hu
    simpa using hrd y
   ·simp only [Tree.run,cond_true,Option.some.injEq] at hu
    subst hu
    simpa using hrd x
 ·-- alloc
  rename_i e ho
  split at h
  rotate_left
  ·cases h
  rename_i i hi
  simp only [Tree.run,Option.some.injEq] at h
  obtain ⟨w',β',h1,h2,h3⟩:=sound_alloc (P:=cx.P) hR hi
  exact some' (s:=Instr.alloc e true (.tuple #[])) (by simp only [execOp,ho]) ⟨_,w',β',h1,h2,h3⟩ h.symm
 ·-- box
  rename_i e x ho
  split at h
  rotate_left
  ·cases h
  rename_i cs hcs
  simp only [Tree.run,Option.some.injEq] at h
  obtain ⟨w',β',h1,h2,h3⟩:=sound_box (P:=cx.P) (e:=e) hR (hrd x) hcs
  exact some' (s:=Instr.box e (a.eval x)) (by simp only [execOp,ho]) ⟨_,w',β',h1,h2,h3⟩ h.symm
 ·-- build
  rename_i ty parts ho
  obtain ⟨u,hu,rfl⟩:=holdO_run h
  refine same (s:=Instr.build ty (parts.map fun (i,x)=>(i,a.eval x))) (by simp only [execOp,ho]) (sound_build (by simp) ?_ hu) rfl
  have:=pieces_get (a:=a) (l:=parts.toList) hrd
  simpa using this
 ·-- buildSlice
  rename_i ty len parts ho
  unfold bothO at h
  split at h
  rotate_left
  ·cases h
  rename_i p hp
  obtain ⟨u,H'⟩:=p
  simp only [Tree.run,Option.some.injEq] at h
  refine some' (s:=Instr.buildSlice ty len (parts.map fun (i,x)=>(i,a.eval x))) (by simp only [execOp,ho]) (sound_buildSlice hE.1 hR (by simp) ?_ hp) h.symm
  have:=pieces_get (a:=a) (l:=parts.toList) hrd
  simpa using this
 ·-- load
  rename_i ty x ho
  cases hz:isLz cx.lz x
  ·rw [hz,cond_false] at h
   obtain ⟨u,hu,rfl⟩:=holdO_run h
   exact same (s:=Instr.loadAt ty (a.eval x)) (by simp only [execOp,ho]) (sound_load hR (hrg x) hu) rfl
  ·rw [hz,cond_true] at h
   obtain ⟨u,hu,rfl⟩:=bind_hold h
   exact same (s:=Instr.loadAt ty (a.eval x)) (by simp only [execOp,ho]) (sound_loadZ hR (hrd x) hu) rfl
 ·-- store
  rename_i ty x v ho
  have hs:∃ H',res = .ok .any H' ∧ ∃ w',(Instr.storeAt ty (a.eval x) (a.eval v)).run cx.P w = .ok () w' ∧ Step E H β w H' β w' := by
   cases hz:isLz cx.lz x
   ·rw [hz,cond_false] at h
    split at h
    rotate_left
    ·cases h
    rename_i H' hH
    simp only [Tree.run,Option.some.injEq] at h
    exact ⟨H',h.symm,sound_store (P:=cx.P) hR (hrd x) (hrd v) hH⟩
   ·rw [hz,cond_true] at h
    obtain ⟨H',hH,h⟩:=bind_run h
    simp only [Tree.run,Option.some.injEq] at h
    exact ⟨H',h.symm,sound_storeZ (P:=cx.P) hR (hrd x) (hrd v) hH⟩
  obtain ⟨H',rfl,w',h1,h2⟩:=hs
  exact wp_unit (s:=Instr.storeAt ty (a.eval x) (a.eval v)) (by simp only [execOp,ho]) h1 (hk undef w' β h2 (.any _ _))
 ·-- nilCheck
  rename_i x ho
  have run:∀ u b o',a.eval x = .pointer (some ⟨b,o',none⟩)→R w (Xs E H β) β u (a.eval x)→res = .ok u H→o.wp cx.P a w K Q:=by
   intro u b o' he hu hr
   subst hr
   unfold Oper.wp
   simp only [execOp,ho,he,Sem.run_pure]
   rw [he] at hu
   exact hk _ w β (Step.refl hR) hu
  have hx:=hrd x
  split at h
  ·rename_i id off hv
   simp only [hold,Tree.run,Option.some.injEq] at h
   rw [hv] at hx
   generalize he:a.eval x=xv at hx run
   have hx' := hx
   cases hx
   exact run _ _ _ rfl hx' h.symm
  ·rename_i cells hv
   simp only [hold,Tree.run,Option.some.injEq] at h
   rw [hv] at hx
   generalize he:a.eval x=xv at hx run
   have hx' := hx
   cases hx
   exact run _ _ _ rfl hx' h.symm
  ·cases h
 ·-- binOp
  rename_i op ty x y _ ho
  obtain ⟨u,hu,rfl⟩:=bind_hold h
  cases hnil:isNilC y
  ·rw [hnil,cond_false] at hu
   exact same (s:=bin op ty x y (a.eval x) (a.eval y)) (by simp only [execOp,ho,bin]) (sound_bin (hrd x) (hrd y) hu) rfl
  ·rw [hnil,cond_true] at hu
   have hy:y = .const .nilIface:=by
    unfold isNilC at hnil
    split at hnil
    ·rfl
    ·cases hnil
   subst hy
   exact same (s:=bin op ty x (.const .nilIface) (a.eval x) .nilIface) (by simp only [execOp,ho,bin]; rfl) (sound_nil (hrd x) hu) rfl
 ·-- unOp
  rename_i op _ x ho
  obtain ⟨u,hu,rfl⟩:=holdO_run h
  exact same (s:=Op.unary op (a.eval x)) (by simp only [execOp,ho]) (sound_un (hrd x) hu) rfl
 ·-- convert
  rename_i src dst x ho
  cases hss:isStrSl cx.P src dst
  ·rw [hss,cond_false] at h
   obtain ⟨u,hu,rfl⟩:=bind_hold h
   exact same (s:=convert src dst (a.eval x)) (by simp only [execOp,ho]) (sound_convert hR (hrd x) (convT_run hu)) rfl
  ·rw [hss,cond_true] at h
   obtain ⟨u,hu,rfl⟩:=holdO_run h
   obtain ⟨z,w',h1,h2,h3⟩:=sound_strBytes hE.1 hR (hrd x) hss hu
   exact some' (s:=convert src dst (a.eval x)) (by simp only [execOp,ho]) ⟨z,w',β,h1,h2,h3⟩ rfl
 ·-- makeFunc
  rename_i fn first captured ho
  simp only [hold,Tree.run,Option.some.injEq] at h
  refine same (s:=Instr.makeFunc fn (first.map a.eval) (captured.map a.eval)) (by simp only [execOp,ho]) ⟨.func fn (first.toList.map a.eval).toArray (captured.toList.map a.eval).toArray,?_,?_⟩ h.symm
  ·have e1:(first.toList.map a.eval).toArray=first.map a.eval:=by apply Array.ext'; simp
   have e2:(captured.toList.map a.eval).toArray=captured.map a.eval:=by apply Array.ext'; simp
   rw [e1,e2]; rfl
  ·have get:∀ (l:List Operand) (k:Nat) (v:V) (x:Value),(l.map (rd t))[k]? = some v→(l.map a.eval)[k]? = some x→R w (Xs E H β) β v x:=by
    intro l k v x h1 h2
    simp only [List.getElem?_map,Option.map_eq_some_iff] at h1 h2
    obtain ⟨u,hu,rfl⟩:=h1
    obtain ⟨u',hu',rfl⟩:=h2
    rw [hu] at hu'
    simp only [Option.some.injEq] at hu'
    subst hu'
    exact hrd u
   exact .clo β fn _ _ _ _ (by simp) (by simp) (get _) (get _)
 ·-- makeSlice
  rename_i ty l c ho
  cases hpg:dstIn o cx.lz
  ·rw [hpg,cond_false] at h
   obtain ⟨u,H',hu,rfl⟩:=bind_both h
   exact some' (s:=Instr.makeSlice ty (a.eval l) (a.eval c)) (by simp only [execOp,ho]) (sound_makeSlice hE.1 hR (hrd l) (hrd c) hu) rfl
  ·rw [hpg,cond_true] at h
   obtain ⟨u,H',hu,rfl⟩:=bind_both h
   exact some' (s:=Instr.makeSlice ty (a.eval l) (a.eval c)) (by simp only [execOp,ho]) (sound_makePage hR (hrd l) (hrd c) hu) rfl
 ·-- slice
  rename_i ty x lo hi ho
  obtain ⟨u,hu,rfl⟩:=bind_hold h
  exact same (s:=Instr.sliceAt ty (a.eval x) (lo.map a.eval) (hi.map a.eval) none) (by simp only [execOp,ho,Option.map_none]) (sound_slice hR (hrd x) (optR_map hrd lo) (optR_map hrd hi) hu) rfl
 ·-- fieldAddr
  rename_i ty x f ho
  obtain ⟨u,hu,rfl⟩:=holdO_run h
  exact same (s:=Instr.fieldAt ty (a.eval x) f) (by simp only [execOp,ho]) (sound_fieldAddr (hrd x) hu) rfl
 ·-- field
  rename_i ty x f ho
  obtain ⟨u,hu,rfl⟩:=holdO_run h
  exact same (s:=Instr.field ty (a.eval x) f) (by simp only [execOp,ho]) (sound_field (hrd x) hu) rfl
 ·-- indexAddr
  rename_i ty x i ho
  obtain ⟨u,hu,rfl⟩:=bind_hold h
  exact same (s:=Instr.indexAt ty (a.eval x) (a.eval i)) (by simp only [execOp,ho]) (sound_indexAddr (hrg x) (hrd i) hu) rfl
 ·-- index
  rename_i ty x i ho
  obtain ⟨u,hu,rfl⟩:=bind_hold h
  exact same (s:=Instr.index ty (a.eval x) (a.eval i)) (by simp only [execOp,ho]) (sound_index (hrd x) (hrd i) hu) rfl
 ·-- extract
  rename_i x i ho
  split at h
  rotate_left
  ·cases h
  rename_i vs hvs
  obtain ⟨u,hu,rfl⟩:=holdO_run h
  have hx:=hrd x
  rw [hvs] at hx
  generalize he:a.eval x=xv at hx
  cases hx with
  | tup _ _ xs hl hr =>
   have hi:i<xs.length:=by rw [hl]; exact (List.getElem?_eq_some_iff.1 hu).1
   exact same (s:=Instr.extract (a.eval x) i) (by simp only [execOp,ho]) ⟨xs[i],by rw [he]; simp [Instr.extract,hi],hr i u _ hu (by simp [hi])⟩ rfl
 ·-- makeInterface
  rename_i ty x ho
  split at h
  ·cases h
  ·rename_i d hu hd
   simp only [hold,Tree.run,Option.some.injEq] at h
   refine same (s:=Instr.makeInterface ty (a.eval x)) (by simp only [execOp,ho]) ⟨.iface ty (a.eval x),?_,.ifc β ty _ _ (hrd x)⟩ h.symm
   simp only [Instr.makeInterface,Sem.run_bind,run_und w hd,Result.andThen_ok]
   cases d <;> first | rfl | (exfalso; simp_all)
  ·cases h
 ·-- typeAssert
  rename_i x ty' as ok ho
  split at h
  ·cases h
  ·rename_i ty v d hd hv hu
   cases hb:Nat.beq ty as
   ·rw [hb] at h; cases h
   rw [hb] at h
   simp only [cond_true,hold,Tree.run,Option.some.injEq] at h
   have hb:=Nat.eq_of_beq_eq_true hb
   subst hb
   have hx:=hrd x
   rw [hv] at hx
   generalize hev:a.eval x=xv at hx
   cases hx with
   | ifc _ _ _ z hz =>
    refine same (s:=Instr.typeAssert (a.eval x) ty' ty ok) (by simp only [execOp,ho]) ⟨if ok then .tuple #[z,.bool true] else z,?_,?_⟩ h.symm
    ·rw [hev]
     simp only [Instr.typeAssert,Sem.run_bind,run_und w hu,Result.andThen_ok]
     cases d <;> first | (exfalso; simp_all; done) | (simp; done)
    ·cases ok
     ·exact hz
     ·exact .tup β _ [z,.bool true] rfl (fun k v x h1 h2=>by
       match k with
       | 0=>simp only [List.getElem?_cons_zero,Option.some.injEq] at h1 h2; subst h1; subst h2; exact hz
       | 1=>simp only [List.getElem?_cons_succ,List.getElem?_cons_zero,Option.some.injEq] at h1 h2; subst h1; subst h2; exact .bool _ _
       | k+2=>simp at h1)
  ·cases h
 ·-- panic
  rename_i x ho
  split at h
  rotate_left
  ·cases h
  rename_i ty v hv
  simp only [Tree.run,Option.some.injEq] at h
  subst h
  have hx:=hrd x
  rw [hv] at hx
  generalize hev:a.eval x=xv at hx
  have hx' := hx
  cases hx
  unfold Oper.wp
  simp only [execOp,ho,hev]
  exact hk _ w β (Step.refl hR) hx'
 ·-- makeMap
  rename_i ty ho
  simp only [Tree.run,Option.some.injEq] at h
  exact some' (s:=Instr.makeMap ty none) (by simp only [execOp,ho]; rfl) (sound_makeMap hR ty) h.symm
 ·-- lookup
  rename_i ty x i ok ho
  obtain ⟨u,hu,rfl⟩:=bind_hold h
  exact same (s:=Instr.lookup ty (a.eval x) (a.eval i) ok) (by simp only [execOp,ho]) (sound_lookup hR (hrd x) (hrd i) hu) rfl
 ·-- mapUpdate
  rename_i ty m k x ho
  obtain ⟨H',h1,h2⟩:=bind_run h
  simp only [Tree.run,Option.some.injEq] at h2
  subst h2
  obtain ⟨w',β',g1,g2⟩:=sound_mapUpdate hR (hrd m) (hrd k) (hrd x) h1
  exact wp_unit (s:=Instr.mapUpdate ty (a.eval m) (a.eval k) (a.eval x)) (by simp only [execOp,ho]) g1 (hk _ w' β' g2 (.any _ _))
 ·-- range
  rename_i ty x ho
  obtain ⟨u,H',rfl,z,w',β',g1,g2,g3⟩:=sound_range hR (hrd x) h
  exact some' (s:=Instr.range ty (a.eval x)) (by simp only [execOp,ho]) ⟨z,w',β',g1,g2,g3⟩ rfl
 ·-- next
  rename_i it isString ho
  cases isString
  ·cases h
  rw [cond_true] at h
  obtain ⟨u,H',rfl,z,w',β',g1,g2,g3⟩:=sound_next (ty:=o.type) hR (hrd it) h
  exact some' (s:=Instr.next (a.eval it) true o.type) (by simp only [execOp,ho]) ⟨z,w',β',g1,g2,g3⟩ rfl
 ·-- builtin
  rename_i b args argTypes ho
  have he:execOp a.eval o=(builtin b argTypes o.type (args.map fun | .const _=>true | _=>false) (args.map a.eval)):=by
   simp only [execOp,ho,resolve,invoke]
   rfl
  have val:∀ {s:Sem Value} {u:V} {H' : List O},builtin b argTypes o.type (args.map fun | .const _=>true | _=>false) (args.map a.eval)=(do pure (Next.value (← s))) →
    (∃ z w' β',s.run cx.P w = .ok z w' ∧ Step E H β w H' β' w' ∧ R w' (Xs E H' β') β' u z)→res = .ok u H' → o.wp cx.P a w K Q:=by
   intro s u H' hb
   exact some' (he.trans hb)
  have two:∀ x y,args.toList=[x,y]→args.map a.eval = #[a.eval x,a.eval y]:=by
   intro x y h; apply Array.ext'; simp [h]
  have one:∀ x,args.toList=[x]→args.map a.eval = #[a.eval x]:=by
   intro x h; apply Array.ext'; simp [h]
  cases hap:appR cx o b
  rotate_left
  ·rw [hap,cond_true] at h
   have hbb:b = .append:=by
    unfold appR at hap
    split at hap
    ·rfl
    ·cases hap
   subst hbb
   unfold appB at h
   split at h
   rotate_left
   ·cases h
   rename_i s x hargs
   obtain ⟨x1,x2,hl,rfl,rfl⟩:∃ x1 x2,args.toList=[x1,x2]∧s=rd t x1∧x=rd t x2:=by
    rcases hl:args.toList with _ | ⟨x1,_ | ⟨x2,_ | ⟨_,_⟩⟩⟩ <;> simp [hl] at hargs
    exact ⟨x1,x2,rfl,hargs.1.symm,hargs.2.symm⟩
   unfold bothO at h
   split at h
   rotate_left
   ·cases h
   rename_i p hp
   obtain ⟨u,H'⟩:=p
   simp only [Tree.run,Option.some.injEq] at h
   exact val (s:=Builtin.append_ argTypes o.type (args.map a.eval)) rfl (by rw [two _ _ hl]; exact sound_appendR hR (hrd x1) (hrd x2) hp) h.symm
  rw [hap,cond_false] at h
  unfold oBuiltin at h
  split at h
  ·rename_i s x hargs
   obtain ⟨x1,x2,hl,rfl,rfl⟩:∃ x1 x2,args.toList=[x1,x2]∧s=rd t x1∧x=rd t x2:=by
    rcases hl:args.toList with _ | ⟨x1,_ | ⟨x2,_ | ⟨_,_⟩⟩⟩ <;> simp [hl] at hargs
    exact ⟨x1,x2,rfl,hargs.1.symm,hargs.2.symm⟩
   obtain ⟨u,H',hu,rfl⟩:=bind_both h
   exact val (s:=Builtin.append_ argTypes o.type (args.map a.eval)) rfl (by rw [two _ _ hl]; exact sound_append hE.1 hR (hrd x1) (hrd x2) hu) rfl
  ·rename_i x hargs
   obtain ⟨x1,hl,rfl⟩:∃ x1,args.toList=[x1]∧x=rd t x1:=by
    rcases hl:args.toList with _ | ⟨x1,_ | ⟨_,_⟩⟩ <;> simp [hl] at hargs
    exact ⟨x1,rfl,hargs.symm⟩
   obtain ⟨u,hu,rfl⟩:=holdO_run h
   obtain ⟨z,h1,h2⟩:=sound_lenM (ty:=o.type) hR (hrd x1) hu
   exact val (s:=Builtin.len_ argTypes o.type (args.map a.eval)) rfl ⟨z,w,β,by rw [one _ hl]; exact h1,Step.refl hR,h2⟩ rfl
  ·rename_i x hargs
   obtain ⟨x1,hl,rfl⟩:∃ x1,args.toList=[x1]∧x=rd t x1:=by
    rcases hl:args.toList with _ | ⟨x1,_ | ⟨_,_⟩⟩ <;> simp [hl] at hargs
    exact ⟨x1,rfl,hargs.symm⟩
   obtain ⟨u,hu,rfl⟩:=holdO_run h
   obtain ⟨z,h1,h2⟩:=sound_cap (ty:=o.type) hR (hrd x1) hu
   exact val (s:=Builtin.cap_ argTypes o.type (args.map a.eval)) rfl ⟨z,w,β,by rw [one _ hl]; exact h1,Step.refl hR,h2⟩ rfl
  ·rename_i s x hargs
   obtain ⟨x1,x2,hl,rfl,rfl⟩:∃ x1 x2,args.toList=[x1,x2]∧s=rd t x1∧x=rd t x2:=by
    rcases hl:args.toList with _ | ⟨x1,_ | ⟨x2,_ | ⟨_,_⟩⟩⟩ <;> simp [hl] at hargs
    exact ⟨x1,x2,rfl,hargs.1.symm,hargs.2.symm⟩
   obtain ⟨u,hu,rfl⟩:=holdO_run h
   obtain ⟨z,h1,h2⟩:=sound_max (argTypes:=argTypes) (ty:=o.type) (hrd x1) (hrd x2) hu
   exact val (s:=Builtin.max_ argTypes o.type (args.map a.eval)) rfl ⟨z,w,β,by rw [two _ _ hl]; exact h1,Step.refl hR,h2⟩ rfl
  ·rename_i s x hargs
   obtain ⟨x1,x2,hl,rfl,rfl⟩:∃ x1 x2,args.toList=[x1,x2]∧s=rd t x1∧x=rd t x2:=by
    rcases hl:args.toList with _ | ⟨x1,_ | ⟨x2,_ | ⟨_,_⟩⟩⟩ <;> simp [hl] at hargs
    exact ⟨x1,x2,rfl,hargs.1.symm,hargs.2.symm⟩
   obtain ⟨u,hu,rfl⟩:=holdO_run h
   obtain ⟨z,h1,h2⟩:=sound_min (argTypes:=argTypes) (ty:=o.type) (hrd x1) (hrd x2) hu
   exact val (s:=Builtin.min_ argTypes o.type (args.map a.eval)) rfl ⟨z,w,β,by rw [two _ _ hl]; exact h1,Step.refl hR,h2⟩ rfl
  ·rename_i ty v hargs
   obtain ⟨x1,hl,hv⟩:∃ x1,args.toList=[x1]∧rd t x1 = .ifc ty v:=by
    rcases hl:args.toList with _ | ⟨x1,_ | ⟨_,_⟩⟩ <;> simp [hl] at hargs
    exact ⟨x1,rfl,hargs⟩
   simp only [Tree.run,Option.some.injEq] at h
   subst h
   have hx:=hrd x1
   rw [hv] at hx
   generalize hev:a.eval x1=xv at hx
   have hx' := hx
   cases hx
   unfold Oper.wp
   rw [he]
   simp only [builtin,one _ hl,hev]
   exact hk _ w β (Step.refl hR) hx'
  ·cases h
 ·-- call
  rename_i f args argTypes ho
  exact sound_call rfl hT.1 hT.2.1 hT.2.2.1 hE hR hF ho rfl h hk
 ·cases h
end
end Go.Ab

namespace Go.Ab
def Tree.all {β:Type} (Q:β→Prop):Tree β→Prop
 | .leaf b=>Q b
 | .fail=>False
 | .br c x y=>(c=true→x.all Q)∧(c=false→y.all Q)
theorem Tree.all_run {β:Type} {Q:β→Prop} {x:Tree β} (h:x.all Q):∃ b,x.run=some b∧Q b:=by
 induction x with
 | leaf b=>exact ⟨b,rfl,h⟩
 | fail=>exact h.elim
 | br c x y ihx ihy =>
  cases c
  ·exact ihy (h.2 rfl)
  ·exact ihx (h.1 rfl)
theorem Tree.run_all {β:Type} {Q:β→Prop} {x:Tree β} {b:β} (h:x.run=some b) (hq:Q b):x.all Q:=by
 induction x with
 | leaf c=>simp only [Tree.run,Option.some.injEq] at h; subst h; exact hq
 | fail=>cases h
 | br c x y ihx ihy =>
  refine ⟨fun hc=>?_,fun hc=>?_⟩
  ·subst hc; exact ihx h
  ·subst hc; exact ihy h
structure Good (E:Nat→Nat→Prop) (H0:List O) (β0:List Loc) (w0:World) (n:Nat) (D:List Deferred) (t:T) (H:List O) (β:List Loc) (a:Act) (w:World):Prop where
 step:Step E H0 β0 w0 H β w
 fr:FR w (Xs E H β) β n t a
 defers:a.defers=D
def Post (E:Nat→Nat→Prop) (H0:List O) (β0:List Loc) (w0:World) (n:Nat) (D:List Deferred) (Q:AEx→T→List O→Prop):Exit→Act→World→Prop
 | .normal,a,w=>∃ t H β,Q .normal t H∧Good E H0 β0 w0 n D t H β a w
 | .exit id,a,w=>∃ t H β,Q (.exit id) t H∧Good E H0 β0 w0 n D t H β a w
 | .ret,a,w=>∃ t H β,Q .ret t H∧Good E H0 β0 w0 n D t H β a w
 | .panic chain,a,w=>∃ t H β v x,Q (.panic v) t H∧Good E H0 β0 w0 n D t H β a w∧R w (Xs E H β) β v x∧chain=[{ v:=x,recovered:=false }]
 | _,_,_=>False
def AWP (P:Program) (n:Nat) (c:Code) (Q:AEx→T→List O→Prop) (t:T) (H:List O):Prop:=
 ∀ E H0 β0 w0 D β a w,StartOk P E H0 β0 w0→Good E H0 β0 w0 n D t H β a w→c.wp P (Post E H0 β0 w0 n D Q) a w
theorem StartOk.now {P:Program} {E H0 β0 w0 H β w} (h:StartOk P E H0 β0 w0) (s:Step E H0 β0 w0 H β w):StartOk P E H β w:=by
 refine ⟨fun b o hb=>?_,fun p hp=>(h.2 p hp).stab s.stab [] (.refl _)⟩
 obtain ⟨h1,h2⟩:=h.1 b o hb
 refine ⟨Nat.lt_of_lt_of_le h1 s.size,fun ho=>?_⟩
 rcases s.own b o ho with h | h
 ·exact h2 h
 ·omega
section
variable {P:Program} {n:Nat} {Q Q' : AEx→T→List O→Prop} {t:T} {H:List O}
theorem Post.mono {E H0 β0 w0 D} (h:∀ e t H,Q e t H→Q' e t H) {e:Exit} {a:Act} {w:World} (hp:Post E H0 β0 w0 n D Q e a w):Post E H0 β0 w0 n D Q' e a w:=by
 cases e with
 | normal=>obtain ⟨t,H,β,h1,h2⟩:=hp; exact ⟨t,H,β,h _ _ _ h1,h2⟩
 | exit id=>obtain ⟨t,H,β,h1,h2⟩:=hp; exact ⟨t,H,β,h _ _ _ h1,h2⟩
 | ret=>obtain ⟨t,H,β,h1,h2⟩:=hp; exact ⟨t,H,β,h _ _ _ h1,h2⟩
 | panic ch=>obtain ⟨t,H,β,v,x,h1,h2⟩:=hp; exact ⟨t,H,β,v,x,h _ _ _ h1,h2⟩
 | goto l=>exact hp.elim
 | outgrown=>exact hp.elim
theorem AWP.mono {c:Code} (h:AWP P n c Q t H) (hq:∀ e t H,Q e t H→Q' e t H):AWP P n c Q' t H:=
 fun E H0 β0 w0 D β a w hs hg=>wp_mono (h E H0 β0 w0 D β a w hs hg) fun _ _ _ hp=>Post.mono hq hp
theorem AWP_skip (h:Q .normal t H):AWP P n .skip Q t H:=fun _ _ _ _ _ β _ _ _ hg=>wp_skip ⟨t,H,β,h,hg⟩
theorem AWP_ret (h:Q .ret t H):AWP P n .ret Q t H:=fun _ _ _ _ _ β _ _ _ hg=>wp_ret ⟨t,H,β,h,hg⟩
theorem AWP_exit {id:Nat} (h:Q (.exit id) t H):AWP P n (.exit id) Q t H:=fun _ _ _ _ _ β _ _ _ hg=>wp_exit ⟨t,H,β,h,hg⟩
def seqQ (K:T→List O→Prop) (Q:AEx→T→List O→Prop):AEx→T→List O→Prop
 | .normal,t,H=>K t H
 | e,t,H=>Q e t H
theorem AWP_seq {x y:Code} (h:AWP P n x (seqQ (AWP P n y Q) Q) t H):AWP P n (.seq x y) Q t H:=by
 intro E H0 β0 w0 D β a w hs hg
 refine wp_seq (wp_mono (h E H0 β0 w0 D β a w hs hg) ?_)
 intro e a' w' hp
 cases e with
 | normal=>obtain ⟨t',H',β',h1,h2⟩:=hp; exact h1 E H0 β0 w0 D β' a' w' hs h2
 | exit id=>exact hp
 | ret=>exact hp
 | panic ch=>exact hp
 | goto l=>exact hp.elim
 | outgrown=>exact hp.elim
def blockQ (id:Nat) (Q:AEx→T→List O→Prop):AEx→T→List O→Prop
 | .exit j,t,H=>if j=id then Q .normal t H else Q (.exit j) t H
 | e,t,H=>Q e t H
theorem AWP_block {id:Nat} {c:Code} (h:AWP P n c (blockQ id Q) t H):AWP P n (.block id c) Q t H:=by
 intro E H0 β0 w0 D β a w hs hg
 refine wp_block (wp_mono (h E H0 β0 w0 D β a w hs hg) ?_)
 intro e a' w' hp
 cases e with
 | normal=>exact hp
 | exit j =>
  obtain ⟨t',H',β',h1,h2⟩:=hp
  simp only [Exit.inBlock]
  simp only [blockQ] at h1
  by_cases hj:j=id
  ·simp only [hj,if_true] at h1 ⊢; exact ⟨t',H',β',h1,h2⟩
  ·simp only [hj,if_false] at h1 ⊢; exact ⟨t',H',β',h1,h2⟩
 | ret=>exact hp
 | panic ch=>exact hp
 | goto l=>exact hp.elim
 | outgrown=>exact hp.elim
theorem put_true {β:List Loc} {w:World} {X:Nat→Nat→Prop} {a:Act} {d:Nat} {b:Bool} (h:FR w X β n t a) (hb:get d t = .bool b):FR w X β n (put d (.bool b) t) a:=by
 refine ⟨h.size,fun e=>?_⟩
 rw [get_put]
 split
 ·rename_i he
  subst he
  rw [← hb]; exact h.slot e
 ·exact h.slot e
theorem AWP_cond {d:Nat} {x y:Code} {b:Bool} (hc:get d t = .bool b) (ht:b=true→AWP P n x Q (put d (.bool true) t) H) (hf:b=false→AWP P n y Q (put d (.bool false) t) H) :
  AWP P n (.cond (.tmp d) x y) Q t H:=by
 intro E H0 β0 w0 D β a w hs hg
 have hx:=rd_R hg.fr (.tmp d)
 simp only [rd,hc] at hx
 generalize he:a.eval (.tmp d)=v at hx
 cases hx
 have hg' : Good E H0 β0 w0 n D (put d (.bool b) t) H β a w:=⟨hg.step,put_true hg.fr hc,hg.defers⟩
 refine wp_cond he ?_
 cases b
 ·exact hf rfl E H0 β0 w0 D β a w hs hg'
 ·exact ht rfl E H0 β0 w0 D β a w hs hg'
theorem AWP_cond' {c:Operand} {x y:Code} {b:Bool} (hc:rd t c = .bool b) (ht:b=true→AWP P n x Q t H) (hf:b=false→AWP P n y Q t H) :
  AWP P n (.cond c x y) Q t H:=by
 intro E H0 β0 w0 D β a w hs hg
 have hx:=rd_R hg.fr c
 rw [hc] at hx
 generalize he:a.eval c=v at hx
 cases hx
 refine wp_cond he ?_
 cases b
 ·exact hf rfl E H0 β0 w0 D β a w hs hg
 ·exact ht rfl E H0 β0 w0 D β a w hs hg
def TLe (t s:T):Prop:=∀ d,get d s=get d t∨get d s = .any
theorem TLe.refl (t:T):TLe t t:=fun _=>.inl rfl
theorem TLe.keep (l:List Nat) (t:T):TLe t (keep l t):=fun d=>get_keep l d t
theorem FR.le {β:List Loc} {w:World} {X:Nat→Nat→Prop} {a:Act} {s:T} (h:FR w X β n t a) (hl:TLe t s):FR w X β n s a:=
 ⟨h.size,fun d=>by rcases hl d with e | e <;> rw [e]; exact h.slot d; exact .any _ _⟩
theorem AWP.less {c:Code} {s:T} (hl:TLe t s) (h:AWP P n c Q s H):AWP P n c Q t H:=
 fun E H0 β0 w0 D β a w hs hg=>h E H0 β0 w0 D β a w hs ⟨hg.step,hg.fr.le hl,hg.defers⟩
theorem AWP_loop {α:Type} (st:α→T × List O) (μ:α→Nat) {body:Code}
  (h:∀ i,AWP P n body (fun e t H=>match e with | .normal=>∃ j,μ j<μ i∧TLe t (st j).1∧H=(st j).2 | e=>Q e t H) (st i).1 (st i).2) (i:α) :
  AWP P n (.loop body) Q (st i).1 (st i).2:=by
 intro E H0 β0 w0 D β a w hs hg b k cs
 have key:∀ m i β a w,μ i=m→Good E H0 β0 w0 n D (st i).1 (st i).2 β a w →
   ∃ e a' w',Post E H0 β0 w0 n D Q e a' w' ∧ Arrives P (lone (b.at a (.code body :: .inLoop body :: k)) cs w) b k cs e a' w' := by
  intro m
  induction m using Nat.strongRecOn with
  | _ m ih =>
   intro i β a w hm hg
   obtain ⟨e,a₁,w₁,hq,harr⟩:=h i E H0 β0 w0 D β a w hs hg b (.inLoop body :: k) cs
   cases e with
   | normal =>
    obtain ⟨t',H',β',⟨j,hlt,hle,rfl⟩,hg'⟩:=hq
    obtain ⟨e₂,a₂,w₂,hq₂,harr₂⟩:=ih (μ j) (hm ▸ hlt) j β' a₁ w₁ rfl ⟨hg'.step,hg'.fr.le hle,hg'.defers⟩
    exact ⟨e₂,a₂,w₂,hq₂,.of_steps (Steps.trans harr (.one step_inLoop)) harr₂⟩
   | exit id=>exact ⟨.exit id,a₁,w₁,hq,.pass (x:=.inLoop body) rfl (fun _ _=>.inl (by simp)) harr⟩
   | ret=>exact ⟨.ret,a₁,w₁,hq,.pass (x:=.inLoop body) rfl (fun _ _=>.inl (by simp)) harr⟩
   | panic ch=>exact ⟨.panic ch,a₁,w₁,hq,.pass (x:=.inLoop body) rfl (fun _ _=>.inl (by simp)) harr⟩
   | goto l=>exact hq.elim
   | outgrown=>exact hq.elim
 obtain ⟨e,a',w',hq,harr⟩:=key _ i β a w rfl hg
 exact ⟨e,a',w',hq,.of_steps (.one step_loop) harr⟩
theorem runs_sound {cx:Cx} (hT:CxOk cx) {ops:Array Oper} {E H0 β0 w0 D} (hs:StartOk cx.P E H0 β0 w0) {Q:AEx→T→List O→Prop} :
  ∀ (l:List Oper) (k:Nat) (t:T) (H:List O) (β:List Loc) (a:Act) (w:World),ops.toList.drop k=l→(druns cx ops l t H).all (fun s=>Q s.1 s.2.1 s.2.2) →
   Good E H0 β0 w0 cx.n D t H β a w→wpOps cx.P ops (Post E H0 β0 w0 cx.n D Q) (List.range' k l.length) a w
 | [],k,t,H,β,a,w,_,h,hg=>⟨keep cx.keeps t,H,β,h,⟨hg.step,hg.fr.keep _,hg.defers⟩⟩
 | o :: r,k,t,H,β,a,w,hl,h,hg=>by
  have hk:ops.toList[k]? = some o:=by
   have:=congrArg (fun l=>l[0]?) hl
   simpa using this
  have hk' : ops[k]? = some o:=by simpa using hk
  have hr:ops.toList.drop (k+1)=r:=by
   have:=congrArg List.tail hl
   simpa [List.tail_drop] using this
  have ih:=runs_sound hT hs (ops:=ops) (Q:=Q) (D:=D) r (k+1)
  simp only [List.length_cons,List.range'_succ,wpOps,hk']
  have put:∀ v x t H β a w,(dputs cx o v t H (druns cx ops r)).all (fun s=>Q s.1 s.2.1 s.2.2)→R w (Xs E H β) β v x→Good E H0 β0 w0 cx.n D t H β a w →
    wpOps cx.P ops (Post E H0 β0 w0 cx.n D Q) (List.range' (k+1) r.length) (a.put o.dst x) w:=by
   intro v x t H β a w hp hv hg
   unfold dputs putO at hp
   cases hd:o.dst with
   | none =>
    simp only [hd] at hp
    simp only [Act.put]
    exact ih t H β a w hr hp hg
   | some d =>
    simp only [hd] at hp
    cases hb:Nat.blt d cx.n
    ·simp [hb,Tree.all] at hp
    ·simp only [hb,cond_true] at hp
     have hlt:d<cx.n:=by simpa [Nat.blt_eq] using hb
     exact ih _ H β _ w hr hp ⟨hg.step,hg.fr.put hlt hv,hg.defers⟩
  have run:∀ t,FR w (Xs E H β) β cx.n t a→((dop cx t H o).bind (dres cx o t (druns cx ops r))).all (fun s=>Q s.1 s.2.1 s.2.2) →
    o.wp cx.P a w (wpOps cx.P ops (Post E H0 β0 w0 cx.n D Q) (List.range' (k+1) r.length)) (Post E H0 β0 w0 cx.n D Q):=by
   intro t hfr hall
   obtain ⟨s,hs1,hs2⟩:=Tree.all_run hall
   obtain ⟨res,hres,hd⟩:=bind_run hs1
   refine dop_sound hT (hs.now hg.step) hg.step.rel hfr hres ?_
   cases res with
   | ok v H' =>
    intro x w' β' st hv
    exact put v x t H' β' a w' (Tree.run_all hd hs2) hv ⟨hg.step.trans st,hfr.step st,hg.defers⟩
   | pan v H' =>
    intro x w' β' st hv
    simp only [dres,Tree.run,Option.some.injEq] at hd
    subst hd
    exact ⟨t,H',β',v,x,hs2,⟨hg.step.trans st,hfr.step st,hg.defers⟩,hv,rfl⟩
  unfold druns dstep at h
  split at h
  ·rename_i hgd
   have hw:Region.wanted o (yielded ops a.tmps)=true:=by simp [Region.wanted,hgd]
   simp only [hw,if_true]
   exact .inl (run t hg.fr h)
  ·rename_i j want hgd
   split at h
   rotate_left
   ·exact h.elim
   rename_i d hd
   have hslot:=hg.fr.slot d
   have hyield:∀ b,a.tmps.getD d undef = .bool b→yielded ops a.tmps j=some b:=by
    intro b hb
    unfold yielded
    rw [hd]
    simp only [Option.bind_some]
    rw [Array.getD_eq_getD_getElem?] at hb
    cases hq:a.tmps[d]? with
    | none=>rw [hq] at hb; simp [undef] at hb
    | some q=>rw [hq] at hb; simp at hb; subst hb; rfl
   split at h
   ·rename_i b hb
    rw [hb] at hslot
    generalize hv:a.tmps.getD d undef=v at hslot
    cases hslot
    have hy:=hyield b hv
    have hfr' := put_true hg.fr hb
    cases b
    ·have h:=h.2 rfl
     cases want
     ·have hw:Region.wanted o (yielded ops a.tmps)=true:=by simp [Region.wanted,hgd,hy]
      simp only [hw,if_true]
      exact .inl (run _ hfr' h)
     ·have hw:Region.wanted o (yielded ops a.tmps)=false:=by simp [Region.wanted,hgd,hy]
      simp only [hw,Bool.false_eq_true,if_false]
      exact put vundef undef _ H β a w h (.val _ _) ⟨hg.step,hfr',hg.defers⟩
    ·have h:=h.1 rfl
     cases want
     ·have hw:Region.wanted o (yielded ops a.tmps)=false:=by simp [Region.wanted,hgd,hy]
      simp only [hw,Bool.false_eq_true,if_false]
      exact put vundef undef _ H β a w h (.val _ _) ⟨hg.step,hfr',hg.defers⟩
     ·have hw:Region.wanted o (yielded ops a.tmps)=true:=by simp [Region.wanted,hgd,hy]
      simp only [hw,if_true]
      exact .inl (run _ hfr' h)
   ·rename_i vs hb
    rw [hb] at hslot
    generalize hv:a.tmps.getD d undef=v at hslot
    cases hslot
    have hy:yielded ops a.tmps j=none:=by
     unfold yielded
     rw [hd]
     simp only [Option.bind_some]
     rw [Array.getD_eq_getD_getElem?] at hv
     cases hq:a.tmps[d]? with
     | none=>rfl
     | some q=>rw [hq] at hv; simp at hv; subst hv; rfl
    have hw:Region.wanted o (yielded ops a.tmps)=false:=by simp [Region.wanted,hgd,hy]
    simp only [hw,Bool.false_eq_true,if_false]
    exact put vundef undef t H β a w h (.val _ _) hg
   ·exact h.elim
theorem AWP_region {cx:Cx} (hP:cx.P=P) (hn:cx.n=n) (hT:CxOk cx) {id:Nat} {ops:Array Oper} (h:(druns cx ops ops.toList t H).all (fun s=>Q s.1 s.2.1 s.2.2)) :
  AWP P n (.region id ops false) Q t H:=by
 intro E H0 β0 w0 D β a w hs hg
 refine wp_region ?_
 subst hP
 subst hn
 have:=runs_sound hT hs (ops:=ops) (Q:=Q) (D:=D) ops.toList 0 t H β a w rfl h hg
 simpa [List.range_eq_range'] using this
end
end Go.Ab

namespace Go.Ab
section
variable {P:Program} {E:Nat→Nat→Prop} {H:List O} {β:List Loc} {w:World} {X:Nat→Nat→Prop}
def resOne (tmps:Array Value):ResultVar→Sem Value
 | .tmp t=>pure (tmps.getD t undef)
 | .cell a t=>do loadVar t (← asAddr (tmps.getD a undef))
theorem results_eq (fn:Func) (tmps:Array Value):results fn tmps=(do let vs ← fn.results.mapM (resOne tmps); pure (if h:vs.size=1 then vs[0] else .tuple vs)):=by
 unfold results
 have:(fun r:ResultVar=>(match r with | .tmp t=>pure (tmps.getD t undef) | .cell a t=>do loadVar t (← asAddr (tmps.getD a undef)):Sem Value))=resOne tmps:=by
  funext r; cases r <;> rfl
 rw [← this]
 rfl
theorem resV_R {n:Nat} {t:T} {a:Act} (hR:Rel w X H β) (hF:FR w X β n t a):∀ (rs:List ResultVar) (vs:List V),resV P H t rs=some vs →
  ∃ ys:List Value,(rs.mapM (resOne a.tmps)).run P w = .ok ys w ∧
   ys.length=vs.length ∧ ∀ (k:Nat) v x,vs[k]? = some v→ys[k]? = some x→R w X β v x
 | [],vs,h=>by
  simp only [resV,Option.some.injEq] at h
  subst h
  exact ⟨[],by simp,rfl,by simp⟩
 | .tmp i :: rs,vs,h=>by
  simp only [resV] at h
  obtain ⟨us,hu,rfl⟩:=Option.map_eq_some_iff.1 h
  obtain ⟨ys,h1,h2,h3⟩:=resV_R hR hF rs us hu
  refine ⟨a.tmps.getD i undef :: ys,by simp [List.mapM_cons,resOne,h1],by simp [h2],?_⟩
  intro k v x hv hx
  cases k with
  | zero=>simp only [List.getElem?_cons_zero,Option.some.injEq] at hv hx; subst hv; subst hx; exact hF.slot i
  | succ k=>exact h3 k v x (by simpa using hv) (by simpa using hx)
 | .cell b ty :: rs,vs,h=>by
  unfold resV at h
  split at h
  rotate_left
  ·cases h
  rename_i u us hl hu
  simp only [Option.some.injEq] at h
  subst h
  obtain ⟨ys,h1,h2,h3⟩:=resV_R hR hF rs us hu
  obtain ⟨bl,o,z,hz,hrun,hr⟩:=sound_loadVar (P:=P) hR (hF.slot b) hl
  refine ⟨z :: ys,?_,by simp [h2],?_⟩
  ·simp only [List.mapM_cons,resOne,Sem.run_bind,hz,asAddr,Sem.run_pure,Result.andThen_ok,hrun,h1]
  ·intro k v x hv hx
   cases k with
   | zero=>simp only [List.getElem?_cons_zero,Option.some.injEq] at hv hx; subst hv; subst hx; exact hr
   | succ k=>exact h3 k v x (by simpa using hv) (by simpa using hx)
theorem answer_R {n:Nat} {t:T} {a:Act} {fn:Func} {out:V} (hR:Rel w X H β) (hF:FR w X β n t a) (h:answerV P fn.results.toList H t=some out) :
  ∃ y,(results fn a.tmps).run P w = .ok y w∧R w X [] out y:=by
 unfold answerV at h
 have key:∀ ds,(resV P H t fn.results.toList).bind V.pures? = some ds → ∃ ys:List Value,(results fn a.tmps).run P w = .ok (if hh:ys.length=1 then ys[0] else .tuple ys.toArray) w ∧
   ys.length=ds.length ∧ ∀ (k:Nat) v x,ds[k]? = some v→ys[k]? = some x→R w X [] v x:=by
  intro ds hds
  obtain ⟨vs,hvs,hp⟩:=Option.bind_eq_some_iff.1 hds
  obtain ⟨ys,h1,h2,h3⟩:=resV_R hR hF fn.results.toList vs hvs
  obtain ⟨p1,p2⟩:=pures_get hp
  refine ⟨ys,?_,by omega,fun k v x hv hx=>?_⟩
  ·rw [results_eq]
   simp only [Array.mapM_eq_mapM_toList,Sem.run_bind,Sem.run_map]
   rw [h1]
   simp
  ·obtain ⟨u,hu,hu'⟩:=p2 k v hv
   exact pure_R (h3 k u x hu hx) v hu'
 split at h
 ·rename_i v hv
  simp only [Option.some.injEq] at h
  subst h
  obtain ⟨ys,h1,h2,h3⟩:=key _ hv
  have hl:ys.length=1:=h2
  refine ⟨ys[0],by rw [h1,dif_pos hl],h3 0 v _ rfl (by simp [hl])⟩
 ·rename_i vs hne hv
  simp only [Option.some.injEq] at h
  subst h
  obtain ⟨ys,h1,h2,h3⟩:=key _ hv
  have hl:¬ ys.length=1:=fun e=>by
   rw [e] at h2
   match vs,h2 with
   | [v],_=>exact hne v rfl
  exact ⟨.tuple ys.toArray,by rw [h1,dif_neg hl],.tup [] vs ys h2 h3⟩
 ·cases h
theorem get_initT:∀ (args:List V) (i d:Nat),get d (initT i args)=if d<i then .any else (args[d - i]?).getD .any
 | [],i,d=>by simp [initT,get]
 | v :: r,i,d=>by
  simp only [initT,get]
  by_cases h:d=i
  ·subst h; simp
  ·rw [nbeq_ne h,cond_false,get_initT r (i+1) d]
   by_cases h1:d<i
   ·simp [h1,Nat.lt_succ_of_lt h1]
   ·have:¬ d<i+1:=by omega
    simp only [h1,this,if_false]
    rw [show d - i=(d - (i+1))+1 from by omega,List.getElem?_cons_succ]
theorem pcall_of {f : Nat} {fn : Func} {c : Code} {args : List V} {out : V} (hf : P.funcs[f]? = some fn) (hb : fn.body = some c) (hname : fn.name ≠ "runtime.NumGoroutine")
  (hn:args.length≤fn.ntmps) (h:AWP P fn.ntmps c (fun e t H=>(e = .ret∨e = .normal)∧answerV P fn.results.toList H t=some out) (initT 0 args) []):PCall P f args out:=by
 refine ⟨⟨fn,hf,hname,by simp [hb]⟩,?_⟩
 intro w E rargs hE hlen hargs
 refine calls_of_wp hf hb ?_
 have hX0:∀ v x,R w E [] v x→R w (Xs E [] []) [] v x:=fun v x h=>h.stab ⟨fun b o v h1 h2=>⟨fun h=>h.elim h1 (own_nil b o),h2⟩,fun b cs e h=>⟨cs,e,h⟩⟩ [] (.refl _)
 have hg:Good E [] [] w fn.ntmps [] (initT 0 args) [] [] { tmps:=rargs.toArray++Array.replicate (fn.ntmps - rargs.toArray.size) undef,defers:=[] } w:=by
  have hX:∀ v x,R w E [] v x→R w (Xs E [] []) [] v x:=fun v x h=>h.stab ⟨fun b o v h1 h2=>⟨fun h=>h.elim h1 (own_nil b o),h2⟩,fun b cs e h=>⟨cs,e,h⟩⟩ [] (.refl _)
  refine ⟨Step.refl (rel_nil _ _),⟨by simp; omega,fun d=>?_⟩,rfl⟩
  rw [get_initT]
  simp only [Nat.not_lt_zero,if_false,Nat.sub_zero]
  cases hd:args[d]? with
  | none=>exact .any _ _
  | some v =>
   have hlt:d<rargs.length:=by rw [hlen]; exact (List.getElem?_eq_some_iff.1 hd).1
   have:=hargs d v rargs[d] hd (by simp [hlt])
   simp only [Option.getD_some]
   have e:(rargs.toArray++Array.replicate (fn.ntmps - rargs.toArray.size) undef).getD d undef=rargs[d]:=by
    rw [Array.getD_eq_getD_getElem?,Array.getElem?_append_left (by simpa using hlt)]
    simp [hlt]
   rw [e]
   exact hX _ _ this
 have:=h E [] [] w [] [] _ w ⟨fun b o hb=>⟨hE.1 b o hb,own_nil b o⟩,fun p hp=>hX0 _ _ (hE.2 p hp)⟩ hg
 refine wp_mono this ?_
 intro e a w' hp
 have fin:∀ t H β ex,(ex=AEx.ret∨ex=AEx.normal)∧answerV P fn.results.toList H t=some out→Good E [] [] w fn.ntmps [] t H β a w' →
   a.defers=[] ∧ ∃ v,(results fn a.tmps).run P w' = .ok v w' ∧ (∃ y,Ending.returned v = .returned y∧Step E [] [] w [] [] w' ∧ R w' E [] out y):=by
  intro t H β ex hq hg
  obtain ⟨y,h1,h2⟩:=answer_R hg.step.rel hg.fr hq.2
  refine ⟨hg.defers,y,h1,y,rfl,?_,?_⟩
  ·exact ⟨rel_nil _ _,hg.step.os,hg.step.tape,hg.step.output,hg.step.size,fun b hb=>by
    rcases hg.step.pres b hb with h | ⟨⟨o,h⟩,_⟩ | ⟨⟨o,h⟩,_⟩
    ·exact .inl h
    ·exact absurd h (own_nil b o)
    ·exact absurd h (own_nil b o),fun b o h=>absurd h (own_nil b o),.nil _⟩
  ·exact h2.stab ⟨fun b o v h1 h2=>⟨fun h=>h1 (.inl h),h2⟩,fun b cs e h=>⟨cs,e,h⟩⟩ [] (.refl _)
 cases e with
 | normal=>obtain ⟨t,H,β,hq,hg⟩:=hp; exact fin t H β _ hq hg
 | ret=>obtain ⟨t,H,β,hq,hg⟩:=hp; exact fin t H β _ hq hg
 | exit id=>obtain ⟨t,H,β,hq,hg⟩:=hp; rcases hq.1 with h | h <;> cases h
 | panic ch=>obtain ⟨t,H,β,v,x,hq,hg⟩:=hp; rcases hq.1 with h | h <;> cases h
 | goto l=>exact hp.elim
 | outgrown=>exact hp.elim
end
end Go.Ab
