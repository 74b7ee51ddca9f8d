/-
  The engine, part W: contracts out of bodies, where what was handed in is written. Conditions: none.
-/
import Derived.Test.YtbefgnmdliefjaaGreatDoorBbV
import Derived.Recover
import Derived.Laws.Externs
import Derived.Lib.Bytealg
set_option linter.unusedVariables false
set_option linter.unusedSimpArgs false
namespace Go.Ab
def answerI (P:Program) (rs:List ResultVar) (H:List O) (t:T):Option V:=
 match resV P H t rs with
 | some [v]=>some v
 | some vs=>some (.tup vs)
 | none=>none
def answerM (P:Program) (rs:List ResultVar):St→Tree Res
 | (.ret,t,H) | (.normal,t,H)=>match answerI P rs H t with
  | some v=>.leaf (.ok v H)
  | none=>.fail
 | (.panic v,_,H)=>.leaf (.pan v H)
 | _=>.fail
def mfun (cx:Cx) (fn:Func) (args:List V) (H:List O):Tree Res:=
 match fn.body with
 | some c=>(dcode { cx with n:=fn.ntmps } c (initT 0 args) H).bind (answerM cx.P fn.results.toList)
 | none=>.fail
def MPost (P:Program) (fn:Func) (r:Res) (e:AEx) (t:T) (H:List O):Prop:=
 match r with
 | .ok v H' => (e = .ret∨e = .normal)∧H=H' ∧ answerI P fn.results.toList H t=some v
 | .pan v H' => e = .panic v∧H=H'
section
variable {P:Program} {E:Nat→Nat→Prop} {H:List O} {β:List Loc} {w:World} {X:Nat→Nat→Prop}
theorem answerI_R {n:Nat} {t:T} {a:Act} {fn:Func} {out:V} (hR:Rel w X H β) (hF:FR w X β n t a) (h:answerI P fn.results.toList H t=some out) :
  ∃ y,(results fn a.tmps).run P w = .ok y w∧R w X β out y:=by
 unfold answerI at h
 have key:∀ ds,resV P H t fn.results.toList=some ds → ∃ ys:List Value,(results fn a.tmps).run P w = .ok (if hh:ys.length=1 then ys[0] else .tuple ys.toArray) w ∧
   ys.length=ds.length ∧ ∀ (k:Nat) v x,ds[k]? = some v→ys[k]? = some x→R w X β v x:=by
  intro ds hds
  obtain ⟨ys,h1,h2,h3⟩:=resV_R hR hF fn.results.toList ds hds
  refine ⟨ys,?_,h2,h3⟩
  rw [results_eq]
  simp only [Array.mapM_eq_mapM_toList,Sem.run_bind,Sem.run_map]
  rw [h1]
  simp
 split at h
 ·rename_i v hv
  simp only [Option.some.injEq] at h
  subst h
  obtain ⟨ys,h1,h2,h3⟩:=key _ hv
  have hl:ys.length=1:=h2
  refine ⟨ys[0],by rw [h1,dif_pos hl],h3 0 v _ rfl (by simp [hl])⟩
 ·rename_i vs hne hv
  simp only [Option.some.injEq] at h
  subst h
  obtain ⟨ys,h1,h2,h3⟩:=key _ hv
  have hl:¬ ys.length=1:=fun e=>by
   rw [e] at h2
   match vs,h2 with
   | [v],_=>exact hne v rfl
  exact ⟨.tuple ys.toArray,by rw [h1,dif_neg hl],.tup β vs ys h2 h3⟩
 ·cases h
theorem mcall_of {f : Nat} {fn : Func} {c : Code} {args : List V} {r : Res} (hf : P.funcs[f]? = some fn) (hb : fn.body = some c) (hname : fn.name ≠ "runtime.NumGoroutine")
  (hn:args.length≤fn.ntmps) (h:AWP P fn.ntmps c (MPost P fn r) (initT 0 args) H):MCall P f args H r:=by
 refine ⟨⟨fn,hf,hname,by simp [hb]⟩,?_⟩
 intro w E β rargs hE hrel hlen hargs
 refine calls_of_wp hf hb ?_
 have hg:Good E H β w fn.ntmps [] (initT 0 args) H β { tmps:=rargs.toArray++Array.replicate (fn.ntmps - rargs.toArray.size) undef,defers:=[] } w:=by
  refine ⟨Step.refl hrel,⟨by simp; omega,fun d=>?_⟩,rfl⟩
  rw [get_initT]
  simp only [Nat.not_lt_zero,if_false,Nat.sub_zero]
  cases hd:args[d]? with
  | none=>exact .any _ _
  | some v =>
   have hlt:d<rargs.length:=by rw [hlen]; exact (List.getElem?_eq_some_iff.1 hd).1
   have:=hargs d v rargs[d] hd (by simp [hlt])
   simp only [Option.getD_some]
   have e:(rargs.toArray++Array.replicate (fn.ntmps - rargs.toArray.size) undef).getD d undef=rargs[d]:=by
    rw [Array.getD_eq_getD_getElem?,Array.getElem?_append_left (by simpa using hlt)]
    simp [hlt]
   rw [e]
   exact this
 have:=h E H β w [] β _ w hE hg
 refine wp_mono this ?_
 intro e a w' hp
 have fin:∀ t H2 β2 ex,(ex=AEx.ret∨ex=AEx.normal)→MPost P fn r ex t H2→Good E H β w fn.ntmps [] t H2 β2 a w' →
   a.defers=[] ∧ ∃ v,(results fn a.tmps).run P w' = .ok v w' ∧ Outcome E H β w r (.returned v) w' := by
  intro t H2 β2 ex hex hq hg
  cases r with
  | ok v H' =>
   obtain ⟨_,rfl,h3⟩:=hq
   obtain ⟨y,h1,h2⟩:=answerI_R hg.step.rel hg.fr h3
   exact ⟨hg.defers,y,h1,y,β2,rfl,hg.step,h2⟩
  | pan v H' =>
   obtain ⟨h1,_⟩:=hq
   rcases hex with rfl | rfl <;> cases h1
 cases e with
 | normal=>obtain ⟨t,H,β,hq,hg⟩:=hp; exact fin t H β _ (.inr rfl) hq hg
 | ret=>obtain ⟨t,H,β,hq,hg⟩:=hp; exact fin t H β _ (.inl rfl) hq hg
 | exit id =>
  obtain ⟨t,H,β,hq,hg⟩:=hp
  cases r with
  | ok v H' => rcases hq.1 with h | h <;> cases h
  | pan v H' => cases hq.1
 | panic ch =>
  obtain ⟨t,H2,β2,v,x,hq,hg,hv,rfl⟩:=hp
  cases r with
  | ok v H' => rcases hq.1 with h | h <;> cases h
  | pan v' H' =>
   obtain ⟨h1,rfl⟩:=hq
   cases h1
   exact ⟨hg.defers,x,β2,rfl,hg.step,hv⟩
 | goto l=>exact hp.elim
 | outgrown=>exact hp.elim
theorem answerM_post {fn:Func} {s:St} {r:Res} (h:(answerM P fn.results.toList s).run=some r):MPost P fn r s.1 s.2.1 s.2.2:=by
 obtain ⟨e,t,H⟩:=s
 have ans:(match answerI P fn.results.toList H t with | some v=>Tree.leaf (Res.ok v H) | none=>.fail).run=some r → ∃ v,r = .ok v H∧answerI P fn.results.toList H t=some v:=by
  intro h
  cases hv:answerI P fn.results.toList H t with
  | none=>rw [hv] at h; cases h
  | some v=>rw [hv] at h; exact ⟨v,by simpa [Tree.run] using h.symm,rfl⟩
 cases e with
 | normal=>obtain ⟨v,rfl,hv⟩:=ans h; exact ⟨.inr rfl,rfl,hv⟩
 | ret=>obtain ⟨v,rfl,hv⟩:=ans h; exact ⟨.inl rfl,rfl,hv⟩
 | exit id=>cases h
 | panic v =>
  simp only [answerM,Tree.run,Option.some.injEq] at h
  subst h
  exact ⟨rfl,rfl⟩
theorem mcall_fun {cx:Cx} {f:Nat} {fn:Func} {c:Code} {args:List V} {r:Res} (hP:cx.P=P) (hT:CxOk cx) (hf:P.funcs[f]? = some fn) (hb:fn.body=some c)
  (hname : fn.name ≠ "runtime.NumGoroutine") (hn : Nat.ble args.length fn.ntmps = true) (h : (mfun cx fn args H).run = some r) : MCall P f args H r := by
 subst hP
 refine mcall_of hf hb hname (Nat.le_of_ble_eq_true hn) ?_
 unfold mfun at h
 rw [hb] at h
 obtain ⟨s,h1,h2⟩:=bind_run h
 exact AWP_code (cx:={ cx with n:=fn.ntmps }) rfl rfl hT c _ _ _ (Tree.run_all h1 (answerM_post h2))
theorem AWP_run {cx:Cx} {n:Nat} (hP:cx.P=P) (hn:cx.n=n) (hT:CxOk cx) {c:Code} {Q:AEx→T→List O→Prop} {t:T} {s:St}
  (h:(dcode cx c t H).run=some s) (hq:Q s.1 s.2.1 s.2.2):AWP P n c Q t H:=
 AWP_code hP hn hT c Q t H (Tree.run_all h hq)
end
end Go.Ab

namespace Go.Ab
def dropT (σ:List Nat):T→T
 | []=>[]
 | (d,v) :: r=>(d,(V.ren? (fun i=>place i σ) v).getD .any) :: dropT σ r
def dropE (σ:List Nat):AEx→Option AEx
 | .panic v=>(V.ren? (fun i=>place i σ) v).map .panic
 | e=>some e
def dropS (n:Nat) (κ:List Nat):St→Option St
 | (e,t,H) =>
  let σ:=List.range n++κ
  cond (noDup σ) (match pickO H σ with
  | some os=>match rensO (fun i=>place i σ) os,dropE σ e with
   | some Hs,some e=>some (e,dropT σ t,Hs)
   | _,_=>none
  | none=>none) none
section
variable {P:Program} {n:Nat} {Q:AEx→T→List O→Prop} {t:T} {H:List O} {β:List Loc} {w:World} {E:Nat→Nat→Prop}
theorem get_dropT (σ:List Nat) (d:Nat):∀ t:T,get d (dropT σ t)=(V.ren? (fun i=>place i σ) (get d t)).getD .any
 | []=>rfl
 | (e,v) :: r=>by
  simp only [dropT,get]
  cases Nat.beq d e
  ·simpa using get_dropT σ d r
  ·rfl
theorem sub_own {σ:List Nat} {os Hs:List O} (hR:Rel w (Xs E H β) H β) (hσ:noDup σ=true) (hp:pickO H σ=some os)
  (hr:rensO (fun i=>place i σ) os=some Hs):Rel w (Xs E Hs (pickL β σ)) Hs (pickL β σ)∧(∀ b o,Own Hs (pickL β σ) b o→Own H β b o)∧Turned (fun i=>place i σ) β (pickL β σ):=by
 have hR0:Rel w (Xs (fun _ _=>False) H β) H β:=by
  have hX:∀ b o,Xs (fun _ _=>False) H β b o→Xs E H β b o:=fun b o h=>by rcases h with h | h; exact h.elim; exact .inr h
  refine ⟨hR.len,fun id cs e loc h1 h2=>?_,hR.tok,fun id sh vs loc h1 h2=>?_,hR.disj⟩
  ·obtain ⟨a1,c,e',a2,a3,a4,a5⟩:=hR.cells id cs e loc h1 h2
   exact ⟨a1,c,e',a2,a3,a4,fun k v hv=>let ⟨x,hx,hr⟩:=a5 k v hv; ⟨x,hx,hr.weak hX⟩⟩
  ·obtain ⟨a1,ab,ob,xs,a2,a3,a5⟩:=hR.objs id sh vs loc h1 h2
   exact ⟨a1,ab,ob,xs,a2,a3,fun k v hv=>let ⟨x,hx,hr⟩:=a5 k v hv; ⟨x,hx,hr.weak hX⟩⟩
 obtain ⟨hi,hturn⟩:=into (fun b o h=>h.elim) hR0 hσ hp hr
 refine ⟨?_,hi.sub,hturn⟩
 have hX:∀ b o,Xs E Hs (pickL β σ) b o→Xs E H β b o:=fun b o h=>by rcases h with h | h; exact .inl h; exact .inr (hi.sub b o h)
 obtain ⟨p1,p2⟩:=pickO_get hp
 obtain ⟨r1,r2⟩:=rensO_get hr
 refine ⟨hi.rel.len,fun k cs e loc h1 h2=>?_,hi.rel.tok,fun k sh vs loc h1 h2=>?_,hi.rel.disj⟩
 ·obtain ⟨a1,c,e',a2,a3,a4,_⟩:=hi.rel.cells k cs e loc h1 h2
  refine ⟨a1,c,e',a2,a3,a4,fun m v hv=>?_⟩
  obtain ⟨u,hu,hu'⟩:=r2 k _ h1
  have hk:k<σ.length:=by rw [← p1]; exact (List.getElem?_eq_some_iff.1 hu).1
  obtain ⟨g1,g2,_⟩:=hi.get k σ[k] (by simp [hk])
  obtain ⟨cs',rfl,hren⟩:=oren_cells hu'
  obtain ⟨q1,q2⟩:=rens_get hren
  obtain ⟨v',hv',hvr⟩:=q2 m v hv
  have hH:H[σ[k]]? = some (.cells cs' e):=by rw [← (p2 k σ[k] (by simp [hk])).2,hu]
  obtain ⟨_,c2,e2,b2,_,_,b5⟩:=hR.cells σ[k] cs' e loc hH (by rw [← g2,h2])
  rw [a2] at b2
  simp only [Option.some.injEq,Obj.cells.injEq,and_true] at b2
  obtain ⟨rfl,rfl⟩:=b2
  obtain ⟨x,hx,hr⟩:=b5 m v' hv'
  exact ⟨x,hx,(ren_R hturn hr v hvr).weak hX⟩
 ·obtain ⟨u,hu,hu'⟩:=r2 k _ h1
  have hk:k<σ.length:=by rw [← p1]; exact (List.getElem?_eq_some_iff.1 hu).1
  obtain ⟨g1,g2,_⟩:=hi.get k σ[k] (by simp [hk])
  obtain ⟨vs',rfl,hren⟩:=oren_obj hu'
  obtain ⟨q1,q2⟩:=rens_get hren
  have hH:H[σ[k]]? = some (.obj sh vs'):=by rw [← (p2 k σ[k] (by simp [hk])).2,hu]
  obtain ⟨a1,ab,ob,xs,a2,a3,a5⟩:=hR.objs σ[k] sh vs' loc hH (by rw [← g2,h2])
  refine ⟨a1,ab,ob,xs,a2,a3,fun m v hv=>?_⟩
  obtain ⟨v',hv',hvr⟩:=q2 m v hv
  obtain ⟨x,hx,hr⟩:=a5 m v' hv'
  exact ⟨x,hx,(ren_R hturn hr v hvr).weak hX⟩
theorem Good.drop {E H0 β0 w0 D a} {σ:List Nat} {os Hs:List O} (hg:Good E H0 β0 w0 n D t H β a w) (hσ:noDup σ=true) (hp:pickO H σ=some os)
  (hr:rensO (fun i=>place i σ) os=some Hs) (h0:∀ i,i<β0.length→σ[i]? = some i) :
  Good E H0 β0 w0 n D (dropT σ t) Hs (pickL β σ) a w ∧ ∀ v v' x,R w (Xs E H β) β v x→V.ren? (fun i=>place i σ) v=some v' → R w (Xs E Hs (pickL β σ)) (pickL β σ) v' x:=by
 obtain ⟨s1,s2,s3⟩:=sub_own hg.step.rel hσ hp hr
 have hX:∀ b o,Xs E Hs (pickL β σ) b o→Xs E H β b o:=fun b o h=>by rcases h with h | h; exact .inl h; exact .inr (s2 b o h)
 have hv:∀ v v' x,R w (Xs E H β) β v x→V.ren? (fun i=>place i σ) v=some v' → R w (Xs E Hs (pickL β σ)) (pickL β σ) v' x:=fun v v' x h1 h2=>(ren_R s3 h1 v' h2).weak hX
 have hlt:∀ i ∈ σ,i<β.length:=fun i hi=>by
  obtain ⟨k,hk⟩:=List.getElem?_of_mem hi
  rw [← hg.step.rel.len]; exact ((pickO_get hp).2 k i hk).1
 refine ⟨⟨⟨s1,hg.step.os,hg.step.tape,hg.step.output,hg.step.size,hg.step.pres,fun b o h=>hg.step.own b o (s2 b o h),?_⟩,⟨hg.fr.size,fun d=>?_⟩,hg.defers⟩,hv⟩
 ·intro i loc h
  obtain ⟨loc',g1,g2⟩:=hg.step.locs i loc h
  refine ⟨loc',?_,g2⟩
  rw [(pickL_get hlt).2 i i (h0 i (List.getElem?_eq_some_iff.1 h).1),g1]
 ·rw [get_dropT]
  cases hc:V.ren? (fun i=>place i σ) (get d t) with
  | none=>exact .any _ _
  | some v=>exact hv _ v _ (hg.fr.slot d) hc
theorem LocLe.len {a b:List Loc} (h:LocLe a b):a.length≤b.length:=by
 rcases Nat.lt_or_ge b.length a.length with hl | hl
 ·obtain ⟨l,e,_⟩:=h b.length a[b.length] (by simp [hl])
  simp at e
 ·exact hl
theorem AWP_scope {c:Code} (h:AWP P n c (fun e t' H' => ∃ κ s,dropS H.length κ (e,t',H')=some s∧Q s.1 s.2.1 s.2.2) t H):AWP P n c Q t H:=by
 intro E H0 β0 w0 D β a w hs hg
 have hlen:β0.length≤H.length:=by rw [hg.step.rel.len]; exact hg.step.locs.len
 refine wp_mono (h E H0 β0 w0 D β a w hs hg) ?_
 intro e a' w' hp
 have fin:∀ ex t' H' β',(∃ κ s,dropS H.length κ (ex,t',H')=some s∧Q s.1 s.2.1 s.2.2)→Good E H0 β0 w0 n D t' H' β' a' w' →
   ∃ ex' t2 H2 β2 σ,dropE σ ex=some ex' ∧ Q ex' t2 H2∧Good E H0 β0 w0 n D t2 H2 β2 a' w' ∧ ∀ v v' x,R w' (Xs E H' β') β' v x→V.ren? (fun i=>place i σ) v=some v' → R w' (Xs E H2 β2) β2 v' x:=by
  rintro ex t' H' β' ⟨κ,s,h1,h2⟩ hg'
  unfold dropS at h1
  simp only at h1
  cases hd:noDup (List.range H.length++κ)
  ·simp [hd] at h1
  simp only [hd,cond_true] at h1
  split at h1
  rotate_left
  ·cases h1
  rename_i os hos
  split at h1
  rotate_left
  ·cases h1
  rename_i Hs ex' e1 e2
  simp only [Option.some.injEq] at h1
  subst h1
  obtain ⟨g1,g2⟩:=hg'.drop hd hos e1 (fun i hi=>by
   have hi' : i<(List.range H.length).length:=by rw [List.length_range]; omega
   rw [List.getElem?_append_left hi',List.getElem?_eq_getElem hi',List.getElem_range])
  exact ⟨ex',_,_,_,_,e2,h2,g1,g2⟩
 cases e with
 | normal =>
  obtain ⟨t',H',β',h1,h2⟩:=hp
  obtain ⟨ex',t2,H2,β2,σ,g1,g2,g3,_⟩:=fin _ _ _ _ h1 h2
  cases g1
  exact ⟨t2,H2,β2,g2,g3⟩
 | exit id =>
  obtain ⟨t',H',β',h1,h2⟩:=hp
  obtain ⟨ex',t2,H2,β2,σ,g1,g2,g3,_⟩:=fin _ _ _ _ h1 h2
  cases g1
  exact ⟨t2,H2,β2,g2,g3⟩
 | ret =>
  obtain ⟨t',H',β',h1,h2⟩:=hp
  obtain ⟨ex',t2,H2,β2,σ,g1,g2,g3,_⟩:=fin _ _ _ _ h1 h2
  cases g1
  exact ⟨t2,H2,β2,g2,g3⟩
 | panic ch =>
  obtain ⟨t',H',β',v,x,h1,h2,h3,h4⟩:=hp
  obtain ⟨ex',t2,H2,β2,σ,g1,g2,g3,g4⟩:=fin _ _ _ _ h1 h2
  simp only [dropE] at g1
  obtain ⟨v',hv',rfl⟩:=Option.map_eq_some_iff.1 g1
  exact ⟨t2,H2,β2,v',x,g2,g3,g4 v v' x h3 hv',h4⟩
 | goto l=>exact hp.elim
 | outgrown=>exact hp.elim
theorem Tree.all_mono {γ:Type} {Q Q' : γ→Prop} {x:Tree γ} (h:x.all Q) (hq:∀ s,Q s→Q' s):x.all Q' := by
 induction x with
 | leaf b=>exact hq b h
 | fail=>exact h.elim
 | br c x y ihx ihy=>exact ⟨fun hc=>ihx (h.1 hc),fun hc=>ihy (h.2 hc)⟩
def Round {α:Type} (st:α→T × List O) (μ:α→Nat) (Q:AEx→T→List O→Prop) (i:α) (s:St):Prop:=
 ∃ κ s',dropS (st i).2.length κ s=some s' ∧ (match s'.1 with | .normal=>∃ j,μ j<μ i∧TLe s'.2.1 (st j).1∧s'.2.2=(st j).2 | e=>Q e s'.2.1 s'.2.2)
theorem AWP_rounds {cx:Cx} {α:Type} (hP:cx.P=P) (hn:cx.n=n) (hT:CxOk cx) (st:α→T × List O) (μ:α→Nat) {body:Code}
  (h:∀ i,(dcode cx body (st i).1 (st i).2).all (Round st μ Q i)) (i:α):AWP P n (.loop body) Q (st i).1 (st i).2:=by
 refine AWP_loop st μ (fun i=>?_) i
 refine AWP_scope (AWP_code hP hn hT body _ _ _ ?_)
 refine Tree.all_mono (h i) ?_
 rintro s ⟨κ,s',h1,h2⟩
 exact ⟨κ,s',h1,h2⟩
end
end Go.Ab
namespace Go.Ab
def c1:Code→Code
 | .seq a _=>a
 | c=>c
def c2:Code→Code
 | .seq _ b=>b
 | c=>c
def cin:Code→Code
 | .block _ c=>c
 | .loop c=>c
 | c=>c
def bodyOf (fn:Func):Code:=fn.body.getD .skip
end Go.Ab

namespace Go.Ab
abbrev strEq (a b:List UInt8):Bool:=a == b
abbrev tI (x:Int):Int:=x
abbrev tS (x:List UInt8):List UInt8:=x
abbrev tB (x:Bool):Bool:=x
def Fits (t:T):T→Prop
 | []=>True
 | (d,v) :: r=>get d t=v∧Fits t r
theorem Fits.tle {t:T}:∀ {s:T},Fits t s→TLe t s
 | [],_,d=>.inr rfl
 | (e,v) :: r,h,d=>by
  simp only [get]
  cases hb:Nat.beq d e
  ·simpa using Fits.tle h.2 d
  ·have:=Nat.eq_of_beq_eq_true hb
   subst this
   exact .inl h.1.symm
theorem wrap_i64 {n:Int} (h0 : -9223372036854775808≤n) (h1:n<9223372036854775808):IntKind.wrap .i64 n=n:=by
 have h:IntKind.wrap .i64 n=if n % 18446744073709551616 ≥ 9223372036854775808 then n % 18446744073709551616 - 18446744073709551616 else n % 18446744073709551616:=by
  simp [IntKind.wrap,IntKind.bits,IntKind.signed]
 rw [h]
 split <;> omega
theorem inside_of {i:Int} {n:Nat} (h0:0≤i) (h1:i<n):inside i n=true:=by
 simp [inside,h0,h1]
def Tree.out {α:Type}:Tree α→Option α
 | .leaf b=>some b
 | .fail=>none
 | .br c x y=>cond c x.out y.out
theorem Tree.out_run {α:Type}:∀ x:Tree α,x.out=x.run
 | .leaf _=>rfl
 | .fail=>rfl
 | .br c x y=>by cases c <;> simp only [Tree.out,Tree.run,cond_true,cond_false,Tree.out_run x,Tree.out_run y]
theorem br_run {α:Type} (c:Bool) (x y:Tree α):(Tree.br c x y).run=cond c x.run y.run:=by cases c <;> rfl
theorem Tree.all_run_eq {α:Type} {x y:Tree α} {Q:α→Prop} (e:x.run=y.run) (h:y.all Q):x.all Q:=by
 obtain ⟨b,h1,h2⟩:=Tree.all_run h
 exact Tree.run_all (e.trans h1) h2
theorem getD_lt {α:Type} {l:List α} {i:Nat} {d:α} (hi:i<l.length):l.getD i d=l[i]:=by simp [List.getD,hi]
theorem take_none {α:Type} {p:α→Bool} {l:List α} {i:Nat} {d:α} (hi:i<l.length) (h:(l.take i).find? p=none) (hp:p (l.getD i d)=false):(l.take (i+1)).find? p=none:=by
 rw [getD_lt hi] at hp
 rw [List.take_add_one,List.find?_append,h]
 simp [List.getElem?_eq_getElem hi,hp]
theorem take_some {α:Type} {p:α→Bool} {l:List α} {i:Nat} {d:α} (hi:i<l.length) (h:(l.take i).find? p=none) (hp:p (l.getD i d)=true):l.find? p=some (l.getD i d):=by
 rw [getD_lt hi] at hp ⊢
 have e:l.find? p=(l.take i++l[i] :: l.drop (i+1)).find? p:=by rw [← List.drop_eq_getElem_cons hi,List.take_append_drop]
 rw [e,List.find?_append,h,List.find?_cons,hp]
 rfl
variable {P:Program} {H:List O}
theorem mcall_of' {f : Nat} {fn : Func} {c : Code} {args : List V} {r : Res} (hf : P.funcs[f]? = some fn) (hb : fn.body = some c) (hname : (fn.name == "runtime.NumGoroutine") = false)
  (hn:Nat.ble args.length fn.ntmps=true) (h:AWP P fn.ntmps c (MPost P fn r) (initT 0 args) H):MCall P f args H r:=
 mcall_of hf hb (by intro e; rw [e] at hname; simp at hname) (Nat.le_of_ble_eq_true hn) h
theorem pcall_of' {f : Nat} {fn : Func} {c : Code} {args : List V} {out : V} (hf : P.funcs[f]? = some fn) (hb : fn.body = some c) (hname : (fn.name == "runtime.NumGoroutine") = false)
  (hn:Nat.ble args.length fn.ntmps=true) (h:AWP P fn.ntmps c (fun e t H=>(e = .ret∨e = .normal)∧answerV P fn.results.toList H t=some out) (initT 0 args) []):PCall P f args out:=
 pcall_of hf hb (by intro e; rw [e] at hname; simp at hname) (Nat.le_of_ble_eq_true hn) h
theorem pcall_fun' {cx:Cx} {f:Nat} {fn:Func} {args:List V} {out:V} (hT:CxOk cx) (hf:cx.P.funcs[f]? = some fn)
  (hname : (fn.name == "runtime.NumGoroutine") = false) (hn : Nat.ble args.length fn.ntmps = true) (h : (dfun cx fn args).run = some out) : PCall cx.P f args out := by
 cases hb:fn.body with
 | none=>simp [dfun,hb,Tree.run] at h
 | some c=>exact pcall_fun rfl hT hf hb (by intro e; rw [e] at hname; simp at hname) hn h
theorem mcall_fun' {cx:Cx} {f:Nat} {fn:Func} {args:List V} {r:Res} (hT:CxOk cx) (hf:cx.P.funcs[f]? = some fn)
  (hname : (fn.name == "runtime.NumGoroutine") = false) (hn : Nat.ble args.length fn.ntmps = true) (h : (mfun cx fn args H).run = some r) : MCall cx.P f args H r := by
 cases hb:fn.body with
 | none=>simp [mfun,hb,Tree.run] at h
 | some c=>exact mcall_fun rfl hT hf hb (by intro e; rw [e] at hname; simp at hname) hn h
theorem sound_fun {cx : Cx} {f : Nat} {fn : Func} (hT : CxOk cx) (hf : cx.P.funcs[f]? = some fn) (hname : (fn.name == "runtime.NumGoroutine") = false) :
  Sound cx.P f (fun args=>.req (Nat.ble args.length fn.ntmps) (dfun cx fn args)):=by
 intro args out h
 obtain ⟨h1,h2⟩:=req_run h
 exact pcall_fun' hT hf hname h1 h2
theorem msound_fun {cx : Cx} {f : Nat} {fn : Func} (hT : CxOk cx) (hf : cx.P.funcs[f]? = some fn) (hname : (fn.name == "runtime.NumGoroutine") = false) :
  MSound cx.P f (fun args H=>.req (Nat.ble args.length fn.ntmps) (mfun cx fn args H)):=by
 intro args H out h
 obtain ⟨h1,h2⟩:=req_run h
 cases hb:fn.body with
 | none=>simp [mfun,hb,Tree.run] at h2
 | some c=>exact mcall_fun rfl hT hf hb (by intro e; rw [e] at hname; simp at hname) h1 h2
end Go.Ab

namespace Go.Ab
def headN:Nat→Code→Code
 | 0,c=>c1 c
 | k+1,c=>.seq (c1 c) (headN k (c2 c))
def tailN:Nat→Code→Code
 | 0,c=>c2 c
 | k+1,c=>tailN k (c2 c)
def isSeq:Code→Bool
 | .seq _ _=>true
 | _=>false
def rowN:Nat→Code→Bool
 | 0,c=>isSeq c
 | k+1,c=>cond (isSeq c) (rowN k (c2 c)) false
theorem Tree.all_bind {α β:Type} {x:Tree α} {f:α→Tree β} {Q:β→Prop} (h:(x.bind f).all Q):x.all (fun s=>(f s).all Q):=by
 induction x with
 | leaf b=>exact h
 | fail=>exact h
 | br c x y ih1 ih2=>exact ⟨fun hc=>ih1 (h.1 hc),fun hc=>ih2 (h.2 hc)⟩
theorem isSeq_eq {c:Code} (h:isSeq c=true):c = .seq (c1 c) (c2 c):=by
 cases c <;> first | rfl | cases h
section
variable {P:Program} {n:Nat} {cx:Cx}
theorem AWP_head (hP:cx.P=P) (hn:cx.n=n) (hT:CxOk cx):∀ (k:Nat) (c:Code) (Q:AEx→T→List O→Prop) (t:T) (H:List O),rowN k c=true →
  (dcode cx (headN k c) t H).all (fun s=>seqQ (AWP P n (tailN k c) Q) Q s.1 s.2.1 s.2.2)→AWP P n c Q t H
 | 0,c,Q,t,H,hr,h=>by
  rw [isSeq_eq hr]
  exact AWP_seq (AWP_code hP hn hT _ _ _ _ h)
 | k+1,c,Q,t,H,hr,h=>by
  have hs:isSeq c=true:=by
   cases hs:isSeq c
   ·simp [rowN,hs] at hr
   ·rfl
  have hr' : rowN k (c2 c)=true:=by simpa [rowN,hs] using hr
  rw [isSeq_eq hs]
  refine AWP_seq (AWP_code hP hn hT _ _ _ _ ?_)
  have h:=Tree.all_bind (h:((dcode cx (c1 c) t H).bind (dseq (dcode cx (headN k (c2 c))))).all _)
  refine Tree.all_mono h ?_
  rintro ⟨e,t',H'⟩ hq
  cases e with
  | normal=>exact AWP_head hP hn hT k (c2 c) Q t' H' hr' hq
  | exit id=>exact hq
  | ret=>exact hq
  | panic v=>exact hq
theorem AWP_headE (hP:cx.P=P) (hn:cx.n=n) (hT:CxOk cx) (k:Nat) {c:Code} {Q:AEx→T→List O→Prop} {t:T} {H:List O} {x:Tree St} (hr:rowN k c=true)
  (e:(dcode cx (headN k c) t H).run=x.run) (h:x.all (fun s=>seqQ (AWP P n (tailN k c) Q) Q s.1 s.2.1 s.2.2)):AWP P n c Q t H:=
 AWP_head hP hn hT k c Q t H hr (Tree.all_run_eq e h)
end
end Go.Ab

namespace Go.Ab
theorem AWP_headK {P:Program} {n:Nat} {cx:Cx} (hP:cx.P=P) (hn:cx.n=n) (hT:CxOk cx) (k:Nat) (ks:List Nat) {c:Code} {Q:AEx→T→List O→Prop} {t t' : T} {H H' : List O} (hr:rowN k c=true)
  (h:(dcode cx (headN k c) t H).run.map (fun s=>(s.1,keep ks s.2.1,s.2.2))=some (.normal,t',H')) (hq:AWP P n (tailN k c) Q t' H'):AWP P n c Q t H:=by
 obtain ⟨⟨e,t2,H2⟩,h1,h2⟩:=Option.map_eq_some_iff.1 h
 simp only [Prod.mk.injEq] at h2
 obtain ⟨rfl,rfl,rfl⟩:=h2
 exact AWP_head hP hn hT k c Q t H hr (Tree.run_all h1 (AWP.less (TLe.keep ks t2) hq))
end Go.Ab

namespace Go.Ab
def rcV:Option V→V
 | none=>.val .nilIface
 | some v=>v
def recSlot (ops:Array Oper):Option Nat:=
 match ops.toList with
 | [o]=>match o.op,o.dst,o.guard with
  | .call { callee:=.builtin .recover,.. },some d,none=>some d
  | _,_,_=>none
 | _=>none
def dcl (cx:Cx) (fn:Func) (args:List V) (H:List O) (rv:Option V):Tree (List O):=
 match fn.body with
 | some (.seq (.region _ ops false) rest)=>match recSlot ops with
  | some d=>cond (Nat.blt d fn.ntmps && fn.results.isEmpty) ((dcode { cx with n:=fn.ntmps } rest (put d (rcV rv) (initT 0 args)) H).bind fun s=>match s with
   | (.ret,_,H) | (.normal,_,H)=>.leaf H
   | _=>.fail) .fail
  | none=>.fail
 | _=>.fail
def defSlot (ops:Array Oper):Option (Nat × Fn × List Operand × List Operand):=
 match ops.toList with
 | [o1,o2]=>match o1.op,o1.dst,o1.guard with
  | .makeFunc fn first cap,some d,none=>match o2.op,o2.dst,o2.guard with
   | .defer { callee:=.value (.tmp e),args,.. },none,none=>cond (Nat.beq d e && args.isEmpty) (some (d,fn,first.toList,cap.toList)) none
   | _,_,_=>none
  | _,_,_=>none
 | _=>none
def defOf:Code→Option (Nat × Fn × List Operand × List Operand)
 | .region _ ops false=>defSlot ops
 | _=>none
def dcodeD (cx:Cx):Code→T→List O→Tree (St × Option V)
 | .seq a b,t,H=>match defOf a with
  | some (d,fn,first,cap)=>cond (Nat.blt d cx.n)
   ((dcode cx b (keep cx.keeps (put d (.clo fn (first.map (rd t)) (cap.map (rd t))) t)) H).bind fun s=>.leaf (s,some (.clo fn (first.map (rd t)) (cap.map (rd t))))) .fail
  | none=>(dcode cx a t H).bind fun s=>match s with
   | (.normal,t,H)=>dcodeD cx b t H
   | s=>.leaf (s,none)
 | c,t,H=>(dcode cx c t H).bind fun s=>.leaf (s,none)
def deferE (P:Program) (cl:Cx) (rs:List ResultVar) (fg:Func) (args:List V):St→Tree Res
 | (.ret,t,H) | (.normal,t,H)=>(dcl cl fg args H none).bind fun H=>answerM P rs (.ret,t,H)
 | (.panic v,t,H)=>(dcl cl fg args H (some v)).bind fun H=>answerM P rs (.ret,t,H)
 | _=>.fail
def deferS (P:Program) (cl:Cx) (rs:List ResultVar) (g:Nat) (fg:Func):St × Option V→Tree Res
 | (s,none)=>answerM P rs s
 | (s,some (.clo (.func g') first cap))=>cond (Nat.beq g' g && Nat.ble (first++cap).length fg.ntmps) (deferE P cl rs fg (first++cap) s) .fail
 | _=>.fail
def dfunD (cx cl:Cx) (fn:Func) (g:Nat) (fg:Func) (args:List V) (H:List O):Tree Res:=
 match fn.body with
 | some c=>(dcodeD { cx with n:=fn.ntmps } c (initT 0 args) H).bind (deferS cx.P cl fn.results.toList g fg)
 | none=>.fail
section
variable {P:Program} {E:Nat→Nat→Prop} {H:List O} {β:List Loc} {w:World} {X:Nat→Nat→Prop}
theorem fr_init {fn:Func} {args:List V} {rargs:List Value} (hlen:rargs.length=args.length) (hn:args.length≤fn.ntmps)
  (hargs:∀ (k:Nat) (v:V) (x:Value),args[k]? = some v→rargs[k]? = some x→R w X β v x) :
  FR w X β fn.ntmps (initT 0 args) { tmps:=rargs.toArray++Array.replicate (fn.ntmps - rargs.toArray.size) undef,defers:=[] }:=by
 refine ⟨by simp; omega,fun d=>?_⟩
 rw [get_initT]
 simp only [Nat.not_lt_zero,if_false,Nat.sub_zero]
 cases hd:args[d]? with
 | none=>exact .any _ _
 | some v =>
  have hlt:d<rargs.length:=by rw [hlen]; exact (List.getElem?_eq_some_iff.1 hd).1
  have:=hargs d v rargs[d] hd (by simp [hlt])
  simp only [Option.getD_some]
  have e:(rargs.toArray++Array.replicate (fn.ntmps - rargs.toArray.size) undef).getD d undef=rargs[d]:=by
   rw [Array.getD_eq_getD_getElem?,Array.getElem?_append_left (by simpa using hlt)]
   simp [hlt]
  rw [e]
  exact this
def Mode (w:World) (X:Nat→Nat→Prop) (β:List Loc) (u u2:FrameMode):Option V→Prop
 | none=>u = .returning∧u2 = .returning
 | some v=>∃ x,R w X β v x∧u = .panicking [{ v:=x,recovered:=false }]∧u2 = .panicking [{ v:=x,recovered:=true }]
theorem recSlot_spec {ops:Array Oper} {d:Nat} (h:recSlot ops=some d):∃ o c,ops = #[o]∧o.op = .call c∧c.callee = .builtin .recover∧o.dst=some d∧o.guard=none:=by
 unfold recSlot at h
 split at h
 rotate_left
 ·cases h
 rename_i o ho
 split at h
 rotate_left
 ·cases h
 rename_i args argTypes d' h1 h2 h3
 simp only [Option.some.injEq] at h
 subst h
 exact ⟨o,_,by apply Array.ext'; simpa using ho,h1,rfl,h2,h3⟩
theorem dcl_sound {cx:Cx} (hT:CxOk cx) {g:Nat} {fn:Func} {args:List V} {H' : List O} {rv:Option V} {rargs:List Value} {u u2:FrameMode} (hf:cx.P.funcs[g]? = some fn)
  (h:(dcl cx fn args H rv).run=some H') (hE:StartOk cx.P E H β w) (hR:Rel w (Xs E H β) H β) (hlen:rargs.length=args.length) (hn:args.length≤fn.ntmps)
  (hargs:∀ (k:Nat) (v:V) (x:Value),args[k]? = some v→rargs[k]? = some x→R w (Xs E H β) β v x) (hu:Mode w (Xs E H β) β u u2 rv) :
  CallsD cx.P g rargs.toArray u w fun e u' w' => (∃ y,e = .returned y)∧u' = u2 ∧ ∃ β',Step E H β w H' β' w' := by
 unfold dcl at h
 split at h
 rotate_left
 ·cases h
 rename_i id ops rest hb
 split at h
 rotate_left
 ·cases h
 rename_i d hd
 cases hc:(Nat.blt d fn.ntmps && fn.results.isEmpty)
 ·rw [hc] at h; cases h
 rw [hc,cond_true] at h
 obtain ⟨hlt,hres⟩:=Bool.and_eq_true_iff.1 hc
 have hlt:d<fn.ntmps:=by simpa [Nat.blt_eq] using hlt
 obtain ⟨o,c,rfl,ho,hcal,hdst,hg⟩:=recSlot_spec hd
 obtain ⟨s,hs1,hs2⟩:=bind_run h
 have rest_ok:∀ x cs',R w (Xs E H β) β (rcV rv) x → ∀ c₀ cs,cs' = { c₀ with mode:=u2 } :: cs →
   rest.wpS cx.P (bodyPostS cx.P fn c₀ cs fun e u' w' => (∃ y,e = .returned y)∧u' = u2 ∧ ∃ β',Step E H β w H' β' w')
    (({ tmps:=rargs.toArray++Array.replicate (fn.ntmps - rargs.toArray.size) undef,defers:=[] }:Act).put (some d) x) cs' w:=by
  rintro x cs' hx c₀ cs rfl
  refine wpS_of_wp ?_
  have hfr:=(fr_init hlen hn hargs).put (d:=d) (v:=rcV rv) (x:=x) hlt hx
  have hgood:Good E H β w fn.ntmps [] (put d (rcV rv) (initT 0 args)) H β _ w:=⟨Step.refl hR,hfr,rfl⟩
  refine wp_mono (AWP_code (cx:={ cx with n:=fn.ntmps }) rfl rfl hT rest (fun e _ H2=>(e = .ret∨e = .normal)∧H2=H') _ _ (Tree.run_all hs1 ?_) E H β w [] β _ w hE hgood) ?_
  ·obtain ⟨e,t2,H2⟩:=s
   cases e with
   | normal=>simp only [Tree.run,Option.some.injEq] at hs2; exact ⟨.inr rfl,hs2⟩
   | ret=>simp only [Tree.run,Option.some.injEq] at hs2; exact ⟨.inl rfl,hs2⟩
   | exit id=>cases hs2
   | panic v=>cases hs2
  ·intro e a w' hp
   have fin:∀ t H2 β2,H2=H' → Good E H β w fn.ntmps [] t H2 β2 a w' → a.defers=[] ∧ ∃ u',({ c₀ with mode:=u2 } :: cs:List Frame) = { c₀ with mode:=u' } :: cs ∧ ∃ v,(results fn a.tmps).run cx.P w' = .ok v w' ∧
     ((∃ y,Ending.returned v = .returned y)∧u' = u2 ∧ ∃ β',Step E H β w H' β' w'):=by
    rintro t H2 β2 rfl hg
    have hr:fn.results = #[]:=by simpa using hres
    exact ⟨hg.defers,u2,rfl,.tuple #[],by rw [results_eq]; simp [hr],⟨_,rfl⟩,rfl,β2,hg.step⟩
   cases e with
   | normal=>obtain ⟨t,H2,β2,hq,hg⟩:=hp; exact fin t H2 β2 hq.2 hg
   | ret=>obtain ⟨t,H2,β2,hq,hg⟩:=hp; exact fin t H2 β2 hq.2 hg
   | exit id=>obtain ⟨t,H2,β2,hq,hg⟩:=hp; rcases hq.1 with h | h <;> cases h
   | panic ch=>obtain ⟨t,H2,β2,v,x,hq,hg⟩:=hp; rcases hq.1 with h | h <;> cases h
   | goto l=>exact hp.elim
   | outgrown=>exact hp.elim
 refine callsD_of_wpS hf hb fun c₀ cs hm=>?_
 apply wpS_seq
 apply wpS_region
 have hrun:∀ a:Act,(execOp a.eval o).run cx.P w = .ok .recover w:=by
  intro a
  obtain ⟨cc,ca,ct⟩:=c
  simp only at hcal
  subst hcal
  simp only [execOp,ho,resolve,invoke,Sem.run_bind,Sem.run_pure,Result.andThen_ok]
  simp [builtin]
 have hw:∀ y,Region.wanted o y=true:=fun y=>by simp [Region.wanted,hg]
 have hl:List.range (#[o]:Array Oper).size=[0]:=rfl
 rw [hl]
 simp only [wpOpsS,List.getElem?_toArray,List.getElem?_cons_zero,hw,if_true,hrun]
 cases rv with
 | none =>
  obtain ⟨h1,h2⟩:=hu
  have e:recoverD (c₀ :: cs)=none:=by simp [recoverD,hm,h1]
  rw [e]
  have hc0:({ c₀ with mode:=u2 }:Frame)=c₀:=by rw [h2,← h1,← hm]
  simp only [hdst,Exit.thenS]
  exact rest_ok _ _ (.val _ _) c₀ cs (by rw [hc0])
 | some v =>
  obtain ⟨x,hx,h1,h2⟩:=hu
  have e:recoverD (c₀ :: cs)=some (x,{ c₀ with mode:=u2 } :: cs):=by simp [recoverD,hm,h1,h2]
  rw [e]
  simp only [hdst,Exit.thenS]
  exact rest_ok _ _ hx c₀ cs rfl
def DefOf (x:Value) (df:Deferred):Prop:=∃ fn first cap,x = .func fn first cap∧df = { target:=.fn fn cap,args:=first }
def PostK (E:Nat→Nat→Prop) (H0:List O) (β0:List Loc) (w0:World) (n:Nat) (s:St) (d:Option V) (e:Exit) (a:Act) (w:World):Prop:=
 match d with
 | none=>Post E H0 β0 w0 n [] (fun e t H=>(e,t,H)=s) e a w
 | some v=>∃ df H1 β1 w1 x,Step E H0 β0 w0 H1 β1 w1∧R w1 (Xs E H1 β1) β1 v x∧DefOf x df∧Post E H1 β1 w1 n [df] (fun e t H=>(e,t,H)=s) e a w
theorem defSlot_spec {ops:Array Oper} {d:Nat} {fn:Fn} {first cap:List Operand} (h:defSlot ops=some (d,fn,first,cap)) :
  ∃ o1 o2 fa ca cl,ops = #[o1,o2]∧o1.op = .makeFunc fn fa ca∧fa.toList=first∧ca.toList=cap∧o1.dst=some d∧o1.guard=none∧o2.op = .defer cl∧cl.callee = .value (.tmp d)∧cl.args = #[]∧o2.dst=none∧o2.guard=none:=by
 unfold defSlot at h
 split at h
 rotate_left
 ·cases h
 rename_i o1 o2 hops
 split at h
 rotate_left
 ·cases h
 rename_i fn' fa ca d' h1 h2 h3
 split at h
 rotate_left
 ·cases h
 rename_i e args at' h4 h5 h6
 cases hb:(Nat.beq d' e && args.isEmpty)
 ·rw [hb] at h; cases h
 rw [hb] at h
 simp only [cond_true,Option.some.injEq,Prod.mk.injEq] at h
 obtain ⟨rfl,rfl,rfl,rfl⟩:=h
 obtain ⟨b1,b2⟩:=Bool.and_eq_true_iff.1 hb
 have b1:=Nat.eq_of_beq_eq_true b1
 subst b1
 exact ⟨o1,o2,fa,ca,_,by apply Array.ext'; simpa using hops,h1,rfl,rfl,h2,h3,h4,rfl,by simpa using b2,h5,h6⟩
theorem defOf_spec {a:Code} {p:Nat × Fn × List Operand × List Operand} (h:defOf a=some p):∃ id ops,a = .region id ops false∧defSlot ops=some p:=by
 unfold defOf at h
 split at h
 ·exact ⟨_,_,rfl,h⟩
 ·cases h
theorem wp_plain {cx:Cx} (hT:CxOk cx) {c:Code} {t:T} {s:St} (h:(dcode cx c t H).run=some s) {H0:List O} {β0:List Loc} {w0:World} {a:Act}
  (hs:StartOk cx.P E H0 β0 w0) {D:List Deferred} (hg:Good E H0 β0 w0 cx.n D t H β a w):c.wp cx.P (Post E H0 β0 w0 cx.n D fun e t H=>(e,t,H)=s) a w:=
 AWP_code rfl rfl hT c _ t H (Tree.run_all h rfl) E H0 β0 w0 D β a w hs hg
theorem wp_dcodeD {cx:Cx} (hT:CxOk cx) {H0:List O} {β0:List Loc} {w0:World} (hs:StartOk cx.P E H0 β0 w0):∀ (c:Code) (t:T) (H:List O) (s:St) (d:Option V),(dcodeD cx c t H).run=some (s,d) →
  ∀ β a w,Good E H0 β0 w0 cx.n [] t H β a w→c.wp cx.P (PostK E H0 β0 w0 cx.n s d) a w:=by
 intro c
 have plain:∀ (c:Code) (t:T) (H:List O) (s:St) (d:Option V),((dcode cx c t H).bind fun s=>Tree.leaf (s,(none:Option V))).run=some (s,d) →
   ∀ β a w,Good E H0 β0 w0 cx.n [] t H β a w→c.wp cx.P (PostK E H0 β0 w0 cx.n s d) a w:=by
  intro c t H s d h β a w hg
  obtain ⟨s',h1,h2⟩:=bind_run h
  simp only [Tree.run,Option.some.injEq,Prod.mk.injEq] at h2
  obtain ⟨rfl,rfl⟩:=h2
  exact wp_mono (wp_plain hT h1 hs hg) fun _ _ _ hp=>hp
 induction c with
 | seq x y ihx ihy =>
  intro t H s d h β a w hg
  unfold dcodeD at h
  split at h
  ·rename_i d' fn first cap hdef
   obtain ⟨id,ops,rfl,hslot⟩:=defOf_spec hdef
   obtain ⟨o1,o2,fa,ca,cl,rfl,e1,e2,e3,e4,e5,e6,e7,e8,e9,e10⟩:=defSlot_spec hslot
   cases hb:Nat.blt d' cx.n
   ·rw [hb] at h; cases h
   rw [hb,cond_true] at h
   have hlt:d' < cx.n:=by simpa [Nat.blt_eq] using hb
   obtain ⟨s',h1,h2⟩:=bind_run h
   simp only [Tree.run,Option.some.injEq,Prod.mk.injEq] at h2
   obtain ⟨rfl,rfl⟩:=h2
   have hrd:=fun x=>rd_R hg.fr x
   have hclo:R w (Xs E H β) β (.clo fn (first.map (rd t)) (cap.map (rd t))) (.func fn (fa.map a.eval) (ca.map a.eval)):=by
    have get:∀ (l:List Operand) (k:Nat) (v:V) (x:Value),(l.map (rd t))[k]? = some v→(l.map a.eval)[k]? = some x→R w (Xs E H β) β v x:=by
     intro l k v x h1 h2
     simp only [List.getElem?_map,Option.map_eq_some_iff] at h1 h2
     obtain ⟨u,hu,rfl⟩:=h1
     obtain ⟨u',hu',rfl⟩:=h2
     rw [hu] at hu'
     simp only [Option.some.injEq] at hu'
     subst hu'
     exact hrd u
    have q1:fa.map a.eval=(first.map a.eval).toArray:=by rw [← e2]; apply Array.ext'; simp
    have q2:ca.map a.eval=(cap.map a.eval).toArray:=by rw [← e3]; apply Array.ext'; simp
    rw [q1,q2]
    exact .clo β fn _ _ _ _ (by simp) (by simp) (get _) (get _)
   refine wp_seq (wp_region ?_)
   have hl:List.range (#[o1,o2]:Array Oper).size=[0,1]:=rfl
   have w1:∀ y,Region.wanted o1 y=true:=fun y=>by simp [Region.wanted,e5]
   have w2:∀ y,Region.wanted o2 y=true:=fun y=>by simp [Region.wanted,e10]
   rw [hl]
   simp only [wpOps,List.getElem?_toArray,List.getElem?_cons_zero,List.getElem?_cons_succ,w1,w2,if_true]
   refine .inl ?_
   have r1:(execOp a.eval o1).run cx.P w = .ok (.value (.func fn (fa.map a.eval) (ca.map a.eval))) w:=by
    simp only [execOp,e1]
    rfl
   unfold Oper.wp
   rw [r1,Oper.upon_value]
   refine .inl ?_
   have hsz:d' < a.tmps.size:=by rw [hg.fr.size]; exact hlt
   have r2:(execOp (a.put o1.dst (.func fn (fa.map a.eval) (ca.map a.eval))).eval o2).run cx.P w = .ok (.defer { target:=.fn fn (ca.map a.eval),args:=fa.map a.eval }) w:=by
    have hev:(a.put o1.dst (.func fn (fa.map a.eval) (ca.map a.eval))).eval (.tmp d') = .func fn (fa.map a.eval) (ca.map a.eval):=by
     simp [e4,Act.put,Act.eval,Array.getD_eq_getD_getElem?,hsz]
    simp only [execOp,e6,resolve,e7,e8,hev,Deferred.ofValue]
    simp
   rw [r2,Oper.upon_defer]
   simp only [e9,e4,Act.put,Exit.then]
   have hfr:=hg.fr.put (d:=d') hlt hclo
   have hg' : Good E H β w cx.n [{ target:=.fn fn (ca.map a.eval),args:=fa.map a.eval }] (keep cx.keeps (put d' (.clo fn (first.map (rd t)) (cap.map (rd t))) t)) H β
     { tmps:=a.tmps.setIfInBounds d' (.func fn (fa.map a.eval) (ca.map a.eval)),defers:={ target:=.fn fn (ca.map a.eval),args:=fa.map a.eval } :: a.defers } w:=
    ⟨Step.refl hg.step.rel,⟨hfr.size,fun k=>(hfr.keep cx.keeps).slot k⟩,by rw [hg.defers]⟩
   refine wp_mono (wp_plain hT h1 (hs.now hg.step) hg') fun e a' w' hp=>?_
   exact ⟨_,H,β,w,_,hg.step,hclo,⟨fn,_,_,rfl,rfl⟩,hp⟩
  ·obtain ⟨s',h1,h2⟩:=bind_run h
   refine wp_seq (wp_mono (wp_plain hT h1 hs hg) ?_)
   intro e a' w' hp
   obtain ⟨ex,t',H'⟩:=s'
   cases e with
   | normal =>
    obtain ⟨t2,H2,β2,hq,hg2⟩:=hp
    cases hq
    exact ihy t' H' s d h2 β2 a' w' hg2
   | exit id =>
    obtain ⟨t2,H2,β2,hq,hg2⟩:=hp
    cases hq
    simp only [Tree.run,Option.some.injEq,Prod.mk.injEq] at h2
    obtain ⟨rfl,rfl⟩:=h2
    exact ⟨t',H',β2,rfl,hg2⟩
   | ret =>
    obtain ⟨t2,H2,β2,hq,hg2⟩:=hp
    cases hq
    simp only [Tree.run,Option.some.injEq,Prod.mk.injEq] at h2
    obtain ⟨rfl,rfl⟩:=h2
    exact ⟨t',H',β2,rfl,hg2⟩
   | panic ch =>
    obtain ⟨t2,H2,β2,v,x,hq,hg2⟩:=hp
    cases hq
    simp only [Tree.run,Option.some.injEq,Prod.mk.injEq] at h2
    obtain ⟨rfl,rfl⟩:=h2
    exact ⟨t',H',β2,v,x,rfl,hg2⟩
   | goto l=>exact hp.elim
   | outgrown=>exact hp.elim
 | _=>exact plain _
theorem mcall_defer {cx cl:Cx} {f g:Nat} {fn fg:Func} {args:List V} {r:Res} (hT:CxOk cx) (hL:CxOk cl) (hP:cl.P=cx.P) (hf:cx.P.funcs[f]? = some fn)
  (hname : (fn.name == "runtime.NumGoroutine") = false) (hg : cx.P.funcs[g]? = some fg) (hgname : (fg.name == "runtime.NumGoroutine") = false) (hn : Nat.ble args.length fn.ntmps = true)
  (h:(dfunD cx cl fn g fg args H).run=some r):MCall cx.P f args H r:=by
 have hname : fn.name ≠ "runtime.NumGoroutine" := by intro e; rw [e] at hname; simp at hname
 have hgname : fg.name ≠ "runtime.NumGoroutine" := by intro e; rw [e] at hgname; simp at hgname
 unfold dfunD at h
 split at h
 rotate_left
 ·cases h
 rename_i c hb
 obtain ⟨⟨s,d⟩,h1,h2⟩:=bind_run h
 refine ⟨⟨fn,hf,hname,by simp [hb]⟩,?_⟩
 intro w E β rargs hE hrel hlen hargs
 refine calls_of_wp_defers hf hb ?_
 have hgood:Good E H β w fn.ntmps [] (initT 0 args) H β _ w:=⟨Step.refl hrel,fr_init hlen (Nat.le_of_ble_eq_true hn) hargs,rfl⟩
 refine wp_mono (wp_dcodeD (cx:={ cx with n:=fn.ntmps }) hT hE c _ _ s d h1 β _ w hgood) ?_
 intro e a w' hp
 cases d with
 | none =>
  have fin:∀ t H2 β2,answerM cx.P fn.results.toList (.ret,t,H2)=answerM cx.P fn.results.toList s→Good E H β w fn.ntmps [] t H2 β2 a w' → Leaves cx.P fn a.tmps (Outcome E H β w r) a.defers .returning w' := by
   intro t H2 β2 hs hg
   rw [hg.defers]
   have h2:(answerM cx.P fn.results.toList (.ret,t,H2)).run=some r:=by rw [hs]; exact h2
   unfold answerM at h2
   simp only at h2
   split at h2
   rotate_left
   ·cases h2
   rename_i v hv
   simp only [Tree.run,Option.some.injEq] at h2
   subst h2
   obtain ⟨y,q1,q2⟩:=answerI_R hg.step.rel hg.fr hv
   exact ⟨y,q1,y,β2,rfl,hg.step,q2⟩
  cases e with
  | normal=>obtain ⟨t,H2,β2,hq,hg⟩:=hp; subst hq; exact fin t H2 β2 rfl hg
  | ret=>obtain ⟨t,H2,β2,hq,hg⟩:=hp; subst hq; exact fin t H2 β2 rfl hg
  | exit id=>obtain ⟨t,H2,β2,hq,hg⟩:=hp; subst hq; cases h2
  | panic ch =>
   obtain ⟨t,H2,β2,v,x,hq,hg,hx,rfl⟩:=hp
   subst hq
   simp only [deferS,answerM,Tree.run,Option.some.injEq] at h2
   subst h2
   simp only [bodyPostD,hg.defers]
   exact ⟨x,β2,rfl,hg.step,hx⟩
  | goto l=>exact hp.elim
  | outgrown=>exact hp.elim
 | some cv =>
  obtain ⟨df,H1,β1,w1,x,hst,hx,⟨fv,first,cap,rfl,rfl⟩,hp⟩:=hp
  unfold deferS at h2
  split at h2
  ·rename_i heq; cases heq
  rotate_left
  ·cases h2
  rename_i s' g' fs cs heq
  simp only [Prod.mk.injEq,Option.some.injEq] at heq
  obtain ⟨rfl,rfl⟩:=heq
  cases hbq:(Nat.beq g' g && Nat.ble (fs++cs).length fg.ntmps)
  ·rw [hbq] at h2; cases h2
  rw [hbq,cond_true] at h2
  obtain ⟨b1,b2⟩:=Bool.and_eq_true_iff.1 hbq
  have b1:=Nat.eq_of_beq_eq_true b1
  subst b1
  have b2:=Nat.le_of_ble_eq_true b2
  have hfv:fv = .func g' := by cases hx; rfl
  subst hfv
  have fin:∀ (t:T) (H2:List O) (β2:List Loc) (rv:Option V) (u u2:FrameMode),u ≠ .run→settle u2 = .returning→Good E H1 β1 w1 fn.ntmps [{ target:=.fn (.func g') cap,args:=first }] t H2 β2 a w' →
    Mode w' (Xs E H2 β2) β2 u u2 rv→((dcl cl fg (fs++cs) H2 rv).bind fun H=>answerM cx.P fn.results.toList (.ret,t,H)).run=some r →
    Leaves cx.P fn a.tmps (Outcome E H β w r) a.defers u w' := by
   intro t H2 β2 rv u u2 hrun hset hg2 hmode hh
   rw [hg2.defers]
   obtain ⟨H3,q1,q2⟩:=bind_run hh
   have hclo:=hg2.step.keepR hx
   obtain ⟨xs,ys,hxs,hys,hl1,hl2,r1,r2⟩:∃ xs ys:List Value,first=xs.toArray∧cap=ys.toArray∧xs.length=fs.length∧ys.length=cs.length ∧
     (∀ (k:Nat) (v:V) (x:Value),fs[k]? = some v→xs[k]? = some x→R w' (Xs E H2 β2) β2 v x)∧(∀ (k:Nat) (v:V) (x:Value),cs[k]? = some v→ys[k]? = some x→R w' (Xs E H2 β2) β2 v x):=by
    cases hclo with
    | clo _ _ _ _ xs ys hl hm k1 k2=>exact ⟨xs,ys,rfl,rfl,hl,hm,k1,k2⟩
   subst hxs
   subst hys
   have hbody:fg.body.isSome=true:=by
    unfold dcl at q1
    split at q1
    ·rename_i hbody; rw [hbody]; rfl
    ·cases q1
   have happ:(xs++ys).length=(fs++cs).length:=by simp [hl1,hl2]
   have hinv:(invoke (.fn (.func g') ys.toArray) xs.toArray).run cx.P w' = .ok (.enter g' (xs++ys).toArray) w' := by
    obtain ⟨bd,hbd⟩:=Option.isSome_iff_exists.1 hbody
    simp [invoke,callFunc,hg,hgname,hbd]
   refine leaves_cons hrun hinv ?_
   have hs2:StartOk cl.P E H2 β2 w' := by rw [hP]; exact (StartOk.now (StartOk.now hE hst) hg2.step:_)
   have:=dcl_sound (cx:=cl) hL (g:=g') (by rw [hP]; exact hg) q1 hs2 hg2.step.rel happ b2 (by
    intro k v x hv hx
    by_cases hk:k<fs.length
    ·rw [List.getElem?_append_left hk] at hv
     rw [List.getElem?_append_left (by omega)] at hx
     exact r1 k v x hv hx
    ·rw [List.getElem?_append_right (by omega)] at hv
     rw [List.getElem?_append_right (by omega),hl1] at hx
     exact r2 _ v x hv hx) hmode
   rw [hP] at this
   refine this.mono ?_
   rintro e u' w2 ⟨⟨y,rfl⟩,rfl,β3,hst3⟩
   simp only [hset]
   unfold answerM at q2
   simp only at q2
   split at q2
   rotate_left
   ·cases q2
   rename_i v hv
   simp only [Tree.run,Option.some.injEq] at q2
   subst q2
   obtain ⟨z,z1,z2⟩:=answerI_R hst3.rel (hg2.fr.step hst3) hv
   exact ⟨z,z1,z,β3,rfl,(hst.trans hg2.step).trans hst3,z2⟩
  cases e with
  | normal=>obtain ⟨t,H2,β2,hq,hg2⟩:=hp; subst hq; exact fin t H2 β2 none .returning .returning (by simp) rfl hg2 ⟨rfl,rfl⟩ h2
  | ret=>obtain ⟨t,H2,β2,hq,hg2⟩:=hp; subst hq; exact fin t H2 β2 none .returning .returning (by simp) rfl hg2 ⟨rfl,rfl⟩ h2
  | exit id=>obtain ⟨t,H2,β2,hq,hg2⟩:=hp; subst hq; cases h2
  | panic ch =>
   obtain ⟨t,H2,β2,v,x,hq,hg2,hx2,rfl⟩:=hp
   subst hq
   exact fin t H2 β2 (some v) _ (.panicking [{ v:=x,recovered:=true }]) (by simp) rfl hg2 ⟨x,hx2,rfl,rfl⟩ h2
  | goto l=>exact hp.elim
  | outgrown=>exact hp.elim
theorem pcall_of_mcall {f:Nat} {args:List V} {v out:V} {H' : List O} (h:MCall P f args [] (.ok v H')) (hp:V.pure? v=some out):PCall P f args out:=by
 obtain ⟨hnorm,hc⟩:=h
 refine ⟨hnorm,fun w E rargs hE hlen hargs=>?_⟩
 have hX:∀ v x,R w E [] v x→R w (Xs E [] []) [] v x:=fun v x h=>h.stab ⟨fun b o v h1 h2=>⟨fun h=>h.elim h1 (own_nil b o),h2⟩,fun b cs e h=>⟨cs,e,h⟩⟩ [] (.refl _)
 refine (hc w E [] rargs ⟨fun b o hb=>⟨hE.1 b o hb,own_nil b o⟩,fun p hp=>hX _ _ (hE.2 p hp)⟩ (rel_nil _ _) hlen fun k v x h1 h2=>hX v x (hargs k v x h1 h2)).mono ?_
 rintro e w' ⟨y,β',rfl,st,hr⟩
 refine ⟨y,rfl,?_,?_⟩
 ·exact ⟨rel_nil _ _,st.os,st.tape,st.output,st.size,fun b hb=>by
   rcases st.pres b hb with h | ⟨⟨o,h⟩,_⟩ | ⟨⟨o,h⟩,_⟩
   ·exact .inl h
   ·exact absurd h (own_nil b o)
   ·exact absurd h (own_nil b o),fun b o h=>absurd h (own_nil b o),.nil _⟩
 ·exact (pure_R hr out hp).stab ⟨fun b o v h1 h2=>⟨fun h=>h1 (.inl h),h2⟩,fun b cs e h=>⟨cs,e,h⟩⟩ [] (.refl _)
end
end Go.Ab

namespace Go.Ab
def ordsF (cx:Cx) (ops:Array Oper):Nat→Array Bool→T × List O→Option (List (T × List O))
 | 0,listed,p=>cond (Region.ready .any ops listed).isEmpty (some [p]) none
 | fuel+1,listed,p=>cond (Region.ready .any ops listed).isEmpty none
  ((Region.ready .any ops listed).foldr (fun i acc=>match acc,ops[i]? with
   | some l,some o=>match step1 cx ops o p with
    | some q=>match ordsF cx ops fuel (listed.setIfInBounds i true) q with
     | some m=>some (m++l)
     | none=>none
    | none=>none
   | _,_=>none) (some []))
def ordK (ks:List Nat) (t:T):List Nat:=ks.map fun d=>match get d t with
 | .ptr i _=>i
 | _=>0
section
variable {P:Program} {n:Nat} {Q:AEx→T→List O→Prop} {t:T} {H:List O} {cx:Cx} {ops:Array Oper}
theorem ords_step {fuel:Nat} {listed:Array Bool} {p:T × List O}:∀ (is:List Nat) (l:List (T × List O)),
  is.foldr (fun i acc=>match acc,ops[i]? with
   | some l,some o=>match step1 cx ops o p with
    | some q=>match ordsF cx ops fuel (listed.setIfInBounds i true) q with
     | some m=>some (m++l)
     | none=>none
    | none=>none
   | _,_=>none) (some [])=some l →
  ∀ i ∈ is,∃ o q m,ops[i]? = some o∧step1 cx ops o p=some q∧ordsF cx ops fuel (listed.setIfInBounds i true) q=some m ∧ ∀ s ∈ m,s ∈ l
 | [],_,_,i,hi=>by cases hi
 | j :: is,l,h,i,hi=>by
  rw [List.foldr_cons] at h
  split at h
  rotate_left
  ·cases h
  rename_i l' o h1 h2
  split at h
  rotate_left
  ·cases h
  rename_i q hq
  split at h
  rotate_left
  ·cases h
  rename_i m hm
  simp only [Option.some.injEq] at h
  subst h
  rcases List.mem_cons.1 hi with rfl | hi
  ·exact ⟨o,q,m,h2,hq,hm,fun s hs=>List.mem_append_left _ hs⟩
  ·obtain ⟨o',q',m',g1,g2,g3,g4⟩:=ords_step is l' h1 i hi
   exact ⟨o',q',m',g1,g2,g3,fun s hs=>List.mem_append_right _ (g4 s hs)⟩
theorem ords_sound (hT:CxOk cx) {E H0 β0 w0 D} (hs:StartOk cx.P E H0 β0 w0):∀ (fuel:Nat) (listed:Array Bool) (p:T × List O) (l:List (T × List O)) (β:List Loc) (a:Act) (w:World),
  ordsF cx ops fuel listed p=some l→(∀ s ∈ l,Q .normal s.1 s.2)→Good E H0 β0 w0 cx.n D p.1 p.2 β a w→wpAny cx.P .any ops (Post E H0 β0 w0 cx.n D Q) fuel listed a w
 | 0,listed,p,l,β,a,w,h,hq,hg=>by
  unfold ordsF at h
  cases hr:(Region.ready .any ops listed).isEmpty
  ·rw [hr] at h; cases h
  rw [hr] at h
  simp only [cond_true,Option.some.injEq] at h
  subst h
  exact ⟨by simpa using hr,p.1,p.2,β,hq p List.mem_cons_self,hg⟩
 | fuel+1,listed,p,l,β,a,w,h,hq,hg=>by
  unfold ordsF at h
  cases hr:(Region.ready .any ops listed).isEmpty
  rotate_left
  ·rw [hr] at h; cases h
  rw [hr,cond_false] at h
  refine ⟨fun h0=>(by rw [h0] at hr; cases hr),fun i hi=>?_⟩
  obtain ⟨o,q,m,g1,g2,g3,g4⟩:=ords_step _ l h i hi
  refine step1_sound hT hs g1 (t:=p.1) (H:=p.2) hg g2 ?_
  intro β' a' w' hg'
  exact ords_sound hT hs fuel _ q m β' a' w' g3 (fun s hs=>hq s (g4 s hs)) hg'
theorem AWP_orders (hP:cx.P=P) (hn:cx.n=n) (hT:CxOk cx) {id:Nat} (hm:cx.P.follows .mixedOrders=true) {l:List (T × List O)}
  (h:ordsF cx ops ops.size (Array.replicate ops.size false) (t,H)=some l) (hq:∀ s ∈ l,Q .normal s.1 s.2):AWP P n (.region id ops true) Q t H:=by
 subst hP
 subst hn
 intro E H0 β0 w0 D β a w hs hg
 refine wp_region_any hm ?_
 have st:=Step.heap_same (w' := { w with drawn:=w.drawn+1 }) hg.step.rel rfl rfl rfl rfl
 exact ords_sound hT hs ops.size _ (t,H) l β a _ h hq ⟨hg.step.trans st,hg.fr.step st,hg.defers⟩
def regOps:Code→Array Oper
 | .region _ ops _=>ops
 | _=>#[]
theorem AWP_ordersK (ks:List Nat) (k:Nat) (hP:cx.P=P) (hn:cx.n=n) (hT:CxOk cx) {id:Nat} (hm:cx.P.follows .mixedOrders=true) {t' : T} {H' : List O}
  (h:(ordsF cx ops ops.size (Array.replicate ops.size false) (t,H)).map (fun l=>l.map fun s=>dropS H.length (ordK ks s.1) (.normal,s.1,s.2))=some (List.replicate k (some (.normal,t',H'))))
  (hq:Q .normal t' H'):AWP P n (.region id ops true) Q t H:=by
 obtain ⟨l,hl,h2⟩:=Option.map_eq_some_iff.1 h
 refine AWP_scope (AWP_orders hP hn hT hm hl fun s hs=>⟨ordK ks s.1,(.normal,t',H'),?_,hq⟩)
 have:dropS H.length (ordK ks s.1) (.normal,s.1,s.2) ∈ List.replicate k (some ((.normal,t',H'):St)):=by rw [← h2]; exact List.mem_map_of_mem hs
 exact (List.mem_replicate.1 this).2
end
end Go.Ab

namespace Go.Ab
theorem xcall_of {P : Program} {f : Nat} {fn : Func} {e : Array Value → Sem Value} {args : List V} {out : V} (hf : P.funcs[f]? = some fn) (hname : (fn.name == "runtime.NumGoroutine") = false)
  (hb:fn.body.isNone=true) (hn:Extern.findNext fn=none) (he:Extern.find fn=some e)
  (h:∀ (w:World) (X:Nat→Nat→Prop) (β:List Loc) (rargs:List Value),rargs.length=args.length →
   (∀ (k:Nat) (v:V) (x:Value),args[k]? = some v→rargs[k]? = some x→R w X β v x) → ∃ y,(e rargs.toArray).run P w = .ok y w∧R w X β out y):XCall P f args out:=by
 intro w X β rargs hl hr
 obtain ⟨y,h1,h2⟩:=h w X β rargs hl hr
 refine ⟨y,?_,h2⟩
 rw [run_callFunc_extern hf hname hb hn he,h1]
 rfl
def idxB (s:List UInt8) (c:UInt8):Int:=Lib.indexByte s c
def idxByteS:Spec:=fun args=>match args with
 | [.str s,.int .u8 c]=>.leaf (.int .i64 (idxB s c.toNat.toUInt8))
 | _=>.fail
theorem idxByteS_ok {P : Program} {f : Nat} {fn : Func} (hf : P.funcs[f]? = some fn) (hname : (fn.name == "runtime.NumGoroutine") = false) (hb : fn.body.isNone = true) (hn : Extern.findNext fn = none)
  (he:Extern.find fn=some Extern.BytealgIndexByte.indexByte):XSound P f idxByteS:=by
 intro args out h
 unfold idxByteS at h
 split at h
 rotate_left
 ·cases h
 rename_i s c
 cases h
 refine xcall_of hf hname hb hn he fun w X β rargs hl hr=>?_
 match rargs,hl with
 | [x,y],_ =>
  have h1:=hr 0 _ x rfl rfl
  have h2:=hr 1 _ y rfl rfl
  cases h1
  cases h2
  refine ⟨_,run_indexByte_string _ _ _,?_⟩
  rw [Lib.firstIdx_eq]
  exact .int _ _ _
def add64S:Spec:=fun args=>match args with
 | [.int .u64 x,.int .u64 y,.int .u64 c]=>.req (decide (0≤x) && decide (0≤y) && decide (0≤c) && decide (c≤1))
   (.leaf (.tup [.int .u64 ((x+y+c) % 18446744073709551616),.int .u64 ((x+y+c) / 18446744073709551616)]))
 | _=>.fail
theorem pair_R {w:World} {X:Nat→Nat→Prop} {β:List Loc} (a b:Int):R w X β (.tup [.int .u64 a,.int .u64 b]) (.tuple #[.int .u64 a,.int .u64 b]):=by
 refine .tup β [.int .u64 a,.int .u64 b] [.int .u64 a,.int .u64 b] rfl fun k v x h1 h2=>?_
 match k,h1,h2 with
 | 0,h1,h2=>cases h1; cases h2; exact .int _ _ _
 | 1,h1,h2=>cases h1; cases h2; exact .int _ _ _
theorem three_args {w:World} {X:Nat→Nat→Prop} {β:List Loc} {rargs:List Value} {x y c:Int} (hl:rargs.length=3)
  (hr:∀ (k:Nat) (v:V) (z:Value),([.int .u64 x,.int .u64 y,.int .u64 c]:List V)[k]? = some v→rargs[k]? = some z→R w X β v z):rargs=[.int .u64 x,.int .u64 y,.int .u64 c]:=by
 match rargs,hl with
 | [p,q,r],_ =>
  have h1:=hr 0 _ p rfl rfl
  have h2:=hr 1 _ q rfl rfl
  have h3:=hr 2 _ r rfl rfl
  cases h1
  cases h2
  cases h3
  rfl
theorem add64S_ok {P : Program} {f : Nat} {fn : Func} (hf : P.funcs[f]? = some fn) (hname : (fn.name == "runtime.NumGoroutine") = false) (hb : fn.body.isNone = true) (hn : Extern.findNext fn = none)
  (he:Extern.find fn=some add64Entry):XSound P f add64S:=by
 intro args out h
 unfold add64S at h
 split at h
 rotate_left
 ·cases h
 rename_i x y c
 obtain ⟨h1,h⟩:=req_run h
 cases h
 simp only [Bool.and_eq_true,decide_eq_true_eq] at h1
 obtain ⟨⟨⟨h1,h2⟩,h3⟩,h4⟩:=h1
 refine xcall_of hf hname hb hn he fun w X β rargs hl hr=>?_
 rw [three_args hl hr]
 exact ⟨_,run_add64 x y c h1 h2 h3 h4 w,pair_R _ _⟩
def sub64Entry:Array Value→Sem Value:=fun args=>do
 let (x, y, b) ← Extern.MathBitsCarry.three "Sub64" args
 pure (Extern.MathBitsCarry.pair ((x+Extern.MathBitsCarry.m64 - y - b) % Extern.MathBitsCarry.m64) (if x<y+b then 1 else 0))
theorem run_sub64 {P:Program} (x y c:Int) (hx:0≤x) (hy:0≤y) (hx1:x<18446744073709551616) (hy1:y<18446744073709551616) (hc0:0≤c) (hc:c≤1) (w:World) :
  (sub64Entry #[.int .u64 x,.int .u64 y,.int .u64 c]).run P w =
   .ok (.tuple #[.int .u64 ((x - y - c) % 18446744073709551616),.int .u64 (if x<y+c then 1 else 0)]) w:=by
 have key:∀ k:Nat,k≤1→(sub64Entry #[.int .u64 x,.int .u64 y,.int .u64 (k:Int)]).run P w =
   .ok (Extern.MathBitsCarry.pair ((x.toNat+Extern.MathBitsCarry.m64 - y.toNat - k) % Extern.MathBitsCarry.m64) (if x.toNat<y.toNat+k then 1 else 0)) w:=by
  intro k hk
  have:k=0∨k=1:=by omega
  rcases this with rfl | rfl <;> rfl
 obtain ⟨k,rfl⟩:=Int.eq_ofNat_of_zero_le hc0
 rw [key k (by omega)]
 obtain ⟨A,rfl⟩:=Int.eq_ofNat_of_zero_le hx
 obtain ⟨B,rfl⟩:=Int.eq_ofNat_of_zero_le hy
 have e1:(((A+18446744073709551616 - B - k) % 18446744073709551616:Nat):Int)=((A:Int) - B - k) % 18446744073709551616:=by omega
 have e2:((if A<B+k then 1 else 0:Nat):Int)=if (A:Int)<(B:Int)+k then 1 else 0:=by
  by_cases h:A<B+k
  ·rw [if_pos h,if_pos (by omega)]; rfl
  ·rw [if_neg h,if_neg (by omega)]; rfl
 show Result.ok (Value.tuple #[.int .u64 (((A+18446744073709551616 - B - k) % 18446744073709551616:Nat):Int),.int .u64 ((if A<B+k then 1 else 0:Nat):Int)]) w=_
 rw [e1,e2]
def sub64S:Spec:=fun args=>match args with
 | [.int .u64 x,.int .u64 y,.int .u64 c]=>.req (decide (0≤x) && decide (0≤y) && decide (x<18446744073709551616) && decide (y<18446744073709551616) && decide (0≤c) && decide (c≤1))
   (.leaf (.tup [.int .u64 ((x - y - c) % 18446744073709551616),.int .u64 (cond (decide (x<y+c)) 1 0)]))
 | _=>.fail
theorem sub64S_ok {P : Program} {f : Nat} {fn : Func} (hf : P.funcs[f]? = some fn) (hname : (fn.name == "runtime.NumGoroutine") = false) (hb : fn.body.isNone = true) (hn : Extern.findNext fn = none)
  (he:Extern.find fn=some sub64Entry):XSound P f sub64S:=by
 intro args out h
 unfold sub64S at h
 split at h
 rotate_left
 ·cases h
 rename_i x y c
 obtain ⟨h1,h⟩:=req_run h
 cases h
 simp only [Bool.and_eq_true,decide_eq_true_eq] at h1
 obtain ⟨⟨⟨⟨⟨h1,h2⟩,h3⟩,h4⟩,h5⟩,h6⟩:=h1
 refine xcall_of hf hname hb hn he fun w X β rargs hl hr=>?_
 rw [three_args hl hr]
 refine ⟨_,run_sub64 x y c h1 h2 h3 h4 h5 h6 w,?_⟩
 have e:(if x<y+c then (1:Int) else 0)=cond (decide (x<y+c)) 1 0:=by
  by_cases h:x<y+c
  ·rw [if_pos h,decide_eq_true h]; rfl
  ·rw [if_neg h,decide_eq_false h]; rfl
 rw [e]
 exact pair_R _ _
end Go.Ab

namespace Go.Ab
structure Fi where
 f:Nat
 fn:Func
 keeps:List Nat
 refs:List Nat:=[]
 fuel:Nat:=0
 lz:List Nat:=[]
structure Tabs where
 tab:List (Nat × Spec):=[]
 mtab:List (Nat × MSpec):=[]
 rtab:List (Nat × RSpec):=[]
 globs:List (Nat × List V):=[]
 nums:List Nat:=[]
def Tabs.Ok (P:Program) (T:Tabs):Prop:=TabOk P T.tab∧MTabOk P T.mtab∧RTabOk P T.rtab ∧ ∀ p ∈ T.globs,p ∈ globsOf P
def Fi.cx (P:Program) (T:Tabs) (i:Fi):Cx:={ P:=P,n:=i.fn.ntmps,tab:=T.tab,mtab:=T.mtab,refs:=i.refs,keeps:=i.keeps,fuel:=i.fuel,rtab:=T.rtab,globs:=T.globs,lz:=i.lz,nums:=T.nums }
def Fi.spec (P:Program) (T:Tabs) (i:Fi):Nat × Spec:=(i.f,fun args=>.req (Nat.ble args.length i.fn.ntmps) (dfun (i.cx P T) i.fn args))
def Fi.mspec (P:Program) (T:Tabs) (i:Fi):Nat × MSpec:=(i.f,fun args H=>.req (Nat.ble args.length i.fn.ntmps) (mfun (i.cx P T) i.fn args H))
def deep (P:Program) (T:Tabs) (ps ms:List Fi):Nat→Tabs
 | 0=>T
 | d+1=>{ tab:=ps.map (Fi.spec P (deep P T ps ms d))++T.tab,mtab:=ms.map (Fi.mspec P (deep P T ps ms d))++T.mtab,rtab:=T.rtab,globs:=T.globs,nums:=T.nums }
def FisOk (P:Program):List Fi→Prop
 | []=>True
 | i :: r => (P.funcs[i.f]? = some i.fn ∧ (i.fn.name == "runtime.NumGoroutine") = false) ∧ FisOk P r
theorem FisOk.get {P : Program} : ∀ {l : List Fi}, FisOk P l → ∀ i ∈ l, P.funcs[i.f]? = some i.fn ∧ (i.fn.name == "runtime.NumGoroutine") = false
 | [],_,i,h=>by cases h
 | j :: r,h,i,hi=>by
  rcases List.mem_cons.1 hi with rfl | hi
  ·exact h.1
  ·exact FisOk.get h.2 i hi
theorem deep_ok {P:Program} {T:Tabs} {ps ms:List Fi} (hT:T.Ok P) (hps:FisOk P ps) (hms:FisOk P ms):∀ d,(deep P T ps ms d).Ok P
 | 0=>hT
 | d+1=>by
  have ih:=deep_ok hT hps hms d
  refine ⟨fun p hp=>?_,fun p hp=>?_,hT.2.2⟩
  ·rcases List.mem_append.1 hp with hp | hp
   ·obtain ⟨i,hi,rfl⟩:=List.mem_map.1 hp
    obtain ⟨h1,h2⟩:=hps.get i hi
    exact .inl (sound_fun (cx:=i.cx P (deep P T ps ms d)) ih h1 h2)
   ·exact hT.1 p hp
  ·rcases List.mem_append.1 hp with hp | hp
   ·obtain ⟨i,hi,rfl⟩:=List.mem_map.1 hp
    obtain ⟨h1,h2⟩:=hms.get i hi
    exact msound_fun (cx:=i.cx P (deep P T ps ms d)) ih h1 h2
   ·exact hT.2.1 p hp
end Go.Ab

namespace Go.Ab
open Go
noncomputable def Tree.fin {α:Type} (t:Tree α):Option α:=
 Tree.rec (motive:=fun _=>Option α) (fun b=>some b) none (fun c _ _ x y=>Bool.rec (motive:=fun _=>Option α) y x c) t
theorem Tree.fin_run {α:Type}:∀ t:Tree α,t.fin=t.run
 | .leaf _=>rfl
 | .fail=>rfl
 | .br true x _=>Tree.fin_run x
 | .br false _ y=>Tree.fin_run y
end Go.Ab

namespace Go.Ab
open Go
def rnd (n:Nat) (κ ks:List Nat) (s:St):Tree St:=match dropS n κ s with
 | some (e,t,H)=>.leaf (e,keep ks t,H)
 | none=>.fail
def RoundK {α:Type} (st:α→T × List O) (μ:α→Nat) (ks:List Nat) (Q:AEx→T→List O→Prop) (i:α) (s:St):Prop:=
 match s.1 with
 | .normal=>∃ j,μ j<μ i∧TLe s.2.1 (st j).1∧s.2.2=(st j).2
 | e=>∀ t,s.2.1=keep ks t→Q e t s.2.2
section
variable {P:Program} {n:Nat} {cx:Cx} {Q:AEx→T→List O→Prop}
theorem rnd_spec {m:Nat} {κ ks:List Nat} {s:St} {R:St→Prop} (h:(rnd m κ ks s).all R):∃ s',dropS m κ s=some s' ∧ R (s'.1,keep ks s'.2.1,s'.2.2):=by
 unfold rnd at h
 split at h
 ·rename_i e t H hd
  exact ⟨_,hd,h⟩
 ·exact h.elim
theorem AWP_roundsK {α:Type} (hP:cx.P=P) (hn:cx.n=n) (hT:CxOk cx) (st:α→T × List O) (μ:α→Nat) (κ ks:List Nat) {body:Code}
  (h:∀ i,((dcode cx body (st i).1 (st i).2).bind (rnd (st i).2.length κ ks)).all (RoundK st μ ks Q i)) (i:α):AWP P n (.loop body) Q (st i).1 (st i).2:=by
 refine AWP_rounds hP hn hT st μ (fun i=>?_) i
 refine Tree.all_mono (Tree.all_bind (h i)) fun s hs=>?_
 obtain ⟨s',h1,h2⟩:=rnd_spec hs
 refine ⟨κ,s',h1,?_⟩
 obtain ⟨e,t,H⟩:=s'
 unfold RoundK at h2
 cases e with
 | normal =>
  obtain ⟨j,a,b,c⟩:=h2
  refine ⟨j,a,fun d=>?_,c⟩
  rcases b d with g | g
  ·rcases TLe.keep ks t d with k | k
   ·exact .inl (g.trans k)
   ·rw [k] at g; exact .inr g
  ·exact .inr g
 | exit id=>exact h2 t rfl
 | ret=>exact h2 t rfl
 | panic v=>exact h2 t rfl
end
end Go.Ab
