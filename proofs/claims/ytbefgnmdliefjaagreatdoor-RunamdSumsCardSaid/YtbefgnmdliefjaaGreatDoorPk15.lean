/-
  The engine, part W: contracts out of bodies, where what was handed in is written. Conditions: none.
-/
import Derived.Test.YtbefgnmdliefjaaGreatDoorBbV
set_option linter.unusedVariables false
set_option linter.unusedSimpArgs false
namespace Go.Ab
def answerI (P:Program) (rs:List ResultVar) (H:List O) (t:T):Option V:=
 match resV P H t rs with
 | some [v]=>some v
 | some vs=>some (.tup vs)
 | none=>none
def answerM (P:Program) (rs:List ResultVar):St→Tree Res
 | (.ret,t,H) | (.normal,t,H)=>match answerI P rs H t with
  | some v=>.leaf (.ok v H)
  | none=>.fail
 | (.panic v,_,H)=>.leaf (.pan v H)
 | _=>.fail
def mfun (cx:Cx) (fn:Func) (args:List V) (H:List O):Tree Res:=
 match fn.body with
 | some c=>(dcode { cx with n:=fn.ntmps } c (initT 0 args) H).bind (answerM cx.P fn.results.toList)
 | none=>.fail
def MPost (P:Program) (fn:Func) (r:Res) (e:AEx) (t:T) (H:List O):Prop:=
 match r with
 | .ok v H' => (e = .ret∨e = .normal)∧H=H' ∧ answerI P fn.results.toList H t=some v
 | .pan v H' => e = .panic v∧H=H'
section
variable {P:Program} {E:Nat→Nat→Prop} {H:List O} {β:List Loc} {w:World} {X:Nat→Nat→Prop}
theorem answerI_R {n:Nat} {t:T} {a:Act} {fn:Func} {out:V} (hR:Rel w X H β) (hF:FR w X β n t a) (h:answerI P fn.results.toList H t=some out) :
  ∃ y,(results fn a.tmps).run P w = .ok y w∧R w X β out y:=by
 unfold answerI at h
 have key:∀ ds,resV P H t fn.results.toList=some ds → ∃ ys:List Value,(results fn a.tmps).run P w = .ok (if hh:ys.length=1 then ys[0] else .tuple ys.toArray) w ∧
   ys.length=ds.length ∧ ∀ (k:Nat) v x,ds[k]? = some v→ys[k]? = some x→R w X β v x:=by
  intro ds hds
  obtain ⟨ys,h1,h2,h3⟩:=resV_R hR hF fn.results.toList ds hds
  refine ⟨ys,?_,h2,h3⟩
  rw [results_eq]
  simp only [Array.mapM_eq_mapM_toList,Sem.run_bind,Sem.run_map]
  rw [h1]
  simp
 split at h
 ·rename_i v hv
  simp only [Option.some.injEq] at h
  subst h
  obtain ⟨ys,h1,h2,h3⟩:=key _ hv
  have hl:ys.length=1:=h2
  refine ⟨ys[0],by rw [h1,dif_pos hl],h3 0 v _ rfl (by simp [hl])⟩
 ·rename_i vs hne hv
  simp only [Option.some.injEq] at h
  subst h
  obtain ⟨ys,h1,h2,h3⟩:=key _ hv
  have hl:¬ ys.length=1:=fun e=>by
   rw [e] at h2
   match vs,h2 with
   | [v],_=>exact hne v rfl
  exact ⟨.tuple ys.toArray,by rw [h1,dif_neg hl],.tup β vs ys h2 h3⟩
 ·cases h
theorem mcall_of {f : Nat} {fn : Func} {c : Code} {args : List V} {r : Res} (hf : P.funcs[f]? = some fn) (hb : fn.body = some c) (hname : fn.name ≠ "runtime.NumGoroutine")
  (hn:args.length≤fn.ntmps) (h:AWP P fn.ntmps c (MPost P fn r) (initT 0 args) H):MCall P f args H r:=by
 refine ⟨⟨fn,hf,hname,by simp [hb]⟩,?_⟩
 intro w E β rargs hE hrel hlen hargs
 refine calls_of_wp hf hb ?_
 have hg:Good E H β w fn.ntmps [] (initT 0 args) H β { tmps:=rargs.toArray++Array.replicate (fn.ntmps - rargs.toArray.size) undef,defers:=[] } w:=by
  refine ⟨Step.refl hrel,⟨by simp; omega,fun d=>?_⟩,rfl⟩
  rw [get_initT]
  simp only [Nat.not_lt_zero,if_false,Nat.sub_zero]
  cases hd:args[d]? with
  | none=>exact .any _ _
  | some v =>
   have hlt:d<rargs.length:=by rw [hlen]; exact (List.getElem?_eq_some_iff.1 hd).1
   have:=hargs d v rargs[d] hd (by simp [hlt])
   simp only [Option.getD_some]
   have e:(rargs.toArray++Array.replicate (fn.ntmps - rargs.toArray.size) undef).getD d undef=rargs[d]:=by
    rw [Array.getD_eq_getD_getElem?,Array.getElem?_append_left (by simpa using hlt)]
    simp [hlt]
   rw [e]
   exact this
 have:=h E H β w [] β _ w hE hg
 refine wp_mono this ?_
 intro e a w' hp
 have fin:∀ t H2 β2 ex,(ex=AEx.ret∨ex=AEx.normal)→MPost P fn r ex t H2→Good E H β w fn.ntmps [] t H2 β2 a w' →
   a.defers=[] ∧ ∃ v,(results fn a.tmps).run P w' = .ok v w' ∧ Outcome E H β w r (.returned v) w' := by
  intro t H2 β2 ex hex hq hg
  cases r with
  | ok v H' =>
   obtain ⟨_,rfl,h3⟩:=hq
   obtain ⟨y,h1,h2⟩:=answerI_R hg.step.rel hg.fr h3
   exact ⟨hg.defers,y,h1,y,β2,rfl,hg.step,h2⟩
  | pan v H' =>
   obtain ⟨h1,_⟩:=hq
   rcases hex with rfl | rfl <;> cases h1
 cases e with
 | normal=>obtain ⟨t,H,β,hq,hg⟩:=hp; exact fin t H β _ (.inr rfl) hq hg
 | ret=>obtain ⟨t,H,β,hq,hg⟩:=hp; exact fin t H β _ (.inl rfl) hq hg
 | exit id =>
  obtain ⟨t,H,β,hq,hg⟩:=hp
  cases r with
  | ok v H' => rcases hq.1 with h | h <;> cases h
  | pan v H' => cases hq.1
 | panic ch =>
  obtain ⟨t,H2,β2,v,x,hq,hg,hv,rfl⟩:=hp
  cases r with
  | ok v H' => rcases hq.1 with h | h <;> cases h
  | pan v' H' =>
   obtain ⟨h1,rfl⟩:=hq
   cases h1
   exact ⟨hg.defers,x,β2,rfl,hg.step,hv⟩
 | goto l=>exact hp.elim
 | outgrown=>exact hp.elim
theorem answerM_post {fn:Func} {s:St} {r:Res} (h:(answerM P fn.results.toList s).run=some r):MPost P fn r s.1 s.2.1 s.2.2:=by
 obtain ⟨e,t,H⟩:=s
 have ans:(match answerI P fn.results.toList H t with | some v=>Tree.leaf (Res.ok v H) | none=>.fail).run=some r → ∃ v,r = .ok v H∧answerI P fn.results.toList H t=some v:=by
  intro h
  cases hv:answerI P fn.results.toList H t with
  | none=>rw [hv] at h; cases h
  | some v=>rw [hv] at h; exact ⟨v,by simpa [Tree.run] using h.symm,rfl⟩
 cases e with
 | normal=>obtain ⟨v,rfl,hv⟩:=ans h; exact ⟨.inr rfl,rfl,hv⟩
 | ret=>obtain ⟨v,rfl,hv⟩:=ans h; exact ⟨.inl rfl,rfl,hv⟩
 | exit id=>cases h
 | panic v =>
  simp only [answerM,Tree.run,Option.some.injEq] at h
  subst h
  exact ⟨rfl,rfl⟩
theorem mcall_fun {cx:Cx} {f:Nat} {fn:Func} {c:Code} {args:List V} {r:Res} (hP:cx.P=P) (hT:CxOk cx) (hf:P.funcs[f]? = some fn) (hb:fn.body=some c)
  (hname : fn.name ≠ "runtime.NumGoroutine") (hn : Nat.ble args.length fn.ntmps = true) (h : (mfun cx fn args H).run = some r) : MCall P f args H r := by
 subst hP
 refine mcall_of hf hb hname (Nat.le_of_ble_eq_true hn) ?_
 unfold mfun at h
 rw [hb] at h
 obtain ⟨s,h1,h2⟩:=bind_run h
 exact AWP_code (cx:={ cx with n:=fn.ntmps }) rfl rfl hT c _ _ _ (Tree.run_all h1 (answerM_post h2))
theorem AWP_run {cx:Cx} {n:Nat} (hP:cx.P=P) (hn:cx.n=n) (hT:CxOk cx) {c:Code} {Q:AEx→T→List O→Prop} {t:T} {s:St}
  (h:(dcode cx c t H).run=some s) (hq:Q s.1 s.2.1 s.2.2):AWP P n c Q t H:=
 AWP_code hP hn hT c Q t H (Tree.run_all h hq)
end
end Go.Ab

namespace Go.Ab
def dropT (σ:List Nat):T→T
 | []=>[]
 | (d,v) :: r=>(d,(V.ren? (fun i=>place i σ) v).getD .any) :: dropT σ r
def dropE (σ:List Nat):AEx→Option AEx
 | .panic v=>(V.ren? (fun i=>place i σ) v).map .panic
 | e=>some e
def dropS (n:Nat) (κ:List Nat):St→Option St
 | (e,t,H) =>
  let σ:=List.range n++κ
  cond (noDup σ) (match pickO H σ with
  | some os=>match rensO (fun i=>place i σ) os,dropE σ e with
   | some Hs,some e=>some (e,dropT σ t,Hs)
   | _,_=>none
  | none=>none) none
section
variable {P:Program} {n:Nat} {Q:AEx→T→List O→Prop} {t:T} {H:List O} {β:List Loc} {w:World} {E:Nat→Nat→Prop}
theorem get_dropT (σ:List Nat) (d:Nat):∀ t:T,get d (dropT σ t)=(V.ren? (fun i=>place i σ) (get d t)).getD .any
 | []=>rfl
 | (e,v) :: r=>by
  simp only [dropT,get]
  cases Nat.beq d e
  ·simpa using get_dropT σ d r
  ·rfl
theorem sub_own {σ:List Nat} {os Hs:List O} (hR:Rel w (Xs E H β) H β) (hσ:noDup σ=true) (hp:pickO H σ=some os)
  (hr:rensO (fun i=>place i σ) os=some Hs):Rel w (Xs E Hs (pickL β σ)) Hs (pickL β σ)∧(∀ b o,Own Hs (pickL β σ) b o→Own H β b o)∧Turned (fun i=>place i σ) β (pickL β σ):=by
 have hR0:Rel w (Xs (fun _ _=>False) H β) H β:=by
  have hX:∀ b o,Xs (fun _ _=>False) H β b o→Xs E H β b o:=fun b o h=>by rcases h with h | h; exact h.elim; exact .inr h
  refine ⟨hR.len,fun id cs e loc h1 h2=>?_,hR.tok,fun id sh vs loc h1 h2=>?_,hR.disj⟩
  ·obtain ⟨a1,c,e',a2,a3,a4,a5⟩:=hR.cells id cs e loc h1 h2
   exact ⟨a1,c,e',a2,a3,a4,fun k v hv=>let ⟨x,hx,hr⟩:=a5 k v hv; ⟨x,hx,hr.weak hX⟩⟩
  ·obtain ⟨a1,ab,ob,xs,a2,a3,a5⟩:=hR.objs id sh vs loc h1 h2
   exact ⟨a1,ab,ob,xs,a2,a3,fun k v hv=>let ⟨x,hx,hr⟩:=a5 k v hv; ⟨x,hx,hr.weak hX⟩⟩
 obtain ⟨hi,hturn⟩:=into (fun b o h=>h.elim) hR0 hσ hp hr
 refine ⟨?_,hi.sub,hturn⟩
 have hX:∀ b o,Xs E Hs (pickL β σ) b o→Xs E H β b o:=fun b o h=>by rcases h with h | h; exact .inl h; exact .inr (hi.sub b o h)
 obtain ⟨p1,p2⟩:=pickO_get hp
 obtain ⟨r1,r2⟩:=rensO_get hr
 refine ⟨hi.rel.len,fun k cs e loc h1 h2=>?_,hi.rel.tok,fun k sh vs loc h1 h2=>?_,hi.rel.disj⟩
 ·obtain ⟨a1,c,e',a2,a3,a4,_⟩:=hi.rel.cells k cs e loc h1 h2
  refine ⟨a1,c,e',a2,a3,a4,fun m v hv=>?_⟩
  obtain ⟨u,hu,hu'⟩:=r2 k _ h1
  have hk:k<σ.length:=by rw [← p1]; exact (List.getElem?_eq_some_iff.1 hu).1
  obtain ⟨g1,g2,_⟩:=hi.get k σ[k] (by simp [hk])
  obtain ⟨cs',rfl,hren⟩:=oren_cells hu'
  obtain ⟨q1,q2⟩:=rens_get hren
  obtain ⟨v',hv',hvr⟩:=q2 m v hv
  have hH:H[σ[k]]? = some (.cells cs' e):=by rw [← (p2 k σ[k] (by simp [hk])).2,hu]
  obtain ⟨_,c2,e2,b2,_,_,b5⟩:=hR.cells σ[k] cs' e loc hH (by rw [← g2,h2])
  rw [a2] at b2
  simp only [Option.some.injEq,Obj.cells.injEq,and_true] at b2
  obtain ⟨rfl,rfl⟩:=b2
  obtain ⟨x,hx,hr⟩:=b5 m v' hv'
  exact ⟨x,hx,(ren_R hturn hr v hvr).weak hX⟩
 ·obtain ⟨u,hu,hu'⟩:=r2 k _ h1
  have hk:k<σ.length:=by rw [← p1]; exact (List.getElem?_eq_some_iff.1 hu).1
  obtain ⟨g1,g2,_⟩:=hi.get k σ[k] (by simp [hk])
  obtain ⟨vs',rfl,hren⟩:=oren_obj hu'
  obtain ⟨q1,q2⟩:=rens_get hren
  have hH:H[σ[k]]? = some (.obj sh vs'):=by rw [← (p2 k σ[k] (by simp [hk])).2,hu]
  obtain ⟨a1,ab,ob,xs,a2,a3,a5⟩:=hR.objs σ[k] sh vs' loc hH (by rw [← g2,h2])
  refine ⟨a1,ab,ob,xs,a2,a3,fun m v hv=>?_⟩
  obtain ⟨v',hv',hvr⟩:=q2 m v hv
  obtain ⟨x,hx,hr⟩:=a5 m v' hv'
  exact ⟨x,hx,(ren_R hturn hr v hvr).weak hX⟩
theorem Good.drop {E H0 β0 w0 D a} {σ:List Nat} {os Hs:List O} (hg:Good E H0 β0 w0 n D t H β a w) (hσ:noDup σ=true) (hp:pickO H σ=some os)
  (hr:rensO (fun i=>place i σ) os=some Hs) (h0:∀ i,i<β0.length→σ[i]? = some i) :
  Good E H0 β0 w0 n D (dropT σ t) Hs (pickL β σ) a w ∧ ∀ v v' x,R w (Xs E H β) β v x→V.ren? (fun i=>place i σ) v=some v' → R w (Xs E Hs (pickL β σ)) (pickL β σ) v' x:=by
 obtain ⟨s1,s2,s3⟩:=sub_own hg.step.rel hσ hp hr
 have hX:∀ b o,Xs E Hs (pickL β σ) b o→Xs E H β b o:=fun b o h=>by rcases h with h | h; exact .inl h; exact .inr (s2 b o h)
 have hv:∀ v v' x,R w (Xs E H β) β v x→V.ren? (fun i=>place i σ) v=some v' → R w (Xs E Hs (pickL β σ)) (pickL β σ) v' x:=fun v v' x h1 h2=>(ren_R s3 h1 v' h2).weak hX
 have hlt:∀ i ∈ σ,i<β.length:=fun i hi=>by
  obtain ⟨k,hk⟩:=List.getElem?_of_mem hi
  rw [← hg.step.rel.len]; exact ((pickO_get hp).2 k i hk).1
 refine ⟨⟨⟨s1,hg.step.os,hg.step.tape,hg.step.output,hg.step.size,hg.step.pres,fun b o h=>hg.step.own b o (s2 b o h),?_⟩,⟨hg.fr.size,fun d=>?_⟩,hg.defers⟩,hv⟩
 ·intro i loc h
  obtain ⟨loc',g1,g2⟩:=hg.step.locs i loc h
  refine ⟨loc',?_,g2⟩
  rw [(pickL_get hlt).2 i i (h0 i (List.getElem?_eq_some_iff.1 h).1),g1]
 ·rw [get_dropT]
  cases hc:V.ren? (fun i=>place i σ) (get d t) with
  | none=>exact .any _ _
  | some v=>exact hv _ v _ (hg.fr.slot d) hc
theorem LocLe.len {a b:List Loc} (h:LocLe a b):a.length≤b.length:=by
 rcases Nat.lt_or_ge b.length a.length with hl | hl
 ·obtain ⟨l,e,_⟩:=h b.length a[b.length] (by simp [hl])
  simp at e
 ·exact hl
theorem AWP_scope {c:Code} (h:AWP P n c (fun e t' H' => ∃ κ s,dropS H.length κ (e,t',H')=some s∧Q s.1 s.2.1 s.2.2) t H):AWP P n c Q t H:=by
 intro E H0 β0 w0 D β a w hs hg
 have hlen:β0.length≤H.length:=by rw [hg.step.rel.len]; exact hg.step.locs.len
 refine wp_mono (h E H0 β0 w0 D β a w hs hg) ?_
 intro e a' w' hp
 have fin:∀ ex t' H' β',(∃ κ s,dropS H.length κ (ex,t',H')=some s∧Q s.1 s.2.1 s.2.2)→Good E H0 β0 w0 n D t' H' β' a' w' →
   ∃ ex' t2 H2 β2 σ,dropE σ ex=some ex' ∧ Q ex' t2 H2∧Good E H0 β0 w0 n D t2 H2 β2 a' w' ∧ ∀ v v' x,R w' (Xs E H' β') β' v x→V.ren? (fun i=>place i σ) v=some v' → R w' (Xs E H2 β2) β2 v' x:=by
  rintro ex t' H' β' ⟨κ,s,h1,h2⟩ hg'
  unfold dropS at h1
  simp only at h1
  cases hd:noDup (List.range H.length++κ)
  ·simp [hd] at h1
  simp only [hd,cond_true] at h1
  split at h1
  rotate_left
  ·cases h1
  rename_i os hos
  split at h1
  rotate_left
  ·cases h1
  rename_i Hs ex' e1 e2
  simp only [Option.some.injEq] at h1
  subst h1
  obtain ⟨g1,g2⟩:=hg'.drop hd hos e1 (fun i hi=>by
   have hi' : i<(List.range H.length).length:=by rw [List.length_range]; omega
   rw [List.getElem?_append_left hi',List.getElem?_eq_getElem hi',List.getElem_range])
  exact ⟨ex',_,_,_,_,e2,h2,g1,g2⟩
 cases e with
 | normal =>
  obtain ⟨t',H',β',h1,h2⟩:=hp
  obtain ⟨ex',t2,H2,β2,σ,g1,g2,g3,_⟩:=fin _ _ _ _ h1 h2
  cases g1
  exact ⟨t2,H2,β2,g2,g3⟩
 | exit id =>
  obtain ⟨t',H',β',h1,h2⟩:=hp
  obtain ⟨ex',t2,H2,β2,σ,g1,g2,g3,_⟩:=fin _ _ _ _ h1 h2
  cases g1
  exact ⟨t2,H2,β2,g2,g3⟩
 | ret =>
  obtain ⟨t',H',β',h1,h2⟩:=hp
  obtain ⟨ex',t2,H2,β2,σ,g1,g2,g3,_⟩:=fin _ _ _ _ h1 h2
  cases g1
  exact ⟨t2,H2,β2,g2,g3⟩
 | panic ch =>
  obtain ⟨t',H',β',v,x,h1,h2,h3,h4⟩:=hp
  obtain ⟨ex',t2,H2,β2,σ,g1,g2,g3,g4⟩:=fin _ _ _ _ h1 h2
  simp only [dropE] at g1
  obtain ⟨v',hv',rfl⟩:=Option.map_eq_some_iff.1 g1
  exact ⟨t2,H2,β2,v',x,g2,g3,g4 v v' x h3 hv',h4⟩
 | goto l=>exact hp.elim
 | outgrown=>exact hp.elim
theorem Tree.all_mono {γ:Type} {Q Q' : γ→Prop} {x:Tree γ} (h:x.all Q) (hq:∀ s,Q s→Q' s):x.all Q' := by
 induction x with
 | leaf b=>exact hq b h
 | fail=>exact h.elim
 | br c x y ihx ihy=>exact ⟨fun hc=>ihx (h.1 hc),fun hc=>ihy (h.2 hc)⟩
def Round {α:Type} (st:α→T × List O) (μ:α→Nat) (Q:AEx→T→List O→Prop) (i:α) (s:St):Prop:=
 ∃ κ s',dropS (st i).2.length κ s=some s' ∧ (match s'.1 with | .normal=>∃ j,μ j<μ i∧TLe s'.2.1 (st j).1∧s'.2.2=(st j).2 | e=>Q e s'.2.1 s'.2.2)
theorem AWP_rounds {cx:Cx} {α:Type} (hP:cx.P=P) (hn:cx.n=n) (hT:CxOk cx) (st:α→T × List O) (μ:α→Nat) {body:Code}
  (h:∀ i,(dcode cx body (st i).1 (st i).2).all (Round st μ Q i)) (i:α):AWP P n (.loop body) Q (st i).1 (st i).2:=by
 refine AWP_loop st μ (fun i=>?_) i
 refine AWP_scope (AWP_code hP hn hT body _ _ _ ?_)
 refine Tree.all_mono (h i) ?_
 rintro s ⟨κ,s',h1,h2⟩
 exact ⟨κ,s',h1,h2⟩
end
end Go.Ab
namespace Go.Ab
def c1:Code→Code
 | .seq a _=>a
 | c=>c
def c2:Code→Code
 | .seq _ b=>b
 | c=>c
def cin:Code→Code
 | .block _ c=>c
 | .loop c=>c
 | c=>c
def bodyOf (fn:Func):Code:=fn.body.getD .skip
end Go.Ab

namespace Go.Ab
abbrev strEq (a b:List UInt8):Bool:=a == b
abbrev tB (x:Bool):Bool:=x
def Fits (t:T):T→Prop
 | []=>True
 | (d,v) :: r=>get d t=v∧Fits t r
theorem Fits.tle {t:T}:∀ {s:T},Fits t s→TLe t s
 | [],_,d=>.inr rfl
 | (e,v) :: r,h,d=>by
  simp only [get]
  cases hb:Nat.beq d e
  ·simpa using Fits.tle h.2 d
  ·have:=Nat.eq_of_beq_eq_true hb
   subst this
   exact .inl h.1.symm
theorem wrap_i64 {n:Int} (h0 : -9223372036854775808≤n) (h1:n<9223372036854775808):IntKind.wrap .i64 n=n:=by
 have h:IntKind.wrap .i64 n=if n % 18446744073709551616 ≥ 9223372036854775808 then n % 18446744073709551616 - 18446744073709551616 else n % 18446744073709551616:=by
  simp [IntKind.wrap,IntKind.bits,IntKind.signed]
 rw [h]
 split <;> omega
theorem inside_of {i:Int} {n:Nat} (h0:0≤i) (h1:i<n):inside i n=true:=by
 simp [inside,h0,h1]
def Tree.out {α:Type}:Tree α→Option α
 | .leaf b=>some b
 | .fail=>none
 | .br c x y=>cond c x.out y.out
theorem Tree.out_run {α:Type}:∀ x:Tree α,x.out=x.run
 | .leaf _=>rfl
 | .fail=>rfl
 | .br c x y=>by cases c <;> simp only [Tree.out,Tree.run,cond_true,cond_false,Tree.out_run x,Tree.out_run y]
theorem br_run {α:Type} (c:Bool) (x y:Tree α):(Tree.br c x y).run=cond c x.run y.run:=by cases c <;> rfl
theorem Tree.all_run_eq {α:Type} {x y:Tree α} {Q:α→Prop} (e:x.run=y.run) (h:y.all Q):x.all Q:=by
 obtain ⟨b,h1,h2⟩:=Tree.all_run h
 exact Tree.run_all (e.trans h1) h2
theorem getD_lt {α:Type} {l:List α} {i:Nat} {d:α} (hi:i<l.length):l.getD i d=l[i]:=by simp [List.getD,hi]
theorem take_none {α:Type} {p:α→Bool} {l:List α} {i:Nat} {d:α} (hi:i<l.length) (h:(l.take i).find? p=none) (hp:p (l.getD i d)=false):(l.take (i+1)).find? p=none:=by
 rw [getD_lt hi] at hp
 rw [List.take_add_one,List.find?_append,h]
 simp [List.getElem?_eq_getElem hi,hp]
theorem take_some {α:Type} {p:α→Bool} {l:List α} {i:Nat} {d:α} (hi:i<l.length) (h:(l.take i).find? p=none) (hp:p (l.getD i d)=true):l.find? p=some (l.getD i d):=by
 rw [getD_lt hi] at hp ⊢
 have e:l.find? p=(l.take i++l[i] :: l.drop (i+1)).find? p:=by rw [← List.drop_eq_getElem_cons hi,List.take_append_drop]
 rw [e,List.find?_append,h,List.find?_cons,hp]
 rfl
variable {P:Program} {H:List O}
theorem mcall_of' {f : Nat} {fn : Func} {c : Code} {args : List V} {r : Res} (hf : P.funcs[f]? = some fn) (hb : fn.body = some c) (hname : (fn.name == "runtime.NumGoroutine") = false)
  (hn:Nat.ble args.length fn.ntmps=true) (h:AWP P fn.ntmps c (MPost P fn r) (initT 0 args) H):MCall P f args H r:=
 mcall_of hf hb (by intro e; rw [e] at hname; simp at hname) (Nat.le_of_ble_eq_true hn) h
theorem pcall_of' {f : Nat} {fn : Func} {c : Code} {args : List V} {out : V} (hf : P.funcs[f]? = some fn) (hb : fn.body = some c) (hname : (fn.name == "runtime.NumGoroutine") = false)
  (hn:Nat.ble args.length fn.ntmps=true) (h:AWP P fn.ntmps c (fun e t H=>(e = .ret∨e = .normal)∧answerV P fn.results.toList H t=some out) (initT 0 args) []):PCall P f args out:=
 pcall_of hf hb (by intro e; rw [e] at hname; simp at hname) (Nat.le_of_ble_eq_true hn) h
theorem pcall_fun' {cx:Cx} {f:Nat} {fn:Func} {args:List V} {out:V} (hT:CxOk cx) (hf:cx.P.funcs[f]? = some fn)
  (hname : (fn.name == "runtime.NumGoroutine") = false) (hn : Nat.ble args.length fn.ntmps = true) (h : (dfun cx fn args).run = some out) : PCall cx.P f args out := by
 cases hb:fn.body with
 | none=>simp [dfun,hb,Tree.run] at h
 | some c=>exact pcall_fun rfl hT hf hb (by intro e; rw [e] at hname; simp at hname) hn h
theorem sound_fun {cx : Cx} {f : Nat} {fn : Func} (hT : CxOk cx) (hf : cx.P.funcs[f]? = some fn) (hname : (fn.name == "runtime.NumGoroutine") = false) :
  Sound cx.P f (fun args=>.req (Nat.ble args.length fn.ntmps) (dfun cx fn args)):=by
 intro args out h
 obtain ⟨h1,h2⟩:=req_run h
 exact pcall_fun' hT hf hname h1 h2
theorem msound_fun {cx : Cx} {f : Nat} {fn : Func} (hT : CxOk cx) (hf : cx.P.funcs[f]? = some fn) (hname : (fn.name == "runtime.NumGoroutine") = false) :
  MSound cx.P f (fun args H=>.req (Nat.ble args.length fn.ntmps) (mfun cx fn args H)):=by
 intro args H out h
 obtain ⟨h1,h2⟩:=req_run h
 cases hb:fn.body with
 | none=>simp [mfun,hb,Tree.run] at h2
 | some c=>exact mcall_fun rfl hT hf hb (by intro e; rw [e] at hname; simp at hname) h1 h2
end Go.Ab

namespace Go.Ab
def headN:Nat→Code→Code
 | 0,c=>c1 c
 | k+1,c=>.seq (c1 c) (headN k (c2 c))
def tailN:Nat→Code→Code
 | 0,c=>c2 c
 | k+1,c=>tailN k (c2 c)
def isSeq:Code→Bool
 | .seq _ _=>true
 | _=>false
def rowN:Nat→Code→Bool
 | 0,c=>isSeq c
 | k+1,c=>cond (isSeq c) (rowN k (c2 c)) false
theorem Tree.all_bind {α β:Type} {x:Tree α} {f:α→Tree β} {Q:β→Prop} (h:(x.bind f).all Q):x.all (fun s=>(f s).all Q):=by
 induction x with
 | leaf b=>exact h
 | fail=>exact h
 | br c x y ih1 ih2=>exact ⟨fun hc=>ih1 (h.1 hc),fun hc=>ih2 (h.2 hc)⟩
theorem isSeq_eq {c:Code} (h:isSeq c=true):c = .seq (c1 c) (c2 c):=by
 cases c <;> first | rfl | cases h
section
variable {P:Program} {n:Nat} {cx:Cx}
theorem AWP_head (hP:cx.P=P) (hn:cx.n=n) (hT:CxOk cx):∀ (k:Nat) (c:Code) (Q:AEx→T→List O→Prop) (t:T) (H:List O),rowN k c=true →
  (dcode cx (headN k c) t H).all (fun s=>seqQ (AWP P n (tailN k c) Q) Q s.1 s.2.1 s.2.2)→AWP P n c Q t H
 | 0,c,Q,t,H,hr,h=>by
  rw [isSeq_eq hr]
  exact AWP_seq (AWP_code hP hn hT _ _ _ _ h)
 | k+1,c,Q,t,H,hr,h=>by
  have hs:isSeq c=true:=by
   cases hs:isSeq c
   ·simp [rowN,hs] at hr
   ·rfl
  have hr' : rowN k (c2 c)=true:=by simpa [rowN,hs] using hr
  rw [isSeq_eq hs]
  refine AWP_seq (AWP_code hP hn hT _ _ _ _ ?_)
  have h:=Tree.all_bind (h:((dcode cx (c1 c) t H).bind (dseq (dcode cx (headN k (c2 c))))).all _)
  refine Tree.all_mono h ?_
  rintro ⟨e,t',H'⟩ hq
  cases e with
  | normal=>exact AWP_head hP hn hT k (c2 c) Q t' H' hr' hq
  | exit id=>exact hq
  | ret=>exact hq
  | panic v=>exact hq
theorem AWP_headE (hP:cx.P=P) (hn:cx.n=n) (hT:CxOk cx) (k:Nat) {c:Code} {Q:AEx→T→List O→Prop} {t:T} {H:List O} {x:Tree St} (hr:rowN k c=true)
  (e:(dcode cx (headN k c) t H).run=x.run) (h:x.all (fun s=>seqQ (AWP P n (tailN k c) Q) Q s.1 s.2.1 s.2.2)):AWP P n c Q t H:=
 AWP_head hP hn hT k c Q t H hr (Tree.all_run_eq e h)
end
end Go.Ab

namespace Go.Ab
theorem AWP_headK {P:Program} {n:Nat} {cx:Cx} (hP:cx.P=P) (hn:cx.n=n) (hT:CxOk cx) (k:Nat) (ks:List Nat) {c:Code} {Q:AEx→T→List O→Prop} {t t' : T} {H H' : List O} (hr:rowN k c=true)
  (h:(dcode cx (headN k c) t H).run.map (fun s=>(s.1,keep ks s.2.1,s.2.2))=some (.normal,t',H')) (hq:AWP P n (tailN k c) Q t' H'):AWP P n c Q t H:=by
 obtain ⟨⟨e,t2,H2⟩,h1,h2⟩:=Option.map_eq_some_iff.1 h
 simp only [Prod.mk.injEq] at h2
 obtain ⟨rfl,rfl,rfl⟩:=h2
 exact AWP_head hP hn hT k c Q t H hr (Tree.run_all h1 (AWP.less (TLe.keep ks t2) hq))
end Go.Ab
