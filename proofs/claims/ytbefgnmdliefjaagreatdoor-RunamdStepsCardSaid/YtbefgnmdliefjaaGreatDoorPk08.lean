/-
  The engine, part S: a function's contract out of its body. Conditions: none.
-/
import Derived.Test.YtbefgnmdliefjaaGreatDoorPk07
open Bool renaming and_eq_true_iff→ZA0,or_eq_true_iff→ZA1
open List renaming getElem?_append_left→ZB0,getElem?_eq_some_iff→ZB2,getElem?_cons_zero→ZC3,mem_cons_self→ZD1,mem_cons_of_mem→ZD2,mem_cons→ZE3
open Nat renaming eq_of_beq_eq_true→ZG1
open Option renaming map_eq_some_iff→ZH0,map_some→ZH2
open Option.some renaming injEq→ZH3
set_option linter.unusedVariables false
set_option linter.unusedSimpArgs false
namespace Go.Ab
section
variable {P:Program} {E:Nat->Nat->Prop} {H:List O} {β:List Loc} {w:World} {X:Nat->Nat->Prop}
def GF (tmps:Array Value):ResultVar->Sem Value
 | .tmp t=>pure (tmps.getD t undef)
 | .cell a t=>do loadVar t (<- asAddr (tmps.getD a undef))
theorem QC (fn:Func) (tmps:Array Value):results fn tmps=(do let vs <- fn.results.mapM (GF tmps); pure (if h:vs.size=1 then vs[0] else .tuple vs)):=by
 unfold results
 have:(fun r:ResultVar=>(match r with | .tmp t=>pure (tmps.getD t undef) | .cell a t=>do loadVar t (<- asAddr (tmps.getD a undef)):Sem Value))=GF tmps:=by
  funext r; cases r <;> rfl
 rw [<- this];rfl
theorem MK {n:Nat} {t:T} {a:Act} (f:Rel w X H β) (e:FR w X β n t a):∀ (rs:List ResultVar) (vs:List V),q6 P H t rs=some vs ->
  ∃ ys:List Value,(rs.mapM (GF a.tmps)).run P w = .ok ys w /\
   ys.length=vs.length /\ ∀ (k:Nat) v x,vs[k]? = some v->ys[k]? = some x->R w X β v x
 | [],vs,h=>by
  simp only [q6,ZH3] at h;subst h;exact ⟨[],by simp,rfl,by simp⟩
 | .tmp i :: rs,vs,h=>by
  simp only [q6] at h;obtain ⟨j,g,rfl⟩:=ZH0.1 h;obtain ⟨ys,h1,h2,h3⟩:=MK f e rs j g;refine ⟨a.tmps.getD i undef :: ys,by simp [List.mapM_cons,GF,h1],by simp [h2],?_⟩;intro k v x c d
  cases k with
  | zero=>simp only [ZC3,ZH3] at c d; subst c; subst d; exact e.slot i
  | succ k=>exact h3 k v x (by simpa using c) (by simpa using d)
 | .cell b ty :: rs,vs,h=>by
  unfold q6 at h;split at h;rotate_left
  ·cases h
  rename_i u j l g;simp only [ZH3] at h;subst h;obtain ⟨ys,h1,h2,h3⟩:=MK f e rs j g;obtain ⟨m,o,z,hz,hrun,hr⟩:=aBL (P:=P) f (e.slot b) l;refine ⟨z :: ys,?_,by simp [h2],?_⟩
  ·simp only [List.mapM_cons,GF,Sem.run_bind,hz,asAddr,Sem.run_pure,Result.andThen_ok,hrun,h1]
  ·intro k v x c d
   cases k with
   | zero=>simp only [ZC3,ZH3] at c d; subst c; subst d; exact hr
   | succ k=>exact h3 k v x (by simpa using c) (by simpa using d)
theorem a48 {n:Nat} {t:T} {a:Act} {fn:Func} {out:V} (j:Rel w X H β) (i:FR w X β n t a) (h:hD P fn.results.toList H t=some out) :
  ∃ y,(results fn a.tmps).run P w = .ok y w/\R w X [] out y:=by
 unfold hD at h
 have key:∀ c,(q6 P H t fn.results.toList).bind V.pures? = some c -> ∃ ys:List Value,(results fn a.tmps).run P w = .ok (if m:ys.length=1 then ys[0] else .tuple ys.toArray) w /\
   ys.length=c.length /\ ∀ (k:Nat) v x,c[k]? = some v->ys[k]? = some x->R w X [] v x:=by
  intro c f;obtain ⟨vs,hvs,hp⟩:=Option.bind_eq_some_iff.1 f;obtain ⟨ys,h1,h2,h3⟩:=MK j i fn.results.toList vs hvs;obtain ⟨o,p2⟩:=yH hp;refine ⟨ys,?_,by omega,fun k v x b l=>?_⟩
  ·rw [QC]
   simp only [Array.mapM_eq_mapM_toList,Sem.run_bind,Sem.run_map];rw [h1];simp
  ·obtain ⟨u,hu,hu'⟩:=p2 k v b
   exact LR (h3 k u x hu l) v hu'
 split at h
 ·rename_i v b
  simp only [ZH3] at h;subst h;obtain ⟨ys,h1,h2,h3⟩:=key _ b;have d:ys.length=1:=h2;refine ⟨ys[0],by rw [h1,dif_pos d],h3 0 v _ rfl (by simp [d])⟩
 ·rename_i vs g b
  simp only [ZH3] at h;subst h;obtain ⟨ys,h1,h2,h3⟩:=key _ b
  have d:¬ ys.length=1:=fun e=>by
   rw [e] at h2
   match vs,h2 with
   | [v],_=>exact g v rfl
  exact ⟨.tuple ys.toArray,by rw [h1,dif_neg d],.tup [] vs ys h2 h3⟩
 ·cases h
theorem JJ:∀ (args:List V) (i d:Nat),get d (dZ i args)=if d<i then .any else (args[d - i]?).getD .any
 | [],i,d=>by simp [dZ,get]
 | v :: r,i,d=>by
  simp only [dZ,get];by_cases h:d=i
  ·subst h; simp
  ·rw [SZ h,cond_false,JJ r (i+1) d]
   by_cases h1:d<i
   ·simp [h1,Nat.lt_succ_of_lt h1]
   ·have:¬ d<i+1:=by omega
    simp only [h1,this,if_false];rw [show d - i=(d - (i+1))+1 from by omega,List.getElem?_cons_succ]
theorem aG8 {f : Nat} {fn : Func} {c : Code} {args : List V} {out : V} (hf : P.funcs[f]? = some fn) (hb : fn.body = some c) (hname : fn.name ≠ "runtime.NumGoroutine")
  (hn:args.length<=fn.ntmps) (h:aI P fn.ntmps c (fun e t H=>(e = .ret\/e = .normal)/\hD P fn.results.toList H t=some out) (dZ 0 args) []):jS P f args out:=by
 refine ⟨⟨fn,hf,hname,by simp [hb]⟩,?_⟩;intro w E rargs hE hlen hargs;refine calls_of_wp hf hb ?_;have hX0:∀ v x,R w E [] v x->R w (Xs E [] []) [] v x:=fun v x h=>h.stab ⟨fun b o v h1 h2=>⟨fun h=>h.elim h1 (mG b o),h2⟩,fun b cs e h=>⟨cs,e,h⟩⟩ [] (.refl _)
 have hg:Good E [] [] w fn.ntmps [] (dZ 0 args) [] [] { tmps:=rargs.toArray++Array.replicate (fn.ntmps - rargs.toArray.size) undef,defers:=[] } w:=by
  have hX:∀ v x,R w E [] v x->R w (Xs E [] []) [] v x:=fun v x h=>h.stab ⟨fun b o v h1 h2=>⟨fun h=>h.elim h1 (mG b o),h2⟩,fun b cs e h=>⟨cs,e,h⟩⟩ [] (.refl _);refine ⟨Step.refl (K1 _ _),⟨by simp; omega,fun d=>?_⟩,rfl⟩;rw [JJ];simp only [Nat.not_lt_zero,if_false,Nat.sub_zero]
  cases hd:args[d]? with
  | none=>exact .any _ _
  | some v =>
   have hlt:d<rargs.length:=by rw [hlen]; exact (ZB2.1 hd).1
   have:=hargs d v rargs[d] hd (by simp [hlt]);simp only [Option.getD_some]
   have e:(rargs.toArray++Array.replicate (fn.ntmps - rargs.toArray.size) undef).getD d undef=rargs[d]:=by
    rw [Array.getD_eq_getD_getElem?,Array.getElem?_append_left (by simpa using hlt)];simp [hlt]
   rw [e];exact hX _ _ this
 have:=h E [] [] w [] [] _ w ⟨fun b o hb=>⟨hE.1 b o hb,mG b o⟩,fun p hp=>hX0 _ _ (hE.2 p hp)⟩ hg;refine wp_mono this ?_;intro e a w' hp
 have fin:∀ t H β ex,(ex=AEx.ret\/ex=AEx.normal)/\hD P fn.results.toList H t=some out->Good E [] [] w fn.ntmps [] t H β a w' ->
   a.defers=[] /\ ∃ v,(results fn a.tmps).run P w' = .ok v w' /\ (∃ y,Ending.returned v = .returned y/\Step E [] [] w [] [] w' /\ R w' E [] out y):=by
  intro t H β ex hq hg;obtain ⟨y,h1,h2⟩:=a48 hg.step.rel hg.fr hq.2;refine ⟨hg.defers,y,h1,y,rfl,?_,?_⟩
  ·exact ⟨K1 _ _,hg.step.os,hg.step.tape,hg.step.output,hg.step.size,fun b hb=>by
    rcases hg.step.pres b hb with h | ⟨⟨o,h⟩,_⟩ | ⟨⟨o,h⟩,_⟩
    ·exact .inl h
    ·exact absurd h (mG b o)
    ·exact absurd h (mG b o),fun b o h=>absurd h (mG b o),.nil _⟩
  ·exact h2.stab ⟨fun b o v h1 h2=>⟨fun h=>h1 (.inl h),h2⟩,fun b cs e h=>⟨cs,e,h⟩⟩ [] (.refl _)
 cases e with
 | normal=>obtain ⟨t,H,β,hq,hg⟩:=hp; exact fin t H β _ hq hg
 | ret=>obtain ⟨t,H,β,hq,hg⟩:=hp; exact fin t H β _ hq hg
 | exit id=>obtain ⟨t,H,β,hq,hg⟩:=hp; rcases hq.1 with h | h <;> cases h
 | panic ch=>obtain ⟨t,H,β,v,x,hq,hg⟩:=hp; rcases hq.1 with h | h <;> cases h
 | goto l=>exact hp.elim
 | outgrown=>exact hp.elim
end
end Go.Ab

namespace Go.Ab
section
variable {cx:Cx} {t s:T} {H H' H1:List O} {o x y:Oper} {v:V}
def IX (t s:T):Prop:=∀ d,get d t=get d s
theorem XY (h:IX t s) (x:Operand):rd t x=rd s x:=by
 cases x <;> first | exact h _ | rfl
theorem aK4 {G:List (Nat × List V)} {x:Operand} (h:rd t x=rd s x):nV G t x=nV G s x:=by
 cases x with
 | tmp i=>exact h
 | const v=>rfl
 | func f=>rfl
 | global g=>rfl
theorem aIB {G:List (Nat × List V)} {x:Operand} {id off:Nat} (h:nV G t x = .ptr id off):rd t x = .ptr id off:=by
 cases x with
 | tmp i=>exact h
 | const v=>exact h
 | func f=>exact h
 | global g =>
  have h:(match vT g G with | some cs=>V.pin cs | none=>rd t (.global g)) = .ptr id off:=h
  cases a:vT g G with
  | none=>rw [a] at h; cases h
  | some cs=>rw [a] at h; cases h
theorem MF {l:List Operand} (h:∀ x ∈ l,rd t x=rd s x):l.map (rd t)=l.map (rd s):=List.map_congr_left h
theorem JI (h:∀ x ∈ o.op.operands,rd t x=rd s x):aP cx t H o=aP cx s H o:=by
 unfold aP;split <;> rename_i g
 all_goals (try simp only [g,Op.operands,Call.operands] at h)
 all_goals (try (simp only [List.mem_toArray,Array.mem_append,ZE3,List.not_mem_nil,or_false,forall_eq_or_imp,forall_eq] at h))
 all_goals first
  | (simp only [h]; done)
  | (obtain ⟨b,h2⟩:=h; simp only [b]; done)
  | (simp only [aK4 h,h]; done)
  | (obtain ⟨b,h2⟩:=h; simp only [aK4 b,h2]; done)
  | (obtain ⟨b,h2,h3⟩:=h; simp only [b,h2,h3]; done)
  | rfl
  | skip
 ·rename_i ty parts
  have e:parts.toList.map (fun p=>(p.1,rd t p.2))=parts.toList.map (fun p=>(p.1,rd s p.2)):=
   List.map_congr_left fun p c=>by rw [h p.2 (List.mem_map.2 ⟨p,c,rfl⟩)]
  rw [e]
 ·rename_i ty len parts
  have e:parts.toList.map (fun p=>(p.1,rd t p.2))=parts.toList.map (fun p=>(p.1,rd s p.2)):=
   List.map_congr_left fun p c=>by rw [h p.2 (List.mem_map.2 ⟨p,c,rfl⟩)]
  rw [e]
 ·rw [MF (fun x a=>h x (.inl (by simpa using a))),MF (fun x a=>h x (.inr (by simpa using a)))]
 ·rename_i ty x lo hi
  have d:lo.map (rd t)=lo.map (rd s):=by
   cases lo with
   | none=>rfl
   | some y=>simp only [ZH2,h y (.inl (.inl (.inr (by simp))))]
  have f:hi.map (rd t)=hi.map (rd s):=by
   cases hi with
   | none=>rfl
   | some y=>simp only [ZH2,h y (.inl (.inr (by simp)))]
  rw [d,f,h x (.inl (.inl (.inl rfl)))]
 ·rw [MF (fun x a=>h x (.inr (by simpa using a)))]
 ·rw [h.1,MF (fun x a=>h.2 x (by simpa using a))]
theorem yE {x:Option V} (h:(kJ H x).run=some (.ok v H1)):H1=H /\ ∀ H',(kJ H' x).run=some (.ok v H'):=by
 obtain ⟨u,rfl,e⟩:=kW h;simp only [Res.ok.injEq] at e;exact ⟨e.2,fun H' => by simp [kJ,Tree.run,e.1]⟩
theorem E5 {x:V} (h:(hold H x).run=some (.ok v H1)):H1=H /\ ∀ H',(hold H' x).run=some (.ok v H'):=by
 simp only [hold,Tree.run,ZH3,Res.ok.injEq] at h;exact ⟨h.2.symm,fun H' => by simp [hold,Tree.run,h.1]⟩
theorem A7 {x:Tree V} (h:(x.bind (hold H)).run=some (.ok v H1)):H1=H /\ ∀ H',(x.bind (hold H')).run=some (.ok v H'):=by
 induction x with
 | leaf b=>exact E5 h
 | fail=>cases h
 | br c x y a d =>
  cases c
  ·exact d h
  ·exact a h
theorem a0E {x:Tree V} (h:(x.bind fun v=>Tree.leaf (Res.ok v H)).run=some (.ok v H1)):H1=H /\ ∀ H',(x.bind fun v=>Tree.leaf (Res.ok v H')).run=some (.ok v H'):=
 A7 (H:=H) h
theorem aD1 {P:Program} {H H1:List O} {ty:TypeId} {len:Nat} {parts:List (Nat × V)} {v:V} (h:(sB (rJ P H false ty len parts)).run=some (.ok v H1)) :
  H1=H /\ ∀ H',(sB (rJ P H' false ty len parts)).run=some (.ok v H'):=by
 cases hb:rJ P H false ty len parts with
 | none=>rw [hb] at h; cases h
 | some p =>
  have key:p.2=H /\ ∀ H',rJ P H' false ty len parts=some (p.1,H'):=by
   unfold rJ at hb ⊢;split at hb;rotate_left
   ·cases hb
   split at hb;rotate_left
   ·cases hb
   split at hb;rotate_left
   ·cases hb
   rename_i j _
   revert hb
   cases (Nat.ble (len*j.size) 16777216&&Nat.beq j.zero.length j.size)
   ·intro hb; cases hb
   simp only [cond_true,cond_false];intro hb;split at hb;rotate_left
   ·cases hb
   split at hb;rotate_left
   ·cases hb
   rename_i c _
   revert hb
   cases Nat.beq c.size j.size
   ·intro hb; cases hb
   simp only [cond_true];intro hb;obtain ⟨l,hl,rfl⟩:=ZH0.1 hb;exact ⟨rfl,fun H' => by rw [hl]; rfl⟩
  rw [hb] at h;obtain ⟨u,H2⟩:=p;simp only [sB,Tree.run,ZH3,Res.ok.injEq] at h;obtain ⟨rfl,rfl⟩:=h;exact ⟨key.1,fun H' => by rw [key.2 H']; rfl⟩
theorem QJ {f:Nat} {as:List V} (h:(zP cx H f as).run=some (.ok v H1)):H1=H /\ ∀ H',(zP cx H' f as).run=some (.ok v H'):=by
 unfold zP at h ⊢;split at h
 ·exact a0E h
 ·cases h
theorem Q2 (hc:calm cx o=true) (h:(aP cx t H o).run=some (.ok v H1)):H1=H /\ ∀ H',(aP cx t H' o).run=some (.ok v H'):=by
 unfold calm at hc;unfold aP at h ⊢;split at hc <;> (rename_i ho; simp only [ho] at h ⊢)
 all_goals first
  | exact E5 h
  | exact yE h
  | exact A7 h
  | skip
 ·-- pick
  split at h
  ·exact A7 h
  ·cases h
 ·split at h
  ·exact E5 h
  ·exact E5 h
  ·cases h
 ·split at h
  ·exact yE h
  ·cases h
 ·split at h
  ·cases h
  ·exact E5 h
  ·cases h
 ·-- a literal
  cases hd:o.dst with
  | none=>simp only [hd] at h ⊢; exact aD1 h
  | some d =>
   have hr:cG d cx.refs=false:=by rw [hd] at hc; simpa using hc
   simp only [hd,hr] at h ⊢;exact aD1 h
 ·-- a named function
  rename_i g _ _;obtain ⟨hm,hm2⟩:=ZA0.1 hc
  have hm:fR g cx.mtab=false:=by simpa using hm
  have hm2:fR g cx.rtab=false:=by simpa using hm2
  simp only [rd,oN,lM,hm,hm2,cond_false] at h ⊢;exact QJ h
 ·-- a value
  obtain ⟨hm,hm2⟩:=ZA0.1 hc;have hm:cx.mtab=[]:=List.eq_nil_of_length_eq_zero (ZG1 hm);have hm2:cx.rtab=[]:=List.eq_nil_of_length_eq_zero (ZG1 hm2);unfold oN at h ⊢
  have key:∀ f as,(lM cx H f as).run=some (.ok v H1)->H1=H /\ ∀ H',(lM cx H' f as).run=some (.ok v H'):=by
   intro f as h;unfold lM at h ⊢;simp only [hm,hm2,fR,cond_false] at h ⊢;exact QJ (cx:=cx) h
  split at h
  ·rename_i g first captured _
   cases hb:(Nat.beq first.size 0&&Nat.beq captured.size 0)
   ·rw [hb] at h; cases h
   ·rw [hb] at h; exact key _ _ h
  ·exact key _ _ h
  ·cases h
 ·rename_i args argTypes
  have hm:mapArg cx.P argTypes=false:=by simpa using hc
  generalize args.toList.map (rd t)=l at h ⊢
  match l with
  | [x] =>
   simp only [KB,G5,hm,cond_false] at h ⊢;exact yE h
  | []=>cases h
  | _ :: _ :: _=>cases h
 ·rename_i args _
  generalize args.toList.map (rd t)=l at h ⊢
  match l with
  | [x,y]=>exact yE h
  | []=>cases h
  | [_]=>cases h
  | _ :: _ :: _ :: _=>cases h
 ·rename_i args _
  generalize args.toList.map (rd t)=l at h ⊢
  match l with
  | [x,y]=>exact yE h
  | []=>cases h
  | [_]=>cases h
  | _ :: _ :: _ :: _=>cases h
 ·cases hc
theorem aCS {f:Nat} {as:List V} (h:(lO cx H f as).run=some (.ok v H1)):H1=H:=by
 unfold lO at h;simp only at h;split at h;rotate_left
 ·cases h
 split at h;rotate_left
 ·cases h
 cases b:fU (reach H 64 (V.idss as) [])
 ·rw [b] at h; cases h
 rw [b,cond_true] at h;obtain ⟨u,_,a⟩:=bD h;split at a
 ·have e:=(J8 a).1
  cases e;rfl
 ·cases a
theorem run_bind {β g:Type} {x:Tree β} {f:β->Tree g} {b:β} (h:x.run=some b):(x.bind f).run=(f b).run:=by
 induction x with
 | leaf c=>simp only [Tree.run,ZH3] at h; subst h; rfl
 | fail=>cases h
 | br e x y a d =>
  cases e
  ·exact d h
  ·exact a h
theorem QU:∀ (f:Nat) (l acc:List Nat) {x:Nat},x ∈ acc->x ∈ reach H f l acc
 | 0,_,_,_,h=>h
 | _+1,[],_,_,h=>h
 | f+1,i :: r,acc,x,h=>by
  unfold reach;cases cG i acc
  ·exact QU f _ _ (List.mem_append_left _ h)
  ·exact QU f _ _ h
theorem JA {a:O}:∀ (f:Nat) (l acc:List Nat),(∀ i ∈ reach H f l acc,i<H.length)->reach (H++[a]) f l acc=reach H f l acc
 | 0,_,_,_=>rfl
 | _+1,[],_,_=>rfl
 | f+1,i :: r,acc,h=>by
  unfold reach at h ⊢;cases hb:cG i acc
  ·rw [hb,cond_false] at h
   have hi:i<H.length:=h i (QU f _ _ (List.mem_append_right _ (List.mem_singleton.2 rfl)));rw [cond_false,cond_false,ZB0 hi];exact JA f _ _ h
  ·rw [hb,cond_true] at h
   exact JA f _ _ h
theorem RK:∀ {σ:List Nat} {os:List O},gQ H σ=some os -> ∀ i ∈ σ,i<H.length
 | [],_,_,i,hi=>by cases hi
 | j :: σ,os,h,i,hi=>by
  unfold gQ at h;split at h
  ·rename_i a b
   rcases ZE3.1 hi with rfl | hi
   ·exact (ZB2.1 a).1
   ·exact RK b i hi
  ·cases h
theorem QL {a:O}:∀ {σ:List Nat},(∀ i ∈ σ,i<H.length)->gQ (H++[a]) σ=gQ H σ
 | [],_=>rfl
 | j :: σ,h=>by
  unfold gQ;rw [ZB0 (h j ZD1),QL fun i hi=>h i (ZD2 _ hi)]
theorem aUG {f:Nat} {as:List V} (h:(lO cx H f as).run=some (.ok v H1)) (g:O):(lO cx (H++[g]) f as).run=some (.ok v (H++[g])):=by
 unfold lO at h ⊢;simp only at h ⊢
 cases b:gQ H (reach H 64 (V.idss as) []) with
 | none=>rw [b] at h; cases h
 | some os =>
  have a:=RK b;rw [JA 64 _ _ a,QL a,b];rw [b] at h;simp only at h ⊢;split at h;rotate_left
  ·cases h
  cases e:fU (reach H 64 (V.idss as) [])
  ·rw [e] at h; cases h
  rw [e,cond_true] at h;rw [cond_true];obtain ⟨u,h1,c⟩:=bD h;rw [run_bind h1];split at c
  ·obtain ⟨d,e2⟩:=J8 c
   simp only [Res.ok.injEq] at d;rw [d.1];exact e2 _
  ·cases c
theorem aFC {g:V} {as:List V} (e:cx.mtab=[]) (h:(oN cx H g as).run=some (.ok v H1)) :
  H1=H /\ ∀ c,(oN cx (H++[c]) g as).run=some (.ok v (H++[c])):=by
 have key:∀ f as,(lM cx H f as).run=some (.ok v H1)->H1=H /\ ∀ c,(lM cx (H++[c]) f as).run=some (.ok v (H++[c])):=by
  intro f as h;unfold lM at h ⊢;simp only [e,fR,cond_false] at h ⊢;cases d:fR f cx.rtab
  ·rw [d,cond_false] at h
   obtain ⟨a,b⟩:=QJ (cx:=cx) h;exact ⟨a,fun c=>b _⟩
  ·rw [d,cond_true] at h
   exact ⟨aCS h,fun c=>aUG h c⟩
 unfold oN at h ⊢;split at h
 ·rename_i first captured
  cases hb:(Nat.beq first.size 0&&Nat.beq captured.size 0)
  ·rw [hb] at h; cases h
  ·rw [hb] at h; exact key _ _ h
 ·exact key _ _ h
 ·cases h
theorem rK (b:quiet cx o=true) (h:(aP cx t H o).run=some (.ok v H1)):H1=H:=by
 unfold quiet at b
 rcases ZA1.1 b with b | b
 ·exact (Q2 b h).1
 ·unfold aP at h
  split at b <;> first | (cases b; done) | (rename_i e; simp only [e] at h)
  ·rename_i a
   cases d:oU cx.lz a
   ·rw [d,cond_false] at h
    exact (yE h).1
   ·rw [d,cond_true] at h
    exact (A7 h).1
  ·exact (A7 h).1
  ·rename_i args argTypes
   generalize args.toList.map (rd t)=l at h
   match l with
   | [x]=>exact (yE (x:=G5 cx.P H argTypes x) h).1
   | []=>cases h
   | _ :: _ :: _=>cases h
  ·rename_i src dst _
   have b:BW cx.P src dst=false:=by simpa using b
   rw [b,cond_false] at h;exact (A7 h).1
  ·rename_i g _ _
   obtain ⟨c,m2⟩:=ZA0.1 b
   have c:fR g cx.mtab=false:=by simpa using c
   simp only [rd,oN,lM,c,m2,cond_false,cond_true] at h;exact aCS h
  ·exact (aFC (List.eq_nil_of_length_eq_zero (ZG1 b)) h).1
theorem JE {P:Program} {ty:TypeId} {a v:V} {H' : List O} (h:(rV P H ty a).run=some v) (b:∀ (id off:Nat),a = .ptr id off->H'[id]? = H[id]?):(rV P H' ty a).run=some v:=by
 unfold rV at h ⊢;split at h;rotate_left
 ·cases h
 rename_i k id off c;rw [b id off rfl];exact h
theorem aE9 {P:Program} {ty:TypeId} {a v:V} (h:(rV P H ty a).run=some v):∃ id off c,a = .ptr id off/\H[id]? = some c /\ ∀ n d,c ≠ .tok n d:=by
 unfold rV at h;split at h;rotate_left
 ·cases h
 split at h
 ·rename_i cs e b
  exact ⟨_,_,_,rfl,b,fun _ _ e=>by cases e⟩
 ·rename_i b
  exact ⟨_,_,_,rfl,b,fun _ _ e=>by cases e⟩
 ·cases h
theorem aCU (m:mP o=true) (h:(aP cx t H o).run=some (.ok v H1)) {H' : List O} (j:∀ (id:Nat) g,(∀ n w,g ≠ O.tok n w)->H[id]? = some g->H'[id]? = some g) :
  (aP cx t H' o).run=some (.ok v H'):=by
 unfold mP at m;unfold aP at h ⊢;split at m;rotate_left
 ·cases m
 rename_i r;simp only [r] at h ⊢;rename_i ty a;cases p:oU cx.lz a;rotate_left
 ·rw [p,cond_true] at h
  rw [cond_true];obtain ⟨u,c,e⟩:=pB h;simp only [Res.ok.injEq] at e;obtain ⟨rfl,rfl⟩:=e;obtain ⟨id,off,g,ha,d,hob⟩:=aE9 c;rw [run_bind (JE (H' := H') c fun i o f=>by rw [ha] at f; cases f; rw [d]; exact j _ _ hob d)];rfl
 rw [p,cond_false] at h;rw [cond_false];obtain ⟨u,c,e⟩:=kW h;simp only [Res.ok.injEq] at e;obtain ⟨rfl,rfl⟩:=e
 have:nN cx.P H' ty (nV cx.globs t a)=some v:=by
  unfold nN at c ⊢;split at c
  ·rename_i i cells q b
   have:oE H' (nV cx.globs t a)=some cells:=by
    unfold oE at b ⊢;split at b
    ·exact b
    ·rename_i id off _
     split at b
     ·rename_i cs e d
      rw [j id _ (fun _ _ e=>by cases e) d];exact b
     ·rename_i n k l z d
      rw [j id _ (fun _ _ e=>by cases e) d];exact b
     ·cases b
    ·cases b
   simp only [q,this];exact c
  ·cases c
 rw [this];rfl
theorem aV1 {c:EC} {bytes:Nat} {s:V} {xs:List c.ty} {u:V} (h:(grow H c bytes s xs).run=some (u,H1)) :
  ∀ (id:Nat) b,(∀ n f,b ≠ O.tok n f)->(H1[id]? = some b ↔ H[id]? = some b):=by
 have new:∀ n f (id:Nat) b,(∀ n f,b ≠ O.tok n f)->((H++[O.tok n f])[id]? = some b ↔ H[id]? = some b):=by
  intro n f id b a;by_cases g:id<H.length
  ·rw [ZB0 g]
  ·rw [List.getElem?_append_right (by omega),List.getElem?_eq_none (by omega:H.length<=id)]
   cases id - H.length with
   | zero=>simp only [ZC3,ZH3]; exact ⟨fun e=>absurd e.symm (a n f),fun e=>by cases e⟩
   | succ k=>simp
 unfold grow at h;split at h
 ·cases i:xs.isEmpty
  ·rw [i] at h
   obtain ⟨_,h⟩:=aM h;simp only [Tree.run,ZH3,Prod.mk.injEq] at h;obtain ⟨_,rfl⟩:=h;exact new _ _
  ·rw [i] at h
   simp only [Tree.run,cond_true,ZH3,Prod.mk.injEq] at h;obtain ⟨_,rfl⟩:=h;exact fun _ _ _=>Iff.rfl
 ·split at h
  rotate_left
  ·cases h
  cases i:xs.isEmpty
  ·rw [i] at h
   simp only [Tree.run,cond_false] at h;split at h
   ·obtain ⟨_,h⟩:=aM h
    simp only [Tree.run,ZH3,Prod.mk.injEq] at h;obtain ⟨_,rfl⟩:=h;exact new _ _
   ·cases h
  ·rw [i] at h
   simp only [Tree.run,cond_true,ZH3,Prod.mk.injEq] at h;obtain ⟨_,rfl⟩:=h;exact fun _ _ _=>Iff.rfl
 ·split at h
  rotate_left
  ·cases h
  rename_i id d l l' n f q m;cases hb:Nat.beq f c.size
  ·rw [hb] at h; cases h
  rw [hb,cond_true] at h;obtain ⟨_,h⟩:=aM h;simp only [Tree.run,ZH3,Prod.mk.injEq] at h;obtain ⟨_,rfl⟩:=h;intro j b a;rw [List.getElem?_set];split
  ·rename_i p
   subst p;split
   ·rw [m]
    simp only [ZH3];exact ⟨fun e=>absurd e.symm (a _ _),fun e=>absurd e.symm (a _ _)⟩
   ·rename_i g; rw [List.getElem?_eq_none (by omega)]
  ·exact Iff.rfl
 ·cases h
theorem aET (b:isApp cx o=true) (h:(aP cx t H o).run=some (.ok v H1)):∀ (id:Nat) f,(∀ n k,f ≠ O.tok n k)->(H1[id]? = some f ↔ H[id]? = some f):=by
 unfold isApp at b;unfold aP at h
 split at b <;> first | (cases b; done) | (rename_i g; simp only [g] at h)
 have i:IG cx o .append=false:=by simpa using b
 rw [i,cond_false] at h;unfold KB at h
 split at h <;> first | (rename_i d _; cases d; done) | (rename_i d; cases d; done) | skip
 ·obtain ⟨u,H',a,e⟩:=BB h
  simp only [Res.ok.injEq] at e;obtain ⟨rfl,rfl⟩:=e;unfold KT at a;split at a;rotate_left
  ·cases a
  split at a;rotate_left
  ·cases a
  split at a;rotate_left
  ·cases a
  split at a;rotate_left
  ·cases a
  rename_i j c _ _;cases hb:(Nat.beq c.size j.size&&(Nat.blt 0 j.bytes&&(Nat.beq j.zero.length j.size&&yB cx.P _)))
  ·rw [hb] at a; cases a
  rw [hb,cond_true] at a;split at a
  ·exact aV1 a
  ·cases a
 ·cases h
theorem aZ7 (k:mP o=true) (h:(aP cx t H o).run=some (.ok v H1)) (j:O):(aP cx t (H++[j]) o).run=some (.ok v (H++[j])):=by
 unfold mP at k;unfold aP at h ⊢;split at k;rotate_left
 ·cases k
 rename_i n;simp only [n] at h ⊢;rename_i ty a;cases l:oU cx.lz a;rotate_left
 ·rw [l,cond_true] at h
  rw [cond_true];obtain ⟨u,f,e⟩:=pB h;simp only [Res.ok.injEq] at e;obtain ⟨rfl,rfl⟩:=e;obtain ⟨id,off,ob',ha,c,_⟩:=aE9 f;rw [run_bind (JE (H' := H1++[j]) f fun i o g=>by rw [ha] at g; cases g; exact ZB0 (ZB2.1 c).1)];rfl
 rw [l,cond_false] at h;rw [cond_false];obtain ⟨u,f,e⟩:=kW h;simp only [Res.ok.injEq] at e;obtain ⟨rfl,rfl⟩:=e
 have:nN cx.P (H1++[j]) ty (nV cx.globs t a)=some v:=by
  unfold nN at f ⊢;split at f
  ·rename_i i cells m b
   have:oE (H1++[j]) (nV cx.globs t a)=some cells:=by
    unfold oE at b ⊢;split at b
    ·exact b
    ·rename_i id off _
     split at b
     ·rename_i cs e c
      have d:id<H1.length:=(ZB2.1 c).1;rw [ZB0 d,c];exact b
     ·rename_i c
      have d:id<H1.length:=(ZB2.1 c).1;rw [ZB0 d,c];exact b
     ·cases b
    ·cases b
   simp only [m,this];exact f
  ·cases f
 rw [this];rfl
theorem aU0 (a:VA cx o=true) (h:(aP cx t H o).run=some (.ok v H1)):H1=H /\ ∀ b,(aP cx t (H++[b]) o).run=some (.ok v (H++[b])):=by
 unfold VA at a;unfold aP at h ⊢;split at a;rotate_left
 ·cases a
 rename_i c;simp only [c] at h ⊢;exact aFC (List.eq_nil_of_length_eq_zero (ZG1 a)) h
theorem aQU {P:Program} {ref:Bool} {ty:TypeId} {l c u:V} (h:(EO P H ref ty l c).run=some (u,H1)):∃ b,H1=H++[b]:=by
 unfold EO at h;split at h;rotate_left
 ·cases h
 split at h;rotate_left
 ·cases h
 split at h;rotate_left
 ·cases h
 rename_i j _;obtain ⟨_,h⟩:=aM h;cases hb:Nat.beq j.zero.length j.size&&Nat.blt 0 j.bytes
 ·rw [hb] at h; cases h
 rw [hb,cond_true] at h;cases ref
 ·rw [cond_false] at h
  split at h;rotate_left
  ·cases h
  rename_i d _;cases a:Nat.beq d.size j.size
  ·rw [a] at h; cases h
  rw [a,cond_true] at h;split at h
  ·cases h; exact ⟨_,rfl⟩
  ·cases h
 ·cases h; exact ⟨_,rfl⟩
theorem aR6 {P:Program} {ty:TypeId} {l c u:V} (h:(E1 P H ty l c).run=some (u,H1)):∃ a,H1=H++[a]:=by
 unfold E1 at h;split at h;rotate_left
 ·cases h
 split at h;rotate_left
 ·cases h
 split at h;rotate_left
 ·cases h
 rename_i j k _ _;obtain ⟨_,h⟩:=aM h;cases hb:KR k j.zero&&Nat.blt 0 j.bytes
 ·rw [hb] at h; cases h
 ·rw [hb,cond_true] at h
  cases h; exact ⟨_,rfl⟩
theorem aQS {P:Program} {ref:Bool} {ty:TypeId} {n:Nat} {d:List (Nat × V)} {u:V} (h:rJ P H ref ty n d=some (u,H1)):H1=H \/ ∃ b,H1=H++[b]:=by
 unfold rJ at h;split at h;rotate_left
 ·cases h
 split at h;rotate_left
 ·cases h
 split at h;rotate_left
 ·cases h
 rename_i j _;cases hb:Nat.ble (n*j.size) 16777216&&Nat.beq j.zero.length j.size
 ·rw [hb] at h; cases h
 rw [hb,cond_true] at h;split at h;rotate_left
 ·cases h
 cases ref
 ·rw [cond_false] at h
  split at h;rotate_left
  ·cases h
  rename_i c _;cases a:Nat.beq c.size j.size
  ·rw [a] at h; cases h
  rw [a,cond_true] at h;obtain ⟨_,_,e⟩:=ZH0.1 h;cases e;exact .inl rfl
 ·cases h; exact .inr ⟨_,rfl⟩
theorem aGP (b:MX o=true) (h:(aP cx t H o).run=some (.ok v H1)):H1=H \/ ∃ f,H1=H++[f]:=by
 unfold MX at b;unfold aP at h
 split at b <;> first | (cases b; done) | (rename_i d; simp only [d] at h)
 ·split at h
  ·simp only [Tree.run,ZH3,Res.ok.injEq] at h
   exact .inr ⟨_,h.2.symm⟩
  ·cases h
 ·split at h
  ·simp only [Tree.run,ZH3,Res.ok.injEq] at h
   exact .inr ⟨_,h.2.symm⟩
  ·cases h
 ·cases c:WQ o cx.lz
  ·rw [c,cond_false] at h
   obtain ⟨u,H',a,e⟩:=BB h;simp only [Res.ok.injEq] at e;obtain ⟨_,rfl⟩:=e;exact .inr (aQU a)
  ·rw [c,cond_true] at h
   obtain ⟨u,H',a,e⟩:=BB h;simp only [Res.ok.injEq] at e;obtain ⟨_,rfl⟩:=e;exact .inr (aR6 a)
 ·unfold sB at h
  split at h
  ·rename_i a
   simp only [Tree.run,ZH3,Res.ok.injEq] at h;obtain ⟨_,rfl⟩:=h;exact aQS a
  ·cases h
def bW (ops:Array Oper) (t:T) (o:Oper):Option Bool:=
 match o.guard with
 | none=>some true
 | some (j,want)=>match (ops[j]?).bind (·.dst) with
  | some d=>match get d t with
   | .bool b=>some (b==want)
   | .val (.tuple _)=>some false
   | _=>none
  | none=>none
def fP (cx:Cx) (o:Oper) (v:V) (t:T) (H:List O):Option (T × List O):=(wV cx.n o.dst v t).map (·,H)
def bT (cx:Cx) (ops:Array Oper) (o:Oper) (q:T × List O):Option (T × List O):=
 match bW ops q.1 o with
 | some true=>match (aP cx q.1 q.2 o).run with
  | some (.ok v H)=>fP cx o v q.1 H
  | _=>none
 | some false=>fP cx o lJ q.1 q.2
 | none=>none
def eY (p q:T × List O):Prop:=IX p.1 q.1/\p.2=q.2
theorem eY.refl (p:T × List O):eY p p:=⟨fun _=>rfl,rfl⟩
theorem eY.trans {p q r:T × List O} (h:eY p q) (g:eY q r):eY p r:=⟨fun d=>(h.1 d).trans (g.1 d),h.2.trans g.2⟩
theorem eY.symm {p q:T × List O} (h:eY p q):eY q p:=⟨fun d=>(h.1 d).symm,h.2.symm⟩
variable {ops:Array Oper}
theorem tD (h:∀ d ∈ o.looksAt ops,get d t=get d s):bW ops t o=bW ops s o:=by
 unfold bW;split
 ·rfl
 ·rename_i j a c
  split
  ·rename_i d b
   rw [h d (by unfold Oper.looksAt; rw [c]; simp [b])]
  ·rfl
theorem CE (h:∀ d ∈ o.looksAt ops,get d t=get d s):aP cx t H o=aP cx s H o:=by
 refine JI fun x a=>?_
 cases x with
 | tmp d =>
  refine h d ?_;unfold Oper.looksAt;refine List.mem_append.2 (.inl (List.mem_filterMap.2 ⟨.tmp d,by simpa using a,rfl⟩))
 | _=>rfl
theorem JM {p q:T × List O} (h:IX p.1 q.1) {r:T × List O} (a:fP cx o v p.1 H=some r):∃ c,fP cx o v q.1 H=some c /\ eY r c := by
 unfold fP wV at a ⊢
 cases b:o.dst with
 | none=>simp only [b,ZH2,ZH3] at a ⊢; subst a; exact ⟨_,rfl,h,rfl⟩
 | some d =>
  simp only [b] at a ⊢;cases hb:Nat.blt d cx.n
  ·simp [hb] at a
  ·simp only [hb,cond_true,ZH2,ZH3] at a ⊢
   subst a;exact ⟨_,rfl,fun e=>by simp only [tH]; split; rfl; exact h e,rfl⟩
theorem aUN {p q r:T × List O} (h:eY p q) (a:bT cx ops o p=some r):∃ g,bT cx ops o q=some g /\ eY r g := by
 obtain ⟨t,H⟩:=p;obtain ⟨s,H'⟩:=q;obtain ⟨c,h2⟩:=h;simp only at c h2;subst h2;unfold bT at a ⊢;have j:bW ops s o=bW ops t o:=tD fun d _=>(c d).symm;have k:aP cx s H o=aP cx t H o:=JI fun x _=>(XY c x).symm;simp only at a ⊢;rw [j,k]
 cases f:bW ops t o with
 | none=>rw [f] at a; cases a
 | some b =>
  rw [f] at a;cases b
  ·exact JM (p:=(t,H)) (q:=(s,H)) c a
  ·simp only at a ⊢
   cases e:(aP cx t H o).run with
   | none=>rw [e] at a; cases a
   | some res =>
    rw [e] at a
    cases res with
    | pan u i=>cases a
    | ok u i=>exact JM (p:=(t,H)) (q:=(s,H)) c a
theorem jJ {r:T × List O} (h:fP cx o v t H=some r):r.2=H/\(∀ d,o.dst ≠ some d->get d r.1=get d t)/\(∀ d,o.dst=some d->get d r.1=v/\Nat.blt d cx.n=true):=by
 unfold fP wV at h
 cases b:o.dst with
 | none =>
  simp only [b,ZH2,ZH3] at h;subst h;exact ⟨rfl,fun _ _=>rfl,fun d h=>by cases h⟩
 | some d =>
  simp only [b] at h;cases hb:Nat.blt d cx.n
  ·simp [hb] at h
  ·simp only [hb,cond_true,ZH2,ZH3] at h
   subst h;refine ⟨rfl,fun e a=>?_,fun e a=>?_⟩
   ·simp only [tH]; rw [if_neg]; intro h; exact a (by rw [h])
   ·simp only [ZH3] at a; subst a; exact ⟨by simp [tH],hb⟩
theorem aED (hb:∀ d,o.dst=some d->Nat.blt d cx.n=true):∃ r,fP cx o v t H=some r:=by
 unfold fP wV
 cases a:o.dst with
 | none=>exact ⟨_,rfl⟩
 | some d=>simp [hb d a]
def GU (x y:Oper) (t:T):Prop:=∃ a b,sD x=some a/\sD y=some b /\ ∀ i j o o',rd t a = .ptr i o->rd t b = .ptr j o' -> i ≠ j
theorem RT {a:Operand} (m:sD x=some a) (h:(aP cx t H x).run=some (.ok v H1)) :
  (H1=H /\ ∀ H',(∀ id off,rd t a = .ptr id off->H'[id]? = H[id]?)->(aP cx t H' x).run=some (.ok v H')) \/
  (∃ id off F,rd t a = .ptr id off/\H1=H.set id F /\ ∀ H',H'[id]? = H[id]? -> (aP cx t H' x).run=some (.ok v (H'.set id F))):=by
 unfold sD at m;unfold aP at h ⊢;split at m
 ·rename_i ty b u B
  simp only [ZH3] at m;subst m;simp only [B] at h ⊢;right;cases z:oU cx.lz b;rotate_left
  ·rw [z,cond_true] at h
   simp only [cond_true];obtain ⟨G,d,h⟩:=bD h;simp only [Tree.run,ZH3,Res.ok.injEq] at h;obtain ⟨rfl,rfl⟩:=h;unfold FZ at d ⊢;split at d;rotate_left
   ·cases d
   rename_i k id off l x K r L;split at d
   ·rename_i cs e j
    cases g:decide (l=k)
    ·rw [g] at d; cases d
    rw [g,cond_true] at d;obtain ⟨C,D⟩:=aM d;cases D;refine ⟨id,off,.cells (j9 k off x 0 cs) e,r,rfl,fun H' f => ?_⟩;simp only [f,j,cond_true,C];rfl
   ·rename_i n E xs A j
    cases g:(decide (l=k)&&decide (E = k))
    ·rw [g] at d; cases d
    rw [g,cond_true] at d;obtain ⟨C,D⟩:=aM d;cases D;refine ⟨id,off,.obj (.page n E (xs.set (off - n) x)) A,r,rfl,fun H' f => ?_⟩;simp only [f,j,g,cond_true,C];rfl
   ·cases d
  rw [z,cond_false] at h;simp only [cond_false]
  cases c:zD cx.P H ty (rd t b) (rd t u) with
  | none=>rw [c] at h; cases h
  | some G =>
   rw [c] at h;simp only [Tree.run,ZH3,Res.ok.injEq] at h;obtain ⟨rfl,rfl⟩:=h;unfold zD at c ⊢;split at c;rotate_left
   ·cases c
   rename_i i vs id off hi J r;split at c
   ·rename_i cs e j
    cases g:(Nat.beq vs.length i.size&&Nat.ble (off+vs.length) cs.length)
    ·rw [g] at c; cases c
    rw [g,cond_true] at c;simp only [ZH3] at c;refine ⟨id,off,.cells (mL cs off vs) e,r,c.symm,fun H' f => ?_⟩;simp only [f,j,g,cond_true];rfl
   ·rename_i n k xs A j
    cases g:(Nat.beq vs.length i.size&&Nat.ble (off+vs.length) A.length)
    ·rw [g] at c; cases c
    rw [g,cond_true] at c;simp only [ZH3] at c;refine ⟨id,off,.obj (.page n k xs) (mL A off vs),r,c.symm,fun H' f => ?_⟩;simp only [f,j,g,cond_true];rfl
   ·cases c
 ·rename_i ty b B
  simp only [ZH3] at m;subst m;simp only [B] at h ⊢;left;cases z:oU cx.lz b;rotate_left
  ·rw [z,cond_true] at h
   simp only [cond_true];obtain ⟨w,p,e⟩:=pB h;simp only [Res.ok.injEq] at e;obtain ⟨rfl,rfl⟩:=e;refine ⟨rfl,fun H' f => ?_⟩;rw [run_bind (JE (H' := H') p f)];rfl
  rw [z,cond_false] at h;simp only [cond_false];obtain ⟨w,p,e⟩:=kW h;simp only [Res.ok.injEq] at e;obtain ⟨rfl,rfl⟩:=e;refine ⟨rfl,fun H' f => ?_⟩
  have:nN cx.P H' ty (nV cx.globs t b)=some v:=by
   unfold nN at p ⊢;split at p
   ·rename_i i cells I q
    have:oE H' (nV cx.globs t b)=some cells:=by
     unfold oE at q ⊢;split at q
     ·exact q
     ·rename_i id off hb
      rw [f id off (aIB hb)];exact q
     ·cases q
    simp only [I,this];exact p
   ·cases p
  rw [this];rfl
 ·cases m
theorem a0R {k l:V} {f:List O} (n:GU x y t) (h:(aP cx t H x).run=some (.ok k H1)) (d:(aP cx t H1 y).run=some (.ok l f)) :
  ∃ Hy',(aP cx t H y).run=some (.ok l Hy')/\(aP cx t Hy' x).run=some (.ok k f):=by
 obtain ⟨a,b,m,hb,sep⟩:=n
 rcases RT m h with ⟨rfl,g1⟩ | ⟨i,oi,ob,ri,rfl,g1⟩
 ·rcases RT hb d with ⟨rfl,g2⟩ | ⟨j,oj,oc,rj,rfl,g2⟩
  ·exact ⟨f,d,h⟩
  ·refine ⟨H1.set j oc,d,g1 _ fun id off g=>?_⟩
   exact List.getElem?_set_ne (fun e=>sep id j off oj g rj e.symm)
 ·rcases RT hb d with ⟨rfl,g2⟩ | ⟨j,oj,oc,rj,rfl,g2⟩
  ·refine ⟨H,g2 H fun id off g=>?_,g1 H rfl⟩
   exact (List.getElem?_set_ne (fun e=>sep i id oi off ri g e)).symm
  ·have c:i ≠ j:=sep i j oi oj ri rj
   refine ⟨H.set j oc,g2 H (List.getElem?_set_ne c).symm,?_⟩;rw [List.set_comm _ _ c];exact g1 _ (List.getElem?_set_ne (fun e=>c e.symm))
theorem aFP {i:Nat}:∀ {l:List Nat},i ∈ l->cG i l=true
 | [],h=>by cases h
 | j :: l,h=>by
  unfold cG;cases hb:Nat.beq i j
  ·rcases ZE3.1 h with rfl | h
   ·simp at hb
   ·exact aFP h
  ·rfl
theorem aCP {α:Type} {i:Nat}:∀ (σ:List Nat) (os H:List α),i ∉ σ->i<H.length->(bQ H σ os)[i]? = H[i]?
 | [],os,H,_,hl=>by
  unfold bQ;exact ZB0 hl
 | j :: σ,[],H,_,hl=>by
  unfold bQ;exact ZB0 hl
 | j :: σ,o :: os,H,hn,hl=>by
  unfold bQ;rw [aCP σ os (H.set j o) (fun h=>hn (ZD2 _ h)) (by rw [List.length_set]; exact hl)];refine List.getElem?_set_ne (fun e=>hn ?_);rw [e];exact ZD1
theorem aTN {f:Nat} {as:List V} (h:(zA cx H f as).run=some (.ok v H1)) {i:Nat} (hi:cG i (reach H 64 (V.idss as) [])=false) (g:i<H.length):H1[i]? = H[i]? := by
 unfold zA at h;simp only at h;split at h;rotate_left
 ·cases h
 split at h;rotate_left
 ·cases h
 cases c:fU (reach H 64 (V.idss as) [])
 ·rw [c] at h; cases h
 rw [c,cond_true] at h;obtain ⟨u,_,h2⟩:=bD h
 have l:i ∉ reach H 64 (V.idss as) []:=fun j=>by rw [aFP j] at hi; cases hi
 have key:∀ {b:V} {a:List O} {k:V->List O->Res} ,(∀ v H,k v H = .ok v H\/k v H = .pan v H)->(vO H (reach H 64 (V.idss as) []) b a k).run=some (.ok v H1)->H1[i]? = H[i]? := by
  intro b a k d h;unfold vO at h;split at h;rotate_left
  ·cases h
  rename_i m H3 _ _;cases hb:Nat.ble (reach H 64 (V.idss as) []).length H3.length
  ·rw [hb] at h; cases h
  rw [hb,cond_true] at h;simp only [Tree.run,ZH3] at h
  rcases d m (bQ H (reach H 64 (V.idss as) []) H3) with e | e
  ·rw [e] at h
   cases h;exact aCP _ _ _ l g
  ·rw [e] at h; cases h
 cases u with
 | ok b a=>exact key (k:=.ok) (fun _ _=>.inl rfl) h2
 | pan b a=>exact key (k:=.pan) (fun _ _=>.inr rfl) h2
theorem aD7 {f:Nat} {as:List V} (h:(zR cx H f as).run=some (.ok v H1)) {i:Nat} (hi:cG i (reach H 64 (V.idss as) [])=false) (a:i<H.length):H1[i]? = H[i]? := aTN (aIK h) hi a
theorem aBX {α:Type} {a:α}:∀ (σ:List Nat) (os H:List α),σ.length=os.length->(∀ i ∈ σ,i<H.length)->bQ (H++[a]) σ os=bQ H σ os++[a]
 | [],[],H,_,_=>by
  unfold bQ;rw [List.append_nil,List.append_nil]
 | [],_ :: _,_,h,_=>by cases h
 | _ :: _,[],_,h,_=>by cases h
 | i :: σ,o :: os,H,h,hl=>by
  unfold bQ;rw [List.set_append_left _ _ (hl i ZD1)]
  exact aBX σ os (H.set i o) (by simpa using h) fun j b=>by rw [List.length_set]; exact hl j (ZD2 _ b)
theorem aWG {f:Nat} {as:List V} (h:(G8 cx H f as).run=some (.ok v H1)):H1.length=H.length /\ ∀ g,(G8 cx (H++[g]) f as).run=some (.ok v (H1++[g])):=by
 unfold G8 at h ⊢;simp only at h ⊢
 cases c:gQ H (reach H 64 (V.idss as) []) with
 | none=>rw [c] at h; cases h
 | some os =>
  have a:=RK c;rw [c] at h;simp only at h
  cases b:V.rens? (fun i=>place i (reach H 64 (V.idss as) [])) as with
  | none=>rw [b] at h; cases h
  | some j =>
  cases e:eA (fun i=>place i (reach H 64 (V.idss as) [])) os with
  | none=>rw [b,e] at h; cases h
  | some k =>
  rw [b,e] at h;simp only at h;cases d:fU (reach H 64 (V.idss as) [])
  ·rw [d] at h; cases h
  rw [d,cond_true] at h;obtain ⟨u,h1,h2⟩:=bD h;obtain ⟨l,H2,v',H2',rfl,e1,e2,e3,e4⟩:=aCR h2;simp only [Res.ok.injEq] at e4;obtain ⟨rfl,rfl⟩:=e4;refine ⟨by rw [JC _ _ _ (Nat.le_of_eq e3)]; omega,fun g=>?_⟩;rw [JA 64 _ _ a,QL a,c];simp only;rw [b,e];simp only;rw [d,cond_true,run_bind h1];simp only [NS];rw [e1,e2];simp only;rw [e3,Nat.beq_refl,aBX _ _ _ e3 a];rfl
theorem aW0 (a:SI cx o=true) (h:(aP cx t H o).run=some (.ok v H1)):H1.length=H.length /\ ∀ b,(aP cx t (H++[b]) o).run=some (.ok v (H1++[b])):=by
 unfold SI at a;split at a;rotate_left
 ·cases a
 rename_i g args _ d;obtain ⟨c,h2⟩:=ZA0.1 a;unfold aP at h ⊢;simp only [d,rd,oN,lM,c,cond_true,zR,h2] at h ⊢;exact aWG h
theorem aXX (a:SL o=true) (h:(aP cx t H o).run=some (.ok v H1)):∃ c,H1=H++[c] /\ ∀ H',H'.length=H.length->(aP cx t H' o).run=some (.ok v (H' ++ [c])):=by
 unfold SL at a;split at a;rotate_left
 ·cases a
 rename_i e f;unfold aP at h ⊢;simp only [f] at h ⊢
 cases b:ti cx.P e with
 | none=>rw [b] at h; cases h
 | some i =>
  rw [b] at h;simp only [Tree.run,ZH3,Res.ok.injEq] at h;obtain ⟨rfl,rfl⟩:=h;exact ⟨_,rfl,fun H' d=>by simp only [Tree.run,d]⟩
def yX (cx:Cx) (x y:Oper) (p:T × List O):Prop:=
 mP x=true /\ ∃ a as,sD x=some a/\MC cx y=some as /\ ∀ i o,rd p.1 a = .ptr i o->i<p.2.length/\cG i (reach p.2 64 (V.idss (as.map (rd p.1))) [])=false
theorem aC2 {as:List Operand} (h:MC cx o=some as):∃ g,∀ t H,aP cx t H o=zR cx H g (as.map (rd t)):=by
 unfold MC at h;split at h;rotate_left
 ·cases h
 rename_i g args _ b;cases a:fR g cx.mtab
 ·rw [a] at h; cases h
 rw [a,cond_true] at h;cases h;refine ⟨g,fun t H=>?_⟩;unfold aP;simp only [b,rd,oN,lM,a,cond_true];rfl
theorem aFL {a:Operand} (g:mP x=true) (j:sD x=some a) (h:(aP cx t H x).run=some (.ok v H1)) :
  H1=H /\ ∀ H',(∀ id off,rd t a = .ptr id off->H'[id]? = H[id]?)->(aP cx t H' x).run=some (.ok v H'):=by
 have e:=rK (by unfold mP at g; unfold quiet; split at g <;> simp_all) h;refine ⟨e,fun H' f => ?_⟩;unfold mP at g;split at g;rotate_left
 ·cases g
 rename_i ty b k
 have hb:b=a:=by
  unfold sD at j;simp only [k,ZH3] at j;exact j
 subst hb;unfold aP at h ⊢;simp only [k] at h ⊢;cases l:oU cx.lz b;rotate_left
 ·rw [l,cond_true] at h
  rw [cond_true];obtain ⟨w,c,e⟩:=pB h;simp only [Res.ok.injEq] at e;obtain ⟨rfl,rfl⟩:=e;rw [run_bind (JE (H' := H') c f)];rfl
 rw [l,cond_false] at h;rw [cond_false];obtain ⟨w,c,e⟩:=kW h;simp only [Res.ok.injEq] at e;obtain ⟨rfl,rfl⟩:=e
 have:nN cx.P H' ty (nV cx.globs t b)=some v:=by
  unfold nN at c ⊢;split at c
  ·rename_i i cells m d
   have:oE H' (nV cx.globs t b)=some cells:=by
    unfold oE at d ⊢;split at d
    ·exact d
    ·rename_i id off hb
     rw [f id off (aIB hb)];exact d
    ·cases d
   simp only [m,this];exact c
  ·cases c
 rw [this];rfl
theorem aWV {j k:V} {b:List O} (l:yX cx x y (t,H)\/yX cx y x (t,H)) (c:(aP cx t H x).run=some (.ok j H1)) (d:(aP cx t H1 y).run=some (.ok k b)) :
  ∃ Hy',(aP cx t H y).run=some (.ok k Hy')/\(aP cx t Hy' x).run=some (.ok j b):=by
 rcases l with ⟨h,a,as,ha,hc,sep⟩ | ⟨h,a,as,ha,hc,sep⟩
 ·obtain ⟨rfl,g⟩:=aFL h ha c
  obtain ⟨f,hf⟩:=aC2 hc;refine ⟨b,d,g b fun id off i=>?_⟩;rw [hf] at d;obtain ⟨e,g2⟩:=sep id off i;exact aD7 d g2 e
 ·obtain ⟨rfl,g⟩:=aFL h ha d
  obtain ⟨f,hf⟩:=aC2 hc;refine ⟨H,g H fun id off i=>?_,c⟩;rw [hf] at c;obtain ⟨e,g2⟩:=sep id off i;exact (aD7 c g2 e).symm
theorem aOH {p q r:T × List O} (M:x.apart ops y=true) (P:yV cx x y=true\/GU x y p.1\/(yX cx x y p\/yX cx y x p)) (E:bT cx ops x p=some q) (I:bT cx ops y q=some r) :
  ∃ q' c,bT cx ops y p=some q' /\ bT cx ops x q' = some c /\ eY r c := by
 obtain ⟨t,H⟩:=p;obtain ⟨X,a2,a3⟩:=Oper.apart_spec M
 have out:∀ {o:Oper} {p q:T × List O},bT cx ops o p=some q ->
   (∃ v,bW ops p.1 o=some true/\(aP cx p.1 p.2 o).run=some (.ok v q.2)/\fP cx o v p.1 q.2=some q)\/(bW ops p.1 o=some false/\fP cx o lJ p.1 p.2=some q):=by
  intro o p q h;unfold bT at h
  cases U:bW ops p.1 o with
  | none=>rw [U] at h; cases h
  | some b =>
   rw [U] at h;cases b
   ·exact .inr ⟨rfl,h⟩
   ·simp only at h
    cases S:(aP cx p.1 p.2 o).run with
    | none=>rw [S] at h; cases h
    | some res =>
     rw [S] at h
     cases res with
     | pan u W=>cases h
     | ok u W =>
      have:=(jJ h).1;subst this;exact .inl ⟨u,rfl,rfl,h⟩
 have ex:∀ {v:V} {H' : List O},fP cx x v t H' = some q -> ∀ d ∈ y.looksAt ops,get d q.1=get d t:=fun Y d n =>
  (jJ Y).2.1 d fun e=>X d e n
 have J:∀ {o:Oper} {p:T × List O} {v:V} {H' : List O} {q:T × List O},bW ops p.1 o=some true->(aP cx p.1 p.2 o).run=some (.ok v H')->fP cx o v p.1 H' = some q->bT cx ops o p=some q:=by
  intro o p v H' q E I L;unfold bT; simp only [E,I]; exact L
 have l:∀ {o:Oper} {p:T × List O} {q:T × List O},bW ops p.1 o=some false->fP cx o lJ p.1 p.2=some q->bT cx ops o p=some q:=by
  intro o p q E L;unfold bT; simp only [E]; exact L
 have fin:∀ {m A:V} {Q Hy Hx' Hy' : List O},fP cx x m t Q=some q->fP cx y A q.1 Hy=some r ->
   ∃ q' c,fP cx y A t Hx' = some q' /\ fP cx x m q'.1 Hy' = some c /\ IX r.1 c.1/\q'.2=Hx' /\ c.2=Hy' /\ ∀ d ∈ x.looksAt ops,get d q'.1=get d t:=by
  intro m A Q Hy Hx' Hy' Z hr;obtain ⟨b1,b2,b3⟩:=jJ Z;obtain ⟨c1,c2,c3⟩:=jJ hr;obtain ⟨q',hq'⟩:=aED (cx:=cx) (o:=y) (v:=A) (t:=t) (H:=Hx') (fun d n=>(c3 d n).2);obtain ⟨c,hr'⟩:=aED (cx:=cx) (o:=x) (v:=m) (t:=q'.1) (H:=Hy') (fun d n=>(b3 d n).2);obtain ⟨d1,d2,d3⟩:=jJ hq';obtain ⟨j,a,e3⟩:=jJ hr';refine ⟨q',c,hq',hr',fun d=>?_,d1,j,fun d n=>d2 d fun e=>a3 d e n⟩;by_cases hx:x.dst=some d
  ·have C:y.dst ≠ some d:=a2 d hx
   rw [c2 d C,(b3 d hx).1,(e3 d hx).1]
  ·rw [a d hx]
   by_cases C:y.dst=some d
   ·rw [(c3 d C).1,(d3 d C).1]
   ·rw [c2 d C,b2 d hx,d2 d C]
 rcases out E with ⟨m,B,d1,p1⟩ | ⟨B,p1⟩
 ·have G:=ex p1
  simp only at B d1 p1;have D:bW ops q.1 y=bW ops t y:=tD G;have K:∀ H,aP cx q.1 H y=aP cx t H y:=fun H=>CE G
  rcases out I with ⟨A,k,d2,p2⟩ | ⟨k,p2⟩
  ·rw [D] at k
   rw [K] at d2
   have w:∃ Hy',(aP cx t H y).run=some (.ok A Hy')/\(aP cx t Hy' x).run=some (.ok m r.2):=by
    rcases P with hm | F | N
    rotate_left
    ·exact a0R F d1 d2
    ·exact aWV N d1 d2
    unfold yV at hm
    rcases ZA1.1 hm with hm | hm
    ·obtain ⟨e,hall⟩:=Q2 hm d1
     rw [e] at d2;exact ⟨r.2,d2,hall _⟩
    rcases ZA1.1 hm with hm | hm
    ·obtain ⟨e,hall⟩:=Q2 hm d2
     rw [e];exact ⟨H,hall H,d1⟩
    rcases ZA1.1 hm with hm | hm
    ·obtain ⟨f,g⟩:=ZA0.1 hm
     have j:=rK f d1;have a:=rK g d2;rw [j] at d1 d2 a;rw [a] at d2 ⊢;exact ⟨H,d2,d1⟩
    rcases ZA1.1 hm with hm | hm
    ·obtain ⟨f,g⟩:=ZA0.1 hm
     have j:=rK (by unfold mP at f; unfold quiet; split at f <;> simp_all) d1;rw [j] at d1 d2
     rcases aGP g d2 with a | ⟨i,a⟩
     ·rw [a] at d2 ⊢
      exact ⟨H,d2,d1⟩
     rw [a] at d2 ⊢;exact ⟨H++[i],d2,aZ7 f d1 i⟩
    rcases ZA1.1 hm with hm | hm
    ·obtain ⟨f,g⟩:=ZA0.1 hm
     have j:=rK (by unfold mP at f; unfold quiet; split at f <;> simp_all) d1;rw [j] at d1 d2;exact ⟨r.2,d2,aCU f d1 fun id i z h=>(aET g d2 id i z).2 h⟩
    rcases ZA1.1 hm with hm | hm
    ·obtain ⟨f,g⟩:=ZA0.1 hm
     have a:=rK (by unfold mP at g; unfold quiet; split at g <;> simp_all) d2;rw [a] at d2 ⊢;exact ⟨H,aCU g d2 fun id i z h=>(aET f d1 id i z).1 h,d1⟩
    rcases ZA1.1 hm with hm | hm
    rotate_left
    ·obtain ⟨f,g⟩:=ZA0.1 hm
     obtain ⟨j,g1⟩:=aW0 f d1;obtain ⟨i,a,g2⟩:=aXX g d2;rw [a];exact ⟨H++[i],g2 H j.symm,g1 i⟩
    ·obtain ⟨f,g⟩:=ZA0.1 hm
     obtain ⟨j,g1⟩:=aU0 f d1;rw [j] at d1 d2
     rcases aGP g d2 with a | ⟨i,a⟩
     ·rw [a] at d2 ⊢
      exact ⟨H,d2,d1⟩
     rw [a] at d2 ⊢;exact ⟨H++[i],d2,g1 i⟩
   obtain ⟨Hy',g1,g2⟩:=w;obtain ⟨q',c,f1,f2,f3,f4,f5,f6⟩:=fin (Hx' := Hy') (Hy' := r.2) p1 p2;refine ⟨q',c,J k g1 f1,J (v:=m) (H' := r.2) ?_ ?_ f2,f3,f5.symm⟩
   ·rw [tD f6]; exact B
   ·rw [f4,CE f6]; exact g2
  ·rw [D] at k
   obtain ⟨q',c,f1,f2,f3,f4,f5,f6⟩:=fin (Hx' := H) (Hy' := q.2) p1 p2;refine ⟨q',c,l k f1,J (v:=m) (H' := q.2) ?_ ?_ f2,f3,?_⟩
   ·rw [tD f6]; exact B
   ·rw [f4,CE f6]; exact d1
   ·rw [f5,(jJ p2).1]
 ·have G:=ex p1
  simp only at B p1;have D:bW ops q.1 y=bW ops t y:=tD G;have K:∀ H,aP cx q.1 H y=aP cx t H y:=fun H=>CE G;have R:q.2=H:=(jJ p1).1
  rcases out I with ⟨A,k,d2,p2⟩ | ⟨k,p2⟩
  ·rw [D] at k
   rw [K,R] at d2;obtain ⟨q',c,f1,f2,f3,f4,f5,f6⟩:=fin (Hx' := r.2) (Hy' := r.2) p1 p2;refine ⟨q',c,J k d2 f1,l ?_ (by rw [f4]; exact f2),f3,f5.symm⟩;rw [tD f6]; exact B
  ·rw [D] at k
   rw [R] at p2;obtain ⟨q',c,f1,f2,f3,f4,f5,f6⟩:=fin (Hx' := H) (Hy' := H) p1 p2;refine ⟨q',c,l k f1,l ?_ (by rw [f4]; exact f2),f3,?_⟩
   ·rw [tD f6]; exact B
   ·rw [f5,(jJ p2).1]
end
end Go.Ab

namespace Go.Ab
section
variable {cx:Cx} {ops:Array Oper} {I:T × List O->Prop}
def runI (cx:Cx) (ops:Array Oper):List Nat->T × List O->Option (T × List O)
 | [],p=>some p
 | i :: r,p=>match ops[i]? with
  | none=>runI cx ops r p
  | some o=>match bT cx ops o p with
   | some q=>runI cx ops r q
   | none=>none
theorem vB (l m:List Nat) (p:T × List O):runI cx ops (l++m) p=(runI cx ops l p).bind (runI cx ops m):=by
 induction l generalizing p with
 | nil=>rfl
 | cons i r a =>
  simp only [List.cons_append,runI];split
  ·exact a p
  ·split
   ·exact a _
   ·rfl
theorem E4:∀ (l:List Nat) {p q r:T × List O},eY p q->runI cx ops l p=some r -> ∃ d,runI cx ops l q=some d /\ eY r d
 | [],p,q,r,h,a=>by simp only [runI,ZH3] at a; subst a; exact ⟨q,rfl,h⟩
 | i :: l,p,q,r,h,a=>by
  simp only [runI] at a ⊢
  cases c:ops[i]? with
  | none=>rw [c] at a; exact E4 l h a
  | some o =>
   rw [c] at a;simp only at a ⊢
   cases b:bT cx ops o p with
   | none=>rw [b] at a; cases a
   | some e =>
    rw [b] at a;obtain ⟨f,hq1,hl⟩:=aUN h b;rw [hq1];exact E4 l hl a
def XD (cx:Cx) (ops:Array Oper) (I:T × List O->Prop) (i j:Nat):Prop:=
 ∀ x y,ops[i]? = some x->ops[j]? = some y->x.apart ops y=true/\(yV cx x y=true \/ ∀ p,I p->GU x y p.1)
def HC (cx:Cx) (ops:Array Oper) (I:T × List O->Prop):Prop:=∀ (i:Nat) o p q,ops[i]? = some o->I p->bT cx ops o p=some q->I q
theorem QE (c:HC cx ops I):∀ (l:List Nat) {p q:T × List O},I p->runI cx ops l p=some q->I q
 | [],p,q,h,a=>by simp only [runI,ZH3] at a; subst a; exact h
 | i :: l,p,q,h,a=>by
  simp only [runI] at a
  cases d:ops[i]? with
  | none=>rw [d] at a; exact QE c l h a
  | some o =>
   rw [d] at a;simp only at a
   cases b:bT cx ops o p with
   | none=>rw [b] at a; cases a
   | some e=>rw [b] at a; exact QE c l (c i o p e d h b) a
theorem RZ (f:HC cx ops I) {i:Nat}:∀ (B:List Nat) {p r:T × List O},I p->(∀ j ∈ B,XD cx ops I i j)->runI cx ops (i :: B) p=some r -> ∃ d,runI cx ops (B++[i]) p=some d /\ eY r d
 | [],p,r,_,_,h=>⟨r,h,.refl r⟩
 | j :: B,p,r,hI,hB,h=>by
  cases hi:ops[i]? with
  | none =>
   have e:∀ l p,runI cx ops (i :: l) p=runI cx ops l p:=fun l p=>by simp [runI,hi]
   refine ⟨r,?_,.refl r⟩;rw [e] at h;rw [vB,h];simp [runI,hi]
  | some x =>
   cases a:ops[j]? with
   | none =>
    have e:∀ l p,runI cx ops (j :: l) p=runI cx ops l p:=fun l p=>by simp [runI,a]
    have m : runI cx ops (i :: B) p=some r:=by
     simp only [runI,hi,a] at h ⊢;exact h
    obtain ⟨d,b,c⟩:=RZ f B hI (fun k g=>hB k (ZD2 _ g)) m;exact ⟨d,by rw [List.cons_append,e]; exact b,c⟩
   | some y =>
    simp only [runI,hi,a] at h
    cases b:bT cx ops x p with
    | none=>rw [b] at h; cases h
    | some q =>
     rw [b] at h;simp only at h
     cases c:bT cx ops y q with
     | none=>rw [c] at h; cases h
     | some v =>
      rw [c] at h;simp only at h;obtain ⟨o,hm⟩:=hB j ZD1 x y hi a;obtain ⟨q',r1,g1,g2,g3⟩:=aOH o (hm.imp id (fun s=>.inl (s p hI))) b c;obtain ⟨t,k1,k2⟩:=E4 B g3 h
      have n:runI cx ops (i :: B) q' = some t:=by simp only [runI,hi,g2]; exact k1
      obtain ⟨u,m1,m2⟩:=RZ f B (f j y p q' a hI g1) (fun k g=>hB k (ZD2 _ g)) n;refine ⟨u,?_,k2.trans m2⟩;simp only [List.cons_append,runI,a,g1];exact m1
def TurnsAt (cx:Cx) (ops:Array Oper) (i j:Nat) (p:T × List O):Prop:=
 ∀ x y,ops[i]? = some x->ops[j]? = some y->x.apart ops y=true/\(yV cx x y=true\/GU x y p.1\/(yX cx x y p\/yX cx y x p))
theorem QZ {i:Nat}:∀ (B:List Nat) {p r:T × List O},(∀ b j d,B=b++j :: d -> ∀ q,runI cx ops b p=some q->TurnsAt cx ops i j q)->runI cx ops (i :: B) p=some r -> ∃ m,runI cx ops (B++[i]) p=some m /\ eY r m
 | [],p,r,_,h=>⟨r,h,.refl r⟩
 | j :: B,p,r,hB,h=>by
  cases hi:ops[i]? with
  | none =>
   have e:∀ l p,runI cx ops (i :: l) p=runI cx ops l p:=fun l p=>by simp [runI,hi]
   refine ⟨r,?_,.refl r⟩;rw [e] at h;rw [vB,h];simp [runI,hi]
  | some x =>
   cases c:ops[j]? with
   | none =>
    have e:∀ l p,runI cx ops (j :: l) p=runI cx ops l p:=fun l p=>by simp [runI,c]
    have o : runI cx ops (i :: B) p=some r:=by
     simp only [runI,hi,c] at h ⊢;exact h
    obtain ⟨m,f,g⟩:=QZ B (fun b k d a q n=>hB (j :: b) k d (by rw [a]; rfl) q (by rw [e]; exact n)) o;exact ⟨m,by rw [List.cons_append,e]; exact f,g⟩
   | some y =>
    simp only [runI,hi,c] at h
    cases f:bT cx ops x p with
    | none=>rw [f] at h; cases h
    | some q =>
     rw [f] at h;simp only at h
     cases g:bT cx ops y q with
     | none=>rw [g] at h; cases h
     | some w =>
      rw [g] at h;simp only at h;obtain ⟨t,hm⟩:=hB [] j B rfl p rfl x y hi c;obtain ⟨q',r1,g1,g2,g3⟩:=aOH t hm f g;obtain ⟨u,k1,k2⟩:=E4 B g3 h
      have s:runI cx ops (i :: B) q' = some u:=by simp only [runI,hi,g2]; exact k1
      obtain ⟨v,m1,m2⟩:=QZ B (fun b k d a q n=>hB (j :: b) k d (by rw [a]; rfl) q (by simp only [runI,c,g1]; exact n)) s;refine ⟨v,?_,k2.trans m2⟩;simp only [List.cons_append,runI,c,g1];exact m1
def j4 (ops:Array Oper) (S:Nat->Bool):Prop:=∀ (j:Nat) o,ops[j]? = some o->S j=true -> ∀ e ∈ o.after,Region.binds .any e=true->S e.on=true
def Anc (ops:Array Oper) (i j:Nat):Prop:=∀ S,j4 ops S->S j=true->S i=true
structure DrawOk (cx:Cx) (ops:Array Oper) (p0:T × List O):Prop where
 back:∀ (j:Nat) o,ops[j]? = some o -> ∀ e ∈ o.after,Region.binds .any e=true->e.on<j
 pairs:∀ i j,i<j->j<ops.size->Anc ops i j \/ ∀ l p,(∀ k ∈ l,k<j/\k ≠ i)->runI cx ops l p0=some p->TurnsAt cx ops i j p
def nA (cx:Cx) (ops:Array Oper) (S:Nat->Bool) (p:T × List O):Option (T × List O):=runI cx ops ((List.range ops.size).filter S) p
def cF (S:Nat->Bool) (i:Nat):Nat->Bool:=fun j=>S j || j==i
theorem aC0 {n i:Nat} (h:i<n):List.range n=List.range i++i :: List.range' (i+1) (n - i - 1):=by
 have a:List.range n=List.range' 0 i++List.range' i (n - i):=by
  have:=List.range'_append (s:=0) (m:=i) (n:=n - i) (step:=1);rw [List.range_eq_range'];simp only [Nat.one_mul,Nat.zero_add] at this;rw [this]; congr 1; omega
 rw [a,<- List.range_eq_range'];congr 1;rw [show n - i=(n - i - 1)+1 from by omega,List.range'_succ];simp
theorem aBZ {n i:Nat} {S:Nat->Bool} (h:i<n) (e:S i=false) :
  ∃ A B,(List.range n).filter (cF S i)=A++i :: B/\(List.range n).filter S=A++B/\(∀ j ∈ B,i<j/\j<n/\S j=true)/\(∀ j ∈ A,j<i)/\B.Pairwise (· < ·):=by
 refine ⟨(List.range i).filter S,(List.range' (i+1) (n - i - 1)).filter S,?_,?_,?_,fun j a=>List.mem_range.1 (List.mem_filter.1 a).1,(List.pairwise_lt_range' (s:=i+1) (n:=n - i - 1) 1 (by decide)).filter _⟩
 ·rw [aC0 h,List.filter_append,List.filter_cons]
  have b:(List.range i).filter (cF S i)=(List.range i).filter S:=by
   apply List.filter_congr;intro j a;have:=List.mem_range.1 a;simp [cF]; omega
  have c:(List.range' (i+1) (n - i - 1)).filter (cF S i)=(List.range' (i+1) (n - i - 1)).filter S:=by
   apply List.filter_congr;intro j a;have:=List.mem_range'_1.1 a;simp [cF]; omega
  rw [b,c];simp [cF]
 ·rw [aC0 h,List.filter_append,List.filter_cons]
  simp [e]
 ·intro j a
  obtain ⟨d,h2⟩:=List.mem_filter.1 a;have:=List.mem_range'_1.1 d;exact ⟨by omega,by omega,h2⟩
theorem FY {l r:T × List O} (v:DrawOk cx ops l) {S:Nat->Bool} {i:Nat} (u:j4 ops S) (hi:i<ops.size) (n:S i=false) (h:nA cx ops (cF S i) l=some r) :
  ∃ p e,nA cx ops S l=some p/\(∀ o,ops[i]? = some o->bT cx ops o p=some e)/\eY r e := by
 obtain ⟨A,B,e1,e2,e3,e4,e5⟩:=aBZ hi n;unfold nA at h ⊢;rw [e1,vB] at h;rw [e2,vB];obtain ⟨q,hq,h⟩:=Option.bind_eq_some_iff.1 h
 have t:∀ d j m,B=d++j :: m -> ∀ q',runI cx ops d q=some q' -> TurnsAt cx ops i j q' := by
  intro d j m a q' g;obtain ⟨b,f,h3⟩:=e3 j (by rw [a]; simp)
  rcases v.pairs i j b f with h | h
  ·have:=h S u h3
   rw [n] at this; cases this
  ·refine h (A++d) q' (fun k c=>?_) (by rw [vB,hq]; exact g)
   rcases List.mem_append.1 c with c | c
   ·have:=e4 k c; omega
   ·have x:=(e3 k (by rw [a]; exact List.mem_append_left _ c)).1
    rw [a] at e5;have y:=(List.pairwise_append.1 e5).2.2 k c j ZD1;omega
 obtain ⟨e,b,f⟩:=QZ B t h;rw [vB] at b;obtain ⟨p,hp,b⟩:=Option.bind_eq_some_iff.1 b;refine ⟨p,e,by rw [hq]; exact hp,fun o w=>?_,f⟩;simp only [runI,w] at b
 cases s:bT cx ops o p with
 | none=>rw [s] at b; cases b
 | some z=>rw [s] at b; exact b
theorem xY {S:Nat->Bool} {i:Nat} (d:j4 ops S) (h:∀ o,ops[i]? = some o -> ∀ e ∈ o.after,Region.binds .any e=true->S e.on=true):j4 ops (cF S i):=by
 intro j o c a e b hb;unfold cF at a ⊢
 rcases ZA1.1 a with a | a
 ·rw [d j o c a e b hb]; rfl
 ·have:j=i:=by simpa using a
  subst this;rw [h o c e b hb]; rfl
def missing (n:Nat) (S:Nat->Bool):Nat:=((List.range n).filter fun i=>!S i).length
theorem xT {n i:Nat} {S:Nat->Bool} (hi:i<n) (c:S i=false):missing n S=missing n (cF S i)+1:=by
 unfold missing
 have a : (fun j=>!(cF S i) j) i=false:=by simp [cF]
 obtain ⟨A,B,e1,e2,_,_,_⟩:=aBZ (S:=fun j=>!(cF S i) j) hi a
 have:cF (fun j=>!(cF S i) j) i=fun j=>!S j:=by
  funext j
  by_cases hj:j=i
  ·subst hj; simp [cF,c]
  ·have b:(j==i)=false:=by simpa using hj
   simp [cF,b]
 rw [this] at e1;rw [e1,e2];simp; omega
theorem A0 {n:Nat} {S:Nat->Bool} (h:0<missing n S):∃ i,i<n/\S i=false /\ ∀ j,j<i->S j=true:=by
 unfold missing at h
 induction n with
 | zero=>simp at h
 | succ n e =>
  by_cases hn:0<((List.range n).filter fun i=>!S i).length
  ·obtain ⟨i,h1,h2,h3⟩:=e hn
   exact ⟨i,by omega,h2,h3⟩
  ·rw [List.range_succ,List.filter_append] at h
   have c:(List.range n).filter (fun i=>!S i)=[]:=List.length_eq_zero_iff.1 (by omega);rw [c] at h
   have a:S n=false:=by
    cases b:S n
    ·rfl
    ·simp [b] at h
   refine ⟨n,by omega,a,fun j d=>?_⟩;cases b:S j
   ·have:j ∈ (List.range n).filter fun i=>!S i:=List.mem_filter.2 ⟨List.mem_range.2 d,by simp [b]⟩
    rw [c] at this; cases this
   ·rfl
theorem aBQ {S:Nat->Bool} (h:missing ops.size S=0) (p:T × List O):nA cx ops S p=runI cx ops (List.range ops.size) p:=by
 unfold nA;congr 1;rw [List.filter_eq_self];intro i hi;cases b:S i
 ·have:i ∈ (List.range ops.size).filter fun i=>!S i:=List.mem_filter.2 ⟨hi,by simp [b]⟩
  have a:=List.length_eq_zero_iff.1 h;rw [a] at this; cases this
 ·rfl
theorem aC8 {b r0:T × List O} (a:DrawOk cx ops b) (h:runI cx ops (List.range ops.size) b=some r0) :
  ∀ (m:Nat) (S:Nat->Bool),missing ops.size S=m->j4 ops S -> ∃ p,nA cx ops S b=some p
 | 0,S,hm,_=>⟨r0,by rw [aBQ hm]; exact h⟩
 | m+1,S,hm,hc=>by
  obtain ⟨i,hi,hS,hlt⟩:=A0 (S:=S) (n:=ops.size) (by omega);have d := xT hi hS;obtain ⟨r,hr⟩:=aC8 a h m (cF S i) (by omega) (xY hc fun o f e c hb=>hlt _ (a.back i o f e c hb));obtain ⟨p,_,hp,_⟩:=FY a hc hi hS hr;exact ⟨p,hp⟩
end
end Go.Ab
