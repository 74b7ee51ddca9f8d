/-
  The engine, part W: contracts out of bodies, where what was handed in is written. Conditions: none.
-/
import Derived.Test.YtbefgnmdliefjaaGreatDoorBbV
import Derived.Recover
import Derived.Laws.Externs
import Derived.Lib.Bytealg
open Bool renaming and_eq_true_iff→ZA0,and_eq_true→ZA2
open List renaming getElem?_append_left→ZB0,getElem?_append_right→ZB1,getElem?_eq_some_iff→ZB2,getElem?_eq_getElem→ZB3,getElem?_cons_zero→ZC3,mem_cons→ZE3
open Nat renaming eq_of_beq_eq_true→ZG1,le_of_ble_eq_true→ZG2
open Option renaming map_eq_some_iff→ZH0
open Option.some renaming injEq→ZH3
open Array renaming getD_eq_getD_getElem?→ZI0
open Int renaming eq_ofNat_of_zero_le→ZI3
set_option linter.unusedVariables false
set_option linter.unusedSimpArgs false
namespace Go.Ab
def tL (P:Program) (rs:List ResultVar) (H:List O) (t:T):Option V:=
 match q6 P H t rs with
 | some [v]=>some v
 | some vs=>some (.tup vs)
 | none=>none
def iY (P:Program) (rs:List ResultVar):St->Tree Res
 | (.ret,t,H) | (.normal,t,H)=>match tL P rs H t with
  | some v=>.leaf (.ok v H)
  | none=>.fail
 | (.panic v,_,H)=>.leaf (.pan v H)
 | _=>.fail
def dF (cx:Cx) (fn:Func) (args:List V) (H:List O):Tree Res:=
 match fn.body with
 | some c=>(aK { cx with n:=fn.ntmps } c (dZ 0 args) H).bind (iY cx.P fn.results.toList)
 | none=>.fail
def sC (P:Program) (fn:Func) (r:Res) (e:AEx) (t:T) (H:List O):Prop:=
 match r with
 | .ok v H' => (e = .ret\/e = .normal)/\H=H' /\ tL P fn.results.toList H t=some v
 | .pan v H' => e = .panic v/\H=H'
section
variable {P:Program} {E:Nat->Nat->Prop} {H:List O} {β:List Loc} {w:World} {X:Nat->Nat->Prop}
theorem RB {n:Nat} {t:T} {a:Act} {fn:Func} {out:V} (j:Rel w X H β) (i:FR w X β n t a) (h:tL P fn.results.toList H t=some out) :
  ∃ y,(results fn a.tmps).run P w = .ok y w/\R w X β out y:=by
 unfold tL at h
 have key:∀ b,q6 P H t fn.results.toList=some b -> ∃ ys:List Value,(results fn a.tmps).run P w = .ok (if l:ys.length=1 then ys[0] else .tuple ys.toArray) w /\
   ys.length=b.length /\ ∀ (k:Nat) v x,b[k]? = some v->ys[k]? = some x->R w X β v x:=by
  intro b d;obtain ⟨ys,h1,h2,h3⟩:=MK j i fn.results.toList b d;refine ⟨ys,?_,h2,h3⟩;rw [QC];simp only [Array.mapM_eq_mapM_toList,Sem.run_bind,Sem.run_map];rw [h1];simp
 split at h
 ·rename_i v g
  simp only [ZH3] at h;subst h;obtain ⟨ys,h1,h2,h3⟩:=key _ g;have c:ys.length=1:=h2;refine ⟨ys[0],by rw [h1,dif_pos c],h3 0 v _ rfl (by simp [c])⟩
 ·rename_i vs f g
  simp only [ZH3] at h;subst h;obtain ⟨ys,h1,h2,h3⟩:=key _ g
  have c:¬ ys.length=1:=fun e=>by
   rw [e] at h2
   match vs,h2 with
   | [v],_=>exact f v rfl
  exact ⟨.tuple ys.toArray,by rw [h1,dif_neg c],.tup β vs ys h2 h3⟩
 ·cases h
theorem aFK {f : Nat} {fn : Func} {c : Code} {args : List V} {r : Res} (hf : P.funcs[f]? = some fn) (hb : fn.body = some c) (hname : fn.name ≠ "runtime.NumGoroutine")
  (hn:args.length<=fn.ntmps) (h:aI P fn.ntmps c (sC P fn r) (dZ 0 args) H):dQ P f args H r:=by
 refine ⟨⟨fn,hf,hname,by simp [hb]⟩,?_⟩;intro w E β rargs hE hrel hlen hargs;refine calls_of_wp hf hb ?_
 have hg:Good E H β w fn.ntmps [] (dZ 0 args) H β { tmps:=rargs.toArray++Array.replicate (fn.ntmps - rargs.toArray.size) undef,defers:=[] } w:=by
  refine ⟨Step.refl hrel,⟨by simp; omega,fun d=>?_⟩,rfl⟩;rw [JJ];simp only [Nat.not_lt_zero,if_false,Nat.sub_zero]
  cases hd:args[d]? with
  | none=>exact .any _ _
  | some v =>
   have hlt:d<rargs.length:=by rw [hlen]; exact (ZB2.1 hd).1
   have:=hargs d v rargs[d] hd (by simp [hlt]);simp only [Option.getD_some]
   have e:(rargs.toArray++Array.replicate (fn.ntmps - rargs.toArray.size) undef).getD d undef=rargs[d]:=by
    rw [ZI0,Array.getElem?_append_left (by simpa using hlt)];simp [hlt]
   rw [e];exact this
 have:=h E H β w [] β _ w hE hg;refine wp_mono this ?_;intro e a w' hp
 have fin:∀ t H2 β2 ex,(ex=AEx.ret\/ex=AEx.normal)->sC P fn r ex t H2->Good E H β w fn.ntmps [] t H2 β2 a w' ->
   a.defers=[] /\ ∃ v,(results fn a.tmps).run P w' = .ok v w' /\ Outcome E H β w r (.returned v) w' := by
  intro t H2 β2 ex hex hq hg
  cases r with
  | ok v H' =>
   obtain ⟨_,rfl,h3⟩:=hq;obtain ⟨y,h1,h2⟩:=RB hg.step.rel hg.fr h3;exact ⟨hg.defers,y,h1,y,β2,rfl,hg.step,h2⟩
  | pan v H' =>
   obtain ⟨h1,_⟩:=hq
   rcases hex with rfl | rfl <;> cases h1
 cases e with
 | normal=>obtain ⟨t,H,β,hq,hg⟩:=hp; exact fin t H β _ (.inr rfl) hq hg
 | ret=>obtain ⟨t,H,β,hq,hg⟩:=hp; exact fin t H β _ (.inl rfl) hq hg
 | exit id =>
  obtain ⟨t,H,β,hq,hg⟩:=hp
  cases r with
  | ok v H' => rcases hq.1 with h | h <;> cases h
  | pan v H' => cases hq.1
 | panic ch =>
  obtain ⟨t,H2,β2,v,x,hq,hg,hv,rfl⟩:=hp
  cases r with
  | ok v H' => rcases hq.1 with h | h <;> cases h
  | pan v' H' =>
   obtain ⟨h1,rfl⟩:=hq;cases h1;exact ⟨hg.defers,x,β2,rfl,hg.step,hv⟩
 | goto l=>exact hp.elim
 | outgrown=>exact hp.elim
theorem xU {fn:Func} {s:St} {r:Res} (h:(iY P fn.results.toList s).run=some r):sC P fn r s.1 s.2.1 s.2.2:=by
 obtain ⟨e,t,H⟩:=s
 have b:(match tL P fn.results.toList H t with | some v=>Tree.leaf (Res.ok v H) | none=>.fail).run=some r -> ∃ v,r = .ok v H/\tL P fn.results.toList H t=some v:=by
  intro h
  cases a:tL P fn.results.toList H t with
  | none=>rw [a] at h; cases h
  | some v=>rw [a] at h; exact ⟨v,by simpa [Tree.run] using h.symm,rfl⟩
 cases e with
 | normal=>obtain ⟨v,rfl,a⟩:=b h; exact ⟨.inr rfl,rfl,a⟩
 | ret=>obtain ⟨v,rfl,a⟩:=b h; exact ⟨.inl rfl,rfl,a⟩
 | exit id=>cases h
 | panic v =>
  simp only [iY,Tree.run,ZH3] at h;subst h;exact ⟨rfl,rfl⟩
theorem aF1 {cx:Cx} {f:Nat} {fn:Func} {c:Code} {args:List V} {r:Res} (hP:cx.P=P) (hT:aW cx) (hf:P.funcs[f]? = some fn) (hb:fn.body=some c)
  (hname : fn.name ≠ "runtime.NumGoroutine") (hn : Nat.ble args.length fn.ntmps = true) (h : (dF cx fn args H).run = some r) : dQ P f args H r := by
 subst hP;refine aFK hf hb hname (ZG2 hn) ?_;unfold dF at h;rw [hb] at h;obtain ⟨s,h1,h2⟩:=bD h;exact kD (cx:={ cx with n:=fn.ntmps }) rfl rfl hT c _ _ _ (Tree.gH h1 (xU h2))
theorem dA {cx:Cx} {n:Nat} (a:cx.P=P) (d:cx.n=n) (b:aW cx) {c:Code} {Q:AEx->T->List O->Prop} {t:T} {s:St}
  (h:(aK cx c t H).run=some s) (e:Q s.1 s.2.1 s.2.2):aI P n c Q t H:=
 kD a d b c Q t H (Tree.gH h e)
end
end Go.Ab

namespace Go.Ab
def G4 (σ:List Nat):T->T
 | []=>[]
 | (d,v) :: r=>(d,(V.ren? (fun i=>place i σ) v).getD .any) :: G4 σ r
def W5 (σ:List Nat):AEx->Option AEx
 | .panic v=>(V.ren? (fun i=>place i σ) v).map .panic
 | e=>some e
def iQ (n:Nat) (κ:List Nat):St->Option St
 | (e,t,H) =>
  let σ:=List.range n++κ
  cond (fU σ) (match gQ H σ with
  | some os=>match eA (fun i=>place i σ) os,W5 σ e with
   | some a,some e=>some (e,G4 σ t,a)
   | _,_=>none
  | none=>none) none
section
variable {P:Program} {n:Nat} {Q:AEx->T->List O->Prop} {t:T} {H:List O} {β:List Loc} {w:World} {E:Nat->Nat->Prop}
theorem aFE (σ:List Nat) (d:Nat):∀ t:T,get d (G4 σ t)=(V.ren? (fun i=>place i σ) (get d t)).getD .any
 | []=>rfl
 | (e,v) :: r=>by
  simp only [G4,get];cases Nat.beq d e
  ·simpa using aFE σ d r
  ·rfl
theorem a8X {σ:List Nat} {os q:List O} (j:Rel w (Xs E H β) H β) (B:fU σ=true) (D:gQ H σ=some os)
  (a:eA (fun i=>place i σ) os=some q):Rel w (Xs E q (fM β σ)) q (fM β σ)/\(∀ b o,Own q (fM β σ) b o->Own H β b o)/\GB (fun i=>place i σ) β (fM β σ):=by
 have A:Rel w (Xs (fun _ _=>False) H β) H β:=by
  have r:∀ b o,Xs (fun _ _=>False) H β b o->Xs E H β b o:=fun b o h=>by rcases h with h | h; exact h.elim; exact .inr h
  refine ⟨j.len,fun id cs e loc d f=>?_,j.tok,fun id sh vs loc d f=>?_,j.disj⟩
  ·obtain ⟨g,c,e',a2,a3,a4,a5⟩:=j.cells id cs e loc d f
   exact ⟨g,c,e',a2,a3,a4,fun k v l=>let ⟨x,p,a⟩:=a5 k v l; ⟨x,p,a.weak r⟩⟩
  ·obtain ⟨g,ab,ob,xs,a2,a3,a5⟩:=j.objs id sh vs loc d f
   exact ⟨g,ab,ob,xs,a2,a3,fun k v l=>let ⟨x,p,a⟩:=a5 k v l; ⟨x,p,a.weak r⟩⟩
 obtain ⟨hi,hturn⟩:=into (fun b o h=>h.elim) A B D a;refine ⟨?_,hi.sub,hturn⟩
 have r:∀ b o,Xs E q (fM β σ) b o->Xs E H β b o:=fun b o h=>by rcases h with h | h; exact .inl h; exact .inr (hi.sub b o h)
 obtain ⟨F,p2⟩:=JQ D;obtain ⟨J,r2⟩:=E6 a;refine ⟨hi.rel.len,fun k cs e loc d f=>?_,hi.rel.tok,fun k sh vs loc d f=>?_,hi.rel.disj⟩
 ·obtain ⟨g,c,e',a2,a3,a4,_⟩:=hi.rel.cells k cs e loc d f
  refine ⟨g,c,e',a2,a3,a4,fun m v l=>?_⟩;obtain ⟨u,hu,hu'⟩:=r2 k _ d
  have s:k<σ.length:=by rw [<- F]; exact (ZB2.1 hu).1
  obtain ⟨G,g2,_⟩:=hi.get k σ[k] (by simp [s]);obtain ⟨cs',rfl,hren⟩:=ET hu';obtain ⟨I,q2⟩:=nY hren;obtain ⟨C,hv',hvr⟩:=q2 m v l
  have z:H[σ[k]]? = some (.cells cs' e):=by rw [<- (p2 k σ[k] (by simp [s])).2,hu]
  obtain ⟨_,c2,e2,b2,_,_,b5⟩:=j.cells σ[k] cs' e loc z (by rw [<- g2,f]);rw [a2] at b2;simp only [ZH3,Obj.cells.injEq,and_true] at b2;obtain ⟨rfl,rfl⟩:=b2;obtain ⟨x,p,a⟩:=b5 m C hv';exact ⟨x,p,(wI hturn a v hvr).weak r⟩
 ·obtain ⟨u,hu,hu'⟩:=r2 k _ d
  have s:k<σ.length:=by rw [<- F]; exact (ZB2.1 hu).1
  obtain ⟨G,g2,_⟩:=hi.get k σ[k] (by simp [s]);obtain ⟨y,rfl,hren⟩:=FJ hu';obtain ⟨I,q2⟩:=nY hren
  have z:H[σ[k]]? = some (.obj sh y):=by rw [<- (p2 k σ[k] (by simp [s])).2,hu]
  obtain ⟨g,ab,ob,xs,a2,a3,a5⟩:=j.objs σ[k] sh y loc z (by rw [<- g2,f]);refine ⟨g,ab,ob,xs,a2,a3,fun m v l=>?_⟩;obtain ⟨C,hv',hvr⟩:=q2 m v l;obtain ⟨x,p,a⟩:=a5 m C hv';exact ⟨x,p,(wI hturn a v hvr).weak r⟩
theorem Good.drop {E H0 β0 w0 D a} {σ:List Nat} {os f:List O} (c:Good E H0 β0 w0 n D t H β a w) (l:fU σ=true) (m:gQ H σ=some os)
  (z:eA (fun i=>place i σ) os=some f) (q:∀ i,i<β0.length->σ[i]? = some i) :
  Good E H0 β0 w0 n D (G4 σ t) f (fM β σ) a w /\ ∀ v e x,R w (Xs E H β) β v x->V.ren? (fun i=>place i σ) v=some e -> R w (Xs E f (fM β σ)) (fM β σ) e x:=by
 obtain ⟨A,s2,s3⟩:=a8X c.step.rel l m z
 have u:∀ b o,Xs E f (fM β σ) b o->Xs E H β b o:=fun b o h=>by rcases h with h | h; exact .inl h; exact .inr (s2 b o h)
 have p:∀ v e x,R w (Xs E H β) β v x->V.ren? (fun i=>place i σ) v=some e -> R w (Xs E f (fM β σ)) (fM β σ) e x:=fun v e x r s=>(wI s3 r e s).weak u
 have j:∀ i ∈ σ,i<β.length:=fun i hi=>by
  obtain ⟨k,hk⟩:=List.getElem?_of_mem hi;rw [<- c.step.rel.len]; exact ((JQ m).2 k i hk).1
 refine ⟨⟨⟨A,c.step.os,c.step.tape,c.step.output,c.step.size,c.step.pres,fun b o h=>c.step.own b o (s2 b o h),?_⟩,⟨c.fr.size,fun d=>?_⟩,c.defers⟩,p⟩
 ·intro i loc h
  obtain ⟨g,g1,g2⟩:=c.step.locs i loc h;refine ⟨g,?_,g2⟩;rw [(RA j).2 i i (q i (ZB2.1 h).1),g1]
 ·rw [aFE]
  cases y:V.ren? (fun i=>place i σ) (get d t) with
  | none=>exact .any _ _
  | some v=>exact p _ v _ (c.fr.slot d) y
theorem LocLe.len {a b:List Loc} (h:LocLe a b):a.length<=b.length:=by
 rcases Nat.lt_or_ge b.length a.length with c | c
 ·obtain ⟨l,e,_⟩:=h b.length a[b.length] (by simp [c])
  simp at e
 ·exact c
theorem yG {c:Code} (h:aI P n c (fun e t' H' => ∃ κ s,iQ H.length κ (e,t',H')=some s/\Q s.1 s.2.1 s.2.2) t H):aI P n c Q t H:=by
 intro E r m w0 D β a w F y
 have hlen:m.length<=H.length:=by rw [y.step.rel.len]; exact y.step.locs.len
 refine wp_mono (h E r m w0 D β a w F y) ?_;intro e A w' o
 have fin:∀ ex t' H' g,(∃ κ s,iQ H.length κ (ex,t',H')=some s/\Q s.1 s.2.1 s.2.2)->Good E r m w0 n D t' H' g A w' ->
   ∃ f t2 j b σ,W5 σ ex=some f /\ Q f t2 j/\Good E r m w0 n D t2 j b A w' /\ ∀ v q x,R w' (Xs E H' g) g v x->V.ren? (fun i=>place i σ) v=some q -> R w' (Xs E j b) b q x:=by
  rintro ex t' H' g ⟨κ,s,d,h2⟩ hg';unfold iQ at d;simp only at d;cases u:fU (List.range H.length++κ)
  ·simp [u] at d
  simp only [u,cond_true] at d;split at d;rotate_left
  ·cases d
  rename_i os z;split at d;rotate_left
  ·cases d
  rename_i G f B C;simp only [ZH3] at d;subst d
  obtain ⟨k,g2⟩:=hg'.drop u z B (fun i hi=>by
   have p : i<(List.range H.length).length:=by rw [List.length_range]; omega
   rw [ZB0 p,ZB3 p,List.getElem_range])
  exact ⟨f,_,_,_,_,C,h2,k,g2⟩
 cases e with
 | normal =>
  obtain ⟨t',H',g,d,h2⟩:=o;obtain ⟨f,t2,j,b,σ,k,g2,g3,_⟩:=fin _ _ _ _ d h2;cases k;exact ⟨t2,j,b,g2,g3⟩
 | exit id =>
  obtain ⟨t',H',g,d,h2⟩:=o;obtain ⟨f,t2,j,b,σ,k,g2,g3,_⟩:=fin _ _ _ _ d h2;cases k;exact ⟨t2,j,b,g2,g3⟩
 | ret =>
  obtain ⟨t',H',g,d,h2⟩:=o;obtain ⟨f,t2,j,b,σ,k,g2,g3,_⟩:=fin _ _ _ _ d h2;cases k;exact ⟨t2,j,b,g2,g3⟩
 | panic I =>
  obtain ⟨t',H',g,v,x,d,h2,h3,h4⟩:=o;obtain ⟨f,t2,j,b,σ,k,g2,g3,g4⟩:=fin _ _ _ _ d h2;simp only [W5] at k;obtain ⟨q,hv',rfl⟩:=ZH0.1 k;exact ⟨t2,j,b,q,x,g2,g3,g4 v q x h3 hv',h4⟩
 | goto l=>exact o.elim
 | outgrown=>exact o.elim
theorem Tree.all_mono {g:Type} {Q f : g->Prop} {x:Tree g} (h:x.all Q) (i:∀ s,Q s->f s):x.all f := by
 induction x with
 | leaf b=>exact i b h
 | fail=>exact h.elim
 | br c x y d e=>exact ⟨fun a=>d (h.1 a),fun a=>e (h.2 a)⟩
def Round {α:Type} (st:α->T × List O) (a:α->Nat) (Q:AEx->T->List O->Prop) (i:α) (s:St):Prop:=
 ∃ κ s',iQ (st i).2.length κ s=some s' /\ (match s'.1 with | .normal=>∃ j,a j<a i/\dK s'.2.1 (st j).1/\s'.2.2=(st j).2 | e=>Q e s'.2.1 s'.2.2)
theorem EP {cx:Cx} {α:Type} (b:cx.P=P) (d:cx.n=n) (c:aW cx) (st:α->T × List O) (a:α->Nat) {body:Code}
  (h:∀ i,(aK cx body (st i).1 (st i).2).all (Round st a Q i)) (i:α):aI P n (.loop body) Q (st i).1 (st i).2:=by
 refine JU st a (fun i=>?_) i;refine yG (kD b d c body _ _ _ ?_);refine Tree.all_mono (h i) ?_;rintro s ⟨κ,s',h1,h2⟩;exact ⟨κ,s',h1,h2⟩
end
end Go.Ab
namespace Go.Ab
def c1:Code->Code
 | .seq a _=>a
 | c=>c
def c2:Code->Code
 | .seq _ b=>b
 | c=>c
def cin:Code->Code
 | .block _ c=>c
 | .loop c=>c
 | c=>c
def cA (fn:Func):Code:=fn.body.getD .skip
end Go.Ab

namespace Go.Ab
abbrev wL (a b:List UInt8):Bool:=a==b
abbrev tI (x:Int):Int:=x
abbrev tB (x:Bool):Bool:=x
def Fits (t:T):T->Prop
 | []=>True
 | (d,v) :: r=>get d t=v/\Fits t r
theorem Fits.tle {t:T}:∀ {s:T},Fits t s->dK t s
 | [],_,d=>.inr rfl
 | (e,v) :: r,h,d=>by
  simp only [get];cases hb:Nat.beq d e
  ·simpa using Fits.tle h.2 d
  ·have:=ZG1 hb
   subst this;exact .inl h.1.symm
theorem wrap_i64 {n:Int} (a : -9223372036854775808<=n) (b:n<9223372036854775808):IntKind.wrap .i64 n=n:=by
 have h:IntKind.wrap .i64 n=if n % 18446744073709551616 ≥ 9223372036854775808 then n % 18446744073709551616 - 18446744073709551616 else n % 18446744073709551616:=by
  simp [IntKind.wrap,IntKind.bits,IntKind.signed]
 rw [h];split <;> omega
theorem jI {i:Int} {n:Nat} (a:0<=i) (b:i<n):inside i n=true:=by
 simp [inside,a,b]
def Tree.out {α:Type}:Tree α->Option α
 | .leaf b=>some b
 | .fail=>none
 | .br c x y=>cond c x.out y.out
theorem Tree.out_run {α:Type}:∀ x:Tree α,x.out=x.run
 | .leaf _=>rfl
 | .fail=>rfl
 | .br c x y=>by cases c <;> simp only [Tree.out,Tree.run,cond_true,cond_false,Tree.out_run x,Tree.out_run y]
theorem a6 {α:Type} (c:Bool) (x y:Tree α):(Tree.br c x y).run=cond c x.run y.run:=by cases c <;> rfl
theorem Tree.all_run_eq {α:Type} {x y:Tree α} {Q:α->Prop} (e:x.run=y.run) (h:y.all Q):x.all Q:=by
 obtain ⟨b,h1,h2⟩:=Tree.all_run h;exact Tree.gH (e.trans h1) h2
theorem oD {α:Type} {l:List α} {i:Nat} {d:α} (hi:i<l.length):l.getD i d=l[i]:=by simp [List.getD,hi]
theorem aDZ {α:Type} {p:α->Bool} {l:List α} {i:Nat} {d:α} (hi:i<l.length) (h:(l.take i).find? p=none) (a:p (l.getD i d)=false):(l.take (i+1)).find? p=none:=by
 rw [oD hi] at a;rw [List.take_add_one,List.find?_append,h];simp [ZB3 hi,a]
theorem aEE {α:Type} {p:α->Bool} {l:List α} {i:Nat} {d:α} (hi:i<l.length) (h:(l.take i).find? p=none) (a:p (l.getD i d)=true):l.find? p=some (l.getD i d):=by
 rw [oD hi] at a ⊢
 have e:l.find? p=(l.take i++l[i] :: l.drop (i+1)).find? p:=by rw [<- List.drop_eq_getElem_cons hi,List.take_append_drop]
 rw [e,List.find?_append,h,List.find?_cons,a];rfl
variable {P:Program} {H:List O}
theorem rM {f : Nat} {fn : Func} {c : Code} {args : List V} {r : Res} (hf : P.funcs[f]? = some fn) (hb : fn.body = some c) (hname : (fn.name == "runtime.NumGoroutine") = false)
  (hn:Nat.ble args.length fn.ntmps=true) (h:aI P fn.ntmps c (sC P fn r) (dZ 0 args) H):dQ P f args H r:=
 aFK hf hb (by intro e; rw [e] at hname; simp at hname) (ZG2 hn) h
theorem vG {f : Nat} {fn : Func} {c : Code} {args : List V} {out : V} (hf : P.funcs[f]? = some fn) (hb : fn.body = some c) (hname : (fn.name == "runtime.NumGoroutine") = false)
  (hn:Nat.ble args.length fn.ntmps=true) (h:aI P fn.ntmps c (fun e t H=>(e = .ret\/e = .normal)/\hD P fn.results.toList H t=some out) (dZ 0 args) []):jS P f args out:=
 aG8 hf hb (by intro e; rw [e] at hname; simp at hname) (ZG2 hn) h
theorem cE {cx:Cx} {f:Nat} {fn:Func} {args:List V} {out:V} (hT:aW cx) (hf:cx.P.funcs[f]? = some fn)
  (hname : (fn.name == "runtime.NumGoroutine") = false) (hn : Nat.ble args.length fn.ntmps = true) (h : (a7 cx fn args).run = some out) : jS cx.P f args out := by
 cases hb:fn.body with
 | none=>simp [a7,hb,Tree.run] at h
 | some c=>exact aWU rfl hT hf hb (by intro e; rw [e] at hname; simp at hname) hn h
theorem QA {cx:Cx} {f:Nat} {fn:Func} {args:List V} {r:Res} (hT:aW cx) (hf:cx.P.funcs[f]? = some fn)
  (hname : (fn.name == "runtime.NumGoroutine") = false) (hn : Nat.ble args.length fn.ntmps = true) (h : (dF cx fn args H).run = some r) : dQ cx.P f args H r := by
 cases hb:fn.body with
 | none=>simp [dF,hb,Tree.run] at h
 | some c=>exact aF1 rfl hT hf hb (by intro e; rw [e] at hname; simp at hname) hn h
theorem EZ {cx : Cx} {f : Nat} {fn : Func} (hT : aW cx) (hf : cx.P.funcs[f]? = some fn) (hname : (fn.name == "runtime.NumGoroutine") = false) :
  Sound cx.P f (fun args=>.aF (Nat.ble args.length fn.ntmps) (a7 cx fn args)):=by
 intro args out h;obtain ⟨h1,h2⟩:=aM h;exact cE hT hf hname h1 h2
theorem fA {cx : Cx} {f : Nat} {fn : Func} (hT : aW cx) (hf : cx.P.funcs[f]? = some fn) (hname : (fn.name == "runtime.NumGoroutine") = false) :
  bP cx.P f (fun args H=>.aF (Nat.ble args.length fn.ntmps) (dF cx fn args H)):=by
 intro args H out h;obtain ⟨h1,h2⟩:=aM h
 cases hb:fn.body with
 | none=>simp [dF,hb,Tree.run] at h2
 | some c=>exact aF1 rfl hT hf hb (by intro e; rw [e] at hname; simp at hname) h1 h2
end Go.Ab

namespace Go.Ab
def eQ:Nat->Code->Code
 | 0,c=>c1 c
 | k+1,c=>.seq (c1 c) (eQ k (c2 c))
def aJ:Nat->Code->Code
 | 0,c=>c2 c
 | k+1,c=>aJ k (c2 c)
def GV:Code->Bool
 | .seq _ _=>true
 | _=>false
def AL:Nat->Code->Bool
 | 0,c=>GV c
 | k+1,c=>cond (GV c) (AL k (c2 c)) false
theorem Tree.all_bind {α β:Type} {x:Tree α} {f:α->Tree β} {Q:β->Prop} (h:(x.bind f).all Q):x.all (fun s=>(f s).all Q):=by
 induction x with
 | leaf b=>exact h
 | fail=>exact h
 | br c x y d e=>exact ⟨fun a=>d (h.1 a),fun a=>e (h.2 a)⟩
theorem aFY {c:Code} (h:GV c=true):c = .seq (c1 c) (c2 c):=by
 cases c <;> first | rfl | cases h
section
variable {P:Program} {n:Nat} {cx:Cx}
theorem yM (b:cx.P=P) (f:cx.n=n) (d:aW cx):∀ (k:Nat) (c:Code) (Q:AEx->T->List O->Prop) (t:T) (H:List O),AL k c=true ->
  (aK cx (eQ k c) t H).all (fun s=>xE (aI P n (aJ k c) Q) Q s.1 s.2.1 s.2.2)->aI P n c Q t H
 | 0,c,Q,t,H,hr,h=>by
  rw [aFY hr];exact cL (kD b f d _ _ _ _ h)
 | k+1,c,Q,t,H,hr,h=>by
  have a:GV c=true:=by
   cases a:GV c
   ·simp [AL,a] at hr
   ·rfl
  have g : AL k (c2 c)=true:=by simpa [AL,a] using hr
  rw [aFY a];refine cL (kD b f d _ _ _ _ ?_);have h:=Tree.all_bind (h:((aK cx (c1 c) t H).bind (oY (aK cx (eQ k (c2 c))))).all _);refine Tree.all_mono h ?_;rintro ⟨e,t',H'⟩ hq
  cases e with
  | normal=>exact yM b f d k (c2 c) Q t' H' g hq
  | exit id=>exact hq
  | ret=>exact hq
  | panic v=>exact hq
theorem yF (a:cx.P=P) (d:cx.n=n) (b:aW cx) (k:Nat) {c:Code} {Q:AEx->T->List O->Prop} {t:T} {H:List O} {x:Tree St} (f:AL k c=true)
  (e:(aK cx (eQ k c) t H).run=x.run) (h:x.all (fun s=>xE (aI P n (aJ k c) Q) Q s.1 s.2.1 s.2.2)):aI P n c Q t H:=
 yM a d b k c Q t H f (Tree.all_run_eq e h)
end
end Go.Ab

namespace Go.Ab
theorem tF {P:Program} {n:Nat} {cx:Cx} (a:cx.P=P) (d:cx.n=n) (b:aW cx) (k:Nat) (ks:List Nat) {c:Code} {Q:AEx->T->List O->Prop} {t t' : T} {H H' : List O} (g:AL k c=true)
  (h:(aK cx (eQ k c) t H).run.map (fun s=>(s.1,bC ks s.2.1,s.2.2))=some (.normal,t',H')) (f:aI P n (aJ k c) Q t' H'):aI P n c Q t H:=by
 obtain ⟨⟨e,t2,H2⟩,h1,h2⟩:=ZH0.1 h;simp only [Prod.mk.injEq] at h2;obtain ⟨rfl,rfl,rfl⟩:=h2;exact yM a d b k c Q t H g (Tree.gH h1 (aI.less (dK.bC ks t2) f))
end Go.Ab

namespace Go.Ab
def PS:Option V->V
 | none=>.val .nilIface
 | some v=>v
def SR (ops:Array Oper):Option Nat:=
 match ops.toList with
 | [o]=>match o.op,o.dst,o.guard with
  | .call { callee:=.builtin .recover,.. },some d,none=>some d
  | _,_,_=>none
 | _=>none
def EB (cx:Cx) (fn:Func) (args:List V) (H:List O) (a:Option V):Tree (List O):=
 match fn.body with
 | some (.seq (.region _ ops false) rest)=>match SR ops with
  | some d=>cond (Nat.blt d fn.ntmps&&fn.results.isEmpty) ((aK { cx with n:=fn.ntmps } rest (put d (PS a) (dZ 0 args)) H).bind fun s=>match s with
   | (.ret,_,H) | (.normal,_,H)=>.leaf H
   | _=>.fail) .fail
  | none=>.fail
 | _=>.fail
def LI (ops:Array Oper):Option (Nat × Fn × List Operand × List Operand):=
 match ops.toList with
 | [a,o2]=>match a.op,a.dst,a.guard with
  | .makeFunc fn first cap,some d,none=>match o2.op,o2.dst,o2.guard with
   | .defer { callee:=.value (.tmp e),args,.. },none,none=>cond (Nat.beq d e&&args.isEmpty) (some (d,fn,first.toList,cap.toList)) none
   | _,_,_=>none
  | _,_,_=>none
 | _=>none
def XA:Code->Option (Nat × Fn × List Operand × List Operand)
 | .region _ ops false=>LI ops
 | _=>none
def LU (cx:Cx):Code->T->List O->Tree (St × Option V)
 | .seq a b,t,H=>match XA a with
  | some (d,fn,first,cap)=>cond (Nat.blt d cx.n)
   ((aK cx b (bC cx.keeps (put d (.clo fn (first.map (rd t)) (cap.map (rd t))) t)) H).bind fun s=>.leaf (s,some (.clo fn (first.map (rd t)) (cap.map (rd t))))) .fail
  | none=>(aK cx a t H).bind fun s=>match s with
   | (.normal,t,H)=>LU cx b t H
   | s=>.leaf (s,none)
 | c,t,H=>(aK cx c t H).bind fun s=>.leaf (s,none)
def aeT (P:Program) (cl:Cx) (rs:List ResultVar) (fg:Func) (args:List V):St->Tree Res
 | (.ret,t,H) | (.normal,t,H)=>(EB cl fg args H none).bind fun H=>iY P rs (.ret,t,H)
 | (.panic v,t,H)=>(EB cl fg args H (some v)).bind fun H=>iY P rs (.ret,t,H)
 | _=>.fail
def UI (P:Program) (cl:Cx) (rs:List ResultVar) (g:Nat) (fg:Func):St × Option V->Tree Res
 | (s,none)=>iY P rs s
 | (s,some (.clo (.func a) first cap))=>cond (Nat.beq a g&&Nat.ble (first++cap).length fg.ntmps) (aeT P cl rs fg (first++cap) s) .fail
 | _=>.fail
def zU (cx cl:Cx) (fn:Func) (g:Nat) (fg:Func) (args:List V) (H:List O):Tree Res:=
 match fn.body with
 | some c=>(LU { cx with n:=fn.ntmps } c (dZ 0 args) H).bind (UI cx.P cl fn.results.toList g fg)
 | none=>.fail
section
variable {P:Program} {E:Nat->Nat->Prop} {H:List O} {β:List Loc} {w:World} {X:Nat->Nat->Prop}
theorem aHY {fn:Func} {args:List V} {a:List Value} (hlen:a.length=args.length) (g:args.length<=fn.ntmps)
  (b:∀ (k:Nat) (v:V) (x:Value),args[k]? = some v->a[k]? = some x->R w X β v x) :
  FR w X β fn.ntmps (dZ 0 args) { tmps:=a.toArray++Array.replicate (fn.ntmps - a.toArray.size) undef,defers:=[] }:=by
 refine ⟨by simp; omega,fun d=>?_⟩;rw [JJ];simp only [Nat.not_lt_zero,if_false,Nat.sub_zero]
 cases f:args[d]? with
 | none=>exact .any _ _
 | some v =>
  have c:d<a.length:=by rw [hlen]; exact (ZB2.1 f).1
  have:=b d v a[d] f (by simp [c]);simp only [Option.getD_some]
  have e:(a.toArray++Array.replicate (fn.ntmps - a.toArray.size) undef).getD d undef=a[d]:=by
   rw [ZI0,Array.getElem?_append_left (by simpa using c)];simp [c]
  rw [e];exact this
def Mode (w:World) (X:Nat->Nat->Prop) (β:List Loc) (u u2:FrameMode):Option V->Prop
 | none=>u = .returning/\u2 = .returning
 | some v=>∃ x,R w X β v x/\u = .panicking [{ v:=x,recovered:=false }]/\u2 = .panicking [{ v:=x,recovered:=true }]
theorem aSB {ops:Array Oper} {d:Nat} (h:SR ops=some d):∃ o c,ops = #[o]/\o.op = .call c/\c.callee = .builtin .recover/\o.dst=some d/\o.guard=none:=by
 unfold SR at h;split at h;rotate_left
 ·cases h
 rename_i o f;split at h;rotate_left
 ·cases h
 rename_i args argTypes g a b e;simp only [ZH3] at h;subst h;exact ⟨o,_,by apply Array.ext'; simpa using f,a,rfl,b,e⟩
theorem aWO {cx:Cx} (W:aW cx) {g:Nat} {fn:Func} {args:List V} {H' : List O} {F:Option V} {f:List Value} {u u2:FrameMode} (Z:cx.P.funcs[g]? = some fn)
  (h:(EB cx fn args H F).run=some H') (T:gJ cx.P E H β w) (U:Rel w (Xs E H β) H β) (hlen:f.length=args.length) (hn:args.length<=fn.ntmps)
  (z:∀ (k:Nat) (v:V) (x:Value),args[k]? = some v->f[k]? = some x->R w (Xs E H β) β v x) (S:Mode w (Xs E H β) β u u2 F) :
  CallsD cx.P g f.toArray u w fun e G w' => (∃ y,e = .returned y)/\G = u2 /\ ∃ q,Step E H β w H' q w' := by
 unfold EB at h;split at h;rotate_left
 ·cases h
 rename_i id ops rest hb;split at h;rotate_left
 ·cases h
 rename_i d Y;cases K:(Nat.blt d fn.ntmps&&fn.results.isEmpty)
 ·rw [K] at h; cases h
 rw [K,cond_true] at h;obtain ⟨B,hres⟩:=ZA0.1 K
 have B:d<fn.ntmps:=by simpa [Nat.blt_eq] using B
 obtain ⟨o,c,rfl,ho,hcal,hdst,r⟩:=aSB Y;obtain ⟨s,hs1,m⟩:=bD h
 have j:∀ x cs',R w (Xs E H β) β (PS F) x -> ∀ b cs,cs' = { b with mode:=u2 } :: cs ->
   rest.wpS cx.P (bodyPostS cx.P fn b cs fun e G w' => (∃ y,e = .returned y)/\G = u2 /\ ∃ q,Step E H β w H' q w')
    (({ tmps:=f.toArray++Array.replicate (fn.ntmps - f.toArray.size) undef,defers:=[] }:Act).put (some d) x) cs' w:=by
  rintro x cs' Q b cs rfl;refine wpS_of_wp ?_;have M:=(aHY hlen hn z).put (d:=d) (v:=PS F) (x:=x) B Q;have A:Good E H β w fn.ntmps [] (put d (PS F) (dZ 0 args)) H β _ w:=⟨Step.refl U,M,rfl⟩;refine wp_mono (kD (cx:={ cx with n:=fn.ntmps }) rfl rfl W rest (fun e _ p=>(e = .ret\/e = .normal)/\p=H') _ _ (Tree.gH hs1 ?_) E H β w [] β _ w T A) ?_
  ·obtain ⟨e,t2,p⟩:=s
   cases e with
   | normal=>simp only [Tree.run,ZH3] at m; exact ⟨.inr rfl,m⟩
   | ret=>simp only [Tree.run,ZH3] at m; exact ⟨.inl rfl,m⟩
   | exit id=>cases m
   | panic v=>cases m
  ·intro e a w' D
   have fin:∀ t p i,p=H' -> Good E H β w fn.ntmps [] t p i a w' -> a.defers=[] /\ ∃ G,({ b with mode:=u2 } :: cs:List Frame) = { b with mode:=G } :: cs /\ ∃ v,(results fn a.tmps).run cx.P w' = .ok v w' /\
     ((∃ y,Ending.returned v = .returned y)/\G = u2 /\ ∃ q,Step E H β w H' q w'):=by
    rintro t p i rfl r
    have hr:fn.results = #[]:=by simpa using hres
    exact ⟨r.defers,u2,rfl,.tuple #[],by rw [QC]; simp [hr],⟨_,rfl⟩,rfl,i,r.step⟩
   cases e with
   | normal=>obtain ⟨t,p,i,C,r⟩:=D; exact fin t p i C.2 r
   | ret=>obtain ⟨t,p,i,C,r⟩:=D; exact fin t p i C.2 r
   | exit id=>obtain ⟨t,p,i,C,r⟩:=D; rcases C.1 with h | h <;> cases h
   | panic ch=>obtain ⟨t,p,i,v,x,C,r⟩:=D; rcases C.1 with h | h <;> cases h
   | goto l=>exact D.elim
   | outgrown=>exact D.elim
 refine callsD_of_wpS Z hb fun b cs N=>?_;apply wpS_seq;apply wpS_region
 have I:∀ a:Act,(execOp a.eval o).run cx.P w = .ok .recover w:=by
  intro a;obtain ⟨cc,ca,ct⟩:=c;simp only at hcal;subst hcal;simp only [execOp,ho,resolve,invoke,Sem.run_bind,Sem.run_pure,Result.andThen_ok];simp [builtin]
 have hw:∀ y,Region.wanted o y=true:=fun y=>by simp [Region.wanted,r]
 have hl:List.range (#[o]:Array Oper).size=[0]:=rfl;rw [hl];simp only [wpOpsS,List.getElem?_toArray,ZC3,hw,if_true,I]
 cases F with
 | none =>
  obtain ⟨J,h2⟩:=S
  have e:recoverD (b :: cs)=none:=by simp [recoverD,N,J]
  rw [e]
  have L:({ b with mode:=u2 }:Frame)=b:=by rw [h2,<- J,<- N]
  simp only [hdst,Exit.thenS];exact j _ _ (.val _ _) b cs (by rw [L])
 | some v =>
  obtain ⟨x,Q,J,h2⟩:=S
  have e:recoverD (b :: cs)=some (x,{ b with mode:=u2 } :: cs):=by simp [recoverD,N,J,h2]
  rw [e];simp only [hdst,Exit.thenS];exact j _ _ Q b cs rfl
def ahO (x:Value) (a:Deferred):Prop:=∃ fn first cap,x = .func fn first cap/\a = { target:=.fn fn cap,args:=first }
def aM7 (E:Nat->Nat->Prop) (g:List O) (c:List Loc) (w0:World) (n:Nat) (s:St) (d:Option V) (e:Exit) (a:Act) (w:World):Prop:=
 match d with
 | none=>kL E g c w0 n [] (fun e t H=>(e,t,H)=s) e a w
 | some v=>∃ h H1 b f x,Step E g c w0 H1 b f/\R f (Xs E H1 b) b v x/\ahO x h/\kL E H1 b f n [h] (fun e t H=>(e,t,H)=s) e a w
theorem aRJ {ops:Array Oper} {d:Nat} {fn:Fn} {first cap:List Operand} (h:LI ops=some (d,fn,first,cap)) :
  ∃ a o2 f c cl,ops = #[a,o2]/\a.op = .makeFunc fn f c/\f.toList=first/\c.toList=cap/\a.dst=some d/\a.guard=none/\o2.op = .defer cl/\cl.callee = .value (.tmp d)/\cl.args = #[]/\o2.dst=none/\o2.guard=none:=by
 unfold LI at h;split at h;rotate_left
 ·cases h
 rename_i a o2 b;split at h;rotate_left
 ·cases h
 rename_i j f c i k l m;split at h;rotate_left
 ·cases h
 rename_i e args at' n o p;cases hb:(Nat.beq i e&&args.isEmpty)
 ·rw [hb] at h; cases h
 rw [hb] at h;simp only [cond_true,ZH3,Prod.mk.injEq] at h;obtain ⟨rfl,rfl,rfl,rfl⟩:=h;obtain ⟨g,b2⟩:=ZA0.1 hb;have g:=ZG1 g;subst g;exact ⟨a,o2,f,c,_,by apply Array.ext'; simpa using b,k,rfl,rfl,l,m,n,rfl,by simpa using b2,o,p⟩
theorem aUQ {a:Code} {p:Nat × Fn × List Operand × List Operand} (h:XA a=some p):∃ id ops,a = .region id ops false/\LI ops=some p:=by
 unfold XA at h;split at h
 ·exact ⟨_,_,rfl,h⟩
 ·cases h
theorem RV {cx:Cx} (f:aW cx) {c:Code} {t:T} {s:St} (h:(aK cx c t H).run=some s) {d:List O} {b:List Loc} {w0:World} {a:Act}
  (i:gJ cx.P E d b w0) {D:List Deferred} (g:Good E d b w0 cx.n D t H β a w):c.wp cx.P (kL E d b w0 cx.n D fun e t H=>(e,t,H)=s) a w:=
 kD rfl rfl f c _ t H (Tree.gH h rfl) E d b w0 D β a w i g
theorem aX3 {cx:Cx} (F:aW cx) {z:List O} {f:List Loc} {w0:World} (K:gJ cx.P E z f w0):∀ (c:Code) (t:T) (H:List O) (s:St) (d:Option V),(LU cx c t H).run=some (s,d) ->
  ∀ β a w,Good E z f w0 cx.n [] t H β a w->c.wp cx.P (aM7 E z f w0 cx.n s d) a w:=by
 intro c
 have plain:∀ (c:Code) (t:T) (H:List O) (s:St) (d:Option V),((aK cx c t H).bind fun s=>Tree.leaf (s,(none:Option V))).run=some (s,d) ->
   ∀ β a w,Good E z f w0 cx.n [] t H β a w->c.wp cx.P (aM7 E z f w0 cx.n s d) a w:=by
  intro c t H s d h β a w j;obtain ⟨s',o,b⟩:=bD h;simp only [Tree.run,ZH3,Prod.mk.injEq] at b;obtain ⟨rfl,rfl⟩:=b;exact wp_mono (RV F o K j) fun _ _ _ m=>m
 induction c with
 | seq x y S M =>
  intro t H s d h β a w j;unfold LU at h;split at h
  ·rename_i q fn first cap A
   obtain ⟨id,ops,rfl,hslot⟩:=aUQ A;obtain ⟨D,o2,i,g,cl,rfl,e1,e2,e3,e4,e5,e6,e7,e8,e9,e10⟩:=aRJ hslot;cases hb:Nat.blt q cx.n
   ·rw [hb] at h; cases h
   rw [hb,cond_true] at h
   have C:q < cx.n:=by simpa [Nat.blt_eq] using hb
   obtain ⟨s',o,b⟩:=bD h;simp only [Tree.run,ZH3,Prod.mk.injEq] at b;obtain ⟨rfl,rfl⟩:=b;have J:=fun x=>q5 j.fr x
   have p:R w (Xs E H β) β (.clo fn (first.map (rd t)) (cap.map (rd t))) (.func fn (i.map a.eval) (g.map a.eval)):=by
    have get:∀ (l:List Operand) (k:Nat) (v:V) (x:Value),(l.map (rd t))[k]? = some v->(l.map a.eval)[k]? = some x->R w (Xs E H β) β v x:=by
     intro l k v x o b;simp only [List.getElem?_map,ZH0] at o b;obtain ⟨u,hu,rfl⟩:=o;obtain ⟨u',hu',rfl⟩:=b;rw [hu] at hu';simp only [ZH3] at hu';subst hu';exact J u
    have U:i.map a.eval=(first.map a.eval).toArray:=by rw [<- e2]; apply Array.ext'; simp
    have W:g.map a.eval=(cap.map a.eval).toArray:=by rw [<- e3]; apply Array.ext'; simp
    rw [U,W];exact .clo β fn _ _ _ _ (by simp) (by simp) (get _) (get _)
   refine wp_seq (wp_region ?_);have Q:List.range (#[D,o2]:Array Oper).size=[0,1]:=rfl
   have w1:∀ y,Region.wanted D y=true:=fun y=>by simp [Region.wanted,e5]
   have w2:∀ y,Region.wanted o2 y=true:=fun y=>by simp [Region.wanted,e10]
   rw [Q];simp only [wpOps,List.getElem?_toArray,ZC3,List.getElem?_cons_succ,w1,w2,if_true];refine .inl ?_
   have Y:(execOp a.eval D).run cx.P w = .ok (.value (.func fn (i.map a.eval) (g.map a.eval))) w:=by
    simp only [execOp,e1];rfl
   unfold Oper.wp;rw [Y,Oper.upon_value];refine .inl ?_
   have L:q < a.tmps.size:=by rw [j.fr.size]; exact C
   have Z:(execOp (a.put D.dst (.func fn (i.map a.eval) (g.map a.eval))).eval o2).run cx.P w = .ok (.defer { target:=.fn fn (g.map a.eval),args:=i.map a.eval }) w:=by
    have G:(a.put D.dst (.func fn (i.map a.eval) (g.map a.eval))).eval (.tmp q) = .func fn (i.map a.eval) (g.map a.eval):=by
     simp [e4,Act.put,Act.eval,ZI0,L]
    simp only [execOp,e6,resolve,e7,e8,G,Deferred.ofValue];simp
   rw [Z,Oper.upon_defer];simp only [e9,e4,Act.put,Exit.then];have B:=j.fr.put (d:=q) C p
   have I : Good E H β w cx.n [{ target:=.fn fn (g.map a.eval),args:=i.map a.eval }] (bC cx.keeps (put q (.clo fn (first.map (rd t)) (cap.map (rd t))) t)) H β
     { tmps:=a.tmps.setIfInBounds q (.func fn (i.map a.eval) (g.map a.eval)),defers:={ target:=.fn fn (g.map a.eval),args:=i.map a.eval } :: a.defers } w:=
    ⟨Step.refl j.step.rel,⟨B.size,fun k=>(B.bC cx.keeps).slot k⟩,by rw [j.defers]⟩
   refine wp_mono (RV F o (K.now j.step) I) fun e N w' m=>?_;exact ⟨_,H,β,w,_,j.step,p,⟨fn,_,_,rfl,rfl⟩,m⟩
  ·obtain ⟨s',o,b⟩:=bD h
   refine wp_seq (wp_mono (RV F o K j) ?_);intro e N w' m;obtain ⟨ex,t',H'⟩:=s'
   cases e with
   | normal =>
    obtain ⟨t2,H2,β2,r,hg2⟩:=m;cases r;exact M t' H' s d b β2 N w' hg2
   | exit id =>
    obtain ⟨t2,H2,β2,r,hg2⟩:=m;cases r;simp only [Tree.run,ZH3,Prod.mk.injEq] at b;obtain ⟨rfl,rfl⟩:=b;exact ⟨t',H',β2,rfl,hg2⟩
   | ret =>
    obtain ⟨t2,H2,β2,r,hg2⟩:=m;cases r;simp only [Tree.run,ZH3,Prod.mk.injEq] at b;obtain ⟨rfl,rfl⟩:=b;exact ⟨t',H',β2,rfl,hg2⟩
   | panic ch =>
    obtain ⟨t2,H2,β2,v,x,r,hg2⟩:=m;cases r;simp only [Tree.run,ZH3,Prod.mk.injEq] at b;obtain ⟨rfl,rfl⟩:=b;exact ⟨t',H',β2,v,x,rfl,hg2⟩
   | goto l=>exact m.elim
   | outgrown=>exact m.elim
 | _=>exact plain _
theorem P0 {cx cl:Cx} {f g:Nat} {fn fg:Func} {args:List V} {r:Res} (hT:aW cx) (hL:aW cl) (hP:cl.P=cx.P) (hf:cx.P.funcs[f]? = some fn)
  (hname : (fn.name == "runtime.NumGoroutine") = false) (hg : cx.P.funcs[g]? = some fg) (hgname : (fg.name == "runtime.NumGoroutine") = false) (hn : Nat.ble args.length fn.ntmps = true)
  (h:(zU cx cl fn g fg args H).run=some r):dQ cx.P f args H r:=by
 have hname : fn.name ≠ "runtime.NumGoroutine" := by intro e; rw [e] at hname; simp at hname
 have hgname : fg.name ≠ "runtime.NumGoroutine" := by intro e; rw [e] at hgname; simp at hgname
 unfold zU at h;split at h;rotate_left
 ·cases h
 rename_i c hb;obtain ⟨⟨s,d⟩,h1,h2⟩:=bD h;refine ⟨⟨fn,hf,hname,by simp [hb]⟩,?_⟩;intro w E β rargs hE hrel hlen hargs;refine calls_of_wp_defers hf hb ?_;have hgood:Good E H β w fn.ntmps [] (dZ 0 args) H β _ w:=⟨Step.refl hrel,aHY hlen (ZG2 hn) hargs,rfl⟩;refine wp_mono (aX3 (cx:={ cx with n:=fn.ntmps }) hT hE c _ _ s d h1 β _ w hgood) ?_;intro e a w' hp
 cases d with
 | none =>
  have fin:∀ t H2 β2,iY cx.P fn.results.toList (.ret,t,H2)=iY cx.P fn.results.toList s->Good E H β w fn.ntmps [] t H2 β2 a w' -> Leaves cx.P fn a.tmps (Outcome E H β w r) a.defers .returning w' := by
   intro t H2 β2 hs hg;rw [hg.defers]
   have h2:(iY cx.P fn.results.toList (.ret,t,H2)).run=some r:=by rw [hs]; exact h2
   unfold iY at h2;simp only at h2;split at h2;rotate_left
   ·cases h2
   rename_i v hv;simp only [Tree.run,ZH3] at h2;subst h2;obtain ⟨y,q1,q2⟩:=RB hg.step.rel hg.fr hv;exact ⟨y,q1,y,β2,rfl,hg.step,q2⟩
  cases e with
  | normal=>obtain ⟨t,H2,β2,hq,hg⟩:=hp; subst hq; exact fin t H2 β2 rfl hg
  | ret=>obtain ⟨t,H2,β2,hq,hg⟩:=hp; subst hq; exact fin t H2 β2 rfl hg
  | exit id=>obtain ⟨t,H2,β2,hq,hg⟩:=hp; subst hq; cases h2
  | panic ch =>
   obtain ⟨t,H2,β2,v,x,hq,hg,hx,rfl⟩:=hp;subst hq;simp only [UI,iY,Tree.run,ZH3] at h2;subst h2;simp only [bodyPostD,hg.defers];exact ⟨x,β2,rfl,hg.step,hx⟩
  | goto l=>exact hp.elim
  | outgrown=>exact hp.elim
 | some cv =>
  obtain ⟨df,H1,β1,w1,x,hst,hx,⟨fv,first,cap,rfl,rfl⟩,hp⟩:=hp;unfold UI at h2;split at h2
  ·rename_i heq; cases heq
  rotate_left
  ·cases h2
  rename_i s' g' fs cs heq;simp only [Prod.mk.injEq,ZH3] at heq;obtain ⟨rfl,rfl⟩:=heq;cases hbq:(Nat.beq g' g&&Nat.ble (fs++cs).length fg.ntmps)
  ·rw [hbq] at h2; cases h2
  rw [hbq,cond_true] at h2;obtain ⟨b1,b2⟩:=ZA0.1 hbq;have b1:=ZG1 b1;subst b1;have b2:=ZG2 b2
  have hfv:fv = .func g' := by cases hx; rfl
  subst hfv
  have fin:∀ (t:T) (H2:List O) (β2:List Loc) (rv:Option V) (u u2:FrameMode),u ≠ .run->settle u2 = .returning->Good E H1 β1 w1 fn.ntmps [{ target:=.fn (.func g') cap,args:=first }] t H2 β2 a w' ->
    Mode w' (Xs E H2 β2) β2 u u2 rv->((EB cl fg (fs++cs) H2 rv).bind fun H=>iY cx.P fn.results.toList (.ret,t,H)).run=some r ->
    Leaves cx.P fn a.tmps (Outcome E H β w r) a.defers u w' := by
   intro t H2 β2 rv u u2 hrun hset hg2 hmode hh;rw [hg2.defers];obtain ⟨H3,q1,q2⟩:=bD hh;have hclo:=hg2.step.keepR hx
   obtain ⟨xs,ys,hxs,hys,hl1,hl2,r1,r2⟩:∃ xs ys:List Value,first=xs.toArray/\cap=ys.toArray/\xs.length=fs.length/\ys.length=cs.length /\
     (∀ (k:Nat) (v:V) (x:Value),fs[k]? = some v->xs[k]? = some x->R w' (Xs E H2 β2) β2 v x)/\(∀ (k:Nat) (v:V) (x:Value),cs[k]? = some v->ys[k]? = some x->R w' (Xs E H2 β2) β2 v x):=by
    cases hclo with
    | clo _ _ _ _ xs ys hl hm k1 k2=>exact ⟨xs,ys,rfl,rfl,hl,hm,k1,k2⟩
   subst hxs;subst hys
   have hbody:fg.body.isSome=true:=by
    unfold EB at q1;split at q1
    ·rename_i hbody; rw [hbody]; rfl
    ·cases q1
   have happ:(xs++ys).length=(fs++cs).length:=by simp [hl1,hl2]
   have hinv:(invoke (.fn (.func g') ys.toArray) xs.toArray).run cx.P w' = .ok (.enter g' (xs++ys).toArray) w' := by
    obtain ⟨bd,hbd⟩:=Option.isSome_iff_exists.1 hbody;simp [invoke,callFunc,hg,hgname,hbd]
   refine leaves_cons hrun hinv ?_
   have hs2:gJ cl.P E H2 β2 w' := by rw [hP]; exact (gJ.now (gJ.now hE hst) hg2.step:_)
   have:=aWO (cx:=cl) hL (g:=g') (by rw [hP]; exact hg) q1 hs2 hg2.step.rel happ b2 (by
    intro k v x hv hx;by_cases hk:k<fs.length
    ·rw [ZB0 hk] at hv
     rw [ZB0 (by omega)] at hx;exact r1 k v x hv hx
    ·rw [ZB1 (by omega)] at hv
     rw [ZB1 (by omega),hl1] at hx
     exact r2 _ v x hv hx) hmode
   rw [hP] at this;refine this.mono ?_;rintro e u' w2 ⟨⟨y,rfl⟩,rfl,β3,hst3⟩;simp only [hset];unfold iY at q2;simp only at q2;split at q2;rotate_left
   ·cases q2
   rename_i v hv;simp only [Tree.run,ZH3] at q2;subst q2;obtain ⟨z,z1,z2⟩:=RB hst3.rel (hg2.fr.step hst3) hv;exact ⟨z,z1,z,β3,rfl,(hst.trans hg2.step).trans hst3,z2⟩
  cases e with
  | normal=>obtain ⟨t,H2,β2,hq,hg2⟩:=hp; subst hq; exact fin t H2 β2 none .returning .returning (by simp) rfl hg2 ⟨rfl,rfl⟩ h2
  | ret=>obtain ⟨t,H2,β2,hq,hg2⟩:=hp; subst hq; exact fin t H2 β2 none .returning .returning (by simp) rfl hg2 ⟨rfl,rfl⟩ h2
  | exit id=>obtain ⟨t,H2,β2,hq,hg2⟩:=hp; subst hq; cases h2
  | panic ch =>
   obtain ⟨t,H2,β2,v,x,hq,hg2,hx2,rfl⟩:=hp;subst hq;exact fin t H2 β2 (some v) _ (.panicking [{ v:=x,recovered:=true }]) (by simp) rfl hg2 ⟨x,hx2,rfl,rfl⟩ h2
  | goto l=>exact hp.elim
  | outgrown=>exact hp.elim
theorem aQV {f:Nat} {args:List V} {v out:V} {H' : List O} (h:dQ P f args [] (.ok v H')) (j:V.pure? v=some out):jS P f args out:=by
 obtain ⟨c,hc⟩:=h;refine ⟨c,fun w E d l hlen a=>?_⟩;have m:∀ v x,R w E [] v x->R w (Xs E [] []) [] v x:=fun v x h=>h.stab ⟨fun b o v g i=>⟨fun h=>h.elim g (mG b o),i⟩,fun b cs e h=>⟨cs,e,h⟩⟩ [] (.refl _);refine (hc w E [] d ⟨fun b o hb=>⟨l.1 b o hb,mG b o⟩,fun p j=>m _ _ (l.2 p j)⟩ (K1 _ _) hlen fun k v x g i=>m v x (a k v x g i)).mono ?_;rintro e w' ⟨y,β',rfl,st,hr⟩;refine ⟨y,rfl,?_,?_⟩
 ·exact ⟨K1 _ _,st.os,st.tape,st.output,st.size,fun b hb=>by
   rcases st.pres b hb with h | ⟨⟨o,h⟩,_⟩ | ⟨⟨o,h⟩,_⟩
   ·exact .inl h
   ·exact absurd h (mG b o)
   ·exact absurd h (mG b o),fun b o h=>absurd h (mG b o),.nil _⟩
 ·exact (LR hr out j).stab ⟨fun b o v g i=>⟨fun h=>g (.inl h),i⟩,fun b cs e h=>⟨cs,e,h⟩⟩ [] (.refl _)
end
end Go.Ab

namespace Go.Ab
def sI (cx:Cx) (ops:Array Oper):Nat->Array Bool->T × List O->Option (List (T × List O))
 | 0,listed,p=>cond (Region.ready .any ops listed).isEmpty (some [p]) none
 | fuel+1,listed,p=>cond (Region.ready .any ops listed).isEmpty none
  ((Region.ready .any ops listed).foldr (fun i acc=>match acc,ops[i]? with
   | some l,some o=>match bT cx ops o p with
    | some q=>match sI cx ops fuel (listed.setIfInBounds i true) q with
     | some m=>some (m++l)
     | none=>none
    | none=>none
   | _,_=>none) (some []))
def sL (ks:List Nat) (t:T):List Nat:=ks.map fun d=>match get d t with
 | .ptr i _=>i
 | _=>0
section
variable {P:Program} {n:Nat} {Q:AEx->T->List O->Prop} {t:T} {H:List O} {cx:Cx} {ops:Array Oper}
theorem aEV {fuel:Nat} {listed:Array Bool} {p:T × List O}:∀ (is:List Nat) (l:List (T × List O)),
  is.foldr (fun i acc=>match acc,ops[i]? with
   | some l,some o=>match bT cx ops o p with
    | some q=>match sI cx ops fuel (listed.setIfInBounds i true) q with
     | some m=>some (m++l)
     | none=>none
    | none=>none
   | _,_=>none) (some [])=some l ->
  ∀ i ∈ is,∃ o q m,ops[i]? = some o/\bT cx ops o p=some q/\sI cx ops fuel (listed.setIfInBounds i true) q=some m /\ ∀ s ∈ m,s ∈ l
 | [],_,_,i,hi=>by cases hi
 | j :: is,l,h,i,hi=>by
  rw [List.foldr_cons] at h;split at h;rotate_left
  ·cases h
  rename_i l' o b c;split at h;rotate_left
  ·cases h
  rename_i q e;split at h;rotate_left
  ·cases h
  rename_i m d;simp only [ZH3] at h;subst h
  rcases ZE3.1 hi with rfl | hi
  ·exact ⟨o,q,m,c,e,d,fun s a=>List.mem_append_left _ a⟩
  ·obtain ⟨o',q',m',g1,g2,g3,g4⟩:=aEV is l' b i hi
   exact ⟨o',q',m',g1,g2,g3,fun s a=>List.mem_append_right _ (g4 s a)⟩
theorem aDK (f:aW cx) {E H0 β0 w0 D} (c:gJ cx.P E H0 β0 w0):∀ (fuel:Nat) (listed:Array Bool) (p:T × List O) (l:List (T × List O)) (β:List Loc) (a:Act) (w:World),
  sI cx ops fuel listed p=some l->(∀ s ∈ l,Q .normal s.1 s.2)->Good E H0 β0 w0 cx.n D p.1 p.2 β a w->wpAny cx.P .any ops (kL E H0 β0 w0 cx.n D Q) fuel listed a w
 | 0,listed,p,l,β,a,w,h,hq,hg=>by
  unfold sI at h;cases b:(Region.ready .any ops listed).isEmpty
  ·rw [b] at h; cases h
  rw [b] at h;simp only [cond_true,ZH3] at h;subst h;exact ⟨by simpa using b,p.1,p.2,β,hq p List.mem_cons_self,hg⟩
 | fuel+1,listed,p,l,β,a,w,h,hq,hg=>by
  unfold sI at h;cases b:(Region.ready .any ops listed).isEmpty;rotate_left
  ·rw [b] at h; cases h
  rw [b,cond_false] at h;refine ⟨fun j=>(by rw [j] at b; cases b),fun i hi=>?_⟩;obtain ⟨o,q,m,g1,g2,g3,g4⟩:=aEV _ l h i hi;refine I3 f c g1 (t:=p.1) (H:=p.2) hg g2 ?_;intro e g w' d;exact aDK f c fuel _ q m e g w' g3 (fun s c=>hq s (g4 s c)) d
theorem aVQ (c:cx.P=P) (f:cx.n=n) (d:aW cx) {id:Nat} (e:cx.P.follows .mixedOrders=true) {l:List (T × List O)}
  (h:sI cx ops ops.size (Array.replicate ops.size false) (t,H)=some l) (g:∀ s ∈ l,Q .normal s.1 s.2):aI P n (.region id ops true) Q t H:=by
 subst c;subst f;intro E k j w0 D β a w i b;refine wp_region_any e ?_;have st:=Step.heap_same (w' := { w with drawn:=w.drawn+1 }) b.step.rel rfl rfl rfl rfl;exact aDK d i ops.size _ (t,H) l β a _ h g ⟨b.step.trans st,b.fr.step st,b.defers⟩
def y7:Code->Array Oper
 | .region _ ops _=>ops
 | _=>#[]
theorem aSI (ks:List Nat) (k:Nat) (a:cx.P=P) (d:cx.n=n) (b:aW cx) {id:Nat} (c:cx.P.follows .mixedOrders=true) {t' : T} {H' : List O}
  (h:(sI cx ops ops.size (Array.replicate ops.size false) (t,H)).map (fun l=>l.map fun s=>iQ H.length (sL ks s.1) (.normal,s.1,s.2))=some (List.replicate k (some (.normal,t',H'))))
  (e:Q .normal t' H'):aI P n (.region id ops true) Q t H:=by
 obtain ⟨l,hl,h2⟩:=ZH0.1 h;refine yG (aVQ a d b c hl fun s f=>⟨sL ks s.1,(.normal,t',H'),?_,e⟩)
 have:iQ H.length (sL ks s.1) (.normal,s.1,s.2) ∈ List.replicate k (some ((.normal,t',H'):St)):=by rw [<- h2]; exact List.mem_map_of_mem f
 exact (List.mem_replicate.1 this).2
end
end Go.Ab

namespace Go.Ab
theorem SE {P : Program} {f : Nat} {fn : Func} {e : Array Value -> Sem Value} {args : List V} {out : V} (hf : P.funcs[f]? = some fn) (hname : (fn.name == "runtime.NumGoroutine") = false)
  (hb:fn.body.isNone=true) (hn:Extern.findNext fn=none) (he:Extern.find fn=some e)
  (h:∀ (w:World) (X:Nat->Nat->Prop) (β:List Loc) (rargs:List Value),rargs.length=args.length ->
   (∀ (k:Nat) (v:V) (x:Value),args[k]? = some v->rargs[k]? = some x->R w X β v x) -> ∃ y,(e rargs.toArray).run P w = .ok y w/\R w X β out y):aMM P f args out:=by
 intro w X β rargs hl hr;obtain ⟨y,h1,h2⟩:=h w X β rargs hl hr;refine ⟨y,?_,h2⟩;rw [run_callFunc_extern hf hname hb hn he,h1];rfl
def al7 (s:List UInt8) (c:UInt8):Int:=Lib.indexByte s c
def E9:Spec:=fun args=>match args with
 | [.str s,.int .u8 c]=>.leaf (.int .i64 (al7 s c.toNat.toUInt8))
 | _=>.fail
theorem aU2 {P : Program} {f : Nat} {fn : Func} (hf : P.funcs[f]? = some fn) (hname : (fn.name == "runtime.NumGoroutine") = false) (hb : fn.body.isNone = true) (hn : Extern.findNext fn = none)
  (he:Extern.find fn=some Extern.BytealgIndexByte.indexByte):vU P f E9:=by
 intro args out h;unfold E9 at h;split at h;rotate_left
 ·cases h
 rename_i s c;cases h;refine SE hf hname hb hn he fun w X β rargs hl hr=>?_
 match rargs,hl with
 | [x,y],_ =>
  have h1:=hr 0 _ x rfl rfl;have h2:=hr 1 _ y rfl rfl;cases h1;cases h2;refine ⟨_,run_indexByte_string _ _ _,?_⟩;rw [Lib.firstIdx_eq];exact .int _ _ _
def B0:Spec:=fun args=>match args with
 | [.int .u64 x,.int .u64 y,.int .u64 c]=>.aF (decide (0<=x)&&decide (0<=y)&&decide (0<=c)&&decide (c<=1))
   (.leaf (.tup [.int .u64 ((x+y+c) % 18446744073709551616),.int .u64 ((x+y+c) / 18446744073709551616)]))
 | _=>.fail
theorem aJQ {w:World} {X:Nat->Nat->Prop} {β:List Loc} (a b:Int):R w X β (.tup [.int .u64 a,.int .u64 b]) (.tuple #[.int .u64 a,.int .u64 b]):=by
 refine .tup β [.int .u64 a,.int .u64 b] [.int .u64 a,.int .u64 b] rfl fun k v x c d=>?_
 match k,c,d with
 | 0,c,d=>cases c; cases d; exact .int _ _ _
 | 1,c,d=>cases c; cases d; exact .int _ _ _
theorem aCX {w:World} {X:Nat->Nat->Prop} {β:List Loc} {a:List Value} {x y c:Int} (g:a.length=3)
  (b:∀ (k:Nat) (v:V) (z:Value),([.int .u64 x,.int .u64 y,.int .u64 c]:List V)[k]? = some v->a[k]? = some z->R w X β v z):a=[.int .u64 x,.int .u64 y,.int .u64 c]:=by
 match a,g with
 | [p,q,r],_ =>
  have d:=b 0 _ p rfl rfl;have e:=b 1 _ q rfl rfl;have f:=b 2 _ r rfl rfl;cases d;cases e;cases f;rfl
theorem aYA {P : Program} {f : Nat} {fn : Func} (hf : P.funcs[f]? = some fn) (hname : (fn.name == "runtime.NumGoroutine") = false) (hb : fn.body.isNone = true) (hn : Extern.findNext fn = none)
  (he:Extern.find fn=some add64Entry):vU P f B0:=by
 intro args out h;unfold B0 at h;split at h;rotate_left
 ·cases h
 rename_i x y c;obtain ⟨h1,h⟩:=aM h;cases h;simp only [ZA2,decide_eq_true_eq] at h1;obtain ⟨⟨⟨h1,h2⟩,h3⟩,h4⟩:=h1;refine SE hf hname hb hn he fun w X β rargs hl hr=>?_;rw [aCX hl hr];exact ⟨_,run_add64 x y c h1 h2 h3 h4 w,aJQ _ _⟩
def P4:Array Value->Sem Value:=fun args=>do
 let (x, y, b) <- Extern.MathBitsCarry.three "Sub64" args
 pure (Extern.MathBitsCarry.pair ((x+Extern.MathBitsCarry.m64 - y - b) % Extern.MathBitsCarry.m64) (if x<y+b then 1 else 0))
theorem a0A {P:Program} (x y c:Int) (e:0<=x) (g:0<=y) (f:x<18446744073709551616) (i:y<18446744073709551616) (a:0<=c) (j:c<=1) (w:World) :
  (P4 #[.int .u64 x,.int .u64 y,.int .u64 c]).run P w =
   .ok (.tuple #[.int .u64 ((x - y - c) % 18446744073709551616),.int .u64 (if x<y+c then 1 else 0)]) w:=by
 have key:∀ k:Nat,k<=1->(P4 #[.int .u64 x,.int .u64 y,.int .u64 (k:Int)]).run P w =
   .ok (Extern.MathBitsCarry.pair ((x.toNat+Extern.MathBitsCarry.m64 - y.toNat - k) % Extern.MathBitsCarry.m64) (if x.toNat<y.toNat+k then 1 else 0)) w:=by
  intro k l
  have:k=0\/k=1:=by omega
  rcases this with rfl | rfl <;> rfl
 obtain ⟨k,rfl⟩:=ZI3 a;rw [key k (by omega)];obtain ⟨A,rfl⟩:=ZI3 e;obtain ⟨B,rfl⟩:=ZI3 g
 have b:(((A+18446744073709551616 - B - k) % 18446744073709551616:Nat):Int)=((A:Int) - B - k) % 18446744073709551616:=by omega
 have d:((if A<B+k then 1 else 0:Nat):Int)=if (A:Int)<(B:Int)+k then 1 else 0:=by
  by_cases h:A<B+k
  ·rw [if_pos h,if_pos (by omega)]; rfl
  ·rw [if_neg h,if_neg (by omega)]; rfl
 show Result.ok (Value.tuple #[.int .u64 (((A+18446744073709551616 - B - k) % 18446744073709551616:Nat):Int),.int .u64 ((if A<B+k then 1 else 0:Nat):Int)]) w=_;rw [b,d]
def GG:Spec:=fun args=>match args with
 | [.int .u64 x,.int .u64 y,.int .u64 c]=>.aF (decide (0<=x)&&decide (0<=y)&&decide (x<18446744073709551616)&&decide (y<18446744073709551616)&&decide (0<=c)&&decide (c<=1))
   (.leaf (.tup [.int .u64 ((x - y - c) % 18446744073709551616),.int .u64 (cond (decide (x<y+c)) 1 0)]))
 | _=>.fail
theorem aZ8 {P : Program} {f : Nat} {fn : Func} (hf : P.funcs[f]? = some fn) (hname : (fn.name == "runtime.NumGoroutine") = false) (hb : fn.body.isNone = true) (hn : Extern.findNext fn = none)
  (he:Extern.find fn=some P4):vU P f GG:=by
 intro args out h;unfold GG at h;split at h;rotate_left
 ·cases h
 rename_i x y c;obtain ⟨h1,h⟩:=aM h;cases h;simp only [ZA2,decide_eq_true_eq] at h1;obtain ⟨⟨⟨⟨⟨h1,h2⟩,h3⟩,h4⟩,h5⟩,h6⟩:=h1;refine SE hf hname hb hn he fun w X β rargs hl hr=>?_;rw [aCX hl hr];refine ⟨_,a0A x y c h1 h2 h3 h4 h5 h6 w,?_⟩
 have e:(if x<y+c then (1:Int) else 0)=cond (decide (x<y+c)) 1 0:=by
  by_cases h:x<y+c
  ·rw [if_pos h,decide_eq_true h]; rfl
  ·rw [if_neg h,decide_eq_false h]; rfl
 rw [e];exact aJQ _ _
end Go.Ab

namespace Go.Ab
structure Fi where
 f:Nat
 fn:Func
 keeps:List Nat
 refs:List Nat:=[]
 fuel:Nat:=0
 lz:List Nat:=[]
structure Tabs where
 tab:List (Nat × Spec):=[]
 mtab:List (Nat × MSpec):=[]
 rtab:List (Nat × RSpec):=[]
 globs:List (Nat × List V):=[]
 nums:List Nat:=[]
def Tabs.Ok (P:Program) (T:Tabs):Prop:=lA P T.tab/\oI P T.mtab/\rU P T.rtab /\ ∀ p ∈ T.globs,p ∈ rN P
def Fi.cx (P:Program) (T:Tabs) (i:Fi):Cx:={ P:=P,n:=i.fn.ntmps,tab:=T.tab,mtab:=T.mtab,refs:=i.refs,keeps:=i.keeps,fuel:=i.fuel,rtab:=T.rtab,globs:=T.globs,lz:=i.lz,nums:=T.nums }
def Fi.spec (P:Program) (T:Tabs) (i:Fi):Nat × Spec:=(i.f,fun args=>.aF (Nat.ble args.length i.fn.ntmps) (a7 (i.cx P T) i.fn args))
def Fi.mspec (P:Program) (T:Tabs) (i:Fi):Nat × MSpec:=(i.f,fun args H=>.aF (Nat.ble args.length i.fn.ntmps) (dF (i.cx P T) i.fn args H))
def deep (P:Program) (T:Tabs) (a ms:List Fi):Nat->Tabs
 | 0=>T
 | d+1=>{ tab:=a.map (Fi.spec P (deep P T a ms d))++T.tab,mtab:=ms.map (Fi.mspec P (deep P T a ms d))++T.mtab,rtab:=T.rtab,globs:=T.globs,nums:=T.nums }
def fY (P:Program):List Fi->Prop
 | []=>True
 | i :: r => (P.funcs[i.f]? = some i.fn /\ (i.fn.name == "runtime.NumGoroutine") = false) /\ fY P r
theorem fY.get {P : Program} : ∀ {l : List Fi}, fY P l -> ∀ i ∈ l, P.funcs[i.f]? = some i.fn /\ (i.fn.name == "runtime.NumGoroutine") = false
 | [],_,i,h=>by cases h
 | j :: r,h,i,hi=>by
  rcases ZE3.1 hi with rfl | hi
  ·exact h.1
  ·exact fY.get h.2 i hi
theorem qN {P:Program} {T:Tabs} {f ms:List Fi} (b:T.Ok P) (e:fY P f) (c:fY P ms):∀ d,(deep P T f ms d).Ok P
 | 0=>b
 | d+1=>by
  have h:=qN b e c d;refine ⟨fun p a=>?_,fun p a=>?_,b.2.2⟩
  ·rcases List.mem_append.1 a with a | a
   ·obtain ⟨i,hi,rfl⟩:=List.mem_map.1 a
    obtain ⟨g,h2⟩:=e.get i hi;exact .inl (EZ (cx:=i.cx P (deep P T f ms d)) h g h2)
   ·exact b.1 p a
  ·rcases List.mem_append.1 a with a | a
   ·obtain ⟨i,hi,rfl⟩:=List.mem_map.1 a
    obtain ⟨g,h2⟩:=c.get i hi;exact fA (cx:=i.cx P (deep P T f ms d)) h g h2
   ·exact b.2.1 p a
end Go.Ab

namespace Go.Ab
open Go
noncomputable def Tree.fin {α:Type} (t:Tree α):Option α:=
 Tree.rec (motive:=fun _=>Option α) (fun b=>some b) none (fun c _ _ x y=>Bool.rec (motive:=fun _=>Option α) y x c) t
theorem Tree.bJ {α:Type}:∀ t:Tree α,t.fin=t.run
 | .leaf _=>rfl
 | .fail=>rfl
 | .br true x _=>Tree.bJ x
 | .br false _ y=>Tree.bJ y
end Go.Ab

namespace Go.Ab
open Go
def rD (n:Nat) (κ ks:List Nat) (s:St):Tree St:=match iQ n κ s with
 | some (e,t,H)=>.leaf (e,bC ks t,H)
 | none=>.fail
def rS {α:Type} (st:α->T × List O) (a:α->Nat) (ks:List Nat) (Q:AEx->T->List O->Prop) (i:α) (s:St):Prop:=
 match s.1 with
 | .normal=>∃ j,a j<a i/\dK s.2.1 (st j).1/\s.2.2=(st j).2
 | e=>∀ t,s.2.1=bC ks t->Q e t s.2.2
section
variable {P:Program} {n:Nat} {cx:Cx} {Q:AEx->T->List O->Prop}
theorem a33 {m:Nat} {κ ks:List Nat} {s:St} {R:St->Prop} (h:(rD m κ ks s).all R):∃ s',iQ m κ s=some s' /\ R (s'.1,bC ks s'.2.1,s'.2.2):=by
 unfold rD at h;split at h
 ·rename_i e t H a
  exact ⟨_,a,h⟩
 ·exact h.elim
theorem xX {α:Type} (l:cx.P=P) (o:cx.n=n) (m:aW cx) (st:α->T × List O) (f:α->Nat) (κ ks:List Nat) {body:Code}
  (h:∀ i,((aK cx body (st i).1 (st i).2).bind (rD (st i).2.length κ ks)).all (rS st f ks Q i)) (i:α):aI P n (.loop body) Q (st i).1 (st i).2:=by
 refine EP l o m st f (fun i=>?_) i;refine Tree.all_mono (Tree.all_bind (h i)) fun s p=>?_;obtain ⟨s',h1,h2⟩:=a33 p;refine ⟨κ,s',h1,?_⟩;obtain ⟨e,t,H⟩:=s';unfold rS at h2
 cases e with
 | normal =>
  obtain ⟨j,a,b,c⟩:=h2;refine ⟨j,a,fun d=>?_,c⟩
  rcases b d with g | g
  ·rcases dK.bC ks t d with k | k
   ·exact .inl (g.trans k)
   ·rw [k] at g; exact .inr g
  ·exact .inr g
 | exit id=>exact h2 t rfl
 | ret=>exact h2 t rfl
 | panic v=>exact h2 t rfl
theorem J9 {ks:List Nat} {t s:T} (h:s=bC ks t) (d:Nat):get d s=get d t\/get d s = .any:=by
 subst h;exact dK.bC ks t d
theorem a1T {ks:List Nat} {t s:T} (h:s=bC ks t):dK t s:=fun d=>J9 h d
end
end Go.Ab
