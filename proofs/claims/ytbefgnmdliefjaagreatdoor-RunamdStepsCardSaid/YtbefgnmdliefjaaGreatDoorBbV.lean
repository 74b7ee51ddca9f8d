/-
  The engine, part V: regions that draw their order; code; functions without loops. Conditions: none.
-/
import Derived.Test.YtbefgnmdliefjaaGreatDoorPk08
open Bool renaming and_eq_true_iff→ZA0,or_eq_true_iff→ZA1
open List renaming mem_cons_self→ZD1,mem_cons_of_mem→ZD2,all_eq_true→ZE1,mem_cons→ZE3,getD_eq_getElem?_getD→ZG0
open Nat renaming eq_of_beq_eq_true→ZG1,le_of_ble_eq_true→ZG2
open Option renaming bind_some→ZH1,map_some→ZH2
open Option.some renaming injEq→ZH3
open Array renaming getD_eq_getD_getElem?→ZI0,getElem?_eq_some_iff→ZI1
set_option linter.unusedVariables false
set_option linter.unusedSimpArgs false
namespace Go.Ab
section
variable {cx:Cx} {ops:Array Oper} {I:T × List O->Prop}
theorem aBY {E H0 β0 w0 n D t H β a w} (p:Good E H0 β0 w0 n D t H β a w) {o:Oper} {b:Bool} (hb:bW ops t o=some b):Region.wanted o (yielded ops a.tmps)=b:=by
 unfold bW at hb;split at hb
 ·rename_i g
  simp only [ZH3] at hb;subst hb;simp [Region.wanted,g]
 ·rename_i j h g
  split at hb;rotate_left
  ·cases hb
  rename_i d m;have e:=p.fr.slot d;split at hb
  ·rename_i c k
   simp only [ZH3] at hb;subst hb;rw [k] at e;generalize f:a.tmps.getD d undef=v at e;cases e
   have l:yielded ops a.tmps j=some c:=by
    unfold yielded;rw [m];simp only [ZH1];rw [ZI0] at f
    cases i:a.tmps[d]? with
    | none=>rw [i] at f; simp [undef] at f
    | some q=>rw [i] at f; simp at f; subst f; rfl
   simp only [Region.wanted,g,l];cases c <;> cases h <;> rfl
  ·rename_i vs k
   simp only [ZH3] at hb;subst hb;rw [k] at e;generalize f:a.tmps.getD d undef=v at e;cases e
   have l:yielded ops a.tmps j=none:=by
    unfold yielded;rw [m];simp only [ZH1];rw [ZI0] at f
    cases i:a.tmps[d]? with
    | none=>rfl
    | some q=>rw [i] at f; simp at f; subst f; rfl
   simp [Region.wanted,g,l]
  ·cases hb
theorem I3 (z:aW cx) {E H0 β0 w0 D} (B:gJ cx.P E H0 β0 w0) {i:Nat} {o:Oper} (A:ops[i]? = some o) {t:T} {H:List O} {β:List Loc} {a:Act} {w:World} {r:T × List O}
  (c:Good E H0 β0 w0 cx.n D t H β a w) (h:bT cx ops o (t,H)=some r) {K:Act->World->Prop} {Q:Exit->Act->World->Prop}
  (s:∀ g p w',Good E H0 β0 w0 cx.n D r.1 r.2 g p w' -> K p w'):wpOp cx.P ops Q i K a w:=by
 have put:∀ {v x t H β a w},fP cx o v t H=some r->R w (Xs E H β) β v x->Good E H0 β0 w0 cx.n D t H β a w->K (a.put o.dst x) w:=by
  intro v x t H β a w e l c;unfold fP wV at e
  cases q:o.dst with
  | none =>
   simp only [q,ZH2,ZH3] at e;subst e;exact s β a w c
  | some d =>
   simp only [q] at e;cases hb:Nat.blt d cx.n
   ·simp [hb] at e
   ·simp only [hb,cond_true,ZH2,ZH3] at e
    subst e
    have j:d<cx.n:=by simpa [Nat.blt_eq] using hb
    exact s β _ w ⟨c.step,c.fr.put j l,c.defers⟩
 have f:∀ b,bW ops t o=some b->Region.wanted o (yielded ops a.tmps)=b:=fun _ hb=>aBY c hb;unfold bT at h;simp only at h;unfold wpOp;simp only [A]
 cases m:bW ops t o with
 | none=>rw [m] at h; cases h
 | some b =>
  rw [m] at h;rw [f b m];cases b
  ·simp only [Bool.false_eq_true,if_false]
   exact put h (.val _ _) c
  ·simp only at h
   cases k:(aP cx t H o).run with
   | none=>rw [k] at h; cases h
   | some res =>
    rw [k] at h
    cases res with
    | pan u y=>cases h
    | ok u y =>
     simp only [if_true];refine .inl (JG z (B.now c.step) c.step.rel c.fr k ?_);intro x w' g st l;exact put h l ⟨c.step.trans st,c.fr.step st,c.defers⟩
theorem Good.like {E H0 β0 w0 n D t s H β a w} (b:Good E H0 β0 w0 n D t H β a w) (h:IX s t):Good E H0 β0 w0 n D s H β a w:=
 ⟨b.step,b.fr.le (fun d=>.inl (h d)),b.defers⟩
theorem aFF (hT:aW cx) {E H0 β0 w0 D} (hs:gJ cx.P E H0 β0 w0) {p0 r0:T × List O} (hd:DrawOk cx ops p0) (h:runI cx ops (List.range ops.size) p0=some r0) {Q:AEx->T->List O->Prop}
  (hq:∀ β a w,Good E H0 β0 w0 cx.n D r0.1 r0.2 β a w->kL E H0 β0 w0 cx.n D Q .normal a w) :
  ∀ (fuel:Nat) (listed:Array Bool) (p:T × List O) (β:List Loc) (a:Act) (w:World),listed.size=ops.size->missing ops.size (fun i=>listed.getD i false)=fuel ->
   j4 ops (fun i=>listed.getD i false)->nA cx ops (fun i=>listed.getD i false) p0=some p->Good E H0 β0 w0 cx.n D p.1 p.2 β a w ->
   wpAny cx.P .any ops (kL E H0 β0 w0 cx.n D Q) fuel listed a w
 | 0,listed,p,β,a,w,hsz,hm,_,hp,hg=>by
  rw [aBQ hm] at hp;rw [h] at hp;simp only [ZH3] at hp;subst hp;refine ⟨?_,hq β a w hg⟩;apply List.eq_nil_iff_forall_not_mem.2;intro i hi;obtain ⟨h1,o,h2,_⟩:=mem_ready.1 hi;have hlt:i<ops.size:=(ZI1.1 h2).1
  have:listed.getD i false=false:=by
   rw [ZI0] at h1 ⊢
   have:i<listed.size:=by omega
   simp [this] at h1 ⊢;exact h1
  have hin:i ∈ (List.range ops.size).filter fun i=>!(listed.getD i false):=List.mem_filter.2 ⟨List.mem_range.2 hlt,by simp [this]⟩;have h0:=List.length_eq_zero_iff.1 hm;rw [h0] at hin; cases hin
 | fuel+1,listed,p,β,a,w,hsz,hm,hc,hp,hg=>by
  refine ⟨fun hr=>?_,fun i hi=>?_⟩
  ·-- something can be carried out
   obtain ⟨i,h1,h2,h3⟩:=A0 (S:=fun i=>listed.getD i false) (n:=ops.size) (by omega);obtain ⟨o,ho⟩:∃ o,ops[i]? = some o:=⟨ops[i],by simp [h1]⟩
   have:i ∈ Region.ready .any ops listed:=mem_ready.2 ⟨by
    rw [ZI0] at h2 ⊢
    have:i<listed.size:=by omega
    simp [this] at h2 ⊢; exact h2,o,ho,fun e he hb=>h3 _ (hd.back i o ho e he hb)⟩
   rw [hr] at this; cases this
  ·obtain ⟨h1,o,ho,h3⟩:=mem_ready.1 hi
   have hlt:i<ops.size:=(ZI1.1 ho).1
   have hS:listed.getD i false=false:=by
    rw [ZI0] at h1 ⊢
    have:i<listed.size:=by omega
    simp [this] at h1 ⊢; exact h1
   have hw:(fun j=>(listed.setIfInBounds i true).getD j false)=cF (fun j=>listed.getD j false) i:=by
    funext j
    unfold cF;by_cases hj:j=i
    ·subst hj
     have:j<listed.size:=by omega
     simp [ZI0,this]
    ·have hji:(j==i)=false:=by simpa using hj
     rw [getD_set_ne false (fun e=>hj e.symm),hji,Bool.or_false]
   have hc' : j4 ops (cF (fun j=>listed.getD j false) i):=xY hc fun o' ho' e he hb=>by
    rw [ho] at ho';simp only [ZH3] at ho';subst ho';exact h3 e he hb
   have hm' := xT (S:=fun j=>listed.getD j false) hlt hS;obtain ⟨r,hr⟩:=aC8 hd h fuel (cF (fun j=>listed.getD j false) i) (by omega) hc';obtain ⟨p',r',hp',hst,hl⟩:=FY hd hc hlt hS hr;rw [hp] at hp';simp only [ZH3] at hp';subst hp';refine I3 hT hs ho (t:=p.1) (H:=p.2) hg (hst o ho) ?_;intro β' a' w' hg';refine aFF hT hs hd h hq fuel _ r β' a' w' (by simp [hsz]) (by rw [hw]; omega) (by rw [hw]; exact hc') (by rw [hw]; exact hr) ?_
   have:=hg'.like hl.1;rw [hl.2];exact this
theorem aBV {n j:Nat} {S:Nat->Bool} (h:j<=n) (a:∀ k,k<j->S k=true) (b:∀ k,k<n->S k=true->k<j):(List.range n).filter S=List.range j:=by
 induction n with
 | zero =>
  have:j=0:=by omega
  subst this;rfl
 | succ n g =>
  rw [List.range_succ,List.filter_append];by_cases hjn:j<=n
  ·rw [g hjn (fun k c=>b k (by omega))]
   have:S n=false:=by
    cases f:S n
    ·rfl
    ·have:=b n (by omega) f
     omega
   simp [this]
  ·have:j=n+1:=by omega
   subst this;have e:(List.range n).filter S=List.range n:=List.filter_eq_self.2 fun k c=>a k (by have:=List.mem_range.1 c; omega);have d:S n=true:=a n (by omega);rw [e,List.range_succ];simp [d]
theorem PX {g r0:T × List O} (c:DrawOk cx ops g) {j:Nat} (l:j<=ops.size) (h:runI cx ops (List.range j) g=some r0) :
  ∀ (m:Nat) (S:Nat->Bool),missing j S=m->(∀ k,k<ops.size->S k=true->k<j)->j4 ops S -> ∃ p,nA cx ops S g=some p
 | 0,S,hm,hS,_=>by
  refine ⟨r0,?_⟩;unfold nA;rw [aBV l (fun k f=>?_) hS]
  ·exact h
  ·cases w:S k
   ·have:k ∈ (List.range j).filter fun i=>!S i:=List.mem_filter.2 ⟨List.mem_range.2 f,by simp [w]⟩
    have q:=List.length_eq_zero_iff.1 hm;rw [q] at this; cases this
   ·rfl
 | m+1,S,hm,b,hc=>by
  obtain ⟨i,hi,hS,hlt⟩:=A0 (S:=S) (n:=j) (by omega);have u := xT hi hS
  have d : i<ops.size:=by omega
  obtain ⟨r,hr⟩:=PX c l h m (cF S i) (by omega) (fun k f a=>by
   unfold cF at a
   rcases ZA1.1 a with h | h
   ·exact b k f h
   ·have:k=i:=by simpa using h
    omega) (xY hc fun o v e s hb=>hlt _ (c.back i o v e s hb))
  obtain ⟨p,_,hp,_⟩:=FY c hc d hS hr;exact ⟨p,hp⟩
theorem aUC {x y:Oper} {p q:T × List O} (a:x.apart ops y=true) (m:quiet cx x=true) (h:bT cx ops x p=some q) :
  q.2=p.2/\bW ops q.1 y=bW ops p.1 y /\ ∀ H,aP cx q.1 H y=aP cx p.1 H y:=by
 obtain ⟨j,_,_⟩:=Oper.apart_spec a
 have done:∀ {v:V} {H' : List O},fP cx x v p.1 H' = some q->H' = p.2->q.2=p.2/\bW ops q.1 y=bW ops p.1 y /\ ∀ H,aP cx q.1 H y=aP cx p.1 H y:=by
  intro v H' f k;have ex:∀ d ∈ y.looksAt ops,get d q.1=get d p.1:=fun d l=>(jJ f).2.1 d fun e=>j d e l;exact ⟨(jJ f).1.trans k,tD ex,fun H=>CE ex⟩
 unfold bT at h
 cases g:bW ops p.1 x with
 | none=>rw [g] at h; cases h
 | some b =>
  rw [g] at h;cases b
  ·exact done h rfl
  ·simp only at h
   cases c:(aP cx p.1 p.2 x).run with
   | none=>rw [c] at h; cases h
   | some res =>
    rw [c] at h
    cases res with
    | pan u i=>cases h
    | ok u i=>exact done h (rK m c)
theorem aKU {C r0:T × List O} (s:DrawOk cx ops C) {j:Nat} (G:j<ops.size) (q:∀ k,k<j->Anc ops k j \/ ∀ o,ops[k]? = some o->quiet cx o=true)
  (h:runI cx ops (List.range j) C=some r0) {a:Oper} (g:ops[j]? = some a) (K:bW ops r0.1 a=some true) {v:V} {H' : List O} (J:(aP cx r0.1 r0.2 a).run=some (.pan v H')) :
  ∀ (m:Nat) (S:Nat->Bool),missing j S=m->(∀ k,k<ops.size->S k=true->k<j)->j4 ops S->(∀ e ∈ a.after,Region.binds .any e=true->S e.on=true) -> ∀ p,nA cx ops S C=some p ->
   bW ops p.1 a=some true/\(aP cx p.1 p.2 a).run=some (.pan v H')
 | 0,S,hm,hS,_,_,p,b=>by
  unfold nA at b;rw [aBV (by omega) (fun k x=>?_) hS,h] at b
  ·cases b
   exact ⟨K,J⟩
  ·cases X:S k
   ·have:k ∈ (List.range j).filter fun i=>!S i:=List.mem_filter.2 ⟨List.mem_range.2 x,by simp [X]⟩
    have N:=List.length_eq_zero_iff.1 hm;rw [N] at this; cases this
   ·rfl
 | m+1,S,hm,hSj,hc,hr,p,b=>by
  obtain ⟨i,hi,hS,hlt⟩:=A0 (S:=S) (n:=j) (by omega);have U := xT hi hS
  have w : i<ops.size:=by omega
  have l : j4 ops (cF S i):=xY hc fun o B e u hb=>hlt _ (s.back i o B e u hb)
  have c : ∀ k,k<ops.size->cF S i k=true->k<j:=fun k x y=>by
   unfold cF at y
   rcases ZA1.1 y with h | h
   ·exact hSj k x h
   ·have:k=i:=by simpa using h
    omega
  have E:j4 ops (cF S j):=xY hc fun o B e u hb=>by
   rw [g] at B;cases B;exact hr e u hb
  have z:¬ Anc ops i j:=fun R=>by
   have:=R _ E (by simp [cF]);unfold cF at this
   rcases ZA1.1 this with h | h
   ·rw [hS] at h; cases h
   ·have:i=j:=by simpa using h
    omega
  obtain ⟨r,hst'⟩:=PX s (by omega) h m (cF S i) (by omega) c l
  obtain ⟨f1,f2⟩:=aKU s G q h g K J m (cF S i) (by omega) c l (fun e u hb=>by
   unfold cF;rw [hr e u hb]
   rfl) r hst'
  obtain ⟨Y,r',F,g2,g3⟩:=FY s hc w hS hst';rw [b] at F;cases F;obtain ⟨A,f⟩:∃ o,ops[i]? = some o:=⟨ops[i],by simp [w]⟩;have W:quiet cx A=true:=(q i hi).elim (fun h=>(z h).elim) fun h=>h A f
  have D:A.apart ops a=true:=by
   rcases s.pairs i j hi G with h | h
   ·exact (z h).elim
   ·exact (h [] C (fun k x=>by cases x) rfl A a f g).1
  obtain ⟨k1,k2,k3⟩:=aUC D W (g2 A f);rw [<- k2,<- k1,<- k3];have L:bW ops r'.1 a=bW ops r.1 a:=tD fun d _=>(g3.1 d).symm;have M:∀ H,aP cx r'.1 H a=aP cx r.1 H a:=fun H=>CE (ops:=ops) fun d _=>(g3.1 d).symm;rw [L,M,<- g3.2];exact ⟨f1,f2⟩
theorem aJ8 (M:aW cx) {E H0 β0 w0 D} (W:gJ cx.P E H0 β0 w0) {Y r0:T × List O} (C:DrawOk cx ops Y) {j:Nat} (R:j<ops.size) (B:∀ k,k<j->Anc ops k j \/ ∀ o,ops[k]? = some o->quiet cx o=true) (m:∀ k,j<k->k<ops.size->Anc ops j k)
  (h:runI cx ops (List.range j) Y=some r0) {X:Oper} (f:ops[j]? = some X) (L:bW ops r0.1 X=some true) {v:V} {H' : List O} (J:(aP cx r0.1 r0.2 X).run=some (.pan v H')) {Q:AEx->T->List O->Prop} (hq:Q (.panic v) [] H') :
  ∀ (fuel:Nat) (listed:Array Bool) (p:T × List O) (β:List Loc) (a:Act) (w:World),listed.size=ops.size->missing ops.size (fun i=>listed.getD i false)=fuel ->
   j4 ops (fun i=>listed.getD i false)->listed.getD j false=false->nA cx ops (fun i=>listed.getD i false) Y=some p->Good E H0 β0 w0 cx.n D p.1 p.2 β a w ->
   wpAny cx.P .any ops (kL E H0 β0 w0 cx.n D Q) fuel listed a w
 | 0,listed,p,β,a,w,hsz,hm,_,hSj,hst,hg=>by
  have:j ∈ (List.range ops.size).filter fun i=>!(listed.getD i false):=List.mem_filter.2 ⟨List.mem_range.2 R,by simp [hSj]⟩;have h0:=List.length_eq_zero_iff.1 hm;rw [h0] at this; cases this
 | fuel+1,listed,p,β,a,w,hsz,hm,hc,hSj,hst,hg=>by
  have g:∀ k,k<ops.size->listed.getD k false=true->k<j:=by
   intro k q A;by_cases b:k<j
   ·exact b
   by_cases h2:k=j
   ·subst h2; rw [hSj] at A; cases A
   ·have:=m k (by omega) q _ hc A
    rw [hSj] at this; cases this
  refine ⟨fun K=>?_,fun i hi=>?_⟩
  ·obtain ⟨i,b,h2,h3⟩:=A0 (S:=fun i=>listed.getD i false) (n:=ops.size) (by omega)
   obtain ⟨o,c⟩:∃ o,ops[i]? = some o:=⟨ops[i],by simp [b]⟩
   have:i ∈ Region.ready .any ops listed:=mem_ready.2 ⟨by
    rw [ZI0] at h2 ⊢
    have:i<listed.size:=by omega
    simp [this] at h2 ⊢; exact h2,o,c,fun e F hb=>h3 _ (C.back i o c e F hb)⟩
   rw [K] at this; cases this
  ·obtain ⟨b,o,c,h3⟩:=mem_ready.1 hi
   have s:i<ops.size:=(ZI1.1 c).1
   have A:listed.getD i false=false:=by
    rw [ZI0] at b ⊢
    have:i<listed.size:=by omega
    simp [this] at b ⊢; exact b
   have y:(fun k=>(listed.setIfInBounds i true).getD k false)=cF (fun k=>listed.getD k false) i:=by
    funext k
    unfold cF;by_cases q:k=i
    ·subst q
     have:k<listed.size:=by omega
     simp [ZI0,this]
    ·have U:(k==i)=false:=by simpa using q
     rw [getD_set_ne false (fun e=>q e.symm),U,Bool.or_false]
   have l : j4 ops (cF (fun k=>listed.getD k false) i):=xY hc fun o' u e F hb=>by
    rw [c] at u;simp only [ZH3] at u;subst u;exact h3 e F hb
   have own:cF (fun k=>listed.getD k false) i i=true:=by simp [cF]
   by_cases hij:i=j
   ·subst hij
    rw [f] at c;cases c;obtain ⟨L,J⟩:=aKU C R B h f L J _ _ rfl g hc (fun e F hb=>h3 e F hb) p hst;unfold wpOp;simp only [f];rw [aBY hg L];simp only [if_true];refine .inl (JG M (W.now hg.step) hg.step.rel hg.fr J ?_);intro x w' z st hv;exact ⟨[],H',z,v,x,hq,⟨hg.step.trans st,(hg.fr.step st).le (fun d=>.inr rfl),hg.defers⟩,hv,rfl⟩
   ·have Z : i<j:=by
     by_cases b:i<j
     ·exact b
     ·have:=m i (by omega) s _ l own
      unfold cF at this
      rcases ZA1.1 this with h | h
      ·have h:listed.getD j false=true:=h
       rw [hSj] at h; cases h
      ·have:j=i:=by simpa using h
       omega
    have hm' := xT (S:=fun k=>listed.getD k false) s A
    obtain ⟨r,K⟩:=PX C (by omega) h _ (cF (fun k=>listed.getD k false) i) rfl (fun k q G=>by
     unfold cF at G
     rcases ZA1.1 G with h | h
     ·exact g k q h
     ·have:k=i:=by simpa using h
      omega) l
    obtain ⟨p',r',hp',hst',hl⟩:=FY C hc s A K;rw [hst] at hp';simp only [ZH3] at hp';subst hp';refine I3 M W c (t:=p.1) (H:=p.2) hg (hst' o c) ?_;intro z a' w' N;refine aJ8 M W C R B m h f L J hq fuel _ r z a' w' (by simp [hsz]) (by rw [y]; omega) (by rw [y]; exact l) (by rw [getD_set_ne false hij]; exact hSj) (by rw [y]; exact K) ?_;have:=N.like hl.1;rw [hl.2];exact this
theorem aFA:∀ (l:List Oper) (k:Nat) (t:T) (H:List O) (p:T × List O) (t' : T) (H' : List O),ops.toList.drop k=l->eY (t,H) p->(dD cx ops l t H).run=some (.normal,t',H') ->
  ∃ r,runI cx ops (List.range' k l.length) p=some r/\r.2=H' /\ ∀ d,get d t' = get d r.1\/get d t' = .any
 | [],k,t,H,p,t',H',_,hp,h=>by
  simp only [dD,Tree.run,ZH3,Prod.mk.injEq,true_and] at h;obtain ⟨rfl,rfl⟩:=h;refine ⟨p,rfl,hp.2.symm,fun d=>?_⟩
  rcases RS cx.keeps d t with e | e
  ·left; rw [e]; exact hp.1 d
  ·exact .inr e
 | o :: r,k,t,H,p,t',H',hl,hp,h=>by
  have D:ops.toList[k]? = some o:=by
   have:=congrArg (fun l=>l[0]?) hl;simpa using this
  have z : ops[k]? = some o:=by simpa using D
  have E:ops.toList.drop (k+1)=r:=by
   have:=congrArg List.tail hl;simpa [List.tail_drop] using this
  have F:=aFA r (k+1);simp only [List.length_cons,List.range'_succ,runI,z]
  have put:∀ {v t1 H1},eY (t1,H1) (p.1,H1)->(kI cx o v t1 H1 (dD cx ops r)).run=some (.normal,t',H') -> ∃ q,fP cx o v p.1 H1=some q /\
    ∃ s,runI cx ops (List.range' (k+1) r.length) q=some s/\s.2=H' /\ ∀ d,get d t' = get d s.1\/get d t' = .any:=by
   intro v t1 H1 c h;unfold kI at h;split at h
   ·rename_i t2 w
    have y:fP cx o v t1 H1=some (t2,H1):=by unfold fP; rw [w]; rfl
    obtain ⟨q,hq,hq'⟩:=JM (p:=(t1,H1)) (q:=(p.1,H1)) c.1 y;exact ⟨q,hq,F t2 H1 q t' H' E hq' h⟩
   ·cases h
  have A:∀ {t1},eY (t1,H) p->((aP cx t1 H o).bind (mV cx o t1 (dD cx ops r))).run=some (.normal,t',H')->bW ops p.1 o=some true ->
    ∃ q,bT cx ops o p=some q /\ ∃ s,runI cx ops (List.range' (k+1) r.length) q=some s/\s.2=H' /\ ∀ d,get d t' = get d s.1\/get d t' = .any:=by
   intro t1 c h g;obtain ⟨res,hres,m⟩:=bD h
   have B:aP cx p.1 p.2 o=aP cx t1 H o:=by rw [<- c.2]; exact JI fun x _=>(XY c.1 x).symm
   cases res with
   | pan v H1 =>
    simp [mV,Tree.run] at m
   | ok v H1 =>
    obtain ⟨q,hq,hh⟩:=put (v:=v) (t1:=t1) (H1:=H1) ⟨c.1,rfl⟩ m;refine ⟨q,?_,hh⟩;unfold bT;simp only [g,B,hres];exact hq
  have no:∀ {t1},eY (t1,H) p->(kI cx o lJ t1 H (dD cx ops r)).run=some (.normal,t',H')->bW ops p.1 o=some false ->
    ∃ q,bT cx ops o p=some q /\ ∃ s,runI cx ops (List.range' (k+1) r.length) q=some s/\s.2=H' /\ ∀ d,get d t' = get d s.1\/get d t' = .any:=by
   intro t1 c h g;have e:p.2=H:=c.2.symm;obtain ⟨q,hq,hh⟩:=put (v:=lJ) (t1:=t1) (H1:=H) ⟨c.1,rfl⟩ h;refine ⟨q,?_,hh⟩;unfold bT;simp only [g,e];exact hq
  have done:(∃ q,bT cx ops o p=some q /\ ∃ s,runI cx ops (List.range' (k+1) r.length) q=some s/\s.2=H' /\ ∀ d,get d t' = get d s.1\/get d t' = .any) ->
    ∃ s,(match bT cx ops o p with | some q=>runI cx ops (List.range' (k+1) r.length) q | none=>none)=some s/\s.2=H' /\ ∀ d,get d t' = get d s.1\/get d t' = .any:=by
   rintro ⟨q,h1,s,w,y⟩;exact ⟨s,by rw [h1]; exact w,y⟩
  refine done ?_;unfold dD zG at h;split at h
  ·rename_i f
   exact A hp h (by simp [bW,f])
  ·rename_i j i f
   split at h;rotate_left
   ·cases h
   rename_i d m;have u:get d p.1=get d t:=(hp.1 d).symm;split at h
   ·rename_i b hb
    have a:eY (Ab.put d (.bool b) t,H) p:=by
     refine ⟨fun e=>?_,hp.2⟩;simp only [tH];split
     ·rename_i C; subst C; rw [<- hb]; exact hp.1 e
     ·exact hp.1 e
    have g:bW ops p.1 o=some (b==i):=by simp only [bW,f,m,u,hb]
    cases b <;> cases i
    ·exact A a h g
    ·exact no a h g
    ·exact no a h g
    ·exact A a h g
   ·rename_i vs hb
    exact no hp h (by simp only [bW,f,m,u,hb])
   ·cases h
theorem aE2:∀ (l:List Oper) (k:Nat) (t:T) (H:List O) (p:T × List O) (v:V) (t' : T) (H' : List O),ops.toList.drop k=l->eY (t,H) p->(dD cx ops l t H).run=some (.panic v,t',H') ->
  ∃ (m:Nat) (r:T × List O) (o:Oper),ops[k+m]? = some o/\runI cx ops (List.range' k m) p=some r/\bW ops r.1 o=some true/\(aP cx r.1 r.2 o).run=some (.pan v H')
 | [],k,t,H,p,v,t',H',_,hp,h=>by
  simp only [dD,Tree.run,ZH3,Prod.mk.injEq,reduceCtorEq,false_and] at h
 | o :: r,k,t,H,p,u,t',H',hl,hp,h=>by
  have G:ops.toList[k]? = some o:=by
   have:=congrArg (fun l=>l[0]?) hl;simpa using this
  have y : ops[k]? = some o:=by simpa using G
  have J:ops.toList.drop (k+1)=r:=by
   have:=congrArg List.tail hl;simpa [List.tail_drop] using this
  have K:=aE2 r (k+1)
  have next:∀ {q},bT cx ops o p=some q->(∃ (m:Nat) (s:T × List O) (o:Oper),ops[k+1+m]? = some o/\runI cx ops (List.range' (k+1) m) q=some s/\bW ops s.1 o=some true/\(aP cx s.1 s.2 o).run=some (.pan u H')) ->
    ∃ (m:Nat) (s:T × List O) (o:Oper),ops[k+m]? = some o/\runI cx ops (List.range' k m) p=some s/\bW ops s.1 o=some true/\(aP cx s.1 s.2 o).run=some (.pan u H'):=by
   rintro q E ⟨m,s,o',A,B,h4⟩;refine ⟨m+1,s,o',by rw [<- Nat.add_assoc,Nat.add_right_comm]; exact A,?_,h4⟩;simp only [List.range'_succ,runI,y,E];exact B
  have put:∀ {v t1 H1},eY (t1,H1) (p.1,H1)->(kI cx o v t1 H1 (dD cx ops r)).run=some (.panic u,t',H') -> ∃ q,fP cx o v p.1 H1=some q /\
    ∃ (m:Nat) (s:T × List O) (o:Oper),ops[k+1+m]? = some o/\runI cx ops (List.range' (k+1) m) q=some s/\bW ops s.1 o=some true/\(aP cx s.1 s.2 o).run=some (.pan u H'):=by
   intro v t1 H1 c h;unfold kI at h;split at h
   ·rename_i t2 A
    have B:fP cx o v t1 H1=some (t2,H1):=by unfold fP; rw [A]; rfl
    obtain ⟨q,hq,hq'⟩:=JM (p:=(t1,H1)) (q:=(p.1,H1)) c.1 B;exact ⟨q,hq,K t2 H1 q u t' H' J hq' h⟩
   ·cases h
  have C:∀ {t1},eY (t1,H) p->((aP cx t1 H o).bind (mV cx o t1 (dD cx ops r))).run=some (.panic u,t',H')->bW ops p.1 o=some true ->
    ∃ (m:Nat) (s:T × List O) (o:Oper),ops[k+m]? = some o/\runI cx ops (List.range' k m) p=some s/\bW ops s.1 o=some true/\(aP cx s.1 s.2 o).run=some (.pan u H'):=by
   intro t1 c h g;obtain ⟨res,hres,w⟩:=bD h
   have D:aP cx p.1 p.2 o=aP cx t1 H o:=by rw [<- c.2]; exact JI fun x _=>(XY c.1 x).symm
   cases res with
   | pan v H1 =>
    simp only [mV,Tree.run,ZH3,Prod.mk.injEq,AEx.panic.injEq] at w;obtain ⟨rfl,_,rfl⟩:=w;exact ⟨0,p,o,y,rfl,g,by rw [D]; exact hres⟩
   | ok v H1 =>
    obtain ⟨q,hq,hh⟩:=put (v:=v) (t1:=t1) (H1:=H1) ⟨c.1,rfl⟩ w;refine next (q:=q) ?_ hh;unfold bT;simp only [g,D,hres];exact hq
  have no:∀ {t1},eY (t1,H) p->(kI cx o lJ t1 H (dD cx ops r)).run=some (.panic u,t',H')->bW ops p.1 o=some false ->
    ∃ (m:Nat) (s:T × List O) (o:Oper),ops[k+m]? = some o/\runI cx ops (List.range' k m) p=some s/\bW ops s.1 o=some true/\(aP cx s.1 s.2 o).run=some (.pan u H'):=by
   intro t1 c h g;have e:p.2=H:=c.2.symm;obtain ⟨q,hq,hh⟩:=put (v:=lJ) (t1:=t1) (H1:=H) ⟨c.1,rfl⟩ h;refine next (q:=q) ?_ hh;unfold bT;simp only [g,e];exact hq
  unfold dD zG at h;split at h
  ·rename_i f
   exact C hp h (by simp [bW,f])
  ·rename_i j i f
   split at h;rotate_left
   ·cases h
   rename_i d w;have z:get d p.1=get d t:=(hp.1 d).symm;split at h
   ·rename_i b hb
    have a:eY (Ab.put d (.bool b) t,H) p:=by
     refine ⟨fun e=>?_,hp.2⟩;simp only [tH];split
     ·rename_i F; subst F; rw [<- hb]; exact hp.1 e
     ·exact hp.1 e
    have g:bW ops p.1 o=some (b==i):=by simp only [bW,f,w,z,hb]
    cases b <;> cases i
    ·exact C a h g
    ·exact no a h g
    ·exact no a h g
    ·exact C a h g
   ·rename_i vs hb
    exact no hp h (by simp only [bW,f,w,z,hb])
   ·cases h
theorem EN {H:List O} {x v:V} {H' : List O} (h:(hold H x).run=some (.pan v H')):False:=by
 unfold hold at h;cases h
theorem I0 {H:List O} {x:Option V} {v:V} {H' : List O} (h:(kJ H x).run=some (.pan v H')):False:=by
 unfold kJ at h;split at h
 ·cases h
 ·cases h
theorem A3 {α:Type} {x:Tree α} {f:α->Tree Res} (b:∀ (a:α) (v:V) (H' : List O),(f a).run=some (.pan v H')->False) {v:V} {H' : List O} (h:(x.bind f).run=some (.pan v H')):False:=by
 obtain ⟨a,_,h2⟩:=bD h;exact b a _ _ h2
theorem yA {b:Bool} {x y:Tree Res} {v:V} {H' : List O} (a:x.run=some (.pan v H')->False) (c:y.run=some (.pan v H')->False) (h:(cond b x y).run=some (.pan v H')):False:=by
 cases b
 ·exact c h
 ·exact a h
theorem aT5 {f:Nat} {as:List V} {H:List O} {v:V} {H' : List O} (h:(zP cx H f as).run=some (.pan v H')):False:=by
 unfold zP at h;split at h
 ·exact A3 (fun a v H' h=>by cases h) h
 ·cases h
theorem aSM {f:Nat} {as:List V} {H:List O} {v:V} {H' : List O} (h:(lO cx H f as).run=some (.pan v H')):False:=by
 unfold lO at h;simp only at h;split at h;rotate_left
 ·cases h
 split at h;rotate_left
 ·cases h
 refine yA (fun h=>A3 (fun a v H' h=>?_) h) (fun h=>by cases h) h;split at h
 ·unfold AA at h
  exact yA (fun h=>by cases h) (fun h=>by cases h) h
 ·cases h
theorem aWE {o:Oper} (b:XW cx o=true) {t:T} {H:List O} {v:V} {H' : List O} (h:(aP cx t H o).run=some (.pan v H')):False:=by
 unfold XW at b;unfold aP at h
 split at b <;> first | (cases b; done) | (rename_i d; simp only [d] at h)
 all_goals first
  | exact EN h
  | exact I0 h
  | exact A3 (fun a v H' h=>EN h) h
  | (split at h <;> first | exact EN h | exact I0 h | (cases h; done))
  | exact yA (A3 fun a v H' h=>EN h) I0 h
  | exact yA I0 (A3 fun a v H' h=>EN h) h
  | exact yA (A3 fun a v H' h=>by cases h) (fun h=>by split at h <;> cases h) h
  | skip
 rename_i _ g args _
 have c:fR g cx.mtab=false:=by simpa using b
 simp only [rd,oN,lM,c,cond_false] at h;refine yA (fun h=>yA (fun h=>aSM h) (fun h=>aT5 h) h) (fun h=>?_) h;cases h
theorem P6 {m:Nat}:∀ (l r:List Nat),m ∈ kY.union1 l r->m ∈ l\/m ∈ r
 | [],r,h=>.inr h
 | n :: l,r,h=>by
  unfold kY.union1 at h;cases hb:cG n r
  ·rw [hb,cond_false] at h
   rcases P6 l _ h with h | h
   ·exact .inl (ZD2 _ h)
   ·rcases ZE3.1 h with rfl | h
    ·exact .inl ZD1
    ·exact .inr h
  ·rw [hb,cond_true] at h
   rcases P6 l _ h with h | h
   ·exact .inl (ZD2 _ h)
   ·exact .inr h
theorem E8 {n:Nat}:∀ {l:List Nat},cG n l=true->n ∈ l
 | [],h=>by cases h
 | m :: l,h=>by
  unfold cG at h;cases hb:Nat.beq n m
  ·rw [hb,cond_false] at h; exact ZD2 _ (E8 h)
  ·have:=ZG1 hb; subst this; exact ZD1
theorem E2:∀ (l:List Oper) (k:Nat) (acc:List (List Nat)),ops.toList.drop k=l->acc.length=k->(∀ (j:Nat) a,acc[j]? = some a -> ∀ i ∈ a,Anc ops i j) ->
  ∀ (j:Nat) a,(kY l acc)[j]? = some a -> ∀ i ∈ a,Anc ops i j
 | [],k,acc,_,_,h=>h
 | o :: r,k,acc,hl,hk,h=>by
  have w:ops.toList[k]? = some o:=by
   have:=congrArg (fun l=>l[0]?) hl;simpa using this
  have v : ops[k]? = some o:=by simpa using w
  have x:ops.toList.drop (k+1)=r:=by
   have:=congrArg List.tail hl;simpa [List.tail_drop] using this
  unfold kY;refine E2 r (k+1) _ x (by simp [hk]) ?_;intro j a c i hi;rw [sZ] at c;split at c
  ·exact h j a c i hi
  ·split at c
   ·rename_i g
    simp only [ZH3] at c;subst c
    have g:j=k:=by omega
    subst g
    have key:∀ (es:List Edge),(∀ e ∈ es,e ∈ o.after) -> ∀ (s:List Nat),(∀ m ∈ s,Anc ops m j) ->
      ∀ m ∈ es.foldl (fun l e=>cond (Region.binds .any e) (kY.union1 (e.on :: acc.getD e.on []) l) l) s,Anc ops m j:=by
     intro es
     induction es with
     | nil=>intro _ s p m hm; exact p m hm
     | cons e es y =>
      intro f s p m hm;refine y (fun e d=>f e (ZD2 _ d)) _ ?_ m hm;intro m hm;simp only at hm;cases hb:Region.binds .any e
      ·rw [hb,cond_false] at hm; exact p m hm
      ·rw [hb,cond_true] at hm
       rcases P6 _ _ hm with hm | hm
       ·have d:Anc ops e.on j:=fun S q c=>q j o v c e (f e ZD1) hb
        rcases ZE3.1 hm with rfl | hm
        ·exact d
        ·rw [ZG0] at hm
         cases u:acc[e.on]? with
         | none=>rw [u] at hm; cases hm
         | some b =>
          rw [u] at hm;exact fun S q c=>h e.on b u m hm S q (d S q c)
       ·exact p m hm
    exact key o.after.toList (fun e d=>by simpa using d) [] (fun m hm=>by cases hm) i hi
   ·cases c
theorem P3 (f:wP 0 ops.toList=true):∀ (j:Nat) o,ops[j]? = some o -> ∀ e ∈ o.after,Region.binds .any e=true->e.on<j:=by
  have key:∀ (l:List Oper) (k:Nat),ops.toList.drop k=l->wP k l=true -> ∀ (j:Nat) o,l[j]? = some o -> ∀ e ∈ o.after,Region.binds .any e=true->e.on<k+j:=by
   intro l
   induction l with
   | nil=>intro k _ _ j o h; simp at h
   | cons o r p =>
    intro k g hb j o' a e c b;unfold wP at hb;obtain ⟨d,b2⟩:=ZA0.1 hb
    cases j with
    | zero =>
     simp only [List.getElem?_cons_zero,ZH3] at a;subst a;have:=ZE1.1 d e (by simpa using c);rw [b] at this;simp [Nat.blt_eq] at this;omega
    | succ j =>
     have m:ops.toList.drop (k+1)=r:=by
      have:=congrArg List.tail g;simpa [List.tail_drop] using this
     have:=p (k+1) m b2 j o' (by simpa using a) e c b;omega
  intro j o i e c hb;have:=key ops.toList 0 rfl f j o (by simpa using i) e c hb;omega
theorem aUJ:∀ (n:Nat),LK cx ops (kY ops.toList []) n=true -> ∀ i j,i<j->j<n->Anc ops i j\/XD cx ops I i j:=by
 have f:=E2 (ops:=ops) ops.toList 0 [] rfl rfl (fun j a h=>by simp at h);intro n
 induction n with
 | zero=>intro _ i j _ h; omega
 | succ n o =>
  intro g i j c q;unfold LK at g;obtain ⟨p,p2⟩:=ZA0.1 g;by_cases hjn:j=n
  ·subst hjn
   have:=ZE1.1 p i (List.mem_range.2 c)
   rcases ZA1.1 this with h | h
   ·left
    have d:=E8 h;rw [ZG0] at d
    cases e:(kY ops.toList [])[j]? with
    | none=>rw [e] at d; cases d
    | some b=>rw [e] at d; exact f j b e i d
   ·right
    intro x y l m;simp only [l,m] at h;obtain ⟨k,h2⟩:=ZA0.1 h;exact ⟨k,.inl h2⟩
  ·exact o p2 i j c (by omega)
theorem aTR (h:y8 cx ops=true) (k:T × List O):cx.P.follows .mixedOrders=true/\DrawOk cx ops k:=by
 unfold y8 at h;obtain ⟨c,h⟩:=ZA0.1 h;obtain ⟨d,h3⟩:=ZA0.1 h;refine ⟨c,P3 d,fun i j a b=>(aUJ (I:=fun _=>True) ops.size h3 i j a b).imp id fun h l p _ _ x y e f=>?_⟩;obtain ⟨k1,k2⟩:=h x y e f;exact ⟨k1,k2.imp id fun g=>.inl (g p trivial)⟩
def BG (S:lN) (p:T × List O):Prop:=∀ d i,(d,i) ∈ S->GH i (get d p.1)=true
theorem ER {d i:Nat}:∀ {S:lN},rootOf d S=some i->(d,i) ∈ S
 | [],h=>by cases h
 | (e,j) :: r,h=>by
  unfold rootOf at h;cases hb:Nat.beq d e
  ·rw [hb] at h; exact ZD2 _ (ER h)
  ·rw [hb] at h
   have:=ZG1 hb;simp only [cond_true,ZH3] at h;subst this; subst h;exact ZD1
theorem KH {i:Nat} {v:V} (h:GH i v=true):v = .any \/ ∃ o,v = .ptr i o:=by
 unfold GH at h;split at h
 ·exact .inl rfl
 ·have:=ZG1 h
  subst this;exact .inr ⟨_,rfl⟩
 ·cases h
theorem aXQ {S:lN} {x y:Oper} (h:Z8 S x y=true) (p:T × List O) (k:BG S p):GU x y p.1:=by
 unfold Z8 at h;split at h;rotate_left
 ·cases h
 rename_i a b m hb;split at h;rotate_left
 ·cases h
 rename_i i j hi q;refine ⟨_,_,m,hb,fun l r o o' f g e=>?_⟩;subst e;have c:=KH (k _ _ (ER hi));have d:=KH (k _ _ (ER q));have f:get a p.1 = .ptr l o:=f;have g:get b p.1 = .ptr l o' := g;rw [f] at c;rw [g] at d
 rcases c with c | ⟨_,c⟩
 ·cases c
 rcases d with d | ⟨_,d⟩
 ·cases d
 cases c;cases d;simp at h
theorem aS0 {t:T} {H:List O} {S:lN} (h:aI4 ops t S=true):BG S (t,H)/\HC cx ops (BG S):=by
 have r:=ZE1.1 h;refine ⟨fun d i y=>(ZA0.1 (r _ y)).1,?_⟩;intro k o p q s A l d i y;have hw:=(ZA0.1 (r _ y)).2;have hw:=ZE1.1 hw o (Array.mem_toList_iff.2 (Array.mem_of_getElem? s))
 have same:o.dst ≠ some d->GH i (get d q.1)=true:=by
  intro v
  have e:get d q.1=get d p.1:=by
   unfold bT at l;split at l
   ·split at l
    ·exact (jJ l).2.1 d v
    ·cases l
   ·exact (jJ l).2.1 d v
   ·cases l
  rw [e];exact A d i y
 rcases ZA1.1 hw with hw | hw
 ·refine same fun e=>?_
  unfold pC at hw;rw [e] at hw;simp at hw
 ·by_cases hd:o.dst=some d
  rotate_left
  ·exact same hd
  cases a:FB o with
  | none=>rw [a] at hw; cases hw
  | some c =>
   rw [a] at hw;unfold isRoot at hw;simp only at hw
   cases z:rootOf c S with
   | none=>rw [z] at hw; cases hw
   | some j =>
    rw [z] at hw;have:=ZG1 hw;subst this;have b:=KH (A _ _ (ER z))
    have B:o.guard=none:=by
     unfold FB at a;split at a
     ·assumption
     ·cases a
    unfold bT at l;rw [show bW ops p.1 o=some true from by unfold bW; rw [B]] at l;simp only at l
    cases m:(aP cx p.1 p.2 o).run with
    | none=>rw [m] at l; cases l
    | some res =>
     rw [m] at l
     cases res with
     | pan u C=>cases l
     | ok u C =>
      rw [((jJ l).2.2 d hd).1];unfold FB at a;rw [B] at a;simp only at a;unfold aP at m;split at a
      ·rename_i ty c' f s
       simp only [ZH3] at a;subst a;simp only [s,rd] at m;obtain ⟨w,hw,e⟩:=kW m;simp only [Res.ok.injEq] at e;obtain ⟨rfl,rfl⟩:=e
       rcases b with g | ⟨off,g⟩
       ·rw [g] at hw
        unfold ES at hw;split at hw
        ·split at hw
         ·split at hw
          ·rename_i size _ _
           cases x:Nat.beq size 0
           ·rw [x] at hw; cases hw
           ·rw [x] at hw; cases hw
          ·cases hw
         ·cases hw
        ·cases hw
       ·rw [g] at hw
        unfold ES at hw;split at hw
        ·split at hw
         ·split at hw
          ·rename_i size _ _
           cases x:Nat.beq size 0
           ·rw [x] at hw
            simp only [cond_false,ZH3] at hw;subst hw;exact Nat.beq_refl _
           ·rw [x] at hw; cases hw
          ·cases hw
         ·cases hw
        ·cases hw
      ·rename_i c' s
       simp only [ZH3] at a;subst a;simp only [s,rd] at m
       rcases b with g | ⟨off,g⟩
       ·rw [g] at m; cases m
       ·rw [g] at m
        simp only [hold,Tree.run,ZH3,Res.ok.injEq] at m;rw [<- m.1];exact Nat.beq_refl _
      ·rename_i c' s
       simp only [ZH3] at a;subst a;simp only [s,rd,hold,Tree.run,ZH3,Res.ok.injEq] at m;rw [<- m.1]
       rcases b with g | ⟨off,g⟩
       ·rw [g]; rfl
       ·rw [g]; exact Nat.beq_refl _
      ·cases a
theorem aC6 {o:Oper} {p q:T × List O} {d:Nat} (a:bT cx ops o p=some q) (c:pC d o.dst=true):get d q.1=get d p.1:=by
 have b:o.dst ≠ some d:=fun e=>by
  unfold pC at c;rw [e] at c;simp at c
 unfold bT at a;split at a
 ·split at a
  ·exact (jJ a).2.1 d b
  ·cases a
 ·exact (jJ a).2.1 d b
 ·cases a
theorem aTM {o:Oper} {p q:T × List O} (a:bT cx ops o p=some q) (c:quiet cx o=true):q.2=p.2:=by
 unfold bT at a;split at a
 ·split at a
  ·rename_i v H1 b
   rw [(jJ a).1];exact rK c b
  ·cases a
 ·exact (jJ a).1
 ·cases a
theorem P9 {i j:Nat} (d:aI6 cx ops i j=true):∀ (l:List Nat) {p q:T × List O},(∀ k ∈ l,k<j/\k ≠ i)->runI cx ops l p=some q->q.2=p.2
 | [],p,q,_,h=>by simp only [runI,ZH3] at h; subst h; rfl
 | k :: l,p,q,hl,h=>by
  simp only [runI] at h
  cases c:ops[k]? with
  | none=>rw [c] at h; exact P9 d l (fun m b=>hl m (ZD2 _ b)) h
  | some o =>
   rw [c] at h;simp only at h
   cases a:bT cx ops o p with
   | none=>rw [a] at h; cases h
   | some e =>
    rw [a] at h;rw [P9 d l (fun m b=>hl m (ZD2 _ b)) h];obtain ⟨k1,k2⟩:=hl k ZD1;have:=ZE1.1 d k (List.mem_range.2 k1);rw [c] at this
    rcases ZA1.1 this with g | g
    ·exact absurd (ZG1 g) k2
    ·exact aTM a g
def Tree.every {β:Type} (Q:β->Prop):Tree β->Prop
 | .leaf b=>Q b
 | .fail=>True
 | .br _ x y=>x.every Q/\y.every Q
theorem Tree.every_run {β:Type} {Q:β->Prop}:∀ {x:Tree β} {b:β},x.every Q->x.run=some b->Q b
 | .leaf _,_,h,e=>by cases e; exact h
 | .fail,_,_,e=>by cases e
 | .br c x y,b,h,e=>by
  cases c
  ·exact Tree.every_run (x:=y) h.2 e
  ·exact Tree.every_run (x:=x) h.1 e
theorem Tree.every_cond {β:Type} {Q:β->Prop} {c:Bool} {x y:Tree β} (a:x.every Q) (b:y.every Q):(cond c x y).every Q:=by
 cases c
 ·exact b
 ·exact a
def tY (v:V):Prop:=V.ids v=[]
theorem aV5 (c:BinOp) (k:IntKind) (a b:Int):(L2 c k a b).every tY:=by
 cases c <;> first | exact (rfl:V.ids (.int _ _)=[]) | exact (rfl:V.ids (.bool _)=[]) | exact ⟨(rfl:V.ids (.int _ _)=[]),trivial⟩ | exact trivial
theorem aBT (c:BinOp) (k:IntKind) (a b:Int):(JY c k a b).every tY:=by
 cases c <;> first | exact ⟨(rfl:V.ids (.int _ _)=[]),trivial⟩ | exact trivial
theorem aUL (c:BinOp) (a b:List UInt8):(MQ c a b).every tY:=by
 cases c <;> first | exact ⟨(rfl:V.ids (.str _)=[]),trivial⟩ | exact (rfl:V.ids (.bool _)=[]) | exact trivial
theorem a1R (P:Program) (d:BinOp) (t c:TypeId) (k:IntKind) (a:Int) (ty:TypeId) (l:IntKind) (b:Int):(ID P d t c k a ty l b).every tY:=by
 unfold ID;split
 ·rename_i i _ _ _
  cases (Nat.beq c ty&&(i.comparable&&decide (k=l)))
  ·exact trivial
  ·rw [cond_true]
   split
   ·exact (rfl:V.ids (.bool _)=[])
   ·exact (rfl:V.ids (.bool _)=[])
   ·exact trivial
 ·exact trivial
theorem a4T (P:Program) (a:BinOp) (t:TypeId) (x:V):(H5 P a t x).every tY:=by
 unfold H5
 split <;> first | exact (rfl:V.ids (.bool _)=[]) | exact trivial
theorem a3K (P:Program) (a:BinOp) (t:TypeId) (x y:V):(HJ P a t x y).every tY:=by
 unfold HJ;split
 ·split
  ·exact aBT _ _ _ _
  ·exact aBT _ _ _ _
  ·exact Tree.every_cond (aV5 _ _ _ _) trivial
 ·exact aUL _ _ _
 ·split <;> first | exact (rfl:V.ids (.bool _)=[]) | exact trivial
 ·split <;> first | exact (rfl:V.ids (.bool _)=[]) | exact trivial
 ·split
  ·split <;> first | exact (rfl:V.ids (.bool _)=[]) | exact trivial
  ·exact trivial
 ·split
  ·split <;> first | exact (rfl:V.ids (.bool _)=[]) | exact trivial
  ·exact trivial
 ·split
  ·rename_i ms _
   cases ms.isEmpty
   ·exact trivial
   ·rw [cond_true]
    split <;> first | exact (rfl:V.ids (.bool _)=[]) | exact trivial
  ·exact trivial
 ·exact a1R _ _ _ _ _ _ _ _ _
 ·exact trivial
theorem aWS {o:Oper} {op:BinOp} {ty:TypeId} {x y:Operand} {c:TypeId} (b:o.op = .binOp op ty x y c) {t:T} {H:List O} {v:V} {H' : List O} (h:(aP cx t H o).run=some (.ok v H')):tY v:=by
 unfold aP at h;simp only [b] at h;obtain ⟨u,h1,h2⟩:=bD h;simp only [hold,Tree.run,ZH3,Res.ok.injEq] at h2;obtain ⟨rfl,rfl⟩:=h2;cases a:LX y
 ·rw [a,cond_false] at h1
  exact Tree.every_run (a3K _ _ _ _ _) h1
 ·rw [a,cond_true] at h1
  exact Tree.every_run (a4T _ _ _ _) h1
def mT (v:V) (l:List V):Prop:=∃ u,u ∈ l/\V.ids v=V.ids u
theorem mT.cons {v u:V} {l:List V} (h:mT v l):mT v (u :: l):=by
 obtain ⟨w,h1,h2⟩:=h;exact ⟨w,ZD2 _ h1,h2⟩
def MI (cx:Cx) (x:Op):Prop:=(∃ c ty d e f,x = .binOp c ty d e f)\/(∃ ty a,x = .load ty a/\oU cx.lz a=true) \/
 ∃ g args b,x = .call { callee:=.value (.func g),args:=args,argTypes:=b } /\ (cG g cx.nums&&(fR g cx.rtab&&!(fR g cx.mtab)))=true
theorem aU6 (P:Program) (H:List O) (t:TypeId) (a:V):(rV P H t a).every tY:=by
 unfold rV;split
 ·split
  ·exact ⟨(rfl:V.ids (.int _ _)=[]),trivial⟩
  ·refine Tree.every_cond ⟨(rfl:V.ids (.int _ _)=[]),trivial⟩ trivial
  ·exact trivial
 ·exact trivial
theorem aW7 {o:Oper} (c:MI cx o.op) {t:T} {H:List O} {v:V} {H' : List O} (h:(aP cx t H o).run=some (.ok v H')):tY v:=by
 rcases c with ⟨_,_,_,_,_,c⟩ | ⟨ty,a,c,hz⟩ | ⟨g,args,ats,c,hz⟩
 ·exact aWS c h
 ·unfold aP at h
  simp only [c,hz,cond_true] at h;obtain ⟨u,h1,b⟩:=bD h;simp only [hold,Tree.run,ZH3,Res.ok.injEq] at b;obtain ⟨rfl,rfl⟩:=b;exact Tree.every_run (aU6 _ _ _ _) h1
 ·simp only [Bool.and_eq_true,Bool.not_eq_true'] at hz
  obtain ⟨f,z2,z3⟩:=hz;unfold aP at h;simp only [c] at h;unfold oN at h;simp only [rd] at h;rw [show (Nat.beq (#[]:Array Value).size 0&&Nat.beq (#[]:Array Value).size 0)=true from rfl,cond_true] at h;unfold lM at h;rw [z3,z2,cond_false,cond_true] at h;unfold lO at h;simp only at h;split at h;rotate_left
  ·cases h
  split at h;rotate_left
  ·cases h
  generalize fU _=d at h;cases d
  ·cases h
  rw [cond_true] at h;obtain ⟨u,h1,b⟩:=bD h;split at b;rotate_left
  ·cases b
  have e:=(J8 b).1;cases e;exact a17 b f
theorem aBI {t:T} {d:Nat} {o:Oper} {acc:Option (List V)} {l:List V} (h:FK cx ops t d o acc=some l) :
  ∃ l',acc=some l' /\ ((pC d o.dst=true/\l=l')\/(pC d o.dst=false/\o.guard=none/\((∃ y,o.op = .move y/\yN ops y=true/\l=rd t y :: l')\/(MI cx o.op/\l = .any :: l')))):=by
 unfold FK at h;split at h
 ·cases h
 ·rename_i l'
  refine ⟨l',rfl,?_⟩;cases i:pC d o.dst
  ·rw [i,cond_false] at h
   split at h
   ·rename_i y c b
    cases f:yN ops y
    ·rw [f] at h; cases h
    ·rw [f] at h; cases h; exact .inr ⟨rfl,c,.inl ⟨y,b,f,rfl⟩⟩
   ·rename_i c b
    cases h;exact .inr ⟨rfl,c,.inr ⟨.inl ⟨_,_,_,_,_,b⟩,rfl⟩⟩
   ·rename_i ty a c b
    cases e:oU cx.lz a
    ·rw [e] at h; cases h
    ·rw [e] at h
     cases h;exact .inr ⟨rfl,c,.inr ⟨.inr (.inl ⟨_,_,b,e⟩),rfl⟩⟩
   ·rename_i g args j c b
    cases e:(cG g cx.nums&&(fR g cx.rtab&&!(fR g cx.mtab)))
    ·rw [e] at h; cases h
    ·rw [e] at h
     cases h;exact .inr ⟨rfl,c,.inr ⟨.inr (.inr ⟨_,_,_,b,e⟩),rfl⟩⟩
   ·cases h
  ·rw [i] at h
   cases h;exact .inl ⟨rfl,rfl⟩
theorem aS4 {t:T} {x:Operand} {l:List V} (h:tJ cx ops t x=some l):mT (rd t x) l:=by
 cases x with
 | tmp d =>
  unfold tJ at h
  have key:∀ (os:List Oper) (l:List V),os.foldr (FK cx ops t d) (some [get d t])=some l->mT (get d t) l:=by
   intro os
   induction os with
   | nil=>intro l h; cases h; exact ⟨_,ZD1,rfl⟩
   | cons o os b =>
    intro l h;rw [List.foldr_cons] at h;obtain ⟨l',hl',g⟩:=aBI h;have a:=b l' hl'
    rcases g with ⟨_,rfl⟩ | ⟨_,_,⟨y,_,_,rfl⟩ | ⟨_,rfl⟩⟩
    ·exact a
    ·exact a.cons
    ·exact a.cons
  exact key _ _ h
 | const v=>unfold tJ at h; cases h; exact ⟨_,ZD1,rfl⟩
 | global g=>unfold tJ at h; cases h; exact ⟨_,ZD1,rfl⟩
 | func f=>unfold tJ at h; cases h; exact ⟨_,ZD1,rfl⟩
theorem aRB {t:T} {d:Nat} {l:List V} (h:tJ cx ops t (.tmp d)=some l) {o:Oper} (j:o ∈ ops.toList) (i:pC d o.dst=false) :
  o.guard=none/\((∃ y,o.op = .move y/\yN ops y=true/\mT (rd t y) l)\/(MI cx o.op/\mT .any l)):=by
 unfold tJ at h
 have key:∀ (os:List Oper) (l:List V),os.foldr (FK cx ops t d) (some [get d t])=some l->o ∈ os ->
   o.guard=none/\((∃ y,o.op = .move y/\yN ops y=true/\mT (rd t y) l)\/(MI cx o.op/\mT .any l)):=by
  intro os
  induction os with
  | nil=>intro l h hm; cases hm
  | cons o' os k =>
   intro l h hm;rw [List.foldr_cons] at h;obtain ⟨l',hl',g⟩:=aBI h
   rcases ZE3.1 hm with rfl | hm
   ·rcases g with ⟨g,_⟩ | ⟨_,hg,⟨y,a,hf,rfl⟩ | ⟨a,rfl⟩⟩
    ·rw [i] at g; cases g
    ·exact ⟨hg,.inl ⟨y,a,hf,_,ZD1,rfl⟩⟩
    ·exact ⟨hg,.inr ⟨a,_,ZD1,rfl⟩⟩
   ·obtain ⟨e,f⟩:=k l' hl' hm
    refine ⟨e,?_⟩
    have up:∀ v,mT v l' -> mT v l:=by
     intro v c
     rcases g with ⟨_,rfl⟩ | ⟨_,_,⟨y,_,_,rfl⟩ | ⟨_,rfl⟩⟩
     ·exact c
     ·exact c.cons
     ·exact c.cons
    rcases f with ⟨y,b,a2,a3⟩ | ⟨b,a2⟩
    ·exact .inl ⟨y,b,a2,up _ a3⟩
    ·exact .inr ⟨b,up _ a2⟩
 exact key _ _ h j
theorem R9 {t:T} {H:List O} {x:Operand} {l:List V} (h:tJ cx ops t x=some l):∀ (k:List Nat) {p q:T × List O},(∀ y,yN ops y=true->rd p.1 y=rd t y)->mT (rd p.1 x) l->runI cx ops k p=some q->mT (rd q.1 x) l
 | [],p,q,_,hx,a=>by simp only [runI,ZH3] at a; subst a; exact hx
 | i :: k,p,q,hp,hx,a=>by
  simp only [runI] at a
  cases m:ops[i]? with
  | none=>rw [m] at a; exact R9 (H:=H) h k hp hx a
  | some o =>
   rw [m] at a;simp only at a
   cases b:bT cx ops o p with
   | none=>rw [b] at a; cases a
   | some s =>
    rw [b] at a;have u:o ∈ ops.toList:=Array.mem_toList_iff.2 (Array.mem_of_getElem? m)
    have j:∀ y,yN ops y=true->rd s.1 y=rd t y:=by
     intro y z;rw [<- hp y z]
     cases y with
     | tmp d=>exact aC6 b (ZE1.1 z o u)
     | _=>rfl
    refine R9 (H:=H) h k j ?_ a
    cases x with
    | tmp d =>
     cases c:pC d o.dst
     ·obtain ⟨A,f⟩:=aRB h u c
      have e:o.dst=some d:=by
       unfold pC at c;split at c
       ·rename_i e' B
        have:Nat.beq e' d=true:=by simpa using c
        rw [B,ZG1 this]
       ·cases c
      show mT (get d s.1) l;unfold bT at b;rw [show bW ops p.1 o=some true from by unfold bW; rw [A]] at b
      rcases f with ⟨y,f,g3,g4⟩ | ⟨f,w,g4,g5⟩
      ·have g:(aP cx p.1 p.2 o).run=some (.ok (rd p.1 y) p.2):=by
        unfold aP;simp only [f];rfl
       simp only [g] at b;rw [((jJ b).2.2 d e).1,hp y g3];exact g4
      ·cases a:(aP cx p.1 p.2 o).run with
       | none=>simp only [a] at b; cases b
       | some r =>
        cases r with
        | pan v H' => simp only [a] at b; cases b
        | ok v H' =>
         simp only [a] at b;rw [((jJ b).2.2 d e).1];refine ⟨w,g4,?_⟩;rw [<- g5];exact aW7 f a
     ·show mT (get d s.1) l
      rw [aC6 b c];exact hx
    | _=>exact hx
theorem aBM {t:T} {H:List O}:∀ {as:List Operand} {m:List (List V)},KN cx ops t as=some m -> ∀ (b:List Nat) {p:T × List O},runI cx ops b (t,H)=some p -> ∃ a,a ∈ m/\V.idss (as.map (rd p.1))=V.idss a
 | [],m,h,b,p,hr=>by cases h; exact ⟨[],ZD1,rfl⟩
 | x :: as,m,h,b,p,hr=>by
  unfold KN at h;split at h;rotate_left
  ·cases h
  rename_i l e c d;cases h;obtain ⟨u,h1,h2⟩:=R9 (H:=H) c b (fun _ _=>rfl) (aS4 c) hr;obtain ⟨a,h3,h4⟩:=aBM d b hr;refine ⟨u :: a,List.mem_flatMap.2 ⟨u,h1,List.mem_map.2 ⟨a,h3,rfl⟩⟩,?_⟩;show V.ids (rd p.1 x)++V.idss (as.map (rd p.1))=V.ids u++V.idss a;rw [h2,h4]
theorem aBO {S:lN} {t:T} {H:List O} {x y:Oper} {p:T × List O} (h:J6 cx ops S t H x y=true) (s:BG S p) (l:p.2=H) {j:List Nat} (u:runI cx ops j (t,H)=some p):yX cx x y p:=by
 unfold J6 at h;obtain ⟨k,h⟩:=ZA0.1 h;split at h;rotate_left
 ·cases h
 rename_i a as o q;split at h;rotate_left
 ·cases h
 rename_i i m hi r;obtain ⟨d,h4⟩:=ZA0.1 h;refine ⟨k,_,as,o,q,fun f o' b => ?_⟩;have g:=KH (s _ _ (ER hi));have b : get a p.1 = .ptr f o' := b;rw [b] at g
 have e:f = i:=by
  rcases g with g | ⟨_,g⟩
  ·cases g
  ·cases g; rfl
 subst e;obtain ⟨v,hus,hids⟩:=aBM r j u;have c:=ZE1.1 h4 _ hus;rw [l,hids];refine ⟨?_,by simpa using c⟩;rw [Nat.blt_eq] at d;exact d
theorem aTG {S:lN} {t:T} {H:List O} (v:BG S (t,H)) (u:HC cx ops (BG S)):∀ (n:Nat),JX cx ops (kY ops.toList []) S t H n=true -> ∀ i j,i<j->j<n ->
  Anc ops i j \/ ∀ l p,(∀ k ∈ l,k<j/\k ≠ i)->runI cx ops l (t,H)=some p->TurnsAt cx ops i j p:=by
 have o:=E2 (ops:=ops) ops.toList 0 [] rfl rfl (fun j a h=>by simp at h);intro n
 induction n with
 | zero=>intro _ i j _ h; omega
 | succ n B =>
  intro r i j d E;unfold JX at r;obtain ⟨C,p2⟩:=ZA0.1 r;by_cases hjn:j=n
  ·subst hjn
   have:=ZE1.1 C i (List.mem_range.2 d)
   rcases ZA1.1 this with h | h
   ·left
    have e:=E8 h;rw [ZG0] at e
    cases m:(kY ops.toList [])[j]? with
    | none=>rw [m] at e; cases e
    | some b=>rw [m] at e; exact o j b m i e
   ·right
    intro l p w c x y z A;simp only [z,A] at h;obtain ⟨s,h2⟩:=ZA0.1 h;refine ⟨s,(ZA1.1 h2).imp id fun h=>?_⟩;have f:=QE u l v c
    rcases ZA1.1 h with h | h
    ·exact .inl (aXQ h p f)
    ·right
     obtain ⟨D,q2⟩:=ZA0.1 h;have q:=P9 D l w c;exact (ZA1.1 q2).imp (fun g=>aBO g f q c) (fun g=>aBO g f q c)
  ·exact B p2 i j d (by omega)
theorem aRU {t:T} {H:List O} (h:yW cx ops t H=true):cx.P.follows .mixedOrders=true/\DrawOk cx ops (t,H):=by
 unfold yW at h;obtain ⟨e,h⟩:=ZA0.1 h;obtain ⟨f,h⟩:=ZA0.1 h;obtain ⟨a,b⟩:=ZA0.1 h;generalize BZ ops.toList (GM t)=S at a b;obtain ⟨g,r2⟩:=aS0 (cx:=cx) (H:=H) a;exact ⟨e,P3 f,fun i j c d=>aTG g r2 ops.size b i j c d⟩
theorem aSF {t:T} {H:List O} (h:(y8 cx ops || yW cx ops t H)=true):cx.P.follows .mixedOrders=true/\DrawOk cx ops (t,H):=by
 rcases ZA1.1 h with h | h
 ·exact aTR h _
 ·exact aRU h
variable {P:Program} {n:Nat} {Q:AEx->T->List O->Prop} {t:T} {H:List O}
theorem a4A (M:cx.P=P) (S:cx.n=n) (L:aW cx) {id:Nat} (h:(aK cx (.region id ops true) t H).all (fun s=>Q s.1 s.2.1 s.2.2)) :
  aI P n (.region id ops true) Q t H:=by
 subst M;subst S;simp only [aK,cond_true] at h;cases F:(y8 cx ops || yW cx ops t H)
 ·rw [F] at h; exact h.elim
 rw [F,cond_true] at h;obtain ⟨l,hok⟩:=aSF (H:=H) F;obtain ⟨s,hs1,hs2⟩:=Tree.all_run h;obtain ⟨s',h1,f⟩:=bD hs1;obtain ⟨e,t',H'⟩:=s'
 cases e with
 | normal =>
  simp only [zO,Tree.run,ZH3] at f;subst f;obtain ⟨r,q,r2,r3⟩:=aFA (cx:=cx) (ops:=ops) ops.toList 0 t H (t,H) t' H' rfl (.refl _) h1
  have q:runI cx ops (List.range ops.size) (t,H)=some r:=by simpa [List.range_eq_range'] using q
  intro E A u w0 D β a w K d;refine wp_region_any l ?_
  have p : Good E A u w0 cx.n D t H β a { w with drawn:=w.drawn+1 }:=
   have st:=Step.heap_same (w' := { w with drawn:=w.drawn+1 }) d.step.rel rfl rfl rfl rfl
   ⟨d.step.trans st,d.fr.step st,d.defers⟩
  have c:(fun i=>(Array.replicate ops.size false).getD i false)=fun _=>false:=by
   funext i
   rw [ZI0,Array.getElem?_replicate];split <;> rfl
  refine aFF L K hok q (Q:=Q) ?_ ops.size _ (t,H) β a _ (by simp) ?_ ?_ ?_ p
  ·intro β a w d
   refine ⟨t',H',β,hs2,?_⟩;rw [r2] at d;exact ⟨d.step,d.fr.le r3,d.defers⟩
  ·rw [c]; unfold missing
   have:(List.range ops.size).filter (fun _=>!false)=List.range ops.size:=List.filter_eq_self.2 (fun _ _=>rfl);rw [this]; simp
  ·rw [c]; intro j o _ x; cases x
  ·rw [c]
   have:(List.range ops.size).filter (fun _=>false)=[]:=by simp
   unfold nA;rw [this]; rfl
 | exit _=>cases f
 | ret=>cases f
 | panic v =>
  simp only [zO] at f;cases J:MO cx ops
  ·rw [J] at f; cases f
  rw [J,cond_true] at f;simp only [Tree.run,ZH3] at f;subst f;obtain ⟨j,r,o,y,q,hw,hdp⟩:=aE2 (cx:=cx) (ops:=ops) ops.toList 0 t H (t,H) v t' H' rfl (.refl _) h1;rw [Nat.zero_add] at y
  have q:runI cx ops (List.range j) (t,H)=some r:=by simpa [List.range_eq_range'] using q
  have x:j<ops.size:=(ZI1.1 y).1
  have m:ZA cx ops (kY ops.toList []) ops.size j=true:=by
   have:=ZE1.1 J j (List.mem_range.2 x);rw [y] at this
   rcases ZA1.1 this with g | g
   ·exact (aWE g hdp).elim
   ·exact g
  have C:=E2 (ops:=ops) ops.toList 0 [] rfl rfl (fun j a h=>by simp at h)
  have z:∀ i k,cG i ((kY ops.toList []).getD k [])=true->Anc ops i k:=by
   intro i k l;have l:=E8 l;rw [ZG0] at l
   cases B:(kY ops.toList [])[k]? with
   | none=>rw [B] at l; cases l
   | some b=>rw [B] at l; exact C k b B i l
  unfold ZA at m;obtain ⟨c1,c2⟩:=ZA0.1 m;intro E A u w0 D β a w K d;refine wp_region_any l ?_
  have p : Good E A u w0 cx.n D t H β a { w with drawn:=w.drawn+1 }:=
   have st:=Step.heap_same (w' := { w with drawn:=w.drawn+1 }) d.step.rel rfl rfl rfl rfl
   ⟨d.step.trans st,d.fr.step st,d.defers⟩
  have c:(fun i=>(Array.replicate ops.size false).getD i false)=fun _=>false:=by
   funext i
   rw [ZI0,Array.getElem?_replicate];split <;> rfl
  refine aJ8 L K hok x (fun k N=>(ZA1.1 (ZE1.1 c1 k (List.mem_range.2 N))).imp (z k j) fun g o y=>by rw [y] at g; exact g) (fun k R G=>?_) q y hw hdp (Q:=Q) hs2 ops.size _ (t,H) β a _ (by simp) ?_ ?_ ?_ ?_ p
  ·have:=ZE1.1 c2 k (List.mem_range.2 G)
   rcases ZA1.1 this with g | g
   ·have:=ZG2 g
    omega
   ·exact z j k g
  ·rw [c]; unfold missing
   have:(List.range ops.size).filter (fun _=>!false)=List.range ops.size:=List.filter_eq_self.2 (fun _ _=>rfl);rw [this]; simp
  ·rw [c]; intro j o _ x; cases x
  ·exact congrFun c j
  ·rw [c]
   have:(List.range ops.size).filter (fun _=>false)=[]:=by simp
   unfold nA;rw [this]; rfl
theorem kD {cx:Cx} (f:cx.P=P) (k:cx.n=n) (g:aW cx):∀ (c:Code) (Q:AEx->T->List O->Prop) (t:T) (H:List O),
  (aK cx c t H).all (fun s=>Q s.1 s.2.1 s.2.2)->aI P n c Q t H
 | .skip,Q,t,H,h=>a36 h
 | .region id ops draw,Q,t,H,h=>by
  cases draw
  ·exact aWH f k g h
  ·exact a4A f k g h
 | .seq a b,Q,t,H,h=>by
  refine cL (kD f k g a _ t H ?_);obtain ⟨s,hs1,hs2⟩:=Tree.all_run h;obtain ⟨s',h1,h2⟩:=bD hs1;refine Tree.gH h1 ?_;obtain ⟨e,t',H'⟩:=s'
  cases e with
  | normal=>exact kD f k g b Q t' H' (Tree.gH h2 hs2)
  | exit id=>simp only [oY,Tree.run,ZH3] at h2; subst h2; exact hs2
  | ret=>simp only [oY,Tree.run,ZH3] at h2; subst h2; exact hs2
  | panic v=>simp only [oY,Tree.run,ZH3] at h2; subst h2; exact hs2
 | .cond c a b,Q,t,H,h=>by
  unfold aK at h;split at h
  ·rename_i d
   split at h
   ·rename_i v l
    exact a1E l (fun e=>kD f k g a Q _ H (h.1 e)) (fun e=>kD f k g b Q _ H (h.2 e))
   ·exact h.elim
  ·split at h
   ·rename_i v l
    exact aYZ l (fun e=>kD f k g a Q _ H (h.1 e)) (fun e=>kD f k g b Q _ H (h.2 e))
   ·exact h.elim
 | .block id c,Q,t,H,h=>by
  refine mA (kD f k g c _ t H ?_);obtain ⟨s,hs1,hs2⟩:=Tree.all_run h;obtain ⟨s',h1,h2⟩:=bD hs1;refine Tree.gH h1 ?_;obtain ⟨e,t',H'⟩:=s'
  cases e with
  | exit j =>
   simp only [y9,Tree.run,ZH3] at h2;subst h2;simp only [vV];by_cases hj:j=id
   ·subst hj; simpa using hs2
   ·simpa [hj,SZ hj] using hs2
  | normal=>simp only [y9,Tree.run,ZH3] at h2; subst h2; exact hs2
  | ret=>simp only [y9,Tree.run,ZH3] at h2; subst h2; exact hs2
  | panic v=>simp only [y9,Tree.run,ZH3] at h2; subst h2; exact hs2
 | .exit id,Q,t,H,h=>a1Z h
 | .ret,Q,t,H,h=>a5E h
 | .loop c,Q,t,H,h=>by
  have round:=kD f k g c;have h:(CL (aK cx c) cx.fuel t H).all (fun s=>Q s.1 s.2.1 s.2.2):=h;refine JU (α:={ s:Nat × T × List O // (CL (aK cx c) s.1 s.2.1 s.2.2).all (fun s=>Q s.1 s.2.1 s.2.2) }) (fun i=>i.1.2) (fun i=>i.1.1) ?_ ⟨(cx.fuel,t,H),h⟩;rintro ⟨⟨m,t',H'⟩,hm⟩
  cases m with
  | zero=>exact hm.elim
  | succ m =>
   refine round _ t' H' ?_;obtain ⟨s,hs1,hs2⟩:=Tree.all_run hm;obtain ⟨s',h1,h2⟩:=bD hs1;refine Tree.gH h1 ?_;obtain ⟨e,t2,H2⟩:=s'
   cases e with
   | normal=>exact ⟨⟨(m,t2,H2),Tree.gH h2 hs2⟩,Nat.lt_succ_self m,fun _=>.inl rfl,rfl⟩
   | exit id=>simp only [oY,Tree.run,ZH3] at h2; subst h2; exact hs2
   | ret=>simp only [oY,Tree.run,ZH3] at h2; subst h2; exact hs2
   | panic v=>simp only [oY,Tree.run,ZH3] at h2; subst h2; exact hs2
 | .rangeFunc ..,_,_,_,h=>h.elim
 | .scope _,_,_,_,h=>h.elim
 | .label _,_,_,_,h=>h.elim
 | .goto _,_,_,_,h=>h.elim
 | .refuse _,_,_,_,h=>h.elim
theorem aWU {cx:Cx} {f:Nat} {fn:Func} {c:Code} {args:List V} {out:V} (hP:cx.P=P) (hT:aW cx) (hf:P.funcs[f]? = some fn) (hb:fn.body=some c)
  (hname : fn.name ≠ "runtime.NumGoroutine") (hn : Nat.ble args.length fn.ntmps = true) (h : (a7 cx fn args).run = some out) : jS P f args out := by
 subst hP;refine aG8 hf hb hname (ZG2 hn) ?_;unfold a7 at h;rw [hb] at h;obtain ⟨s,h1,h2⟩:=bD h;refine kD (cx:={ cx with n:=fn.ntmps }) rfl rfl hT c _ _ _ (Tree.gH h1 ?_);obtain ⟨e,t,H⟩:=s
 have ans:(match hD cx.P fn.results.toList H t with | some v=>Tree.leaf v | none=>.fail).run=some out->hD cx.P fn.results.toList H t=some out:=by
  intro h
  cases hv:hD cx.P fn.results.toList H t with
  | none=>rw [hv] at h; cases h
  | some v=>rw [hv] at h; simpa [Tree.run] using h
 cases e with
 | normal=>exact ⟨.inr rfl,ans h2⟩
 | ret=>exact ⟨.inl rfl,ans h2⟩
 | exit id=>cases h2
 | panic v=>cases h2
end
end Go.Ab
