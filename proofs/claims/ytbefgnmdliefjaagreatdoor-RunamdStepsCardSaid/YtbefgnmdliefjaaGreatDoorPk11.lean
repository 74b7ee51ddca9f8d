/-
  The engine, part Yh: a region that draws its order; what may be turned is not tried twice. Conditions: none.
-/
import Derived.Test.YtbefgnmdliefjaaGreatDoorPk10
import Derived.Maps.RangeRun
import Derived.LoopN
open Bool renaming and_eq_true_iff→ZA0
open List renaming getElem?_append_left→ZB0,getElem?_append_right→ZB1,getElem?_eq_some_iff→ZB2,getElem?_eq_getElem→ZB3,getElem?_map→ZC0,mem_cons_self→ZD1,length_cons→ZD3,mem_cons→ZE3,length_map→ZF0,length_take→ZF2
open Option renaming bind_some→ZH1
open Option.some renaming injEq→ZH3
open Array renaming getD_eq_getD_getElem?→ZI0
set_option linter.unusedVariables false
set_option linter.unusedSimpArgs false
namespace Go.Ab
def aNL (cx:Cx) (ops:Array Oper) (a:List (List Nat)) (listed:Array Bool) (i:Nat):Bool:=
 (List.range ops.size).all fun j=>listed.getD j false || (Nat.beq j i || (cG i (a.getD j []) || (match ops[i]?,ops[j]? with
  | some x,some y=>x.apart ops y&&yV cx x y
  | _,_=>true)))
def wO (cx:Cx) (ops:Array Oper) (a:List (List Nat)):Nat->Array Bool->T × List O->Option (List (T × List O))
 | 0,listed,p=>cond (Region.ready .any ops listed).isEmpty (some [p]) none
 | fuel+1,listed,p=>match (Region.ready .any ops listed).find? (aNL cx ops a listed) with
  | some i=>match ops[i]? with
   | some o=>match bT cx ops o p with
    | some q=>wO cx ops a fuel (listed.setIfInBounds i true) q
    | none=>none
   | none=>none
  | none=>cond (Region.ready .any ops listed).isEmpty none
   ((Region.ready .any ops listed).foldr (fun i acc=>match acc,ops[i]? with
    | some l,some o=>match bT cx ops o p with
     | some q=>match wO cx ops a fuel (listed.setIfInBounds i true) q with
      | some m=>some (m++l)
      | none=>none
     | none=>none
    | _,_=>none) (some []))
inductive Compl (ops:Array Oper):Array Bool->List Nat->Prop
 | nil {listed:Array Bool}:Region.ready .any ops listed=[]->Compl ops listed []
 | cons {listed:Array Bool} {i:Nat} {l:List Nat}:i ∈ Region.ready .any ops listed->Compl ops (listed.setIfInBounds i true) l->Compl ops listed (i :: l)
section
variable {cx:Cx} {ops:Array Oper}
def gV (listed:Array Bool):Nat->Bool:=fun j=>listed.getD j false
theorem BI {listed:Array Bool} {i:Nat} (hi:i<listed.size):gV (listed.setIfInBounds i true)=cF (gV listed) i:=by
 funext j
 unfold cF gV;by_cases hj:j=i
 ·subst hj
  simp [ZI0,hi]
 ·have a:(j==i)=false:=by simpa using hj
  rw [getD_set_ne false (fun e=>hj e.symm),a,Bool.or_false]
theorem qL {listed:Array Bool} {i:Nat} (h:i ∈ Region.ready .any ops listed):i<ops.size:=by
 obtain ⟨_,o,ho,_⟩:=mem_ready.1 h;exact (Array.getElem?_eq_some_iff.1 ho).1
theorem EU {listed:Array Bool} {i:Nat} (c:listed.size=ops.size) (h:i ∈ Region.ready .any ops listed):gV listed i=false:=by
 have b:=qL h;obtain ⟨a,_⟩:=mem_ready.1 h;unfold gV;rw [ZI0] at a ⊢
 have:i<listed.size:=by omega
 simp [this] at a ⊢;exact a
theorem I5 {listed:Array Bool} {i:Nat} (d:listed.size=ops.size) (b:j4 ops (gV listed)) (h:i ∈ Region.ready .any ops listed):j4 ops (gV (listed.setIfInBounds i true)):=by
 rw [BI (by rw [d]; exact qL h)];obtain ⟨_,o,ho,h3⟩:=mem_ready.1 h
 exact xY b fun o' a e c hb=>by
  rw [ho] at a;simp only [ZH3] at a;subst a;exact h3 e c hb
theorem aC7 {listed:Array Bool} {i j:Nat} (h:i ∈ Region.ready .any ops listed) (c:j ≠ i):i ∈ Region.ready .any ops (listed.setIfInBounds j true):=by
 obtain ⟨a,o,ho,h3⟩:=mem_ready.1 h;exact mem_ready.2 ⟨by rw [getD_set_ne true c]; exact a,o,ho,fun e b hb=>getD_set_true (h3 e b hb)⟩
theorem aYJ {listed:Array Bool} {i j:Nat} (a:listed.size=ops.size) (e:j4 ops (gV listed)) (hi:i ∈ Region.ready .any ops listed) (b:j ∈ Region.ready .any ops listed) (c:j ≠ i):¬ Anc ops i j:=by
 intro d;have:=d _ (I5 a e b) (by rw [BI (by rw [a]; exact qL b)]; simp [cF]);rw [BI (by rw [a]; exact qL b)] at this;unfold cF at this;rw [EU a hi,Bool.false_or] at this;exact c (by simpa using this:i=j).symm
theorem aTF {listed:Array Bool} {l:List Nat} (h:Compl ops listed l):∀ {i:Nat},listed.size=ops.size->j4 ops (gV listed)->i ∈ Region.ready .any ops listed ->
  ∃ A B,l=A++i :: B/\Compl ops (listed.setIfInBounds i true) (A++B) /\ ∀ j ∈ A,j ≠ i/\j<ops.size/\gV listed j=false/\¬ Anc ops i j:=by
 induction h with
 | nil g =>
  intro i _ _ hi;rw [g] at hi; cases hi
 | @cons listed j l a m o =>
  intro i c b hi;by_cases hji:j=i
  ·subst hji
   exact ⟨[],l,rfl,m,fun j a=>by cases a⟩
  ·obtain ⟨A,B,rfl,h2,h3⟩:=o (i:=i) (by simpa using c) (I5 c b a) (aC7 hi hji)
   refine ⟨j :: A,B,rfl,.cons (aC7 a (fun e=>hji e.symm)) ?_,fun k d=>?_⟩
   ·rw [Array.setIfInBounds_comm _ _ (fun e=>hji e.symm)]
    exact h2
   ·rcases ZE3.1 d with rfl | d
    ·exact ⟨hji,qL a,EU c a,aYJ c b hi a hji⟩
    ·obtain ⟨f,g2,g3,g4⟩:=h3 k d
     refine ⟨f,g2,?_,g4⟩;rw [BI (by rw [c]; exact qL a)] at g3;unfold cF at g3;exact (Bool.or_eq_false_iff.1 g3).1
theorem aU8 {b:List (List Nat)} {listed:Array Bool} {i:Nat} (e:∀ (j:Nat) a,b[j]? = some a -> ∀ k ∈ a,Anc ops k j) (h:aNL cx ops b listed i=true) {j:Nat} (o:j<ops.size) (f:j ≠ i)
  (q:gV listed j=false) (p:¬ Anc ops i j):XD cx ops (fun _=>True) i j:=by
 intro x y r s;have:=List.all_eq_true.1 h j (List.mem_range.2 o);rw [r,s] at this;have g:listed.getD j false=false:=q
 have l:Nat.beq j i=false:=by
  cases hb:Nat.beq j i
  ·rfl
  ·exact absurd (Nat.eq_of_beq_eq_true hb) f
 have m:cG i (b.getD j [])=false:=by
  cases hb:cG i (b.getD j [])
  ·rfl
  ·have c:=E8 hb
   rw [List.getD_eq_getElem?_getD] at c
   cases d:b[j]? with
   | none=>rw [d] at c; cases c
   | some a=>rw [d] at c; exact absurd (e j a d i c) p
 rw [g,l,m,Bool.false_or,Bool.false_or,Bool.false_or,Bool.and_eq_true] at this;exact ⟨this.1,.inl this.2⟩
theorem aWD:HC cx ops (fun _=>True):=fun _ _ _ _ _ _ _=>trivial
theorem aDE {b:List (List Nat)} {fuel:Nat} {listed:Array Bool} {p:T × List O}:∀ (is:List Nat) (l:List (T × List O)),
  is.foldr (fun i acc=>match acc,ops[i]? with
   | some l,some o=>match bT cx ops o p with
    | some q=>match wO cx ops b fuel (listed.setIfInBounds i true) q with
     | some m=>some (m++l)
     | none=>none
    | none=>none
   | _,_=>none) (some [])=some l ->
  ∀ i ∈ is,∃ o q m,ops[i]? = some o/\bT cx ops o p=some q/\wO cx ops b fuel (listed.setIfInBounds i true) q=some m /\ ∀ s ∈ m,s ∈ l
 | [],_,_,i,hi=>by cases hi
 | j :: is,l,h,i,hi=>by
  rw [List.foldr_cons] at h;split at h;rotate_left
  ·cases h
  rename_i l' o c d;split at h;rotate_left
  ·cases h
  rename_i q f;split at h;rotate_left
  ·cases h
  rename_i m e;simp only [ZH3] at h;subst h
  rcases ZE3.1 hi with rfl | hi
  ·exact ⟨o,q,m,d,f,e,fun s a=>List.mem_append_left _ a⟩
  ·obtain ⟨o',q',m',g1,g2,g3,g4⟩:=aDE is l' c i hi
   exact ⟨o',q',m',g1,g2,g3,fun s a=>List.mem_append_right _ (g4 s a)⟩
theorem QX {i:Nat} {o:Oper} (a:ops[i]? = some o) {p q:T × List O} (h:bT cx ops o p=some q) (l:List Nat):runI cx ops (i :: l) p=runI cx ops l q:=by
 simp only [runI,a,h]
theorem RC {u:List (List Nat)} (c:∀ (j:Nat) a,u[j]? = some a -> ∀ k ∈ a,Anc ops k j):∀ (fuel:Nat) (listed:Array Bool) (p:T × List O) (L:List (T × List O)),wO cx ops u fuel listed p=some L->listed.size=ops.size->j4 ops (gV listed) ->
  ∀ l,Compl ops listed l -> ∃ r,runI cx ops l p=some r /\ ∃ s ∈ L,eY s r
 | 0,listed,p,L,h,hs,hc,l,e=>by
  unfold wO at h;cases b:(Region.ready .any ops listed).isEmpty
  ·rw [b] at h; cases h
  rw [b] at h;simp only [cond_true,ZH3] at h;subst h
  cases e with
  | nil _=>exact ⟨p,rfl,p,ZD1,.refl p⟩
  | cons hi _ =>
   rw [List.isEmpty_iff.1 b] at hi; cases hi
 | fuel+1,listed,p,L,h,hs,hc,l,e=>by
  unfold wO at h;split at h
  ·rename_i i v
   have d:=List.find?_some v;have hi:=List.mem_of_find?_eq_some v;split at h;rotate_left
   ·cases h
   rename_i o y;split at h;rotate_left
   ·cases h
   rename_i q z;obtain ⟨A,B,rfl,h2,h3⟩:=aTF e hs hc hi;obtain ⟨r,b,s,hsL,hlk⟩:=RC c fuel _ q L h (by simpa using hs) (I5 hs hc hi) _ h2
   have f : runI cx ops ((i :: A)++B) p=some r:=by rw [List.cons_append,QX y z]; exact b
   rw [vB] at f;obtain ⟨m,hm,hB⟩:=Option.bind_eq_some_iff.1 f
   obtain ⟨D,hm',hlm⟩:=RZ (I:=fun _=>True) aWD A trivial (fun j x=>by
    obtain ⟨g,g2,g3,g4⟩:=h3 j x
    exact aU8 c d g2 g g3 g4) hm
   obtain ⟨C,hr2,hlr⟩:=E4 B hlm hB;refine ⟨C,?_,s,hsL,hlk.trans hlr⟩;rw [show A++i :: B=(A++[i])++B from by simp,vB,hm'];exact hr2
  ·cases b:(Region.ready .any ops listed).isEmpty
   rotate_left
   ·rw [b] at h; cases h
   rw [b,cond_false] at h
   cases e with
   | nil w=>rw [w] at b; cases b
   | @cons _ i l hi e =>
    obtain ⟨o,q,m,g,g2,g3,g4⟩:=aDE _ L h i hi;obtain ⟨r,h1,s,h2,h4⟩:=RC c fuel _ q m g3 (by simpa using hs) (I5 hs hc hi) l e;exact ⟨r,by rw [QX g g2]; exact h1,s,g4 s h2,h4⟩
theorem aCI (hb:∀ (j:Nat) o,ops[j]? = some o -> ∀ e ∈ o.after,Region.binds .any e=true->e.on<j) {listed:Array Bool} (c:listed.size=ops.size) (h:0<missing ops.size (gV listed)):∃ i,i ∈ Region.ready .any ops listed:=by
 obtain ⟨i,h1,h2,h3⟩:=A0 h;obtain ⟨o,ho⟩:∃ o,ops[i]? = some o:=⟨ops[i],by simp [h1]⟩;refine ⟨i,mem_ready.2 ⟨?_,o,ho,fun e b a=>h3 _ (hb i o ho e b a)⟩⟩;unfold gV at h2;rw [ZI0] at h2 ⊢
 have:i<listed.size:=by omega
 simp [this] at h2 ⊢;exact h2
theorem aCW {listed:Array Bool} (d:listed.size=ops.size) (h:missing ops.size (gV listed)=0):Region.ready .any ops listed=[]:=by
 apply List.eq_nil_iff_forall_not_mem.2;intro i hi;have c:=EU d hi;have a:i ∈ (List.range ops.size).filter fun i=>!(gV listed i):=List.mem_filter.2 ⟨List.mem_range.2 (qL hi),by simp [c]⟩;have b:=List.length_eq_zero_iff.1 h;rw [b] at a; cases a
theorem aDN (hb:∀ (j:Nat) o,ops[j]? = some o -> ∀ e ∈ o.after,Region.binds .any e=true->e.on<j):∀ (fuel:Nat) (listed:Array Bool),listed.size=ops.size->missing ops.size (gV listed)=fuel -> ∃ l,Compl ops listed l
 | 0,listed,hs,hm=>⟨[],.nil (aCW hs hm)⟩
 | fuel+1,listed,hs,hm=>by
  obtain ⟨i,hi⟩:=aCI hb hs (by omega);have:=xT (S:=gV listed) (qL hi) (EU hs hi);obtain ⟨l,hl⟩:=aDN hb fuel (listed.setIfInBounds i true) (by simpa using hs) (by rw [BI (by rw [hs]; exact qL hi)]; omega);exact ⟨i :: l,.cons hi hl⟩
theorem aCH (v:aW cx) {E H0 β0 w0 D} (f:gJ cx.P E H0 β0 w0) (hb:∀ (j:Nat) o,ops[j]? = some o -> ∀ e ∈ o.after,Region.binds .any e=true->e.on<j) {Q:AEx->T->List O->Prop} :
  ∀ (fuel:Nat) (listed:Array Bool) (p:T × List O) (β:List Loc) (a:Act) (w:World),listed.size=ops.size->missing ops.size (gV listed)=fuel ->
   (∀ l,Compl ops listed l -> ∃ r,runI cx ops l p=some r /\ ∃ s:T × List O,Q .normal s.1 s.2/\eY s r)->Good E H0 β0 w0 cx.n D p.1 p.2 β a w ->
   wpAny cx.P .any ops (kL E H0 β0 w0 cx.n D Q) fuel listed a w
 | 0,listed,p,β,a,w,hs,hm,h,hg=>by
  have g:=aCW hs hm;obtain ⟨r,b,s,h2,h3⟩:=h [] (.nil g);simp only [runI,ZH3] at b;subst b;refine ⟨g,s.1,s.2,β,h2,?_⟩;have:=hg.like h3.1;rw [h3.2];exact this
 | fuel+1,listed,p,β,a,w,hs,hm,h,hg=>by
  refine ⟨fun g=>?_,fun i hi=>?_⟩
  ·obtain ⟨i,hi⟩:=aCI hb hs (by omega)
   rw [g] at hi; cases hi
  ·obtain ⟨_,o,ho,_⟩:=mem_ready.1 hi
   have y:=xT (S:=gV listed) (qL hi) (EU hs hi)
   have d : missing ops.size (gV (listed.setIfInBounds i true))=fuel:=by rw [BI (by rw [hs]; exact qL hi)]; omega
   obtain ⟨l,m⟩:=aDN hb fuel (listed.setIfInBounds i true) (by simpa using hs) d;obtain ⟨r,b,_⟩:=h (i :: l) (.cons hi m)
   cases c:bT cx ops o p with
   | none=>simp only [runI,ho,c] at b; cases b
   | some q =>
    refine I3 v f ho (t:=p.1) (H:=p.2) hg c ?_;intro u x w' k;refine aCH v f hb fuel _ q u x w' (by simpa using hs) d (fun l m=>?_) k;obtain ⟨r,b,h2⟩:=h (i :: l) (.cons hi m);rw [QX ho c] at b;exact ⟨r,b,h2⟩
end
section
variable {P:Program} {n:Nat} {Q:AEx->T->List O->Prop} {t:T} {H:List O} {cx:Cx} {ops:Array Oper}
def nothing (ops:Array Oper):Array Bool:=Array.replicate ops.size false
def vQ (cx:Cx) (ops:Array Oper) (p:T × List O):Option (List (T × List O)):=
 cond (cx.P.follows .mixedOrders&&wP 0 ops.toList) (wO cx ops (kY ops.toList []) ops.size (nothing ops) p) none
theorem aCB (m:cx.P=P) (v:cx.n=n) (p:aW cx) {id:Nat} {l:List (T × List O)}
  (h:vQ cx ops (t,H)=some l) (x:∀ s ∈ l,Q .normal s.1 s.2):aI P n (.region id ops true) Q t H:=by
 subst m;subst v;unfold vQ at h;cases g:(cx.P.follows .mixedOrders&&wP 0 ops.toList)
 ·rw [g] at h; cases h
 rw [g,cond_true] at h;obtain ⟨u,hb⟩:=ZA0.1 g;intro E A z w0 D β a w y d;refine wp_region_any u ?_;have st:=Step.heap_same (w' := { w with drawn:=w.drawn+1 }) d.step.rel rfl rfl rfl rfl
 have c:(nothing ops).size=ops.size:=by simp [nothing]
 have b:gV (nothing ops)=fun _=>false:=by
  funext j
  unfold gV nothing;simp only [ZI0,Array.getElem?_replicate];split <;> rfl
 have f:j4 ops (gV (nothing ops)):=by rw [b]; intro j o B q; cases q
 refine aCH p y (P3 hb) ops.size (nothing ops) (t,H) β a _ c ?_ (fun l' k => ?_) ⟨d.step.trans st,d.fr.step st,d.defers⟩
 ·rw [b]
  unfold missing;have e:(List.range ops.size).filter (fun i=>!(fun _=>false) i)=List.range ops.size:=List.filter_eq_self.2 fun _ _=>rfl;rw [e,List.length_range]
 ·obtain ⟨r,h1,s,h2,h3⟩:=RC (E2 (ops:=ops) ops.toList 0 [] rfl rfl (fun j a h=>by simp at h)) _ _ _ _ h c f l' k
  exact ⟨r,h1,s,x s h2,h3⟩
theorem aI.keepQ (l:List Nat) {c:Code} (h:aI P n c (fun e t H=>Q e (bC l t) H) t H):aI P n c Q t H:=by
 intro E g b w0 D β a w i f;refine wp_mono (h E g b w0 D β a w i f) fun e a w d=>?_;have le:∀ {t H β a w},Good E g b w0 n D t H β a w->Good E g b w0 n D (bC l t) H β a w:=fun f=>⟨f.step,f.fr.le (dK.bC l _),f.defers⟩
 cases e with
 | normal=>obtain ⟨t,H,β,h1,h2⟩:=d; exact ⟨_,H,β,h1,le h2⟩
 | exit id=>obtain ⟨t,H,β,h1,h2⟩:=d; exact ⟨_,H,β,h1,le h2⟩
 | ret=>obtain ⟨t,H,β,h1,h2⟩:=d; exact ⟨_,H,β,h1,le h2⟩
 | panic j=>obtain ⟨t,H,β,v,x,h1,h2,h3,h4⟩:=d; exact ⟨_,H,β,v,x,h1,le h2,h3,h4⟩
 | goto l=>exact d.elim
 | outgrown=>exact d.elim
theorem aBU (ks keeps:List Nat) (k:Nat) (a:cx.P=P) (c:cx.n=n) (b:aW cx) {id:Nat} {t' : T} {H' : List O}
  (h:(vQ cx ops (t,H)).map (fun l=>l.map fun s=>(iQ H.length (sL ks s.1) (.normal,bC keeps s.1,s.2)))=some (List.replicate k (some (.normal,t',H'))))
  (d:Q .normal t' H'):aI P n (.region id ops true) Q t H:=by
 obtain ⟨l,hl,h2⟩:=Option.map_eq_some_iff.1 h;refine yG (aI.keepQ keeps (aCB a c b hl fun s e=>⟨sL ks s.1,(.normal,t',H'),?_,d⟩))
 have:iQ H.length (sL ks s.1) (.normal,bC keeps s.1,s.2) ∈ List.replicate k (some ((.normal,t',H'):St)):=by rw [<- h2]; exact List.mem_map_of_mem e
 exact (List.mem_replicate.1 this).2
end
end Go.Ab

namespace Go.Ab
def vZ (cx:Cx):Code->Bool
 | .skip=>true
 | .region _ ops _=>ops.toList.all (quiet cx)
 | .seq a b=>vZ cx a&&vZ cx b
 | .cond _ a b=>vZ cx a&&vZ cx b
 | .block _ c=>vZ cx c
 | .exit _=>true
 | .ret=>true
 | .loop c=>vZ cx c
 | _=>false
def CT (H:List O) (s:St):Prop:=(∃ v,s.1 = .panic v)\/s.2.2=H
section
variable {cx:Cx}
theorem BH {α:Type} {c:Bool} {x y:Tree α} {r:α} (h:(Tree.br c x y).run=some r):x.run=some r\/y.run=some r:=by
 rw [a6] at h;cases c
 ·exact .inr h
 ·exact .inl h
theorem QF {ops:Array Oper}:∀ (l:List Oper) (t:T) (H:List O) (s:St),l.all (quiet cx)=true->(dD cx ops l t H).run=some s->CT H s
 | [],t,H,s,_,h=>by
  simp only [dD,Tree.run,ZH3] at h;subst h;exact .inr rfl
 | o :: r,t,H,s,e,h=>by
  obtain ⟨c,hq2⟩:=ZA0.1 (by simpa using e:(quiet cx o&&r.all (quiet cx))=true)
  have put:∀ {v t},(kI cx o v t H (dD cx ops r)).run=some s->CT H s:=by
   intro v t h;unfold kI at h;split at h
   ·exact QF r _ H s hq2 h
   ·cases h
  have d:∀ {t},((aP cx t H o).bind (mV cx o t (dD cx ops r))).run=some s->CT H s:=by
   intro t h;obtain ⟨res,h1,h2⟩:=bD h
   cases res with
   | ok v H1 =>
    have:=rK c h1;subst this;exact put h2
   | pan v H1 =>
    simp only [mV,Tree.run,ZH3] at h2;subst h2;exact .inl ⟨v,rfl⟩
  unfold dD zG at h;split at h
  ·exact d h
  ·rename_i j a f
   split at h
   ·split at h
    ·rename_i b hb
     rcases BH h with h | h
     ·cases a
      ·exact put h
      ·exact d h
     ·cases a
      ·exact d h
      ·exact put h
    ·exact put h
    ·cases h
   ·cases h
theorem aD3 {f:T->List O->Tree St} {H:List O} (a:∀ t s,(f t H).run=some s->CT H s):∀ (n:Nat) (t:T) (s:St),(CL f n t H).run=some s->CT H s
 | 0,_,_,h=>by cases h
 | n+1,t,s,h=>by
  obtain ⟨b,h1,h2⟩:=bD h;have g:=a t b h1;obtain ⟨e,t1,H1⟩:=b;cases e
  ·rcases g with ⟨v,c⟩ | g
   ·cases c
   ·cases g
    exact aD3 a n t1 s h2
  all_goals (simp only [oY,Tree.run,ZH3] at h2; subst h2; exact g)
theorem tA:∀ (c:Code) (t:T) (H:List O) (s:St),vZ cx c=true->(aK cx c t H).run=some s->CT H s
 | .skip,t,H,s,_,h=>by
  simp only [aK,Tree.run,ZH3] at h;subst h;exact .inr rfl
 | .region id ops draw,t,H,s,f,h=>by
  unfold aK at h;cases draw
  ·exact QF _ _ _ _ f h
  ·simp only [cond_true] at h
   cases l:(y8 cx ops || yW cx ops t H)
   ·rw [l] at h; cases h
   ·rw [l] at h
    obtain ⟨i,h1,d⟩:=bD h;have g:=QF _ _ _ _ f h1;obtain ⟨e,t1,H1⟩:=i;cases e
    ·simp only [zO,Tree.run,ZH3] at d
     subst d;exact g
    ·cases d
    ·cases d
    ·simp only [zO] at d
     cases m:MO cx ops
     ·rw [m] at d; cases d
     ·rw [m,cond_true] at d
      simp only [Tree.run,ZH3] at d;subst d;exact .inl ⟨_,rfl⟩
 | .seq a b,t,H,s,f,h=>by
  obtain ⟨j,q2⟩:=ZA0.1 f;unfold aK at h;obtain ⟨i,h1,d⟩:=bD h;have g:=tA a t H i j h1;obtain ⟨e,t1,H1⟩:=i;cases e
  ·rcases g with ⟨v,k⟩ | g
   ·cases k
   ·cases g
    exact tA b t1 _ s q2 d
  all_goals (simp only [oY,Tree.run,ZH3] at d; subst d; exact g)
 | .cond c a b,t,H,s,f,h=>by
  obtain ⟨j,q2⟩:=ZA0.1 f;unfold aK at h;split at h
  ·split at h
   ·rcases BH h with h | h
    ·exact tA a _ H s j h
    ·exact tA b _ H s q2 h
   ·cases h
  ·split at h
   ·rcases BH h with h | h
    ·exact tA a _ H s j h
    ·exact tA b _ H s q2 h
   ·cases h
 | .block id c,t,H,s,f,h=>by
  unfold aK at h;obtain ⟨i,h1,d⟩:=bD h;have g:=tA c t H i f h1;obtain ⟨e,t1,H1⟩:=i;cases e
  all_goals (simp only [y9,Tree.run,ZH3] at d; subst d)
  ·exact g
  ·rcases g with ⟨v,k⟩ | g
   ·cases k
   ·exact .inr g
  all_goals exact g
 | .exit _,t,H,s,_,h=>by
  simp only [aK,Tree.run,ZH3] at h;subst h;exact .inr rfl
 | .ret,t,H,s,_,h=>by
  simp only [aK,Tree.run,ZH3] at h;subst h;exact .inr rfl
 | .loop c,t,H,s,f,h=>by
  unfold aK at h;exact aD3 (fun t s h=>tA c t H s f h) _ _ _ h
 | .goto _,_,_,_,f,_=>by cases f
def HP (cx:Cx) (fn:Func) (args:List V) (H:List O):Tree V:=
 .aF (Nat.ble args.length fn.ntmps) ((dF cx fn args H).bind fun r=>match r with
  | .ok v _=>.leaf v
  | .pan _ _=>.fail)
theorem SV {cx : Cx} {f : Nat} {fn : Func} (hT : aW cx) (hf : cx.P.funcs[f]? = some fn) (hname : (fn.name == "runtime.NumGoroutine") = false)
  (hq:vZ { cx with n:=fn.ntmps } (cA fn)=true) (hb:fn.body=some (cA fn)):nF cx.P f (HP cx fn):=by
 intro args H v h;obtain ⟨h1,h2⟩:=aM h;obtain ⟨r,h3,h4⟩:=bD h2
 cases r with
 | pan _ _=>cases h4
 | ok u H1 =>
  cases h4
  have e:H1=H:=by
   unfold dF at h3;rw [hb] at h3;simp only at h3;obtain ⟨s,g1,g2⟩:=bD h3;have g:=tA _ _ _ _ hq g1;obtain ⟨ex,t,H2⟩:=s;unfold iY at g2;split at g2
   ·rename_i heq
    cases heq;split at g2
    ·cases g2
     rcases g with ⟨v,hv⟩ | g
     ·cases hv
     ·exact g
    ·cases g2
   ·rename_i heq
    cases heq;split at g2
    ·cases g2
     rcases g with ⟨v,hv⟩ | g
     ·cases hv
     ·exact g
    ·cases g2
   ·cases g2
   ·cases g2
  subst e
  exact fA hT hf hname _ _ _ (by
   show (Tree.aF _ _).run=_;unfold Tree.aF;rw [a6,h1]
   exact h3)
end
end Go.Ab

namespace Go.Ab
def wQ (n:Nat) (κ:List Nat):Res->Tree Res
 | .ok v H=>cond (fU (List.range n++κ)) (match gQ H (List.range n++κ) with
  | some os=>match eA (fun i=>place i (List.range n++κ)) os,V.ren? (fun i=>place i (List.range n++κ)) v with
   | some a,some v=>.leaf (.ok v a)
   | _,_=>.fail
  | none=>.fail) .fail
 | .pan _ _=>.fail
theorem I8 {P:Program} {f:Nat} {args:List V} {H:List O} {r o : Res} {κ:List Nat} (h:dQ P f args H r) (b:(wQ H.length κ r).run=some o):dQ P f args H o := by
 cases r with
 | pan _ _=>cases b
 | ok v H1 =>
  unfold wQ at b;cases e:fU (List.range H.length++κ)
  ·rw [e] at b; cases b
  rw [e] at b;simp only [cond_true] at b;split at b;rotate_left
  ·cases b
  rename_i os l;split at b;rotate_left
  ·cases b
  rename_i x A k m;cases b;obtain ⟨c,hc⟩:=h;refine ⟨c,fun w E β g q n t u=>(hc w E β g q n t u).mono ?_⟩;rintro z w' ⟨y,β',rfl,st,hr⟩
  let a:Act:=⟨#[],[]⟩
  have s:Good E H β w a.tmps.size a.defers [] H1 β' a w' := ⟨st,⟨rfl,fun d=>.any _ _⟩,rfl⟩;have hlen:β.length=H.length:=n.len.symm
  obtain ⟨p,g2⟩:=s.drop e l k (fun i hi=>by
   have j : i<(List.range H.length).length:=by rw [List.length_range]; omega
   rw [ZB0 j,ZB3 j,List.getElem_range])
  exact ⟨y,_,rfl,p.step,g2 _ _ _ hr m⟩
def wM (cx:Cx) (fn:Func) (κ:List Nat) (args:List V) (H:List O):Tree Res:=
 .aF (Nat.ble args.length fn.ntmps) ((dF cx fn args H).bind (wQ H.length κ))
theorem BQ {cx : Cx} {f : Nat} {fn : Func} (κ : List Nat) (hT : aW cx) (hf : cx.P.funcs[f]? = some fn) (hname : (fn.name == "runtime.NumGoroutine") = false) : bP cx.P f (wM cx fn κ) := by
 intro args H r h;obtain ⟨h1,h2⟩:=aM h;obtain ⟨r0,h3,h4⟩:=bD h2;refine I8 (fA hT hf hname args H r0 ?_) h4;show (Tree.aF _ _).run=_;unfold Tree.aF;rw [a6,h1];exact h3
end Go.Ab

namespace Go.Ab
open Go.ChangeMaps (setBlock)
section
variable {E:Nat->Nat->Prop} {H0 H H' : List O} {β0 β β' : List Loc} {w0 w w' : World} {n:Nat} {D:List Deferred} {t:T} {a:Act}
theorem Step.same {b:Nat} (s:Step E H β w H' β' w') (c:∀ o,¬ Own H β b o) (hb:b<w.heap.size):w'.heap[b]? = w.heap[b]? := by
 rcases s.pres b hb with h | ⟨⟨o,h⟩,_⟩ | ⟨⟨o,h⟩,_⟩
 ·exact h
 ·exact absurd h (c o)
 ·exact absurd h (c o)
theorem Step.notOwn {b:Nat} (s:Step E H β w H' β' w') (c:∀ o,¬ Own H β b o) (hb:b<w.heap.size):∀ o,¬ Own H' β' b o:=by
 intro o h
 rcases s.own b o h with h | h
 ·exact c o h
 ·omega
structure Side (H:List O) (β:List Loc) (r:Nat) (w w' : World):Prop where
 other:∀ b,b ≠ r->w'.heap[b]? = w.heap[b]?
 size:w.heap.size<=w'.heap.size
 spec:∀ x,w.heap[r]? = some x->special x=true
 unowned:∀ o,¬ Own H β r o
 os:w'.os=w.os
 tape:w'.tape=w.tape
 output:w'.output=w.output
theorem Side.stab {r:Nat} {X:Nat->Nat->Prop} (h:Side H β r w w'):Stab w X w' X:=by
 refine ⟨fun b o v g c=>⟨g,?_⟩,fun b cs e hb=>?_⟩
 ·by_cases hb:b=r
  ·subst hb
   exfalso
   cases d:w.heap[b]? with
   | none =>
    have:=rP c;simp only [Array.getElem?_eq_none_iff] at d;omega
   | some x=>rw [PY d (h.spec x d)] at c; cases c
  ·rw [o9 (h.other b hb)]; exact c
 ·have f:b ≠ r:=fun e' => by
   subst e';have:=h.spec _ hb;cases this
  exact ⟨cs,e,by rw [h.other b f]; exact hb⟩
theorem Side.rel {r:Nat} (h:Side H β r w w') (g:Rel w (Xs E H β) H β):Rel w' (Xs E H β) H β:=by
 have p:∀ {id loc},live H id->β[id]? = some loc->loc.block ≠ r:=by
  intro id loc b d e;obtain ⟨o,ho⟩:=KG b d;rw [e] at ho;exact h.unowned o ho
 refine ⟨g.len,fun id cs e loc b d=>?_,fun id m q loc b d=>?_,fun id sh vs loc b d=>?_,g.disj⟩
 ·obtain ⟨f,c,e',a2,a3,a4,a5⟩:=g.cells id cs e loc b d
  exact ⟨f,c,e',by rw [h.other _ (p (kV b) d)]; exact a2,a3,a4,fun k v j=>let ⟨x,l,i⟩:=a5 k v j; ⟨x,l,i.stab h.stab β (.refl _)⟩⟩
 ·obtain ⟨f,a2,c,e',a3,a4⟩:=g.tok id m q loc b d
  exact ⟨f,a2,c,e',by rw [h.other _ (p (kX b) d)]; exact a3,a4⟩
 ·obtain ⟨f,a2,ob,xs,a3,a4,a5⟩:=g.objs id sh vs loc b d
  exact ⟨f,a2,ob,xs,by rw [h.other _ (p (mC b) d)]; exact a3,a4,fun k v j=>let ⟨x,l,i⟩:=a5 k v j; ⟨x,l,i.stab h.stab β (.refl _)⟩⟩
theorem Good.side {r:Nat} (h:Side H β r w w') (j:w0.heap.size<=r) (f:Good E H0 β0 w0 n D t H β a w):Good E H0 β0 w0 n D t H β a w' := by
 refine ⟨⟨h.rel f.step.rel,h.os.trans f.step.os,h.tape.trans f.step.tape,h.output.trans f.step.output,Nat.le_trans f.step.size h.size,fun b hb=>?_,f.step.own,f.step.locs⟩,
  ⟨f.fr.size,fun d=>(f.fr.slot d).stab h.stab β (.refl _)⟩,f.defers⟩
 have e:=h.other b (by omega)
 rcases f.step.pres b hb with g | ⟨i,c,c',e',g2,g3,g4⟩ | ⟨i,x,y,g2,g3,g4⟩
 ·exact .inl (e.trans g)
 ·exact .inr (.inl ⟨i,c,c',e',g2,e.trans g3,g4⟩)
 ·exact .inr (.inr ⟨i,x,y,g2,e.trans g3,g4⟩)
theorem RE {mid b o:Nat} (h:Own (H.set mid .dead) β b o):Own H β b o:=by
 obtain ⟨id,loc,h1,h2,c⟩:=h;refine ⟨id,loc,h1,h2,?_⟩;by_cases e:mid=id
 ·subst e
  rcases c with ⟨cs,e,c⟩ | ⟨m,sz,c,_⟩ | ⟨sh,vs,c⟩
  all_goals (rw [kE] at c; split at c <;> simp_all)
 ·rw [List.getElem?_set_ne e] at c
  exact c
theorem Good.hide {mid:Nat} (g:Good E H0 β0 w0 n D t H β a w):Good E H0 β0 w0 n D t (H.set mid .dead) β a w:=by
 have u:∀ b o,Xs E (H.set mid .dead) β b o->Xs E H β b o:=fun b o h=>h.imp id RE
 have get:∀ {id:Nat} {q:O},(H.set mid .dead)[id]? = some q->q ≠ O.dead->H[id]? = some q:=by
  intro id q f p;by_cases e:mid=id
  ·subst e
   rw [kE] at f;split at f <;> simp_all
  ·rw [List.getElem?_set_ne e] at f; exact f
 have r:=g.step.rel
 refine ⟨⟨⟨by rw [List.length_set]; exact r.len,fun id cs e loc f p=>?_,fun id m I loc f p=>r.tok id m I loc (get f (by simp)) p,fun id sh vs loc f p=>?_,fun i j l l' f p B C F=>?_⟩,g.step.os,g.step.tape,g.step.output,g.step.size,g.step.pres,
  fun b o h=>g.step.own b o (RE h),g.step.locs⟩,⟨g.fr.size,fun d=>(g.fr.slot d).weak u⟩,g.defers⟩
 ·obtain ⟨s,c,e',a2,a3,a4,a5⟩:=r.cells id cs e loc (get f (by simp)) p
  exact ⟨s,c,e',a2,a3,a4,fun k v z=>let ⟨x,A,y⟩:=a5 k v z; ⟨x,A,y.weak u⟩⟩
 ·obtain ⟨s,a2,q,xs,a3,a4,a5⟩:=r.objs id sh vs loc (get f (by simp)) p
  exact ⟨s,a2,q,xs,a3,a4,fun k v z=>let ⟨x,A,y⟩:=a5 k v z; ⟨x,A,y.weak u⟩⟩
 ·obtain ⟨G,g1,g2⟩:=f
  obtain ⟨o2,g3,g4⟩:=p;exact r.disj i j l l' ⟨G,get g1 g2,g2⟩ ⟨o2,get g3 g4,g4⟩ B C F
theorem Good.show {mid:Nat} {sh:Shape} {vs:List V} {loc:Loc} {J:Obj} {xs:List Value} (p:Good E H0 β0 w0 n D t H β a w) (U:H[mid]? = some .dead) (G:β[mid]? = some loc)
  (S:loc.kind=false) (hb:loc.base=0) (N:w.heap[loc.block]? = some J) (P:Shp sh J xs) (q:∀ (k:Nat) v,vs[k]? = some v -> ∃ x,xs[k]? = some x/\R w (Xs E H β) β v x)
  (X:∀ o,¬ Own H β loc.block o) (A:w0.heap.size<=loc.block \/ ∀ o,Own H0 β0 loc.block o) (W:sh.isPage=false:=by rfl):Good E H0 β0 w0 n D t (H.set mid (.obj sh vs)) β a w:=by
 have I:mid<H.length:=(ZB2.1 U).1
 have get:∀ id:Nat,(H.set mid (.obj sh vs))[id]? = if mid=id then some (.obj sh vs) else H[id]? := by
  intro id;rw [kE];by_cases e:mid=id
  ·subst e; simp [I]
  ·simp [e]
 have s:∀ b o,Own (H.set mid (.obj sh vs)) β b o->Own H β b o\/b=loc.block:=by
  rintro b o ⟨id,l,f,g,u⟩;by_cases e:mid=id
  ·subst e
   rw [G] at f;cases f;exact .inr g.symm
  ·refine .inl ⟨id,l,f,g,?_⟩
   simp only [get,e,if_false] at u;exact u
 have st:Stab w (Xs E H β) w (Xs E (H.set mid (.obj sh vs)) β):=by
  refine ⟨fun b o v r q=>⟨fun h=>?_,q⟩,fun b cs e h=>⟨cs,e,h⟩⟩
  rcases h with h | h
  ·exact r (.inl h)
  ·rcases s b o h with h | h
   ·exact r (.inr h)
   ·subst h
    rw [PY N (P.special W)] at q;cases q
 have z:=p.step.rel;have up:∀ {v x},R w (Xs E H β) β v x->R w (Xs E (H.set mid (.obj sh vs)) β) β v x:=fun h=>h.stab st β (.refl _)
 refine ⟨⟨⟨by rw [List.length_set]; exact z.len,fun id cs e l f g=>?_,fun id m Y l f g=>?_,fun id sh' K l f g=>?_,fun i j l l' f g u M y=>?_⟩,p.step.os,p.step.tape,p.step.output,p.step.size,p.step.pres,
  fun b o h=>?_,p.step.locs⟩,⟨p.fr.size,fun d=>up (p.fr.slot d)⟩,p.defers⟩
 ·rw [get] at f
  split at f
  ·cases f
  ·obtain ⟨C,c,e',a2,a3,a4,a5⟩:=z.cells id cs e l f g
   exact ⟨C,c,e',a2,a3,a4,fun k v q=>let ⟨x,r,B⟩:=a5 k v q; ⟨x,r,up B⟩⟩
 ·rw [get] at f
  split at f
  ·cases f
  ·exact z.tok id m Y l f g
 ·rw [get] at f
  split at f
  ·rename_i e
   subst e;cases f;rw [G] at g;cases g;exact ⟨S,hb,J,xs,N,P,fun k v h=>let ⟨x,r,B⟩:=q k v h; ⟨x,r,up B⟩⟩
  ·obtain ⟨C,a2,ob',xs',a3,a4,a5⟩:=z.objs id sh' K l f g
   exact ⟨C,a2,ob',xs',a3,a4,fun k v q=>let ⟨x,r,B⟩:=a5 k v q; ⟨x,r,up B⟩⟩
 ·have cl:∀ {i l},live (H.set mid (.obj sh vs)) i->β[i]? = some l->(i=mid/\l=loc)\/(i ≠ mid/\live H i/\l.block ≠ loc.block):=by
   rintro i l ⟨o,g1,g2⟩ F;by_cases e:mid=i
   ·subst e
    rw [G] at F;cases F;exact .inl ⟨rfl,rfl⟩
   ·simp only [get,e,if_false] at g1
    refine .inr ⟨fun h=>e h.symm,⟨o,g1,g2⟩,fun Q=>?_⟩;obtain ⟨o',ho'⟩:=KG ⟨o,g1,g2⟩ F;rw [Q] at ho';exact X o' ho'
  rcases cl f u with ⟨L,e2⟩ | ⟨L,e2,e3⟩ <;> rcases cl g M with ⟨f1,f2⟩ | ⟨f1,f2,f3⟩
  ·rw [L,f1]
  ·rw [e2] at y; exact absurd y.symm f3
  ·rw [f2] at y; exact absurd y e3
  ·exact z.disj i j l l' e2 f2 u M y
 ·rcases s b o h with h | h
  ·exact p.step.own b o h
  ·subst h
   rcases A with h | h
   ·exact .inr h
   ·exact .inl (h o)
def tN (w:World) (X:Nat->Nat->Prop) (β:List Loc) (es:Array MapEntry) (seen:Array Nat) (left:List (Int × V)):Prop:=
 ∃ l:List MapEntry,l.Perm (leftOf es seen).toList/\l.map (·.key)=left.map (fun p=>Value.int .u64 p.1) /\ ∀ (k:Nat) p e,left[k]? = some p->l[k]? = some e->R w X β p.2 e.val
theorem tN.stab {X c : Nat->Nat->Prop} {es:Array MapEntry} {seen:Array Nat} {left:List (Int × V)} (h:tN w X β es seen left) (s:Stab w X w' c) (d:LocLe β β'):tN w' c β' es seen left:=by
 obtain ⟨l,h1,h2,h3⟩:=h;exact ⟨l,h1,h2,fun k p e a b=>(h3 k p e a b).stab s β' d⟩
theorem aTQ {e:MapEntry}:∀ {b l2:List MapEntry},((b++e :: l2).map (·.born)).Nodup->(b++e :: l2).filter (fun x=>!(x.born==e.born))=b++l2:=by
 intro b l2 h;simp only [List.map_append,List.map_cons] at h;obtain ⟨j,h2,h3⟩:=List.nodup_append.1 h;obtain ⟨g,h5⟩:=List.nodup_cons.1 h2;rw [List.filter_append,List.filter_cons]
 have d:b.filter (fun x=>!(x.born==e.born))=b:=List.filter_eq_self.2 fun x c=>by
  have:=h3 x.born (List.mem_map_of_mem c) e.born ZD1;simpa using this
 have f:l2.filter (fun x=>!(x.born==e.born))=l2:=List.filter_eq_self.2 fun x c=>by
  have:x.born ≠ e.born:=fun i=>g (i ▸ List.mem_map_of_mem c);simpa using this
 rw [d,f];simp
theorem tN.take {X:Nat->Nat->Prop} {es:Array MapEntry} {clock:Nat} {seen:Array Nat} {left:List (Int × V)} (s:Go.MapKept.Stamped es clock) (h:tN w X β es seen left) {e:MapEntry} (o:e ∈ (leftOf es seen).toList) :
  ∃ A p B,left=A++p :: B/\e.key = .int .u64 p.1/\R w X β p.2 e.val/\tN w X β es (seen.push e.born) (A++B):=by
 obtain ⟨l,h1,h2,h3⟩:=h;have q:e ∈ l:=h1.mem_iff.2 o;obtain ⟨b,l2,rfl⟩:=List.append_of_mem q
 have hlen:left.length=(b++e :: l2).length:=by
  have:=congrArg List.length h2;simpa using this.symm
 have d:b.length<left.length:=by rw [hlen]; simp
 refine ⟨left.take b.length,left[b.length],left.drop (b.length+1),?_,?_,?_,b++l2,?_,?_,?_⟩
 ·rw [<- List.drop_eq_getElem_cons d,List.take_append_drop]
 ·have:=congrArg (fun x=>x[b.length]?) h2
  simp only [ZC0] at this;rw [ZB1 (Nat.le_refl _),Nat.sub_self,ZB3 d] at this;simpa using this
 ·refine h3 b.length _ _ (ZB3 d) ?_
  rw [ZB1 (Nat.le_refl _),Nat.sub_self];rfl
 ·have r:((b++e :: l2).map (·.born)).Nodup:=by
   have:=(h1.map (·.born)).nodup_iff.2 ?_
   ·exact this
   ·unfold leftOf
    rw [Array.toList_filter];exact (List.filter_sublist.map _).nodup s.2.1
  rw [<- aTQ r];refine (h1.filter _).trans ?_
  have:(leftOf es (seen.push e.born)).toList=(leftOf es seen).toList.filter (fun x=>!(x.born==e.born)):=by
   unfold leftOf;rw [Array.toList_filter,Array.toList_filter,List.filter_filter];congr 1
   funext x
   rw [Array.contains_push];cases seen.contains x.born <;> cases x.born==e.born <;> rfl
  rw [this]
 ·have i:=congrArg (List.take b.length) h2
  have j:=congrArg (List.drop (b.length+1)) h2;simp only [List.map_append,List.map_cons] at i j;rw [List.take_left' (by simp)] at i
  have m : (b.map (·.key)++e.key :: l2.map (·.key)).drop (b.length+1)=l2.map (·.key):=by
   rw [show b.length+1=(b.map (·.key)).length+1 by simp,<- List.drop_drop,List.drop_left];rfl
  rw [m] at j;rw [List.map_append,List.map_append,i,j,List.map_take,List.map_drop]
 ·intro k p e' g c
  by_cases hk:k<b.length
  ·rw [ZB0 (by rw [ZF2]; omega),List.getElem?_take,if_pos hk] at g
   rw [ZB0 hk] at c;exact h3 k p e' g (by rw [ZB0 hk]; exact c)
  ·have f:(left.take b.length).length=b.length:=by rw [ZF2]; omega
   rw [ZB1 (by omega),List.getElem?_drop,f] at g;rw [ZB1 (by omega)] at c;refine h3 (b.length+1+(k - b.length)) p e' g ?_;rw [ZB1 (by omega),show b.length+1+(k - b.length) - b.length=(k - b.length)+1 by omega,List.getElem?_cons_succ];exact c
theorem tN.none {X:Nat->Nat->Prop} {es:Array MapEntry} {seen:Array Nat} {left:List (Int × V)} (h:tN w X β es seen left) (b:(leftOf es seen).size=0):left=[]:=by
 obtain ⟨l,h1,h2,_⟩:=h
 have:l.length=0:=by rw [h1.length_eq]; simpa using b
 have e:=congrArg List.length h2;simp only [ZF0] at e;exact List.length_eq_zero_iff.1 (by omega)
end
end Go.Ab

namespace Go.Ab
open Go.ChangeMaps (setBlock)
section
variable {P:Program} {n:Nat} {t:T} {H:List O}
theorem QT {cx:Cx} (V:aW cx) {ops:Array Oper} {E H0 β0 w0 D} (W:gJ cx.P E H0 β0 w0) {Q:AEx->T->List O->Prop} {K:Exit->Act->World->Prop} {l2:List Oper} (i:∀ v t H,¬ Q (.panic v) t H) :
  ∀ (l:List Oper) (k:Nat) (t:T) (H:List O) (β:List Loc) (a:Act) (w:World),ops.toList.drop k=l++l2->(dD cx ops l t H).all (fun s=>Q s.1 s.2.1 s.2.2) ->
   (∀ t H β a w,Q .normal t H->Good E H0 β0 w0 cx.n D t H β a w->wpOps cx.P ops K (List.range' (k+l.length) l2.length) a w)->Good E H0 β0 w0 cx.n D t H β a w->wpOps cx.P ops K (List.range' k (l.length+l2.length)) a w
 | [],k,t,H,β,a,w,_,h,N,e=>by
  have:=N (bC cx.keeps t) H β a w h ⟨e.step,e.fr.bC _,e.defers⟩;simpa using this
 | o :: r,k,t,H,β,a,w,hl,h,hcont,e=>by
  have N:ops.toList[k]? = some o:=by
   have:=congrArg (fun l=>l[0]?) hl;simpa using this
  have S : ops[k]? = some o:=by simpa using N
  have Y:ops.toList.drop (k+1)=r++l2:=by
   have:=congrArg List.tail hl;simpa [List.tail_drop] using this
  have u : ∀ t H β a w,Q .normal t H->Good E H0 β0 w0 cx.n D t H β a w->wpOps cx.P ops K (List.range' (k+1+r.length) l2.length) a w:=by
   intro t H β a w L M;have:=hcont t H β a w L M;rw [ZD3] at this;rw [show k+1+r.length=k+(r.length+1) by omega];exact this
  have X:=fun t H β a w L M=>QT V W (ops:=ops) (Q:=Q) (D:=D) (K:=K) i r (k+1) t H β a w Y L u M;rw [show (o :: r).length+l2.length=(r.length+l2.length)+1 by rw [ZD3]; omega];simp only [List.range'_succ,wpOps,S]
  have put:∀ v x t H β a w,(kI cx o v t H (dD cx ops r)).all (fun s=>Q s.1 s.2.1 s.2.2)->R w (Xs E H β) β v x->Good E H0 β0 w0 cx.n D t H β a w ->
    wpOps cx.P ops K (List.range' (k+1) (r.length+l2.length)) (a.put o.dst x) w:=by
   intro v x t H β a w B m e;unfold kI wV at B
   cases y:o.dst with
   | none =>
    simp only [y] at B;simp only [Act.put];exact X t H β a w B e
   | some d =>
    simp only [y] at B;cases hb:Nat.blt d cx.n
    ·simp [hb,Tree.all] at B
    ·simp only [hb,cond_true] at B
     have U:d<cx.n:=by simpa [Nat.blt_eq] using hb
     exact X _ H β _ w B ⟨e.step,e.fr.put U m,e.defers⟩
  have run:∀ t,FR w (Xs E H β) β cx.n t a->((aP cx t H o).bind (mV cx o t (dD cx ops r))).all (fun s=>Q s.1 s.2.1 s.2.2) ->
    o.wp cx.P a w (wpOps cx.P ops K (List.range' (k+1) (r.length+l2.length))) K:=by
   intro t G F;obtain ⟨s,hs1,hs2⟩:=Tree.all_run F;obtain ⟨res,hres,y⟩:=bD hs1;refine JG V (W.now e.step) e.step.rel G hres ?_
   cases res with
   | ok v H' =>
    intro x w' I st m;exact put v x t H' I a w' (Tree.gH y hs2) m ⟨e.step.trans st,G.step st,e.defers⟩
   | pan v H' =>
    intro x w' I st m;simp only [mV,Tree.run,ZH3] at y;subst y;exact absurd hs2 (i _ _ _)
  unfold dD zG at h;split at h
  ·rename_i f
   have p:Region.wanted o (yielded ops a.tmps)=true:=by simp [Region.wanted,f]
   simp only [p,if_true];exact .inl (run t e.fr h)
  ·rename_i j A f
   split at h;rotate_left
   ·exact h.elim
   rename_i d y;have c:=e.fr.slot d
   have z:∀ b,a.tmps.getD d undef = .bool b->yielded ops a.tmps j=some b:=by
    intro b hb;unfold yielded;rw [y];simp only [ZH1];rw [ZI0] at hb
    cases J:a.tmps[d]? with
    | none=>rw [J] at hb; simp [undef] at hb
    | some q=>rw [J] at hb; simp at hb; subst hb; rfl
   split at h
   ·rename_i b hb
    rw [hb] at c;generalize m:a.tmps.getD d undef=v at c;cases c;have C:=z b m;have g := RJ e.fr hb;cases b
    ·have h:=h.2 rfl
     cases A
     ·have p:Region.wanted o (yielded ops a.tmps)=true:=by simp [Region.wanted,f,C]
      simp only [p,if_true];exact .inl (run _ g h)
     ·have p:Region.wanted o (yielded ops a.tmps)=false:=by simp [Region.wanted,f,C]
      simp only [p,Bool.false_eq_true,if_false];exact put lJ undef _ H β a w h (.val _ _) ⟨e.step,g,e.defers⟩
    ·have h:=h.1 rfl
     cases A
     ·have p:Region.wanted o (yielded ops a.tmps)=false:=by simp [Region.wanted,f,C]
      simp only [p,Bool.false_eq_true,if_false];exact put lJ undef _ H β a w h (.val _ _) ⟨e.step,g,e.defers⟩
     ·have p:Region.wanted o (yielded ops a.tmps)=true:=by simp [Region.wanted,f,C]
      simp only [p,if_true];exact .inl (run _ g h)
   ·rename_i vs hb
    rw [hb] at c;generalize m:a.tmps.getD d undef=v at c;cases c
    have C:yielded ops a.tmps j=none:=by
     unfold yielded;rw [y];simp only [ZH1];rw [ZI0] at m
     cases J:a.tmps[d]? with
     | none=>rfl
     | some q=>rw [J] at m; simp at m; subst m; rfl
    have p:Region.wanted o (yielded ops a.tmps)=false:=by simp [Region.wanted,f,C]
    simp only [p,Bool.false_eq_true,if_false];exact put lJ undef t H β a w h (.val _ _) e
   ·exact h.elim
end
def o8 (r:Nat):V:=.val (.pointer (some ⟨r,0,none⟩))
section
variable {cx:Cx} {n:Nat} {E:Nat->Nat->Prop} {H0:List O} {β0:List Loc} {w0:World} {D:List Deferred}
variable {ops3 ops4:Array Oper} {post4:List Oper} {rest:Code} {o3a o3b o4:Oper} {i3 i0 i1 i4 d18 d19 d20 d21:Nat}
structure ForMap (cx:Cx) (ops3 ops4:Array Oper) (post4:List Oper) (o3a o3b o4:Oper) (d18 d19 d20 d21:Nat):Prop where
 ops3:ops3 = #[o3a,o3b]
 ops4:ops4.toList=o4 :: post4
 next:o3a.op = .next (.tmp d18) false
 ok:o3b.op = .extract (.tmp d19) 0
 entry:o4.op = .entry (.tmp d18)
 g3a:o3a.guard=none
 g3b:o3b.guard=none
 g4:o4.guard=none
 t3a:o3a.dst=some d19
 t3b:o3b.dst=some d20
 t4:o4.dst=some d21
 l19:Nat.blt d19 cx.n=true
 l20:Nat.blt d20 cx.n=true
 l21:Nat.blt d21 cx.n=true
 n1:Nat.beq d18 d19=false
 n2:Nat.beq d18 d20=false
theorem aC1 {β:List Loc} {w:World} {X:Nat->Nat->Prop} {a:Act} {t:T} {d r:Nat} (h:FR w X β n t a) (b:get d t=o8 r):a.eval (.tmp d) = .pointer (some ⟨r,0,none⟩):=by
 have:=q5 h (.tmp d);simp only [rd,b,o8] at this;generalize a.eval (.tmp d)=y at this;cases this;rfl
theorem J5 {a:Act} {d:Nat} {x:Value} (h:d<a.tmps.size):Act.eval { a with tmps:=a.tmps.setIfInBounds d x } (.tmp d)=x:=by
 simp [Act.eval,ZI0,h]
theorem aQX (hT:aW cx) (hs:gJ cx.P E H0 β0 w0) (F:ForMap cx ops3 ops4 post4 o3a o3b o4 d18 d19 d20 d21) {r bm:Nat} {es:Array MapEntry} {clock:Nat} (hr0:w0.heap.size<=r) (hst:Go.MapKept.Stamped es clock)
  {Inv:List (Int × V)->T->List O->Prop} (hInv:∀ left t H,Inv left t H->get d18 t=o8 r)
  (round:∀ A p B t H,Inv (A++p :: B) t H -> ∃ t1 H1,(dD cx ops4 post4 (put d21 (.tup [.int .u64 p.1,p.2]) (put d20 (.bool true) (put d19 .any t))) H).run=some (.normal,t1,H1)/\aI cx.P cx.n rest (fun e t'' H'' => (e = .normal\/e = .exit i1) /\ ∃ t2,dK t'' t2/\Inv (A++B) t2 H'') t1 H1)
  {K:Exit->Act->World->Prop} {J:List O->List Loc->World->Prop} (hJ:∀ {H β w H' β' w'},J H β w->Stab w (Xs E H β) w' (Xs E H' β')->LocLe β β' -> J H' β' w')
  (done:∀ t H β a w,J H β w->Inv [] t H->Good E H0 β0 w0 cx.n D (put d20 (.bool false) (put d19 .any t)) H β a w->w.heap[bm]? = some (.map es clock)->(∀ o,¬ Own H β bm o)->K (.exit i0) a w) :
  ∀ (m:Nat) (left:List (Int × V)) (t:T) (H:List O) (β:List Loc) (a:Act) (w:World) (seen:Array Nat),left.length=m->J H β w->Inv left t H->Good E H0 β0 w0 cx.n D t H β a w ->
   w.heap[r]? = some (.mapIter (some bm) clock seen clock)->w.heap[bm]? = some (.map es clock)->(∀ o,¬ Own H β r o)->(∀ o,¬ Own H β bm o)->tN w (Xs E H β) β es seen left ->
   Code.rounds cx.P (.seq (.region i3 ops3 false) (.seq (.cond (.tmp d20) .skip (.exit i0)) (.block i1 (.seq (.region i4 ops4 false) rest)))) K (m+1) a w:=by
 intro m
 induction m using Nat.strongRecOn with
 | _ m ih =>
 intro left t H β a w seen hlen hj hI hg hr hb hur hub hleft;rw [rounds_succ];have hit:=aC1 hg.fr (hInv _ _ _ hI);have hrlt:r<w.heap.size:=dS hr;have hblt:bm<w.heap.size:=dS hb;have hold:∀ x ∈ es.toList,x.born<clock:=hst.1
 have l19:d19<cx.n:=by simpa [Nat.blt_eq] using F.l19
 have l20:d20<cx.n:=by simpa [Nat.blt_eq] using F.l20
 have l21:d21<cx.n:=by simpa [Nat.blt_eq] using F.l21
 have region3:∀ (w' : World) (b:Bool) (vs:Array Value) (K' : Exit->Act->World->Prop),(Instr.next (.pointer (some ⟨r,0,none⟩)) false o3a.type).run cx.P w = .ok (.tuple vs) w' -> vs[0]? = some (.bool b) ->
   K' .normal ((a.put (some d19) (.tuple vs)).put (some d20) (.bool b)) w' -> (Code.region i3 ops3 false).wp cx.P K' a w:=by
  intro w' b vs K' hn hv hk;refine wp_region ?_;have h3:=F.ops3;subst h3;show wpOps cx.P #[o3a,o3b] K' [0,1] a w
  have w1:Region.wanted o3a (yielded #[o3a,o3b] a.tmps)=true:=by simp [Region.wanted,F.g3a]
  have w2:Region.wanted o3b (yielded #[o3a,o3b] (a.put (some d19) (.tuple vs)).tmps)=true:=by simp [Region.wanted,F.g3b]
  have e1:(a.put (some d19) (.tuple vs)).eval (.tmp d19) = .tuple vs:=J5 (by rw [hg.fr.size]; exact l19);have i0:(#[o3a,o3b]:Array Oper)[0]? = some o3a:=rfl;have i1:(#[o3a,o3b]:Array Oper)[1]? = some o3b:=rfl;simp only [wpOps,i0,i1,w1,if_true];refine .inl (CB (s:=Instr.next (.pointer (some ⟨r,0,none⟩)) false o3a.type) (by simp only [execOp,F.next,hit]) hn ?_);rw [F.t3a];simp only [w2,if_true];refine .inl (CB (s:=Instr.extract (.tuple vs) 0) (w' := w') (x:=.bool b) (by simp only [execOp,F.ok,e1]) (by simp [Instr.extract,hv]) ?_)
  rw [F.t3b];exact hk
 rcases run_next_at (P:=cx.P) w o3a.type r bm clock clock seen es clock hr hb hold (Nat.le_refl _) with ⟨h0,hrun⟩ | ⟨e,he,w1,hw1,hrun⟩
 ·-- nothing is left
  have hl:=hleft.none h0;subst hl;refine wp_seq (region3 w false _ _ hrun rfl ?_);have hfr:FR w (Xs E H β) β cx.n (put d20 (.bool false) (put d19 .any t)) ((a.put (some d19) (.tuple #[.bool false])).put (some d20) (.bool false)):=(hg.fr.put l19 (.any _ _)).put l20 (.bool _ _);refine wp_seq ?_;have hc:((a.put (some d19) (.tuple #[.bool false])).put (some d20) (.bool false)).eval (.tmp d20) = .bool false:=J5 (Nat.lt_of_lt_of_eq l20 ((hg.fr.put (v:=.any) (x:=.tuple #[.bool false]) l19 (.any _ _)).size).symm)
  refine wp_cond hc ?_;exact wp_exit (done _ _ _ _ _ hj hI ⟨hg.step,hfr,hg.defers⟩ hb hub)
 ·obtain ⟨A,p,B,rfl,hkey,hval,hleft'⟩:=hleft.take hst he
  have hpar:(setBlock w1 r (.mapIter (some bm) clock (seen.push e.born) clock)).heap=w.heap.setIfInBounds r (.mapIter (some bm) clock (seen.push e.born) clock):=by
   rcases hw1 with rfl | rfl <;> rfl
  generalize hw2:setBlock w1 r (.mapIter (some bm) clock (seen.push e.born) clock)=w2 at hrun hpar
  have hpos:w2.os=w.os/\w2.tape=w.tape/\w2.output=w.output:=by
   subst hw2
   rcases hw1 with rfl | rfl <;> exact ⟨rfl,rfl,rfl⟩
  obtain ⟨hsame,hne⟩:=Go.MapKept.heap_set (o' := .mapIter (some bm) clock (seen.push e.born) clock) hr;have sd:Side H β r w w2:=⟨fun b hb=>by rw [hpar]; exact hne b hb,by rw [hpar]; simp,fun x hx=>by rw [hr] at hx; cases hx; rfl,hur,hpos.1,hpos.2.1,hpos.2.2⟩;have hg2:=hg.side sd hr0
  have hr2:w2.heap[r]? = some (.mapIter (some bm) clock (seen.push e.born) clock):=by rw [hpar]; exact hsame
  have hrb:bm ≠ r:=fun h=>by rw [h] at hb; rw [hr] at hb; cases hb
  have hb2:w2.heap[bm]? = some (.map es clock):=by rw [hpar,hne bm hrb]; exact hb
  refine wp_seq (region3 w2 true _ _ hrun rfl ?_);generalize ha2:(a.put (some d19) (.tuple #[.bool true,e.key,e.val])).put (some d20) (.bool true)=a2
  have hfr:FR w2 (Xs E H β) β cx.n (put d20 (.bool true) (put d19 .any t)) a2:=by
   rw [<- ha2];exact (hg2.fr.put l19 (.any _ _)).put l20 (.bool _ _)
  refine wp_seq ?_
  have hc:a2.eval (.tmp d20) = .bool true:=by
   rw [<- ha2];exact J5 (Nat.lt_of_lt_of_eq l20 ((hg2.fr.put (v:=.any) (x:=.tuple #[.bool true,e.key,e.val]) l19 (.any _ _)).size).symm)
  refine wp_cond hc ?_;refine wp_skip ?_;refine wp_block ?_
  have hdef:a2.defers=D:=by rw [<- ha2]; exact hg.defers
  have gself:Good E H β w2 cx.n D (put d20 (.bool true) (put d19 .any t)) H β a2 w2:=⟨Step.refl hg2.step.rel,hfr,hdef⟩
  have hit2:a2.eval (.tmp d18) = .pointer (some ⟨r,0,none⟩):=by
   refine aC1 hfr ?_
   have n1:d18 ≠ d19:=fun h=>by have:=F.n1; rw [h] at this; simp at this
   have n2:d18 ≠ d20:=fun h=>by have:=F.n2; rw [h] at this; simp at this
   rw [tH,if_neg n2,tH,if_neg n1];exact hInv _ _ _ hI
  have hent:=run_entry_at (P:=cx.P) w2 r bm clock seen es clock e hr2 hb2 (by
   have:=he;unfold leftOf at this;simp only [Array.toList_filter,List.mem_filter] at this
   exact this.1) hst.2.1
  obtain ⟨t1,H1,hs1,hrest⟩:=round A p B t H hI;refine wp_seq (wp_region ?_)
  have hsz4:List.range ops4.size=0 :: List.range' 1 post4.length:=by
   have:ops4.size=post4.length+1:=by
    have:=congrArg List.length F.ops4;simpa using this
   rw [this,List.range_eq_range',List.range'_succ]
  rw [hsz4]
  have h40:ops4[0]? = some o4:=by
   have:=congrArg (fun l=>l[0]?) F.ops4;simpa using this
  have w4:Region.wanted o4 (yielded ops4 a2.tmps)=true:=by simp [Region.wanted,F.g4]
  simp only [wpOps,h40,w4,if_true];refine .inl (CB (s:=Instr.entry (.pointer (some ⟨r,0,none⟩))) (by simp only [execOp,F.entry,hit2]) hent ?_);rw [F.t4]
  have gent:Good E H β w2 cx.n D (put d21 (.tup [.int .u64 p.1,p.2]) (put d20 (.bool true) (put d19 .any t))) H β (a2.put (some d21) (.tuple #[e.key,e.val])) w2:=by
   refine ⟨gself.step,hfr.put l21 ?_,hdef⟩;refine .tup _ _ [e.key,e.val] rfl fun k v x h1 h2=>?_
   match k,h1,h2 with
   | 0,h1,h2=>cases h1; cases h2; rw [hkey]; exact .int _ _ _
   | 1,h1,h2=>cases h1; cases h2; exact hval.stab sd.stab β (.refl _)
   | k+2,h1,h2=>simp at h1
  have hs' : gJ cx.P E H β w2:=hs.now hg2.step;show wpOps cx.P ops4 _ (List.range' 1 (post4.length+([]:List Oper).length)) _ _;refine QT hT hs' (ops:=ops4) (D:=D) (l2:=[]) (Q:=fun e t' H' => e = .normal/\t' = t1/\H' = H1) (fun v t H h=>by cases h.1) post4 1 _ _ _ _ _ (by rw [F.ops4,List.append_nil]; rfl) (Tree.gH hs1 ⟨rfl,rfl,rfl⟩) ?_ gent
  ·rintro t' H' β3 a3 w3 ⟨_,rfl,rfl⟩ g3
   show Exit.then _ _ .normal a3 w3;have hcode:=hrest E H β w2 D β3 a3 w3 hs' g3;refine wp_mono hcode fun ex a4 w4 hp=>?_
   have fin:∀ t4 H4 β4,(∃ t2,dK t4 t2/\Inv (A++B) t2 H4)->Good E H β w2 cx.n D t4 H4 β4 a4 w4 ->
     Code.rounds cx.P (.seq (.region i3 ops3 false) (.seq (.cond (.tmp d20) .skip (.exit i0)) (.block i1 (.seq (.region i4 ops4 false) rest)))) K m a4 w4:=by
    rintro t4 H4 β4 ⟨t5,hle,hI5⟩ g4
    have hm:m=(A++B).length+1:=by rw [<- hlen]; simp; omega
    rw [hm];have st:=g4.step;have hrl:r<w2.heap.size:=dS hr2;have hbl:bm<w2.heap.size:=dS hb2;refine ih (A++B).length (by omega) (A++B) t5 H4 β4 a4 w4 (seen.push e.born) rfl (hJ (hJ hj sd.stab (.refl _)) st.stab st.locs) hI5 ⟨hg2.step.trans st,g4.fr.le hle,g4.defers⟩ ?_ ?_ (st.notOwn hur hrl) (st.notOwn hub hbl) ?_
    ·rw [st.same hur hrl]; exact hr2
    ·rw [st.same hub hbl]; exact hb2
    ·exact (hleft'.stab sd.stab (.refl _)).stab st.stab st.locs
   cases ex with
   | normal=>obtain ⟨t4,H4,β4,⟨_,h2⟩,g4⟩:=hp; exact fin t4 H4 β4 h2 g4
   | exit id =>
    obtain ⟨t4,H4,β4,⟨h1,h2⟩,g4⟩:=hp
    have:id=i1:=by rcases h1 with h | h <;> cases h; rfl
    subst this;show (if id=id then _ else _);rw [if_pos rfl];exact fin t4 H4 β4 h2 g4
   | ret=>obtain ⟨t4,H4,β4,⟨h1,h2⟩,g4⟩:=hp; rcases h1 with h | h <;> cases h
   | panic ch=>obtain ⟨t4,H4,β4,v,x,⟨h1,h2⟩,g4⟩:=hp; rcases h1 with h | h <;> cases h
   | goto l=>exact hp.elim
   | outgrown=>exact hp.elim
theorem aTP {P:Program} {Q:AEx->T->List O->Prop} (hP:cx.P=P) (hn:cx.n=n) (hT:aW cx) (F:ForMap cx ops3 ops4 post4 o3a o3b o4 d18 d19 d20 d21)
  {c:Array Oper} {o2:Oper} {pre:List Oper} {mt kt et:TypeId} {mop:Operand} {i2:Nat} (i:c.toList=pre++[o2]) (hop:o2.op = .range mt mop) (hg2:o2.guard=none) (qE:o2.dst=some d18) (Z:Nat.blt d18 cx.n=true)
  (hmt:cx.P.underlying mt=some (.map kt et)) {t t1:T} {H:List O} {mid:Nat} {keys:List Int} {vs:List V} (ks:List Nat)
  (M:(dD { cx with keeps:=ks } c pre t H).run=some (.normal,t1,H)) (hm:rd t1 mop = .mp mid) (U:H[mid]? = some (.obj (.map keys) vs)) (hlen:vs.length=keys.length)
  (Inv:Nat->List (Int × V)->T->List O->Prop) (start:∀ r,∃ t2,dK (put d18 (o8 r) t1) t2/\Inv r (keys.zip vs) t2 (H.set mid .dead))
  (u:∀ r left t H,Inv r left t H->H[mid]? = some .dead) (hit:∀ r left t H,Inv r left t H->get d18 t=o8 r)
  (round:∀ r A p B t H,Inv r (A++p :: B) t H -> ∃ t1 H1,(dD cx ops4 post4 (put d21 (.tup [.int .u64 p.1,p.2]) (put d20 (.bool true) (put d19 .any t))) H).run=some (.normal,t1,H1)/\aI cx.P cx.n rest (fun e t'' X => (e = .normal\/e = .exit i1) /\ ∃ t2,dK t'' t2/\Inv r (A++B) t2 X) t1 H1)
  (done:∀ r t H',Inv r [] t H' -> Q .normal (put d20 (.bool false) (put d19 .any t)) (H'.set mid (.obj (.map keys) vs))) :
  aI P n (.seq (.region i2 c false) (.block i0 (.loop (.seq (.region i3 ops3 false) (.seq (.cond (.tmp d20) .skip (.exit i0)) (.block i1 (.seq (.region i4 ops4 false) rest))))))) Q t H:=by
 subst hP;subst hn;intro E H0 β0 w0 D β a w hs m;refine wp_seq (wp_region ?_)
 have hsz:List.range c.size=List.range' 0 (pre.length+[o2].length):=by
  have:c.size=pre.length+1:=by
   have:=congrArg List.length i;simpa using this
  rw [this,List.range_eq_range'];rfl
 rw [hsz]
 have h20:c[pre.length]? = some o2:=by
  have:=congrArg (fun l=>l[pre.length]?) i;simpa using this
 refine QT (cx:={ cx with keeps:=ks }) hT hs (ops:=c) (D:=D) (l2:=[o2]) (Q:=fun e t' H' => e = .normal/\t' = t1/\H' = H) (fun v t H h=>by cases h.1) pre 0 _ _ _ _ _ (by rw [i]; rfl) (Tree.gH M ⟨rfl,rfl,rfl⟩) ?_ m;rintro t' H' β a w ⟨_,rfl,rfl⟩ m;rw [Nat.zero_add]
 have wd:Region.wanted o2 (yielded c a.tmps)=true:=by simp [Region.wanted,hg2]
 show wpOps cx.P c _ [pre.length] a w;simp only [wpOps,h20,wd,if_true];have z:=q5 m.fr mop;rw [hm] at z;generalize hmv:a.eval mop=mv at z
 cases z with
 | mp _ _ loc q hk =>
 obtain ⟨_,hb0,ob,xs,hob,⟨arr,clock,l,rfl,hst,hpw,hperm,hkeys,hvals⟩,hvR⟩:=m.step.rel.objs mid _ _ loc U q;refine .inl (CB (s:=Instr.range mt (.map (some loc.block))) (by simp only [execOp,hop,hmv]) (run_range_map w mt kt et loc.block arr clock hmt hob) ?_);rw [qE];have G:loc.block<w.heap.size:=dS hob
 have l18:d18<cx.n:=by simpa [Nat.blt_eq] using Z
 have L:w0.heap.size<=loc.block \/ ∀ o,Own H0 β0 loc.block o:=by
  by_cases h:w0.heap.size<=loc.block
  ·exact .inl h
  ·refine .inr fun o=>?_
   rcases m.step.own loc.block o ⟨mid,loc,q,rfl,.inr (.inr ⟨_,_,U⟩)⟩ with Y | Y
   ·exact Y
   ·exact absurd Y h
 have hlt:mid<H'.length:=(ZB2.1 U).1
 have j:(H'.set mid O.dead)[mid]? = some .dead:=by rw [kE]; simp [hlt]
 have hub:∀ o,¬ Own (H'.set mid .dead) β loc.block o:=by
  rintro o ⟨id,l',g,h2',d⟩;by_cases e:mid=id
  ·subst e
   rw [j] at d
   rcases d with ⟨_,_,d⟩ | ⟨_,_,d,_⟩ | ⟨_,_,d⟩ <;> cases d
  ·rw [List.getElem?_set_ne e] at d
   refine e (m.step.rel.disj mid id loc l' (mC U) ?_ q g h2'.symm)
   rcases d with ⟨_,_,d⟩ | ⟨_,_,d,_⟩ | ⟨_,_,d⟩
   ·exact kV d
   ·exact kX d
   ·exact mC d
 have N:∀ o,¬ Own (H'.set mid .dead) β w.heap.size o:=by
  rintro o ⟨id,l',g,h2',d⟩
  have W:live (H'.set mid .dead) id:=by
   rcases d with ⟨_,_,d⟩ | ⟨_,_,d,_⟩ | ⟨_,_,d⟩
   ·exact kV d
   ·exact kX d
   ·exact mC d
  have:=oC m.hide.step.rel W g;omega
 have sd:Side (H'.set mid .dead) β w.heap.size w (w.alloc (.mapIter (some loc.block) clock #[] clock)):=by
  refine ⟨fun b hb=>?_,by simp,fun x hx=>?_,N,rfl,rfl,rfl⟩
  ·by_cases h:b<w.heap.size
   ·exact heap_alloc_old w _ h
   ·have g:w.heap[b]? = none:=by simp; omega
    rw [g];show (w.heap.push _)[b]? = none;simp;omega
  ·simp at hx
 have y:Good E H0 β0 w0 cx.n D t' (H'.set mid .dead) β a (w.alloc (.mapIter (some loc.block) clock #[] clock)):=(m.hide).side sd m.step.size;obtain ⟨t2,hle,hI⟩:=start w.heap.size
 have I : Good E H0 β0 w0 cx.n D t2 (H'.set mid .dead) β (a.put (some d18) (.pointer (some ⟨w.heap.size,0,none⟩))) (w.alloc (.mapIter (some loc.block) clock #[] clock)):=
  ⟨y.step,(y.fr.put (v:=o8 w.heap.size) l18 (.val _ _)).le hle,y.defers⟩
 show (Code.block i0 _).wp cx.P _ _ _;refine wp_block (wp_loop_rounds ((keys.zip vs).length+1) ?_)
 have f : ∀ (k:Nat) v x,vs[k]? = some v->xs[k]? = some x->R w (Xs E H' β) β v x:=by
  intro k v x g i;obtain ⟨x',d,h4⟩:=hvR k v g;rw [i] at d;cases d;exact h4
 have hxl:xs.length=keys.length:=by
  rw [<- hvals,ZF0];have:=congrArg List.length hkeys;simpa using this
 have C:∀ b o,Xs E (H'.set mid .dead) β b o->Xs E H' β b o:=fun b o h=>h.imp id RE
 let J:List O->List Loc->World->Prop:=fun H β w=>β[mid]? = some loc /\ ∀ (k:Nat) v x,vs[k]? = some v->xs[k]? = some x->R w (Xs E H β) β v x
 refine aQX (cx:=cx) hT hs F (r:=w.heap.size) (bm:=loc.block) (es:=arr) (clock:=clock) (Inv:=Inv w.heap.size) (J:=J) m.step.size hst (hit _) (round _) ?_ ?_ _ (keys.zip vs) t2 (H'.set mid .dead) β _ _ #[] rfl ⟨q,fun k v x g i=>((f k v x g i).weak C).stab sd.stab β (.refl _)⟩ hI I
  (heap_alloc_new _ _) ((heap_alloc_old _ _ G).trans hob) N hub ?_
 ·rintro H1 β1 w1 H2 β2 w2 ⟨g,i⟩ st W
  refine ⟨?_,fun k v x a b=>(i k v x a b).stab st β2 W⟩;obtain ⟨loc',g1,S⟩:=W mid loc g
  rcases S with rfl | ⟨S,_⟩
  ·exact g1
  ·rw [hk] at S; cases S
 ·rintro t3 H3 β3 a3 w3 ⟨g,i⟩ hI3 hg3 hb3 hu3
  show (if i0=i0 then _ else _);rw [if_pos rfl];refine ⟨_,_,β3,done _ _ _ hI3,hg3.show (u _ _ _ _ hI3) g hk hb0 hb3 ⟨arr,clock,l,rfl,hst,hpw,hperm,hkeys,hvals⟩ (fun k v hv=>?_) hu3 L⟩
  have K : k<xs.length:=by rw [hxl,<- hlen]; exact (ZB2.1 hv).1
  exact ⟨xs[k],by simp [K],i k v _ hv (by simp [K])⟩
 ·refine ⟨l,?_,?_,fun k p e hp he=>?_⟩
  ·have:leftOf arr #[]=arr:=by
    unfold leftOf
    exact Array.filter_eq_self.2 fun x _=>by simp
   rw [this];exact hperm
  ·rw [hkeys]
   have:keys=(keys.zip vs).map (·.1):=by rw [List.map_fst_zip]; omega
   conv=>lhs; rw [this]
   rw [List.map_map];rfl
  ·have hkv:vs[k]? = some p.2:=by
    have:=List.getElem?_zip_eq_some.1 hp;exact this.2
   have hx:xs[k]? = some e.val:=by rw [<- hvals,ZC0,he]; rfl
   exact ((f k _ _ hkv hx).weak C).stab sd.stab β (.refl _)
end
end Go.Ab
