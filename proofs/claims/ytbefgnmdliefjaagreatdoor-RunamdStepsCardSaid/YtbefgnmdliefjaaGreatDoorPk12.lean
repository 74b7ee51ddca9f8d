/-
  The engine, part Ym: a call that keeps a number within a range. Conditions: none.
-/
import Derived.Test.YtbefgnmdliefjaaGreatDoorPk11
import Derived.Test.YtbefgnmdliefjaaGreatDoorPk10
import Derived.ProofKit
import Derived.Deep.Slices
import Derived.OpenShut
import Derived.Test.YtbefgnmdliefjaaGreatDoorProg
open Go.IntKind (wrap i64 u64 u8)
open Go.Proofs.Tryz (prog)
open Bool renaming and_eq_true_iff→ZA0,and_eq_true→ZA2
open List renaming getElem?_append_left→ZB0,getElem?_append_right→ZB1,getElem?_eq_some_iff→ZB2,getElem?_eq_getElem→ZB3,getElem?_map→ZC0,getElem?_cons_zero→ZC3,getElem?_cons_succ→ZD0,mem_cons_of_mem→ZD2,length_cons→ZD3,length_map→ZF0
open Nat renaming eq_of_beq_eq_true→ZG1
open Option renaming map_eq_some_iff→ZH0
open Option.some renaming injEq→ZH3
set_option linter.unusedVariables false
set_option linter.unusedSimpArgs false
namespace Go.Ab
def eL (A:List O) (pre:List V) (v:V) (post:List V) (e:TypeId) (B:List O):List O:=A ++ .cells (pre++v :: post) e :: B
section
variable {P:Program} {E:Nat->Nat->Prop} {β:List Loc} {w:World} {X:Nat->Nat->Prop} {A B:List O} {pre post:List V} {e:TypeId} {u v:V}
theorem yP (id:Nat) (a:O) (h:(eL A pre u post e B)[id]? = some a):(id=A.length/\a = .cells (pre++u :: post) e/\(eL A pre v post e B)[id]? = some (.cells (pre++v :: post) e))\/(id ≠ A.length/\(eL A pre v post e B)[id]? = some a):=by
 unfold eL at h ⊢;by_cases h1:id<A.length
 ·rw [ZB0 h1] at h ⊢
  exact .inr ⟨by omega,h⟩
 ·rw [ZB1 (by omega)] at h ⊢
  cases b:id - A.length with
  | zero =>
   rw [b] at h;simp only [ZC3,ZH3] at h ⊢;exact .inl ⟨by omega,h.symm,trivial⟩
  | succ m =>
   rw [b] at h;simp only [ZD0] at h ⊢;exact .inr ⟨by omega,h⟩
theorem nX (b o:Nat) (h:Own (eL A pre u post e B) β b o):Own (eL A pre v post e B) β b o:=by
 obtain ⟨id,loc,h1,h2,a⟩:=h;refine ⟨id,loc,h1,h2,?_⟩
 rcases a with ⟨cs,e',a⟩ | ⟨n,sz,a,h4⟩ | ⟨sh,vs,a⟩
 ·rcases yP (v:=v) id _ a with ⟨_,_,g⟩ | ⟨_,g⟩
  ·exact .inl ⟨_,_,g⟩
  ·exact .inl ⟨_,_,g⟩
 ·rcases yP (v:=v) id _ a with ⟨_,g,_⟩ | ⟨_,g⟩
  ·cases g
  ·exact .inr (.inl ⟨_,_,g,h4⟩)
 ·rcases yP (v:=v) id _ a with ⟨_,g,_⟩ | ⟨_,g⟩
  ·cases g
  ·exact .inr (.inr ⟨_,_,g⟩)
theorem aJS:Xs E (eL A pre u post e B) β=Xs E (eL A pre v post e B) β:=by
 funext b o
 exact propext ⟨fun h=>h.imp id (nX b o),fun h=>h.imp id (nX b o)⟩
theorem aF7 {i:Nat} (h:live (eL A pre u post e B) i):live (eL A pre v post e B) i:=by
 obtain ⟨o,h1,h2⟩:=h
 rcases yP (v:=v) i _ h1 with ⟨_,_,g⟩ | ⟨_,g⟩
 ·exact ⟨_,g,by simp⟩
 ·exact ⟨o,g,h2⟩
theorem RM (f:Rel w X (eL A pre u post e B) β) (t:∀ loc c e',β[A.length]? = some loc->w.heap[loc.block]? = some (.cells c e' (0,0)) -> ∀ x,c[loc.base+pre.length]? = some x->R w X β u x->R w X β v x):Rel w X (eL A pre v post e B) β:=by
 have hlen:(eL A pre v post e B).length=(eL A pre u post e B).length:=by unfold eL; simp
 refine ⟨hlen.trans f.len,fun id cs o loc b a=>?_,fun id n z loc b a=>?_,fun id sh vs loc b a=>?_,fun i j l l' b a q r s=>f.disj i j l l' (aF7 b) (aF7 a) q r s⟩
 ·rcases yP (v:=u) id _ b with ⟨p,g2,g3⟩ | ⟨_,g⟩
  ·simp only [O.cells.injEq] at g2
   obtain ⟨rfl,rfl⟩:=g2;obtain ⟨h,c,e',a2,a3,a4,a5⟩:=f.cells id _ _ loc g3 a;refine ⟨h,c,e',a2,a3,?_,fun k y d=>?_⟩
   ·simpa using a4
   ·by_cases hk:k=pre.length
    ·subst hk
     rw [ZB1 (Nat.le_refl _),Nat.sub_self] at d;cases d;obtain ⟨x,hx,hr⟩:=a5 pre.length u (by rw [ZB1 (Nat.le_refl _),Nat.sub_self]; rfl);exact ⟨x,hx,t loc c e' (by rw [<- p]; exact a) a2 x hx hr⟩
    ·refine a5 k y ?_
     by_cases hlt:k<pre.length
     ·rw [ZB0 hlt] at d ⊢; exact d
     ·rw [ZB1 (by omega)] at d ⊢
      obtain ⟨m,hm⟩:∃ m,k - pre.length=m+1:=⟨k - pre.length - 1,by omega⟩;rw [hm,ZD0] at d ⊢;exact d
  ·exact f.cells id cs o loc g a
 ·rcases yP (v:=u) id _ b with ⟨_,g,_⟩ | ⟨_,g⟩
  ·cases g
  ·exact f.tok id n z loc g a
 ·rcases yP (v:=u) id _ b with ⟨_,g,_⟩ | ⟨_,g⟩
  ·cases g
  ·exact f.objs id sh vs loc g a
end
theorem aWZ {P:Program} {f:Nat} {args:List V} {A B:List O} {pre post:List V} {e:TypeId} {k:IntKind} {lo hi:Int} {v:V} (F:lo<hi)
  (h:∀ n,lo<=n->n<hi -> ∃ n',lo<=n' /\ n' < hi/\dQ P f args (eL A pre (.int k n) post e B) (.ok v (eL A pre (.int k n') post e B))) :
  dQ P f args (eL A pre (.rng k lo hi) post e B) (.ok v (eL A pre (.rng k lo hi) post e B)):=by
 refine ⟨(h lo (Int.le_refl _) F).choose_spec.2.2.1,fun w E β a z C I J=>?_⟩
 have i:(eL A pre (.rng k lo hi) post e B)[A.length]? = some (.cells (pre ++ .rng k lo hi :: post) e):=by
  unfold eL;rw [ZB1 (Nat.le_refl _),Nat.sub_self];rfl
 obtain ⟨loc,hloc⟩:∃ loc,β[A.length]? = some loc:=by
  have:A.length<β.length:=by rw [<- C.len]; exact (ZB2.1 i).1
  exact ⟨β[A.length],by simp [this]⟩
 obtain ⟨_,c,e',a2,_,_,a5⟩:=C.cells _ _ _ loc i hloc;obtain ⟨x,hx,s⟩:=a5 pre.length (.rng k lo hi) (by rw [ZB1 (Nat.le_refl _),Nat.sub_self]; rfl)
 cases s with
 | rng _ _ _ _ n G =>
 obtain ⟨n',g1,g2,_,hc⟩:=h n G.1 G.2;have d:∀ (u K : V) (β:List Loc),Xs E (eL A pre u post e B) β=Xs E (eL A pre K post e B) β:=fun _ _ _=>aJS
 have D : Rel w (Xs E (eL A pre (.int k n) post e B) β) (eL A pre (.int k n) post e B) β:=by
  rw [d _ (.rng k lo hi)];refine RM C fun l c2 H m p y r t=>?_;rw [hloc] at m;cases m;rw [a2] at p;cases p;rw [hx] at r;cases r;exact .int _ _ _
 refine (hc w E β a ⟨fun b o hb=>⟨(z.1 b o hb).1,fun j=>(z.1 b o hb).2 (nX b o j)⟩,by rw [d _ (.rng k lo hi)]; exact z.2⟩ D I (by rw [d _ (.rng k lo hi)]; exact J)).mono ?_;rintro L w' ⟨y,β',rfl,st,s⟩;rw [d _ (.rng k lo hi)] at s;refine ⟨y,β',rfl,⟨?_,st.os,st.tape,st.output,st.size,fun b hb=>?_,fun b o j=>?_,st.locs⟩,s⟩
 ·have:=st.rel
  rw [d _ (.rng k lo hi)] at this;refine RM this fun l c2 H m p y r t=>?_;cases t;exact .rng _ _ _ _ _ ⟨g1,g2⟩
 ·rcases st.pres b hb with g | ⟨⟨o,g⟩,c1,c2,e3,m,p,r,t⟩ | ⟨⟨o,g⟩,q⟩
  ·exact .inl g
  ·exact .inr (.inl ⟨⟨o,nX b o g⟩,c1,c2,e3,m,p,r,fun o j=>t o fun h=>j (nX b o h)⟩)
  ·exact .inr (.inr ⟨⟨o,nX b o g⟩,q⟩)
 ·exact (st.own b o (nX b o j)).imp (nX b o) id
end Go.Ab

namespace Go.Ab
theorem aH0 {k:IntKind} {o j:Nat} {x:Int} (h:j ≠ o) (v:V):uR k o x j v=v:=by
 have hb:Nat.beq j o=false:=by
  cases hb:Nat.beq j o
  ·rfl
  ·exact absurd (ZG1 hb) h
 cases v with
 | int l n =>
  show cond (decide (l=k)) (V.int k (cond (Nat.beq j o) x n)) (V.int l n)=V.int l n;rw [hb,cond_false];by_cases hl:l=k
  ·rw [decide_eq_true hl,cond_true,hl]
  ·rw [decide_eq_false hl,cond_false]
 | _=>rfl
theorem KK {k:IntKind} {o:Nat} {x:Int}:∀ (l:List V) (j:Nat),(o<j\/j+l.length<=o)->j9 k o x j l=l
 | [],_,_=>rfl
 | v :: r,j,h=>by
  simp only [ZD3] at h;show uR k o x j v :: j9 k o x (j+1) r=v :: r;rw [aH0 (by omega),KK r (j+1) (by omega)]
theorem P1 {k:IntKind} {o:Nat} {x:Int}:∀ (l m:List V) (j:Nat),j9 k o x j (l++m)=j9 k o x j l++j9 k o x (j+l.length) m
 | [],_,_=>rfl
 | v :: r,m,j=>by
  show uR k o x j v :: j9 k o x (j+1) (r++m)=uR k o x j v :: (j9 k o x (j+1) r++_);rw [P1 r m (j+1),ZD3,show j+1+r.length=j+(r.length+1) by omega]
theorem aI0 {k:IntKind} {o:Nat} {x:Int}:∀ (l:List Int) (j:Nat),j<=o->o<j+l.length->j9 k o x j (l.map (V.int k))=(l.set (o - j) x).map (V.int k)
 | [],j,h1,h2=>by
  simp only [List.length_nil] at h2;omega
 | n :: r,j,h1,h2=>by
  simp only [ZD3] at h2;show uR k o x j (.int k n) :: j9 k o x (j+1) (r.map (V.int k))=_;by_cases h:j=o
  ·subst h
   rw [KK _ _ (by omega),Nat.sub_self];show cond (decide (k=k)) (V.int k (cond (Nat.beq j j) x n)) (V.int k n) :: _=_;rw [decide_eq_true rfl,Nat.beq_refl];rfl
  ·rw [aH0 h,aI0 r (j+1) (by omega) (by omega)]
   obtain ⟨d,hd⟩:∃ d,o - j=d+1:=⟨o - j - 1,by omega⟩;rw [hd,show o - (j+1)=d by omega];rfl
theorem aRY {l m:List V}:∀ {o:Nat},l.length<=o->pJ (l++m) o=pJ m (o - l.length):=by
 induction l with
 | nil=>intro o _; rfl
 | cons v r a =>
  intro o h;simp only [ZD3] at h;obtain ⟨d,rfl⟩:∃ d,o=d+1:=⟨o - 1,by omega⟩;rw [ZD3,show d+1 - (r.length+1)=d - r.length by omega];exact a (by omega)
theorem aSL {l m:List V}:∀ {o:Nat},o<l.length->pJ (l++m) o=pJ l o:=by
 induction l with
 | nil=>intro o h; exact absurd h (Nat.not_lt_zero _)
 | cons v r a =>
  intro o h;simp only [ZD3] at h
  cases o with
  | zero=>rfl
  | succ d=>exact a (by omega)
theorem aFG {k:IntKind}:∀ {l:List Int} {o:Nat},pJ (l.map (V.int k)) o=l.getD o 0
 | [],_=>rfl
 | _ :: _,0=>rfl
 | _ :: r,d+1=>by
  show pJ (r.map (V.int k)) d=_;rw [aFG];rfl
theorem aTA {k:IntKind} {l m:List V} {xs:List Int} {o:Nat} (a:l.length<=o) (b:o<l.length+xs.length):n9 k (l++(xs.map (V.int k)++m)) o=true:=by
 unfold n9;rw [ZB1 a,ZB0 (by rw [ZF0]; omega),ZC0,ZB3 (by omega)];exact decide_eq_true rfl
end Go.Ab

namespace Go.Ab
theorem a2K {P:Program} {f:Nat} {args:List V} {A B:List O} {pre post:List V} {e:TypeId} {k:IntKind} {lo hi m:Int} {v:V} {H' : List O} (n:lo<=m) (p:m<hi)
  (h:dQ P f args (eL A pre (.rng k lo hi) post e B) (.ok v H')):dQ P f args (eL A pre (.int k m) post e B) (.ok v H'):=by
 obtain ⟨t,hc⟩:=h;refine ⟨t,fun w E β a j r s u=>?_⟩;have i:Xs E (eL A pre (.int k m) post e B) β=Xs E (eL A pre (.rng k lo hi) post e B) β:=aJS
 have l : Rel w (Xs E (eL A pre (.rng k lo hi) post e B) β) (eL A pre (.rng k lo hi) post e B) β:=by
  rw [<- i];refine RM r fun loc c e' _ _ x _ z=>?_;cases z;exact .rng _ _ _ _ _ ⟨n,p⟩
 refine (hc w E β a ⟨fun b o hb=>⟨(j.1 b o hb).1,fun d=>(j.1 b o hb).2 (nX b o d)⟩,by rw [<- i]; exact j.2⟩ l s (by rw [<- i]; exact u)).mono ?_;rintro C w' ⟨y,β',rfl,st,hr⟩;refine ⟨y,β',rfl,⟨st.rel,st.os,st.tape,st.output,st.size,fun b hb=>?_,fun b o d=>?_,st.locs⟩,hr⟩
 ·rcases st.pres b hb with g | ⟨⟨o,g⟩,c1,c2,e3,q1,q2,q3,q4⟩ | ⟨⟨o,g⟩,q⟩
  ·exact .inl g
  ·exact .inr (.inl ⟨⟨o,nX b o g⟩,c1,c2,e3,q1,q2,q3,fun o d=>q4 o fun h=>d (nX b o h)⟩)
  ·exact .inr (.inr ⟨⟨o,nX b o g⟩,q⟩)
 ·exact (st.own b o d).imp (nX b o) id
end Go.Ab

namespace Go.Ab
def CJ (cx:Cx) (o:Oper):Bool:=quiet cx o || match o.op with
 | .box .. | .alloc _=>true
 | _=>false
def wS (cx:Cx):Code->Bool
 | .skip=>true
 | .region _ ops _=>ops.toList.all (CJ cx)
 | .seq a b=>wS cx a&&wS cx b
 | .cond _ a b=>wS cx a&&wS cx b
 | .block _ c=>wS cx c
 | .exit _=>true
 | .ret=>true
 | .loop c=>wS cx c
 | _=>false
def tX (H:List O) (s:St):Prop:=(∃ v,s.1 = .panic v) \/ ∃ N,s.2.2=H++N
theorem tX.trans {H N:List O} {s:St} (h:tX (H++N) s):tX H s:=by
 rcases h with h | ⟨M,h⟩
 ·exact .inl h
 ·exact .inr ⟨N++M,by rw [h,List.append_assoc]⟩
mutual
theorem ren_id {ρ:Nat->Option Nat} (h:∀ i j,ρ i=some j->j=i):∀ (v u:V),V.ren? ρ v=some u->u=v
 | .int _ _,u,e=>by simp only [V.ren?,ZH3] at e; subst e; rfl
 | .bool _,u,e=>by simp only [V.ren?,ZH3] at e; subst e; rfl
 | .str _,u,e=>by simp only [V.ren?,ZH3] at e; subst e; rfl
 | .val _,u,e=>by simp only [V.ren?,ZH3] at e; subst e; rfl
 | .pin _,u,e=>by simp only [V.ren?,ZH3] at e; subst e; rfl
 | .sl _ _ _ _,u,e=>by simp only [V.ren?,ZH3] at e; subst e; rfl
 | .any,u,e=>by simp only [V.ren?,ZH3] at e; subst e; rfl
 | .rng _ _ _,u,e=>by simp only [V.ren?,ZH3] at e; subst e; rfl
 | .gro id c l,u,e=>by
  unfold V.ren? at e;split at e
  ·rename_i j m; simp only [ZH3] at e; subst e; rw [h _ _ m]
  ·cases e
 | .ptr id off,u,e=>by
  unfold V.ren? at e;split at e
  ·rename_i j m; simp only [ZH3] at e; subst e; rw [h _ _ m]
  ·cases e
 | .ref id p off len,u,e=>by
  unfold V.ren? at e;split at e
  ·rename_i j m; simp only [ZH3] at e; subst e; rw [h _ _ m]
  ·cases e
 | .mp id,u,e=>by
  unfold V.ren? at e;split at e
  ·rename_i j m; simp only [ZH3] at e; subst e; rw [h _ _ m]
  ·cases e
 | .agg cs,u,e=>by
  unfold V.ren? at e;split at e
  ·rename_i n k; simp only [ZH3] at e; subst e; rw [rens_id h cs n k]
  ·cases e
 | .tup cs,u,e=>by
  unfold V.ren? at e;split at e
  ·rename_i n k; simp only [ZH3] at e; subst e; rw [rens_id h cs n k]
  ·cases e
 | .ifc t v,u,e=>by
  unfold V.ren? at e;split at e
  ·rename_i d k; simp only [ZH3] at e; subst e; rw [ren_id h v d k]
  ·cases e
 | .clo g a b,u,e=>by
  unfold V.ren? at e;split at e
  ·rename_i d f k o; simp only [ZH3] at e; subst e; rw [rens_id h a d k,rens_id h b f o]
  ·cases e
theorem rens_id {ρ:Nat->Option Nat} (h:∀ i j,ρ i=some j->j=i):∀ (l m:List V),V.rens? ρ l=some m->m=l
 | [],m,e=>by simp only [V.rens?,ZH3] at e; subst e; rfl
 | v :: r,m,e=>by
  unfold V.rens? at e;split at e
  ·rename_i d f a b; simp only [ZH3] at e; subst e; rw [ren_id h v d a,rens_id h r f b]
  ·cases e
end
theorem a83 {ρ:Nat->Option Nat} (h:∀ i j,ρ i=some j->j=i) (o u:O) (e:O.ren? ρ o=some u):u=o:=by
 cases o with
 | cells cs t =>
  simp only [O.ren?] at e
  cases a:V.rens? ρ cs with
  | none=>rw [a] at e; cases e
  | some b =>
   rw [a] at e;rw [rens_id h _ _ a] at e;exact (Option.some.inj e).symm
 | tok n c=>exact (Option.some.inj e).symm
 | obj sh vs =>
  simp only [O.ren?] at e
  cases a:V.rens? ρ vs with
  | none=>rw [a] at e; cases e
  | some b =>
   rw [a] at e;rw [rens_id h _ _ a] at e;exact (Option.some.inj e).symm
 | dead=>exact (Option.some.inj e).symm
theorem aFU {ρ:Nat->Option Nat} (h:∀ i j,ρ i=some j->j=i):∀ (l m:List O),eA ρ l=some m->m=l
 | [],_,e=>(Option.some.inj e).symm
 | o :: r,m,e=>by
  unfold eA at e
  cases a:O.ren? ρ o with
  | none=>rw [a] at e; cases e
  | some u =>
   cases b:eA ρ r with
   | none=>rw [a,b] at e; cases e
   | some c =>
    rw [a,b] at e;rw [a83 h _ _ a,aFU h _ _ b] at e;exact (Option.some.inj e).symm
section
variable {cx:Cx}
theorem aVW {o:Oper} {t:T} {H H1:List O} {v:V} (a:CJ cx o=true) (h:(aP cx t H o).run=some (.ok v H1)):∃ N,H1=H++N:=by
 unfold CJ at a
 rcases Bool.or_eq_true_iff.1 a with a | a
 ·exact ⟨[],(rK a h).trans (List.append_nil _).symm⟩
 ·unfold aP at h
  split at a <;> first | (cases a; done) | (rename_i b; simp only [b] at h)
  all_goals
   split at h
   ·cases h
    exact ⟨_,rfl⟩
   ·cases h
theorem QH {ops:Array Oper}:∀ (l:List Oper) (t:T) (H:List O) (s:St),l.all (CJ cx)=true->(dD cx ops l t H).run=some s->tX H s
 | [],t,H,s,_,h=>by
  simp only [dD,Tree.run,ZH3] at h;subst h;exact .inr ⟨[],(List.append_nil _).symm⟩
 | o :: r,t,H,s,e,h=>by
  obtain ⟨c,hq2⟩:=ZA0.1 (by simpa using e:(CJ cx o&&r.all (CJ cx))=true)
  have put:∀ {v t H1},(kI cx o v t H1 (dD cx ops r)).run=some s->tX H1 s:=by
   intro v t H1 h;unfold kI at h;split at h
   ·exact QH r _ H1 s hq2 h
   ·cases h
  have d:∀ {t},((aP cx t H o).bind (mV cx o t (dD cx ops r))).run=some s->tX H s:=by
   intro t h;obtain ⟨res,h1,h2⟩:=bD h
   cases res with
   | ok v H1 =>
    obtain ⟨N,rfl⟩:=aVW c h1;exact (put h2).trans
   | pan v H1 =>
    simp only [mV,Tree.run,ZH3] at h2;subst h2;exact .inl ⟨v,rfl⟩
  unfold dD zG at h;split at h
  ·exact d h
  ·rename_i j a f
   split at h
   ·split at h
    ·rename_i b hb
     rcases BH h with h | h
     ·cases a
      ·exact put h
      ·exact d h
     ·cases a
      ·exact d h
      ·exact put h
    ·exact put h
    ·cases h
   ·cases h
theorem aCY {f:T->List O->Tree St} (a:∀ t H s,(f t H).run=some s->tX H s):∀ (n:Nat) (t:T) (H:List O) (s:St),(CL f n t H).run=some s->tX H s
 | 0,_,_,_,h=>by cases h
 | n+1,t,H,s,h=>by
  obtain ⟨b,h1,h2⟩:=bD h;have g:=a t H b h1;obtain ⟨e,t1,H1⟩:=b;cases e
  ·rcases g with ⟨v,c⟩ | g
   ·cases c
   ·obtain ⟨N,g⟩:=g
    have g:H1=H++N:=g;subst g;exact (aCY a n t1 _ s h2).trans
  all_goals (simp only [oY,Tree.run,ZH3] at h2; subst h2; exact g)
theorem tC:∀ (c:Code) (t:T) (H:List O) (s:St),wS cx c=true->(aK cx c t H).run=some s->tX H s
 | .skip,t,H,s,_,h=>by
  simp only [aK,Tree.run,ZH3] at h;subst h;exact .inr ⟨[],(List.append_nil _).symm⟩
 | .region id ops draw,t,H,s,f,h=>by
  unfold aK at h;cases draw
  ·exact QH _ _ _ _ f h
  ·simp only [cond_true] at h
   cases l:(y8 cx ops || yW cx ops t H)
   ·rw [l] at h; cases h
   ·rw [l] at h
    obtain ⟨i,h1,d⟩:=bD h;have g:=QH _ _ _ _ f h1;obtain ⟨e,t1,H1⟩:=i;cases e
    ·simp only [zO,Tree.run,ZH3] at d
     subst d;exact g
    ·cases d
    ·cases d
    ·simp only [zO] at d
     cases m:MO cx ops
     ·rw [m] at d; cases d
     ·rw [m,cond_true] at d
      simp only [Tree.run,ZH3] at d;subst d;exact .inl ⟨_,rfl⟩
 | .seq a b,t,H,s,f,h=>by
  obtain ⟨j,q2⟩:=ZA0.1 f;unfold aK at h;obtain ⟨i,h1,d⟩:=bD h;have g:=tC a t H i j h1;obtain ⟨e,t1,H1⟩:=i;cases e
  ·rcases g with ⟨v,k⟩ | g
   ·cases k
   ·obtain ⟨N,g⟩:=g
    have g:H1=H++N:=g;subst g;exact (tC b t1 _ s q2 d).trans
  all_goals (simp only [oY,Tree.run,ZH3] at d; subst d; exact g)
 | .cond c a b,t,H,s,f,h=>by
  obtain ⟨j,q2⟩:=ZA0.1 f;unfold aK at h;split at h
  ·split at h
   ·rcases BH h with h | h
    ·exact tC a _ H s j h
    ·exact tC b _ H s q2 h
   ·cases h
  ·split at h
   ·rcases BH h with h | h
    ·exact tC a _ H s j h
    ·exact tC b _ H s q2 h
   ·cases h
 | .block id c,t,H,s,f,h=>by
  unfold aK at h;obtain ⟨i,h1,d⟩:=bD h;have g:=tC c t H i f h1;obtain ⟨e,t1,H1⟩:=i;cases e
  all_goals (simp only [y9,Tree.run,ZH3] at d; subst d)
  ·exact g
  ·rcases g with ⟨v,k⟩ | g
   ·cases k
   ·exact .inr g
  all_goals exact g
 | .exit _,t,H,s,_,h=>by
  simp only [aK,Tree.run,ZH3] at h;subst h;exact .inr ⟨[],(List.append_nil _).symm⟩
 | .ret,t,H,s,_,h=>by
  simp only [aK,Tree.run,ZH3] at h;subst h;exact .inr ⟨[],(List.append_nil _).symm⟩
 | .loop c,t,H,s,f,h=>by
  unfold aK at h;exact aCY (fun t H s h=>tC c t H s f h) _ _ _ _ h
 | .goto _,_,_,_,f,_=>by cases f
def X3 (cx:Cx) (fn:Func) (args:List V) (H:List O):Tree V:=
 .aF (Nat.ble args.length fn.ntmps) (.aF ((eA (fun i=>place i (List.range H.length++[])) H).isSome&&fU (List.range H.length++[])) ((dF cx fn args H).bind fun r=>match r with
  | .ok (.int k n) _=>.leaf (.int k n)
  | _=>.fail))
theorem aTW {i j n:Nat} (h:place i (List.range n++[])=some j):j=i:=by
 have h:=JD h;rw [List.append_nil] at h;have a:=(ZB2.1 h).1;rw [List.length_range] at a;rw [List.getElem?_range a] at h;exact Option.some.inj h
theorem aW3 {H N:List O}:∀ {k:Nat},k<=H.length->gQ (H++N) (List.range' k (H.length - k))=some (H.drop k):=by
 intro k c;generalize d:H.length - k=m
 induction m generalizing k with
 | zero =>
  rw [List.drop_eq_nil_of_le (by omega)];rfl
 | succ m b =>
  have a:k<H.length:=by omega
  rw [List.range'_succ];unfold gQ;rw [ZB0 a,ZB3 a,b (by omega) (by omega),List.drop_eq_getElem_cons a]
theorem a4H {f : Nat} {fn : Func} (hT : aW cx) (hf : cx.P.funcs[f]? = some fn) (hname : (fn.name == "runtime.NumGoroutine") = false)
  (hq:wS { cx with n:=fn.ntmps } (cA fn)=true) (hb:fn.body=some (cA fn)):nF cx.P f (X3 cx fn):=by
 intro args H v h;obtain ⟨h1,h2⟩:=aM h;obtain ⟨hr,h2⟩:=aM h2;obtain ⟨hr1,hr2⟩:=ZA0.1 hr;obtain ⟨r,h3,h4⟩:=bD h2;split at h4;rotate_left
 ·cases h4
 rename_i k m H1;cases h4
 have e:∃ N,H1=H++N:=by
  unfold dF at h3;rw [hb] at h3;simp only at h3;obtain ⟨s,g1,g2⟩:=bD h3;have g:=tC _ _ _ _ hq g1;obtain ⟨ex,t,H2⟩:=s;unfold iY at g2;split at g2
  ·rename_i heq
   cases heq;split at g2
   ·cases g2
    rcases g with ⟨v,hv⟩ | g
    ·cases hv
    ·exact g
   ·cases g2
  ·rename_i heq
   cases heq;split at g2
   ·cases g2
    rcases g with ⟨v,hv⟩ | g
    ·cases hv
    ·exact g
   ·cases g2
  ·cases g2
  ·cases g2
 obtain ⟨N,rfl⟩:=e
 have hm:dQ cx.P f args H (.ok (.int k m) (H++N)):=fA hT hf hname _ _ _ (by
  show (Tree.aF _ _).run=_;unfold Tree.aF;rw [a6,h1]
  exact h3)
 refine I8 (κ:=[]) hm ?_;unfold wQ;rw [hr2];simp only [cond_true];have hp:=aW3 (H:=H) (N:=N) (Nat.zero_le _);rw [Nat.sub_zero,<- List.range_eq_range',List.drop_zero] at hp;rw [List.append_nil,hp];rw [List.append_nil] at hr1;obtain ⟨Hs,hs⟩:=Option.isSome_iff_exists.1 hr1;have e:Hs=H:=aFU (fun i j h=>aTW (n:=H.length) (by rw [List.append_nil]; exact h)) _ _ hs;simp only [hs,e];rfl
end
end Go.Ab

namespace Go.Ab
open Go.ChangeShapes Go.WideShapes Go.ChangeAt Go.RowKit
def arrFs (P : Program) (n : Nat) (e : TypeId) : List Field := (List.range n).map fun i => { name := "", type := e, offset := i * P.cellsOf e, embedded := false, tag := "", pkgPath := "", byteOffset := 0 }
mutual
def lay (P:Program):Nat->TypeId->Option EC
 | 0,_=>none
 | d+1,t=>match P.underlying t with
  | some (.int k)=>some (.int k)
  | some .bool=>some .bool
  | some .string=>some .str
  | some (.struct fs)=>match layF P d 0 fs.toList with
   | some cs=>if P.cellsOf t=EC.sizes cs then some (.prod cs) else none
   | none=>none
  | some (.array n e)=>match layF P d 0 (arrFs P n e) with
   | some cs=>if P.cellsOf t=EC.sizes cs then some (.prod cs) else none
   | none=>none
  | _=>none
def layF (P:Program):Nat->Nat->List Field->Option (List EC)
 | 0,_,_=>none
 | _+1,_,[]=>some []
 | d+1,off,f :: r=>match lay P d f.type with
  | some c=>if f.offset=off/\P.cellsOf f.type=c.size then (layF P d (off+c.size) r).map (c :: ·) else none
  | none=>none
end
def YD (P:Program) (t:TypeId):Option EC:=
 match P.underlying t with
 | some (.slice e)=>match lay P 80 e with
  | some c=>if P.cellsOf e=c.size/\0<c.size then some (.sl c) else none
  | none=>none
 | _=>lay P 80 t
mutual
def okE:(c:EC)->c.ty->Prop
 | .int k,(n:Int)=>k.has n
 | .bool,_=>True
 | .str,(s:List UInt8)=>s.length<=maxLen
 | .sl _,none=>True
 | .sl c,some l=>l.length<=maxLen /\ ∀ x ∈ l,okE c x
 | .prod cs,x=>okEs cs x
def okEs:(cs:List EC)->EC.tys cs->Prop
 | [],_=>True
 | [c],x=>okE c x
 | c :: d :: cs,x=>okE c x.1/\okEs (d :: cs) x.2
end
def N7:(c:EC)->c.ty->V
 | .int k,n=>.int k n
 | .bool,b=>.bool b
 | .str,s=>.str s
 | .sl c,o=>.sl c (o.getD []) [] .may
 | .prod cs,x=>.agg (encs cs x)
def oP:(cs:List EC)->EC.tys cs->List V
 | [],_=>[]
 | [c],x=>[N7 c x]
 | c :: d :: cs,x=>N7 c x.1 :: oP (d :: cs) x.2
section
variable {H:Type} {en:TypeId × Value->H} {P:Program} {w:World} {base:Nat} {sp:Nat->Bool} {hd:Bool} {X:Nat->Nat->Prop}
theorem wf_has {k:IntKind} {n:Int} (h:(Lit.int k n).wf=true):k.has n:=by
 simpa [Lit.wf,IntKind.has] using h
theorem take_get {α:Type} {l:List α} {off n k:Nat} {z:α} (h:((l.drop off).take n)[k]? = some z):l[off+k]? = some z:=by
 rw [List.getElem?_take] at h;split at h
 ·rwa [List.getElem?_drop] at h
 ·cases h
mutual
theorem trod_lay:∀ (d:Nat) (t:TypeId) (c:EC) (fuel:Nat) (cs:List Value) (y:DataW H × List MemPlace),lay P d t=some c->DataW.trod en P w base sp hd fuel t cs=some y ->
  ∃ x:c.ty,okE c x /\ ∀ (k:Nat) v,(enc c x)[k]? = some v -> ∃ z,cs[k]? = some z/\R w X [] v z
 | 0,t,c,fuel,cs,y,a,ht=>by simp [lay] at a
 | d+1,t,c,fuel,cs,y,a,ht=>by
  unfold lay at a;split at a
  ·rename_i k l
   simp only [ZH3] at a;subst a;obtain ⟨n,rfl,_,hw⟩:=DataW.trod_int l ht;refine ⟨(n:Int),wf_has hw,?_⟩;intro k v g
   match k,g with
   | 0,g =>
    simp only [enc,ZC3,ZH3] at g;subst g;exact ⟨_,rfl,.int _ _ _⟩
  ·rename_i l
   simp only [ZH3] at a;subst a;obtain ⟨b,rfl,_⟩:=DataW.trod_bool l ht;refine ⟨(b:Bool),trivial,?_⟩;intro k v g
   match k,g with
   | 0,g =>
    simp only [enc,ZC3,ZH3] at g;subst g;exact ⟨_,rfl,.bool _ _⟩
  ·rename_i l
   simp only [ZH3] at a;subst a;obtain ⟨s,rfl,_,hs⟩:=DataW.trod_string l ht;refine ⟨(s.data.toList:List UInt8),by simpa [okE] using hs,?_⟩;intro k v g
   match k,g with
   | 0,g =>
    simp only [enc,ZC3,ZH3] at g;subst g;refine ⟨_,rfl,?_⟩;have:=R.str (w:=w) (X:=X) [] s.data.toList;simpa using this
  ·rename_i fs l
   split at a;rotate_left
   ·cases a
   rename_i cs' h;split at a;rotate_left
   ·cases a
   simp only [ZH3] at a;subst a;obtain ⟨xs,n,_,_,hlen,hxs,hf⟩:=DataW.trod_struct l ht
   obtain ⟨x,j,h2⟩:=trod_layF d 0 fs.toList cs' n cs h (fun f o => by
    obtain ⟨i,hi,hfi⟩:=List.getElem_of_mem o;have j:=hf i f (by simp at hi; rw [Array.getElem?_eq_getElem hi]; simpa using hfi);rw [ZB3 (by simp at hi; omega)] at j
    exact ⟨_,j⟩)
   exact ⟨x,by simpa [okE] using j,fun k v g=>by simpa using h2 k v (by simpa [enc] using g)⟩
  ·rename_i n e l
   split at a;rotate_left
   ·cases a
   rename_i cs' h;split at a;rotate_left
   ·cases a
   simp only [ZH3] at a;subst a;obtain ⟨xs,m,_,_,hlen,hxs,hf⟩:=DataW.trod_array l ht
   obtain ⟨x,j,h2⟩:=trod_layF d 0 (arrFs P n e) cs' m cs h (fun f o => by
    obtain ⟨i,hi,rfl⟩:=List.mem_map.1 o;have hi:i<n:=List.mem_range.1 hi;have j:=hf i hi;rw [ZB3 (by omega)] at j
    exact ⟨_,j⟩)
   exact ⟨x,by simpa [okE] using j,fun k v g=>by simpa using h2 k v (by simpa [enc] using g)⟩
  ·cases a
theorem trod_layF:∀ (d off:Nat) (fs:List Field) (cs' : List EC) (n:Nat) (cs:List Value),layF P d off fs=some cs' ->
  (∀ f ∈ fs,∃ y,DataW.trod en P w base sp hd n f.type ((cs.drop f.offset).take (P.cellsOf f.type))=some y) ->
  ∃ x:EC.tys cs',okEs cs' x /\ ∀ (k:Nat) v,(encs cs' x)[k]? = some v -> ∃ z,cs[off+k]? = some z/\R w X [] v z
 | 0,off,fs,cs',n,cs,i,h=>by simp [layF] at i
 | d+1,off,[],cs',n,cs,i,h=>by
  simp only [layF,ZH3] at i;subst i;exact ⟨(),trivial,fun k v b=>by simp [encs] at b⟩
 | d+1,off,f :: r,cs',n,cs,i,h=>by
  unfold layF at i;split at i;rotate_left
  ·cases i
  rename_i c p;split at i;rotate_left
  ·cases i
  rename_i l;obtain ⟨l,hz⟩:=l;obtain ⟨o,hds,rfl⟩:=ZH0.1 i;obtain ⟨y,hy⟩:=h f List.mem_cons_self;obtain ⟨j,a1,a2⟩:=trod_lay d f.type c n _ y p hy;obtain ⟨m,b1,b2⟩:=trod_layF d (off+c.size) r o n cs hds (fun g q=>h g (ZD2 _ q))
  have a:∀ (k:Nat) v,(enc c j)[k]? = some v -> ∃ z,cs[off+k]? = some z/\R w X [] v z:=fun k v b=>by
   obtain ⟨z,hz,hr⟩:=a2 k v b;rw [l] at hz;exact ⟨z,take_get hz,hr⟩
  match o,m,b1,b2 with
  | [],_,_,_=>exact ⟨j,by simpa [okEs] using a1,fun k v b=>a k v (by simpa [encs] using b)⟩
  | e :: es,m,b1,b2 =>
   refine ⟨(j,m),by simpa [okEs] using ⟨a1,b1⟩,fun k v b=>?_⟩;simp only [encs] at b;by_cases hk:k<(enc c j).length
   ·rw [ZB0 hk] at b
    exact a k v b
   ·rw [ZB1 (by omega)] at b
    rw [enc_size] at b hk;obtain ⟨z,hz,hr⟩:=b2 (k - c.size) v b;rw [show off+c.size+(k - c.size)=off+k from by omega] at hz;exact ⟨z,hz,hr⟩
end
theorem aUR {α:Type} [Inhabited α] {p:Nat->α->Prop} {m:Nat} (h:∀ i,i<m -> ∃ x,p i x):∃ f:Nat->α,∀ i,i<m->p i (f i):=by
 refine ⟨fun i=>if hi:i<m then Classical.choose (h i hi) else default,fun i hi=>?_⟩;simp only [hi,dif_pos];exact Classical.choose_spec (h i hi)
instance (c:EC):Inhabited c.ty:=⟨c.dflt⟩
theorem aSJ {d:Nat} {t:TypeId} {c:EC} (h:lay P d t=some (.sl c)):False:=by
 cases d with
 | zero=>simp [lay] at h
 | succ d =>
  unfold lay at h;split at h
  all_goals first | (simp at h; done) | skip
  all_goals (repeat' (split at h))
  all_goals first | (cases h; done) | (simp at h; done)
theorem QW {t:TypeId} {c:EC} {v:Value} {r:Reach} (a:lay P 80 t=some c) (b:Value.okWide P w r base t v) (e:∀ cs,c ≠ .prod cs):v.cells = #[v]:=by
 unfold lay at a;unfold Value.okWide at b;split at a
 ·rename_i k d
  simp only [d] at b;simp only [Cell.okWide,d,Cell.ok] at b
  cases v <;> first | rfl | (simp at b; done)
 ·rename_i d
  simp only [d] at b;simp only [Cell.okWide,d,Cell.ok] at b
  cases v <;> first | rfl | (simp at b; done)
 ·rename_i d
  simp only [d] at b;simp only [Cell.okWide,d,Cell.ok] at b
  cases v <;> first | rfl | (simp at b; done)
 ·split at a
  rotate_left
  ·cases a
  split at a;rotate_left
  ·cases a
  simp only [ZH3] at a;exact absurd a.symm (e _)
 ·split at a
  rotate_left
  ·cases a
  split at a;rotate_left
  ·cases a
  simp only [ZH3] at a;exact absurd a.symm (e _)
 ·cases a
theorem aZO {t:TypeId} {cs:List EC} {v:Value} {r:Reach} (a:lay P 80 t=some (.prod cs)) (c:Value.okWide P w r base t v):∃ xs:Array Value,v = .agg xs/\xs.size=EC.sizes cs:=by
 unfold lay at a;unfold Value.okWide at c;split at a
 ·simp at a
 ·simp at a
 ·simp at a
 ·rename_i fs d
  simp only [d] at c;split at a;rotate_left
  ·cases a
  split at a;rotate_left
  ·cases a
  rename_i b;simp only [ZH3,EC.prod.injEq] at a;subst a;obtain ⟨xs,rfl,h1,_⟩:=c;exact ⟨xs,rfl,by rw [h1,b]⟩
 ·rename_i n e d
  simp only [d] at c;split at a;rotate_left
  ·cases a
  split at a;rotate_left
  ·cases a
  rename_i b;simp only [ZH3,EC.prod.injEq] at a;subst a;obtain ⟨xs,rfl,h1,_⟩:=c;exact ⟨xs,rfl,by rw [h1,b]⟩
 ·cases a
theorem aZS {t e:TypeId} {v:Value} {r:Reach} (d:P.underlying t=some (.slice e)) (c:Value.okWide P w r base t v) :
  v = .slice none 0 0 \/ ∃ b o len cap,v = .slice (some ⟨b,o,none⟩) len cap:=by
 unfold Value.okWide at c;simp only [d] at c;cases v
 case slice a len cap =>
  cases a with
  | none =>
   simp only [Cell.okWide,d,Cell.ok] at c;split at c
   all_goals first | (simp_all; done) | skip
  | some a =>
   simp only [Cell.okWide,d,Cell.ok] at c;obtain ⟨_,_,_,hs,_⟩:=c;obtain ⟨b,o,s⟩:=a;simp only at hs;subst hs;exact .inr ⟨b,o,len,cap,rfl⟩
 all_goals simp [Cell.okWide,d,Cell.ok] at c
theorem aiI {t:TypeId} {c:EC} {v:Value} {d:DataW H} {M:List MemPlace} {r:Reach} (g:YD P t=some c) (s:Value.okWide P w r base t v)
  (q:DataW.Trod en P w 0 sp hd t v d M):∃ x:c.ty,okE c x/\R w (fun _ _=>False) [] (N7 c x) v:=by
 obtain ⟨fuel,q⟩:=q;unfold YD at g;split at g
 ·rename_i e I
  split at g;rotate_left
  ·cases g
  rename_i c' E;split at g;rotate_left
  ·cases g
  rename_i p;simp only [ZH3] at g;subst g
  rcases aZS I s with rfl | ⟨b,o,len,cap,rfl⟩
  ·exact ⟨(none:Option (List c'.ty)),trivial,.nil _ _⟩
  ·rcases Go.Deep.open_slice I q with ⟨J,_⟩ | ⟨a,len',cap',m,n,D,Pl,hcs,_,hle,hmax,hm,_,G⟩
   ·simp [Value.cells] at J
   simp only [Value.cells,List.cons.injEq,Value.slice.injEq,ZH3,and_true] at hcs;obtain ⟨rfl,rfl,rfl⟩:=hcs
   have L:len<=m:=by rw [hm]; split <;> omega
   have F:∀ i,i<len -> ∃ x:c'.ty,okE c' x /\ ∀ (k:Nat) v,(enc c' x)[k]? = some v -> ∃ z,w.cell? ⟨b,o+i*c'.size+k,none⟩=some z/\R w (fun _ _=>False) [] v z:=by
    intro i hi;obtain ⟨cs',u,l⟩:=G i (by omega);obtain ⟨x,x1,x2⟩:=trod_lay (X:=fun _ _=>False) 80 e c' n cs' _ E l;obtain ⟨_,hlen,hcell⟩:=World.cells?_some u;refine ⟨x,x1,fun k v s=>?_⟩;obtain ⟨z,hz,hr⟩:=x2 k v s;refine ⟨z,?_,hr⟩
    have C:k<P.cellsOf e:=by
     rw [<- hlen];exact (ZB2.1 hz).1
    have:=hcell k C;rw [hz,add_plain,add_plain,p.1] at this;exact this
   obtain ⟨f,hf⟩:=aUR F
   have K:∀ i k,i<len->k<c'.size -> ∃ z,w.cell? ⟨b,o+i*c'.size+k,none⟩=some z:=fun i k hi C=>by
    obtain ⟨z,hz,_⟩:=(hf i hi).2 k _ (ZB3 (by rw [enc_size]; exact C));exact ⟨z,hz⟩
   refine ⟨(some ((List.range len).map f):Option (List c'.ty)),⟨by simp; omega,fun x G=>?_⟩,?_⟩
   ·obtain ⟨i,hi,rfl⟩:=List.mem_map.1 G
    exact (hf i (List.mem_range.1 hi)).1
   ·have:=R.sl (w:=w) (X:=fun _ _=>False) [] c' ((List.range len).map f) [] .may b o cap (fun i k=>(w.cell? ⟨b,o+i*c'.size+k,none⟩).getD undef)
     (by simp; omega) (fun h=>by cases h) (fun h=>by cases h) (fun i k hi C=>⟨fun h=>h,by
      obtain ⟨z,hz⟩:=K i k (by simpa using hi) C
      rw [hz]; rfl⟩) (fun i x k v u l=>by
      simp only [List.append_nil,ZC0,ZH0] at u;obtain ⟨j,hj,rfl⟩:=u;obtain ⟨B,hj2⟩:=ZB2.1 hj;simp only [List.length_range] at B;simp only [List.getElem_range] at hj2;subst hj2;obtain ⟨z,hz,hr⟩:=(hf i B).2 k v l
      rw [hz]; exact hr)
    simp only [ZF0,List.length_range] at this;exact this
 ·cases c with
  | prod cs =>
   obtain ⟨xs,rfl,p⟩:=aZO g s;obtain ⟨x,x1,x2⟩:=trod_lay (X:=fun _ _=>False) 80 t _ fuel _ _ g q;refine ⟨x,x1,?_⟩
   have:=R.agg (w:=w) (X:=fun _ _=>False) [] (encs cs x) xs.toList (by rw [show (encs cs x).length=EC.sizes cs from enc_size (.prod cs) x]; simpa using p) (fun k v y u l=>by
    obtain ⟨z,hz,hr⟩:=x2 k v (by simpa [enc] using u);simp only [Value.cells] at hz;rw [hz] at l;simp only [ZH3] at l;subst l
    exact hr)
   simpa [N7] using this
  | sl c=>exact (aSJ g).elim
  | int k =>
   have A:=QW g s (by simp);obtain ⟨x,x1,x2⟩:=trod_lay (X:=fun _ _=>False) 80 t _ fuel _ _ g q;obtain ⟨z,hz,hr⟩:=x2 0 _ rfl;simp only [A,ZC3,ZH3] at hz;subst hz;exact ⟨x,x1,hr⟩
  | bool =>
   have A:=QW g s (by simp);obtain ⟨x,x1,x2⟩:=trod_lay (X:=fun _ _=>False) 80 t _ fuel _ _ g q;obtain ⟨z,hz,hr⟩:=x2 0 _ rfl;simp only [A,ZC3,ZH3] at hz;subst hz;exact ⟨x,x1,hr⟩
  | str =>
   have A:=QW g s (by simp);obtain ⟨x,x1,x2⟩:=trod_lay (X:=fun _ _=>False) 80 t _ fuel _ _ g q;obtain ⟨z,hz,hr⟩:=x2 0 _ rfl;simp only [A,ZC3,ZH3] at hz;subst hz;exact ⟨x,x1,hr⟩
theorem aR4 {ts:List TypeId} {vs:List Value} {t:TypeId} {v:Value} {r:Reach} (h:∀ (j:Nat) t' a,(t :: ts)[j]? = some t' -> (v :: vs)[j]? = some a -> Value.okWide P w r base t' a) :
  Value.okWide P w r base t v /\ ∀ (j:Nat) t' a,ts[j]? = some t' -> vs[j]? = some a -> Value.okWide P w r base t' a :=
 ⟨h 0 t v rfl rfl,fun j t' a b c=>h (j+1) t' a (by simpa using b) (by simpa using c)⟩
def HB (P:Program):List TypeId->Option (List EC)
 | []=>some []
 | t :: r=>match YD P t,HB P r with
  | some c,some cs=>some (c :: cs)
  | _,_=>none
theorem aK0 {r:Reach}:∀ {ts:List TypeId} {cs:List EC} {vs:List Value} {g:List (DataW H)} {m:List MemPlace},HB P ts=some cs ->
  (∀ (j:Nat) t v,ts[j]? = some t->vs[j]? = some v->Value.okWide P w r base t v)->DataW.TrodAll en P w 0 sp hd ts vs g m ->
  ∃ x:EC.tys cs,okEs cs x/\vs.length=(oP cs x).length/\g.length=ts.length /\ ∀ (k:Nat) v z,(oP cs x)[k]? = some v->vs[k]? = some z->R w (fun _ _=>False) [] v z
 | [],cs,vs,g,m,a,hv,ht=>by
  simp only [HB,ZH3] at a;subst a;obtain ⟨rfl,rfl,rfl⟩:=trodAll_nil ht;exact ⟨(),trivial,rfl,rfl,fun k v z h=>by simp [oP] at h⟩
 | t :: ts,cs,vs,g,m,a,hv,ht=>by
  unfold HB at a;split at a;rotate_left
  ·cases a
  rename_i c cs' s l;simp only [ZH3] at a;subst a;obtain ⟨v,vs',d,ds',p,q,rfl,rfl,rfl,h1,h2⟩:=trodAll_cons ht;obtain ⟨o,g2⟩:=aR4 hv;obtain ⟨n,a1,a2⟩:=aiI s o h1;obtain ⟨i,b1,b2,b3,b4⟩:=aK0 l g2 h2
  match cs',i,b1,b2,b4 with
  | [],i,b1,b2,b4 =>
   refine ⟨n,by simpa [okEs] using a1,by simpa [oP] using b2,by simp [b3],fun k u z b f=>?_⟩
   match k,b,f with
   | 0,b,f =>
    simp only [oP,ZC3,ZH3] at b f;subst b; subst f;exact a2
  | e :: es,i,b1,b2,b4 =>
   refine ⟨(n,i),by simpa [okEs] using ⟨a1,b1⟩,by simpa [oP] using b2,by simp [b3],fun k u z b f=>?_⟩
   cases k with
   | zero =>
    simp only [oP,ZC3,ZH3] at b f;subst b; subst f;exact a2
   | succ k=>exact b4 k u z (by simpa [oP] using b) (by simpa using f)
def readable (P:Program) (ts:List TypeId):Bool:=ts.all fun t=>P.readableRec t&&decide (t<P.types.size)
theorem aE6 {W g : World} (a:laidOutB P=true) (hb:Below W.heap.size W g):∀ {ts:List TypeId} {vs:List Value} {e:List (DataW H)} {c:List MemPlace},readable P ts=true ->
  DataW.TrodAll en P W 0 (fun _=>true) true ts vs e c->(∀ x ∈ c,x.block<W.heap.size)->DataW.TrodAll en P g 0 (fun b=>decide (b<W.heap.size)) true ts vs e c
 | [],vs,e,c,_,ht,_=>by
  obtain ⟨rfl,rfl,rfl⟩:=trodAll_nil ht;rfl
 | t :: ts,vs,e,c,hr,ht,hlt=>by
  obtain ⟨v,vs',d,ds',p,q,rfl,rfl,rfl,h1,h2⟩:=trodAll_cons ht;simp only [readable,List.all_cons,ZA2,decide_eq_true_eq] at hr;exact ⟨p,q,Below.trod a hr.1.1 hr.1.2 h1 hb (fun x f=>hlt x (by simp [f])),aE6 a hb (by simpa [readable] using hr.2) h2 (fun x f=>hlt x (by simp [f])),rfl⟩
theorem aUY {W a : World} (s:Step (fun _ _=>False) [] [] W [] [] a):Below W.heap.size W a :=
 ⟨s.os,s.tape,s.output,s.size,fun b hb=>by
  rcases s.pres b hb with h | ⟨⟨o,h⟩,_⟩ | ⟨⟨o,h⟩,_⟩
  ·exact h
  ·exact absurd h (mG b o)
  ·exact absurd h (mG b o)⟩
def SY (P:Program) (ts:List TypeId):Bool:=
 match ts with
 | [t]=>match P.underlying t with
  | some .bool=>true
  | _=>false
 | _=>false
theorem aS1 {ts:Array TypeId} (h:SY P ts.toList=true):∃ t,ts = #[t]/\P.underlying t=some .bool:=by
 unfold SY at h;split at h
 ·rename_i t a
  split at h
  ·rename_i b
   exact ⟨t,by apply Array.ext'; simpa using a,b⟩
  ·cases h
 ·cases h
theorem aR9 {f:FuncId} {fn:Func} {s:ChangeSpec} {cs:List EC} {apart d a:Bool} (k:laidOutB P=true) (A:HB P fn.params.toList=some cs) (u:readable P fn.params.toList=true)
  (r:SY P fn.resultTypes.toList=true) (b:s.vars=[])
  (z:∀ c:List (DataW H),c.length=fn.params.toList.length->s.fn H c = { results:=[.lit (.bool true)],args:=c })
  (o:∀ x:EC.tys cs,okEs cs x->jS P f (oP cs x) (.bool true))
  (W:World) (base:Nat) (args:Array Value) (c n:List (DataW H)) (before:List MemPlace) (F:Gs P W fun _ _=>False)
  (m:∀ (j:Nat) t v,fn.params[j]? = some t->args[j]? = some v->Value.okWide P W .any base t v)
  (C:DataW.Whole en P fn.params.toList s.vars apart W args.toList c n before) :
  Calls P f args W fun e B => ∃ v,e = .returned v/\s.post en P fn apart d a false W args v B := by
 have i:=C;obtain ⟨I,hres,htb⟩:=aS1 r;obtain ⟨p,q,hA,hV,rfl,hfz,hnd⟩:=C;rw [b] at hV
 obtain ⟨rfl,rfl⟩:n=[]/\q=[]:=by
  cases n with
  | nil=>exact ⟨rfl,hV⟩
  | cons g n=>exact hV.elim
 obtain ⟨x,x1,x2,x3,x4⟩:=aK0 A (fun j t v D E=>m j t v (by simpa using D) (by simpa using E)) hA;have l:=i.lt;simp only [List.append_nil] at l i;have:=(o x x1).2 W (fun _ _=>False) args.toList ⟨fun _ _ h=>h.elim,F⟩ x2 x4;simp only [Array.toArray_toList] at this;refine this.mono ?_;rintro e B ⟨y,rfl,st,G⟩;have hb:=aUY st;cases G;refine ⟨_,rfl,c,[],p,[],p,[],i,?_,?_,?_,?_,fun h=>by cases h⟩
 ·rw [List.append_nil,z c x3,hres]
  exact trodAll_mk1 (shut_bool htb true)
 ·rw [List.append_nil,z c x3]
  exact aE6 k hb u hA l
 ·rw [List.append_nil,z c x3,b]
  rfl
 ·exact hb.frame _
end
end Go.Ab

namespace Go.Ra
open Go Go.Ab Go.Proofs
theorem dO {cx:Cx} (a:cx.tab=[]) (b:cx.mtab=[]) (c:cx.rtab=[]:=by rfl) (d:∀ p ∈ cx.globs,p ∈ rN cx.P:=by intro p h; cases h):aW cx:=by
 refine ⟨?_,?_,?_,d⟩
 ·rw [a]; exact .nil _
 ·rw [b]; intro p h; cases h
 ·rw [c]; exact .nil _
theorem bU {cx:Cx} {t:List (Nat × Ab.Spec)} {m:List (Nat × MSpec)} (f:lA cx.P t) (e:oI cx.P m) (a:cx.tab=t) (b:cx.mtab=m) (c:cx.rtab=[]:=by rfl) (d:∀ p ∈ cx.globs,p ∈ rN cx.P:=by intro p h; cases h):aW cx:=by
 refine ⟨?_,?_,?_,d⟩
 ·rw [a]; exact f
 ·rw [b]; exact e
 ·rw [c]; exact .nil _
theorem dT {P:Program} {f:Nat} {s:Ab.Spec} (h:Sound P f s):lA P [(f,s)]:=.cons h (.nil _)
end Go.Ra

namespace Go.Ra
open Go Go.Ab Go.Proofs
noncomputable def aP9:Cx:={ P:=prog,n:=6,tab:=[],mtab:=[],refs:=[],keeps:=[0,2] }
noncomputable def aMF:Ab.Spec:=fun args=>.aF (Nat.ble args.length Tryz.f91.ntmps) (a7 aP9 Tryz.f91 args)
theorem a4S:Sound prog 91 aMF:=EZ (cx:=aP9) (fn:=Tryz.f91) (dO rfl rfl) (by kernel_rfl) (by kernel_rfl)
noncomputable def q9:Cx:={ P:=prog,n:=46,tab:=[(91,aMF)],mtab:=[],refs:=[],keeps:=[0,1,2,3,8,9,10,11,18,20,31] }
theorem LF:aW q9:=bU (dT a4S) (fun p h=>by cases h) rfl rfl
noncomputable abbrev D5:Code:=cA Tryz.f46
noncomputable def thX:Code:=c1 (aJ 1 D5)
noncomputable def aLJ:Code:=cin (cin (c2 thX))
noncomputable def F5:Array Oper:=y7 (c1 thX)
noncomputable def MP:Array Oper:=y7 (c1 aLJ)
noncomputable def aMJ:Code:=cin (c2 (c2 aLJ))
noncomputable def B8:Array Oper:=y7 (c1 aMJ)
noncomputable def aK1:Code:=c2 aMJ
theorem ag9:aJ 1 D5 = .seq (.seq (.region 2 F5 false) (.block 0 (.loop (.seq (.region 3 MP false) (.seq (.cond (.tmp 20) .skip (.exit 0)) (.block 1 (.seq (.region 4 B8 false) aK1))))))) (aJ 2 D5):=by kernel_rfl
noncomputable def ajC:Oper:=MP.getD 0 default
noncomputable def aj9:Oper:=MP.getD 1 default
noncomputable def ak3:Oper:=B8.getD 0 default
theorem al6:ForMap q9 MP B8 (B8.toList.drop 1) ajC aj9 ak3 18 19 20 21 where
 ops3:=by kernel_rfl
 ops4:=by kernel_rfl
 next:=by kernel_rfl
 ok:=by kernel_rfl
 entry:=by kernel_rfl
 g3a:=by kernel_rfl
 g3b:=by kernel_rfl
 g4:=by kernel_rfl
 t3a:=by kernel_rfl
 t3b:=by kernel_rfl
 t4:=by kernel_rfl
 l19:=by kernel_rfl
 l20:=by kernel_rfl
 l21:=by kernel_rfl
 n1:=by kernel_rfl
 n2:=by kernel_rfl
def sF (r:Int):Bool:=wrap .i64 (((BitVec.ofInt 64 r &&& BitVec.ofInt 64 3).toNat:Nat):Int)==3
def thL:List (Int × Int × List Int):=[(1,2,[]),(16,17,[1,2]),(32,32,[1,2,16,17])]
def D6:List (Int × Int × Int):=[(16,17,1),(16,17,2),(32,32,1),(32,32,2),(32,32,16),(32,32,17)]
theorem a5X:∀ x ∈ thL,∀ k ∈ x.2.2,(x.1,x.2.1,k) ∈ D6:=by decide
def D4 (a z r:Int) (cl:Bool) (it:V):T:=[(0,.ptr 0 0),(1,.int .u64 a),(2,.int .u64 z),(3,.int .i64 r),(8,.int .i64 0),(9,.bool cl),(18,it)]
noncomputable def thD (x:Int × Int × Int) (r:Int) (cl:Bool) (it v:V) (H:List O):Option St:=
 (dD q9 B8 (B8.toList.drop 1) (put 21 (.tup [.int .u64 x.2.2,v]) (put 20 (.bool true) (put 19 .any (D4 x.1 x.2.1 r cl it)))) H).fin
def thU (x:Int × Int × Int) (r:Int) (cl:Bool) (it v:V):T:=
 [(0,.ptr 0 0),(1,.int .u64 x.1),(2,.int .u64 x.2.1),(3,.int .i64 r),(8,.int .i64 0),(9,.bool cl),(10,.int .u64 x.2.2),(11,v),(18,it),(20,.bool true)]
theorem alD:D6.map thD=D6.map fun x r cl it v H=>some (.normal,thU x r cl it v,H):=by kernel_rfl
noncomputable def thR (x:Int × Int × Int) (r:Int) (cl:Bool) (it v:V) (H:List O):Option St:=((aK q9 aK1 (thU x r cl it v) H).bind fun s=>.leaf (s.1,bC [0,1,2,3,8,9,18] s.2.1,s.2.2)).fin
theorem ajW:D6.map thR=D6.map fun x r cl it v H=>some (.normal,D4 x.1 x.2.1 r cl it,H):=by kernel_rfl
def aOQ (a z:Int) (keys:List Int):Bool:=thL.any fun x=>x.1==a&&(x.2.1==z&&x.2.2==keys)
theorem aX2 {a z:Int} {keys:List Int} (h:aOQ a z keys=true):(a,z,keys) ∈ thL:=by
 obtain ⟨x,hx,b⟩:=List.any_eq_true.1 h;simp only [ZA2,beq_iff_eq] at b;obtain ⟨b,h2,h3⟩:=b;obtain ⟨c,x2,x3⟩:=x;subst b h2 h3;exact hx
def UX:MSpec:=fun args H=>match args,H with
 | [.ptr 0 0,.int .u64 a,.int .u64 z,.int .i64 r],.cells [.bool true,.mp 1] t :: .obj (.map keys) vs :: rest =>
  .aF (aOQ a z keys&&(Nat.beq vs.length keys.length&&Nat.beq t 72)) (.leaf (.ok (.tup [.int .i64 0,.bool (sF r)]) (.cells [.bool true,.mp 1] t :: .obj (.map keys) vs :: rest)))
 | _,_=>.fail
theorem a63 (a z r:Int) (H:List O):(aK q9 (eQ 1 D5) (dZ 0 [.ptr 0 0,.int .u64 a,.int .u64 z,.int .i64 r]) H).run.map (fun s=>(s.1,bC [0,1,2,3,8,9] s.2.1,s.2.2)) =
  some (.normal,[(0,.ptr 0 0),(1,.int .u64 a),(2,.int .u64 z),(3,.int .i64 r),(8,.int .i64 0),(9,.bool (sF r))],H):=by kernel_rfl
theorem adU (a z r:Int) (cl:Bool) (keys:List Int) (vs:List V) (rest:List O):(dD { q9 with keeps:=[0,1,2,3,8,9,17] } F5 (F5.toList.take 4) [(0,.ptr 0 0),(1,.int .u64 a),(2,.int .u64 z),(3,.int .i64 r),(8,.int .i64 0),(9,.bool cl)]
   (.cells [.bool true,.mp 1] 72 :: .obj (.map keys) vs :: rest)).run =
  some (.normal,[(0,.ptr 0 0),(1,.int .u64 a),(2,.int .u64 z),(3,.int .i64 r),(8,.int .i64 0),(9,.bool cl),(17,.mp 1)],.cells [.bool true,.mp 1] 72 :: .obj (.map keys) vs :: rest):=by kernel_rfl
theorem a68 (a z r:Int) (cl:Bool) (it:V) (H:List O):((aK q9 (aJ 2 D5) (put 20 (.bool false) (put 19 .any (D4 a z r cl it))) H).bind (iY prog Tryz.f46.results.toList)).run=some (.ok (.tup [.int .i64 0,.bool cl]) H):=by kernel_rfl
theorem aYV:bP prog 46 UX:=by
 intro args H out h;unfold UX at h;split at h;rotate_left
 ·cases h
 rename_i a z r t keys vs rest;obtain ⟨m,h⟩:=aM h;cases h;obtain ⟨d,b⟩:=ZA0.1 m;obtain ⟨b,g⟩:=ZA0.1 b;have v:=ZG1 b;have w:=ZG1 g
 clear m b g
 subst w;have x:=aX2 d;refine rM (c:=D5) (fn:=Tryz.f46) (by kernel_rfl) (by kernel_rfl) (by kernel_rfl) (by kernel_rfl) ?_;refine tF (cx:=q9) rfl rfl LF 1 [0,1,2,3,8,9] (by kernel_rfl) (a63 a z r _) ?_;rw [ag9]
 refine cL (aTP (cx:=q9) rfl rfl LF al6 (pre:=F5.toList.take 4) (o2:=F5.getD 4 default) (mt:=70) (kt:=22) (et:=73) (mop:=.tmp 17) (by kernel_rfl) (by kernel_rfl) (by kernel_rfl) (by kernel_rfl) (by kernel_rfl) (by kernel_rfl)
  [0,1,2,3,8,9,17] (adU a z r (sF r) keys vs rest) rfl (mid:=1) (keys:=keys) (vs:=vs) rfl v
  (fun i left t H=>(∀ p ∈ left,(a,z,p.1) ∈ D6)/\t=D4 a z r (sF r) (o8 i)/\H = .cells [.bool true,.mp 1] 72 :: .dead :: rest) (fun i=>?_) ?_ ?_ ?_ ?_)
 ·refine ⟨D4 a z r (sF r) (o8 i),?_,?_,rfl,rfl⟩
  ·exact dK.bC [0,1,2,3,8,9,18] (put 18 (o8 i) [(0,.ptr 0 0),(1,.int .u64 a),(2,.int .u64 z),(3,.int .i64 r),(8,.int .i64 0),(9,.bool (sF r)),(17,.mp 1)])
  ·intro p j
   exact a5X _ x p.1 (List.of_mem_zip j).1
 ·rintro i left t H ⟨_,_,rfl⟩
  rfl
 ·rintro i left t H ⟨_,rfl,_⟩
  rfl
 ·rintro i A p B t H ⟨n,rfl,rfl⟩
  have j:=n p (by simp);have k:=congrFun (congrFun (congrFun (congrFun (congrFun (List.map_inj_left.1 alD _ j) r) (sF r)) (o8 i)) p.2) (.cells [.bool true,.mp 1] 72 :: .dead :: rest);have l:=congrFun (congrFun (congrFun (congrFun (congrFun (List.map_inj_left.1 ajW _ j) r) (sF r)) (o8 i)) p.2) (.cells [.bool true,.mp 1] 72 :: .dead :: rest);unfold thD at k;unfold thR at l;rw [Tree.bJ] at k l;obtain ⟨⟨e,t2,H2⟩,d,b⟩:=bD l
  have g:e = .normal:=congrArg Prod.fst (Option.some.inj b);have o:bC [0,1,2,3,8,9,18] t2=D4 a z r (sF r) (o8 i):=congrArg (fun q=>q.2.1) (Option.some.inj b);have u:H2 = .cells [.bool true,.mp 1] 72 :: .dead :: rest:=congrArg (fun q=>q.2.2) (Option.some.inj b);refine ⟨_,_,k,dA (cx:=q9) rfl rfl LF d ⟨.inl g,_,dK.bC [0,1,2,3,8,9,18] t2,fun q f=>n q ?_,o,u⟩⟩
  rcases List.mem_append.1 f with f | f
  ·exact List.mem_append_left _ f
  ·exact List.mem_append_right _ (ZD2 _ f)
 ·rintro i t H ⟨_,rfl,rfl⟩
  show aI _ _ _ _ _ _;obtain ⟨s,d,b⟩:=bD (a68 a z r (sF r) (o8 i) ((.cells [.bool true,.mp 1] 72 :: .dead :: rest:List O).set 1 (.obj (.map keys) vs)));refine dA (cx:=q9) rfl rfl LF d ?_;exact xU b
end Go.Ra

namespace Go.Ra
open Go Go.Ab Go.Proofs
def eK:List Int:=List.replicate 4096 0
def jU (n r:Int) (id:Nat):List V:=[.int .u64 n,.int .i64 r,.ref id 1 0 4096]
theorem nC {β:Type} {c:Bool} {x:Tree β} {b:β} (a:c=true) (h:x.run=some b):(Tree.aF c x).run=some b:=by
 subst a;exact h
end Go.Ra

namespace Go.Ra
open Go Go.Ab Go.Proofs
def mO (r:Int) (l:List Int):O:=.obj (.page 1 .u8 l) [.int .i64 r]
def aR (a b c d e:List Int):List O:=[.cells [.bool true,.mp 1] 72,.obj (.map [1,2,16,17,32]) [.ptr 2 0,.ptr 3 0,.ptr 4 0,.ptr 5 0,.ptr 6 0],mO 5 a,mO 5 b,mO 6 c,mO 6 d,mO 4 e]
noncomputable def aP6:Cx:={ P:=prog,n:=18,tab:=[],mtab:=[],refs:=[],keeps:=[0,1,4],lz:=[16] }
noncomputable def aP0:Cx:={ P:=prog,n:=19,tab:=[],mtab:=[],refs:=[],keeps:=[0,1,2],lz:=[18] }
noncomputable def aP4:Cx:={ P:=prog,n:=15,tab:=[],mtab:=[],refs:=[],keeps:=[0,1,4,5,6] }
noncomputable def aNR:Ab.Spec:=fun args=>.aF (Nat.ble args.length Tryz.f45.ntmps) (a7 aP4 Tryz.f45 args)
theorem aG2:Sound prog 45 aNR:=EZ (cx:=aP4) (fn:=Tryz.f45) (dO rfl rfl) (by kernel_rfl) (by kernel_rfl)
noncomputable def aP7:Cx:={ P:=prog,n:=12,tab:=[],mtab:=[],refs:=[],keeps:=[0,2] }
noncomputable def wD:MSpec:=fun args H=>.aF (Nat.ble args.length Tryz.f30.ntmps) (dF aP7 Tryz.f30 args H)
theorem vH:bP prog 30 wD:=fA (cx:=aP7) (fn:=Tryz.f30) (dO rfl rfl) (by kernel_rfl) (by kernel_rfl)
noncomputable def X7:Cx:={ P:=prog,n:=54,tab:=[(45,aNR)],mtab:=[(30,wD)],refs:=[],keeps:=[0,1,2,3,8,9,10,11,12,14,27,33,53],fuel:=3 }
def OZ (R r:Int):Bool:=!(wrap .i64 (((BitVec.ofInt 64 R &&& BitVec.ofInt 64 r).toNat:Nat):Int)==r)
def rC {α:Type} (k:Int) (f:Int->α) (z:α):α:=cond (k==1) (f 5) (cond (k==2) (f 5) (cond (k==16) (f 6) (cond (k==17) (f 6) (cond (k==32) (f 4) z))))
def jC (x n:Int):Int:=wrap .u64 (wrap .u64 (x+wrap .u64 n) - 1)
def aQ (x:Int):Int:=wrap .u64 (Int.tdiv x 4096)
def CH (H:List O) (y r:Int):Nat->Int->Option Res
 | 0,_=>none
 | f+1,k=>cond (decide (k<=aQ y)) (rC k (fun R=>cond (OZ R r) (some (.ok (.bool false) H)) (CH H y r f (wrap .u64 (k+1)))) (some (.ok (.bool false) H))) (some (.ok (.bool true) H))
def OQ (H:List O) (x n r:Int):Option Res:=cond (n==0) (some (.ok (.bool true) H)) (cond (!decide (x<=jC x n)) (some (.ok (.bool false) H)) (CH H (jC x n) r 3 (aQ x)))
theorem aLR (a b c d e:List Int) (x n r:Int):(dF X7 Tryz.f31 [.ptr 0 0,.int .u64 x,.int .i64 n,.int .i64 r] (aR a b c d e)).fin=OQ (aR a b c d e) x n r:=by kernel_rfl
def PQ {α:Type} (k:Int) (a b c d e:List Int) (f:List Int->(List Int->List O)->α) (z:α):α:=
 cond (k==1) (f a (fun l=>aR l b c d e)) (cond (k==2) (f b (fun l=>aR a l c d e)) (cond (k==16) (f c (fun l=>aR a b l d e)) (cond (k==17) (f d (fun l=>aR a b c l e)) (cond (k==32) (f e (fun l=>aR a b c d l)) z))))
def nQ (x:Int):Nat:=1+Int.toNat (Int.tmod x 4096)*1 - 1
def PN (x:Int) (l:List Int) (v:Option Res):Option Res:=cond (inside (Int.tmod x 4096) 4096) (cond (Nat.ble 1 (1+Int.toNat (Int.tmod x 4096)*1)&&Nat.blt (nQ x) l.length) v none) none
theorem get_eq (a b c d e:List Int) (x:Int):(dF aP6 Tryz.f33 [.ptr 0 0,.int .u64 x] (aR a b c d e)).fin =
  PQ (aQ x) a b c d e (fun l H=>PN x l (some (.ok (.int .u8 (l.getD (nQ x) 0)) (H l)))) none:=by kernel_rfl
theorem put_eq (a b c d e:List Int) (x v:Int):(dF aP0 Tryz.f32 [.ptr 0 0,.int .u64 x,.int .u8 v] (aR a b c d e)).fin =
  PQ (aQ x) a b c d e (fun l H=>PN x l (some (.ok (.tup []) (H (l.set (nQ x) v))))) none:=by kernel_rfl
end Go.Ra
