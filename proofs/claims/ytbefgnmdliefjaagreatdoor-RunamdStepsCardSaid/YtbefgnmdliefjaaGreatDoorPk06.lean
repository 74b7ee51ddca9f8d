/-
  The engine, part Ob: into a call that writes, and back. Conditions: none.
-/
import Derived.Test.YtbefgnmdliefjaaGreatDoorPk05
import Derived.Laws.RangeString
open Bool renaming and_eq_true→ZA2
open List renaming getElem?_append_right→ZB1,getElem?_eq_some_iff→ZB2,getElem?_map→ZC0,mem_cons→ZE3,length_map→ZF0,length_take→ZF2,mem_map→ZF3
open Nat renaming eq_of_beq_eq_true→ZG1
open Option.some renaming injEq→ZH3
set_option linter.unusedVariables false
set_option linter.unusedSimpArgs false
namespace Go.Ab
section
variable {E:Nat->Nat->Prop} {H Hs os:List O} {β:List Loc} {w:World} {σ:List Nat}
def fM (β:List Loc) (σ:List Nat):List Loc:=σ.filterMap fun i=>β[i]?
theorem RA:∀ {σ:List Nat},(∀ i ∈ σ,i<β.length)->(fM β σ).length=σ.length /\ ∀ (k i:Nat),σ[k]? = some i->(fM β σ)[k]? = β[i]?
 | [],_=>⟨rfl,by simp⟩
 | s :: σ,h=>by
  have b:s<β.length:=h s (by simp);obtain ⟨c,g2⟩:=RA (σ:=σ) (fun i hi=>h i (by simp [hi]))
  have e:fM β (s :: σ)=β[s] :: fM β σ:=by simp [fM,b]
  rw [e];refine ⟨by simp [c],fun k i a=>?_⟩
  cases k with
  | zero=>simp only [List.getElem?_cons_zero,ZH3] at a; subst a; simp [b]
  | succ k=>simpa using g2 k i (by simpa using a)
theorem KJ {ρ:Nat->Option Nat} {o:O} {n c:Nat} (h:O.ren? ρ o=some (.tok n c)):o = .tok n c:=by
 cases o with
 | cells cs e =>
  simp only [O.ren?] at h;split at h <;> cases h
 | tok a b=>simpa [O.ren?] using h
 | obj sh vs =>
  simp only [O.ren?] at h;split at h <;> cases h
 | dead=>simp [O.ren?] at h
theorem ET {ρ:Nat->Option Nat} {o:O} {cs:List V} {e:TypeId} (h:O.ren? ρ o=some (.cells cs e)):∃ cs',o = .cells cs' e/\V.rens? ρ cs' = some cs:=by
 cases o with
 | cells c e' =>
  simp only [O.ren?] at h;split at h;rotate_left
  ·cases h
  rename_i f d;cases h;exact ⟨c,rfl,d⟩
 | tok a b=>simp [O.ren?] at h
 | obj sh vs =>
  simp only [O.ren?] at h;split at h <;> cases h
 | dead=>simp [O.ren?] at h
theorem FJ {ρ:Nat->Option Nat} {o:O} {sh:Shape} {vs:List V} (h:O.ren? ρ o=some (.obj sh vs)):∃ c,o = .obj sh c /\ V.rens? ρ c = some vs:=by
 cases o with
 | obj sh' d =>
  simp only [O.ren?] at h;split at h;rotate_left
  ·cases h
  rename_i g f;cases h;exact ⟨d,rfl,f⟩
 | tok a b=>simp [O.ren?] at h
 | cells cs e =>
  simp only [O.ren?] at h;split at h <;> cases h
 | dead=>simp [O.ren?] at h
theorem JF {ρ:Nat->Option Nat} {o o' : O} (h:O.ren? ρ o=some o'):o' ≠ .dead ↔ o ≠ .dead:=by
 cases o with
 | cells cs e =>
  simp only [O.ren?] at h;split at h
  ·cases h; simp
  ·cases h
 | tok a b=>simp only [O.ren?,ZH3] at h; subst h; simp
 | obj sh vs =>
  simp only [O.ren?] at h;split at h
  ·cases h; simp
  ·cases h
 | dead=>simp only [O.ren?,ZH3] at h; subst h; simp
theorem aLE {b o i:Nat} {loc:Loc} (c:β[i]? = some loc) (hb:loc.block=b) (h:(∃ cs e,H[i]? = some (.cells cs e))\/(∃ n a,H[i]? = some (.tok n a)/\loc.base+n*a<=o)\/(∃ sh vs,H[i]? = some (.obj sh vs))):Own H β b o/\live H i:=
 ⟨⟨i,loc,c,hb,h⟩,by
  rcases h with ⟨cs,e,h⟩ | ⟨n,a,h,_⟩ | ⟨sh,vs,h⟩
  ·exact ⟨_,h,by simp⟩
  ·exact ⟨_,h,by simp⟩
  ·exact ⟨_,h,by simp⟩⟩
theorem KG {i:Nat} {loc:Loc} (h:live H i) (a:β[i]? = some loc):∃ o,Own H β loc.block o:=by
 obtain ⟨o,h1,h2⟩:=h
 cases o with
 | cells cs e=>exact ⟨0,i,loc,a,rfl,.inl ⟨cs,e,h1⟩⟩
 | tok n b=>exact ⟨loc.base+n*b,i,loc,a,rfl,.inr (.inl ⟨n,b,h1,Nat.le_refl _⟩)⟩
 | obj sh vs=>exact ⟨0,i,loc,a,rfl,.inr (.inr ⟨sh,vs,h1⟩)⟩
 | dead=>exact absurd rfl h2
theorem Own.live_of {b o:Nat} (h:Own H β b o):∃ i loc,live H i/\β[i]? = some loc/\loc.block=b:=by
 obtain ⟨i,loc,h1,h2,h3⟩:=h;exact ⟨i,loc,(aLE (o:=o) h1 h2 h3).2,h1,h2⟩
def Shut (E:Nat->Nat->Prop) (H:List O) (β:List Loc) (Hs:List O) (βs:List Loc) (b o:Nat):Prop:=Xs E H β b o/\¬ Own Hs βs b o
structure Into (E:Nat->Nat->Prop) (H:List O) (β:List Loc) (w:World) (σ:List Nat) (Hs:List O) (βs:List Loc):Prop where
 rel:Rel w (Xs (Shut E H β Hs βs) Hs βs) Hs βs
 sub:∀ b o,Own Hs βs b o->Own H β b o
 same:Xs (Shut E H β Hs βs) Hs βs=Xs E H β
 old:∀ b o,Shut E H β Hs βs b o->b<w.heap.size/\¬ Own Hs βs b o
 lens:βs.length=σ.length/\Hs.length=σ.length
 get:∀ (k i:Nat),σ[k]? = some i->i<H.length/\βs[k]? = β[i]? /\ (live Hs k ↔ live H i)
theorem into (Q:∀ b o,E b o->b<w.heap.size/\¬ Own H β b o) (B:Rel w (Xs E H β) H β) (K:fU σ=true) (S:gQ H σ=some os)
  (C:eA (fun i=>place i σ) os=some Hs):Into E H β w σ Hs (fM β σ)/\GB (fun i=>place i σ) β (fM β σ):=by
 obtain ⟨N,p2⟩:=JQ S;obtain ⟨V,r2⟩:=E6 C
 have I:∀ i ∈ σ,i<β.length:=fun i hi=>by
  obtain ⟨k,g⟩:=List.getElem?_of_mem hi;rw [<- B.len]; exact (p2 k i g).1
 obtain ⟨G,l2⟩:=RA (β:=β) I
 have q:GB (fun i=>place i σ) β (fM β σ):=fun i j loc d a=>by rw [l2 j i (JD d),a]
 have back:∀ (k:Nat) o,Hs[k]? = some o -> ∃ i u,σ[k]? = some i/\H[i]? = some u/\O.ren? (fun i=>place i σ) u=some o:=by
  intro k o h;obtain ⟨u,hu,hu'⟩:=r2 k o h
  have g:k<σ.length:=by rw [<- N]; exact (ZB2.1 hu).1
  refine ⟨σ[k],u,by simp [g],?_,hu'⟩;rw [<- (p2 k σ[k] (by simp [g])).2,hu]
 have y:∀ b o,Own Hs (fM β σ) b o->Own H β b o:=by
  rintro b o ⟨k,loc,d,a,D⟩
  have g:k<σ.length:=by rw [<- G]; exact (ZB2.1 d).1
  have f : σ[k]? = some σ[k]:=by simp [g]
  rw [l2 k _ f] at d;refine ⟨σ[k],loc,d,a,?_⟩
  rcases D with ⟨cs,e,h⟩ | ⟨n,L,h,h'⟩ | ⟨sh,vs,h⟩
  ·obtain ⟨i,u,e1,e2,e3⟩:=back k _ h
   rw [f] at e1;simp only [ZH3] at e1;subst e1;obtain ⟨cs',rfl,_⟩:=ET e3;exact .inl ⟨cs',e,e2⟩
  ·obtain ⟨i,u,e1,e2,e3⟩:=back k _ h
   rw [f] at e1;simp only [ZH3] at e1;subst e1;have:=KJ e3;subst this;exact .inr (.inl ⟨n,L,e2,h'⟩)
  ·obtain ⟨i,u,e1,e2,e3⟩:=back k _ h
   rw [f] at e1;simp only [ZH3] at e1;subst e1;obtain ⟨A,rfl,_⟩:=FJ e3;exact .inr (.inr ⟨sh,A,e2⟩)
 have r:Xs (Shut E H β Hs (fM β σ)) Hs (fM β σ)=Xs E H β:=by
  funext b o
  apply propext;constructor
  ·rintro (⟨h,_⟩ | h)
   ·exact h
   ·exact .inr (y b o h)
  ·intro h
   by_cases hh:Own Hs (fM β σ) b o
   ·exact .inr hh
   ·exact .inl ⟨h,hh⟩
 have p:∀ (k i:Nat),σ[k]? = some i->(live Hs k ↔ live H i):=by
  intro k i g;constructor
  ·rintro ⟨o,d,a⟩
   obtain ⟨T,u,e1,e2,e3⟩:=back k o d;rw [g] at e1;simp only [ZH3] at e1;subst e1;exact ⟨u,e2,(JF e3).1 a⟩
  ·rintro ⟨u,d,a⟩
   have f : k<Hs.length:=by rw [V,N]; exact (ZB2.1 g).1
   have t:Hs[k]? = some Hs[k]:=by simp [f]
   obtain ⟨T,u',e1,e2,e3⟩:=back k _ t;rw [g] at e1;simp only [ZH3] at e1;subst e1;rw [d] at e2;simp only [ZH3] at e2;subst e2;exact ⟨_,t,(JF e3).2 a⟩
 refine ⟨⟨?_,y,r,?_,⟨G,by omega⟩,fun k i g=>⟨(p2 k i g).1,l2 k i g,p k i g⟩⟩,q⟩
 ·rw [r]
  refine ⟨by omega,fun k cs e loc d a=>?_,fun k n L loc d a=>?_,fun k sh vs loc d a=>?_,fun k F l l' d a D M P=>?_⟩
  ·obtain ⟨i,u,e1,e2,e3⟩:=back k _ d
   obtain ⟨cs',rfl,hren⟩:=ET e3;rw [l2 k i e1] at a;obtain ⟨s,c,e',z,g3,g4,g5⟩:=B.cells i cs' e loc e2 a;obtain ⟨U,q2⟩:=nY hren;refine ⟨s,c,e',z,g3,⟨by have:=g4.1; omega,fun R=>by have:=g4.2 R; omega⟩,fun m v J=>?_⟩;obtain ⟨u,hu,hu'⟩:=q2 m v J;obtain ⟨x,hx,C⟩:=g5 m u hu;exact ⟨x,hx,wI q C v hu'⟩
  ·obtain ⟨i,u,e1,e2,e3⟩:=back k _ d
   have:=KJ e3;subst this;rw [l2 k i e1] at a;exact B.tok i n L loc e2 a
  ·obtain ⟨i,u,e1,e2,e3⟩:=back k _ d
   obtain ⟨A,rfl,hren⟩:=FJ e3;rw [l2 k i e1] at a;obtain ⟨s,gb,ob,xs,z,g3,g5⟩:=B.objs i sh A loc e2 a;obtain ⟨U,q2⟩:=nY hren;refine ⟨s,gb,ob,xs,z,g3,fun m v J=>?_⟩;obtain ⟨u,hu,hu'⟩:=q2 m v J;obtain ⟨x,hx,C⟩:=g5 m u hu;exact ⟨x,hx,wI q C v hu'⟩
  ·have g:k<σ.length:=by rw [<- G]; exact (ZB2.1 D).1
   have f : F < σ.length:=by rw [<- G]; exact (ZB2.1 M).1
   have s:σ[k]? = some σ[k]:=by simp [g]
   have z:σ[F]? = some σ[F]:=by simp [f]
   have:=B.disj σ[k] σ[F] l l' ((p _ _ s).1 d) ((p _ _ z).1 a) (by rw [<- l2 _ _ s,D]) (by rw [<- l2 _ _ z,M]) P;rw [this] at s;exact aEH K s z
 ·rintro b o ⟨d,a⟩
  refine ⟨?_,a⟩
  rcases d with h | h
  ·exact (Q b o h).1
  ·exact GO B h
variable {βs β2:List Loc} {w' : World} {H2 H2' : List O}
theorem R4 (hE:∀ b o,E b o->b<w.heap.size/\¬ Own H β b o) (hR:Rel w (Xs E H β) H β) (hσ:fU σ=true) (hi:Into E H β w σ Hs βs)
  (s:Step (Shut E H β Hs βs) Hs βs w H2 β2 w') (hl:σ.length<=H2.length) (hr:eA (eJ σ H.length) H2=some H2') :
  Step E H β w (bQ H σ H2') (bQ β σ β2) w' /\ ∀ v v' y,R w' (Xs (Shut E H β Hs βs) H2 β2) β2 v y->V.ren? (eJ σ H.length) v=some v' -> R w' (Xs E (bQ H σ H2') (bQ β σ β2)) (bQ β σ β2) v' y:=by
 obtain ⟨r1,r2⟩:=E6 hr;have hlb:=hR.len;have hl2:=s.rel.len
 have hlt:∀ i ∈ σ,i<H.length:=fun i h=>by
  obtain ⟨k,hk⟩:=List.getElem?_of_mem h;exact (hi.get k i hk).1
 have hlt' : ∀ i ∈ σ,i<β.length:=fun i h=>hlb ▸ hlt i h;have newH:∀ i j,eJ σ H.length j=some i->(bQ H σ H2')[i]? = H2'[j]? := fun i j h=>P2 H σ H2' i j hσ hlt (by omega) h;have newB:∀ i j,eJ σ H.length j=some i->(bQ β σ β2)[i]? = β2[j]? := fun i j h=>P2 β σ β2 i j hσ hlt' (by omega) (by rw [<- hlb]; exact h);have oldH:∀ i,i<H.length->i ∉ σ->(bQ H σ H2')[i]? = H[i]? := fun i h1 h2=>I6 H σ H2' i h1 h2 (by omega)
 have oldB:∀ i,i<H.length->i ∉ σ->(bQ β σ β2)[i]? = β[i]? := fun i h1 h2=>I6 β σ β2 i (by omega) h2 (by omega)
 have cases3:∀ (i:Nat) loc,(bQ β σ β2)[i]? = some loc->(i<H.length/\i ∉ σ/\β[i]? = some loc) \/ ∃ j,eJ σ H.length j=some i/\β2[j]? = some loc:=by
  intro i loc h;by_cases hc:i<H.length/\i ∉ σ
  ·exact .inl ⟨hc.1,hc.2,by rw [<- oldB i hc.1 hc.2,h]⟩
  ·obtain ⟨j,hj⟩:=aW8 (σ:=σ) (n:=H.length) hc
   exact .inr ⟨j,hj,by rw [<- newB i j hj,h]⟩
 have backH:∀ (j:Nat) o,H2'[j]? = some o -> ∃ u,H2[j]? = some u/\O.ren? (eJ σ H.length) u=some o:=r2
 have ownNew:∀ i j loc b o,eJ σ H.length j=some i->β2[j]? = some loc->loc.block=b ->
   ((∃ cs e,(bQ H σ H2')[i]? = some (.cells cs e))\/(∃ n sz,(bQ H σ H2')[i]? = some (.tok n sz)/\loc.base+n*sz<=o)\/(∃ sh vs,(bQ H σ H2')[i]? = some (.obj sh vs)))->Own H2 β2 b o:=by
  intro i j loc b o h1 h2 h3 h4;refine ⟨j,loc,h2,h3,?_⟩;rw [newH i j h1] at h4
  rcases h4 with ⟨cs,e,h⟩ | ⟨n,sz,h,h'⟩ | ⟨sh,vs,h⟩
  ·obtain ⟨u,hu,hu'⟩:=backH j _ h
   obtain ⟨cs',rfl,_⟩:=ET hu';exact .inl ⟨cs',e,hu⟩
  ·obtain ⟨u,hu,hu'⟩:=backH j _ h
   have:=KJ hu';subst this;exact .inr (.inl ⟨n,sz,hu,h'⟩)
  ·obtain ⟨u,hu,hu'⟩:=backH j _ h
   obtain ⟨vs',rfl,_⟩:=FJ hu';exact .inr (.inr ⟨sh,vs',hu⟩)
 have ownSplit:∀ b o,Own (bQ H σ H2') (bQ β σ β2) b o->(∃ i loc,i<H.length/\i ∉ σ/\β[i]? = some loc/\loc.block=b/\live H i/\Own H β b o)\/Own H2 β2 b o:=by
  rintro b o ⟨i,loc,h1,h2,h3⟩
  rcases cases3 i loc h1 with ⟨g1,g2,g3⟩ | ⟨j,g1,g2⟩
  ·rw [oldH i g1 g2] at h3
   obtain ⟨a1,a2⟩:=aLE (o:=o) g3 h2 h3;exact .inl ⟨i,loc,g1,g2,g3,h2,a2,a1⟩
  ·exact .inr (ownNew i j loc b o g1 g2 h2 h3)
 have apart:∀ i loc,i ∉ σ->β[i]? = some loc->live H i -> ∀ o,¬ Own Hs βs loc.block o:=by
  rintro i loc h1 h2 h3 o ho;obtain ⟨k,l,g1,g2,g3⟩:=ho.live_of
  have hk:k<σ.length:=by rw [<- hi.lens.1]; exact (ZB2.1 g2).1
  obtain ⟨_,q2,q3⟩:=hi.get k σ[k] (by simp [hk]);have:=hR.disj i σ[k] loc l h3 (q3.1 g1) h2 (by rw [<- q2,g2]) g3.symm;exact h1 (by rw [this]; simp)
 have hX:∀ b o,Xs E (bQ H σ H2') (bQ β σ β2) b o->Xs (Shut E H β Hs βs) H2 β2 b o:=by
  rintro b o (h | h)
  ·exact .inl ⟨.inl h,fun h' => (hE b o h).2 (hi.sub b o h')⟩
  ·rcases ownSplit b o h with ⟨i,loc,g1,g2,g3,g4,g5,g6⟩ | h
   ·subst g4
    exact .inl ⟨.inr g6,apart i loc g2 g3 g5 o⟩
   ·exact .inr h
 have hturn:GB (eJ σ H.length) β2 (bQ β σ β2):=fun j i loc h1 h2=>by rw [newB i j h1,h2]
 have hlocs:LocLe β (bQ β σ β2):=by
  intro i loc h;by_cases hc:i ∈ σ
  ·obtain ⟨k,hk⟩:=List.getElem?_of_mem hc
   obtain ⟨q1,q2,_⟩:=hi.get k i hk;obtain ⟨loc',g1,g2⟩:=s.locs k loc (by rw [q2,h]);exact ⟨loc',by rw [newB i k (by simp [eJ,hk]),g1],g2⟩
  ·have:i<H.length:=by rw [hlb]; exact (ZB2.1 h).1
   exact ⟨loc,by rw [oldB i this hc,h],.inl rfl⟩
 have hstab:=s.stab;rw [hi.same] at hstab;have bC:∀ v x,R w (Xs E H β) β v x->R w' (Xs E (bQ H σ H2') (bQ β σ β2)) (bQ β σ β2) v x:=fun v x h=>(h.stab hstab _ hlocs).weak hX
 have turnR:∀ v v' y,R w' (Xs (Shut E H β Hs βs) H2 β2) β2 v y->V.ren? (eJ σ H.length) v=some v' -> R w' (Xs E (bQ H σ H2') (bQ β σ β2)) (bQ β σ β2) v' y:=
  fun v v' y h hv=>(wI hturn h v' hv).weak hX
 have stay:∀ i loc,i ∉ σ->β[i]? = some loc->live H i->loc.block<w.heap.size->w'.heap[loc.block]? = w.heap[loc.block]? := by
  intro i loc h1 h2 h3 h4
  rcases s.pres loc.block h4 with h | ⟨⟨o,h⟩,_⟩ | ⟨⟨o,h⟩,_⟩
  ·exact h
  ·exact absurd h (apart i loc h1 h2 h3 o)
  ·exact absurd h (apart i loc h1 h2 h3 o)
 refine ⟨⟨⟨?_,fun i cs e loc h1 h2=>?_,fun i n sz loc h1 h2=>?_,fun i sh vs loc h1 h2=>?_,?_⟩,s.os,s.tape,s.output,s.size,fun b hb=>?_,fun b o h=>?_,hlocs⟩,turnR⟩
 ·rw [JC _ _ _ (by omega),JC _ _ _ (by omega)]; omega
 ·rcases cases3 i loc h2 with ⟨g1,g2,g3⟩ | ⟨j,g1,g2⟩
  ·rw [oldH i g1 g2] at h1
   obtain ⟨a1,c,e',a2,a3,a4,a5⟩:=hR.cells i cs e loc h1 g3;refine ⟨a1,c,e',?_,a3,a4,fun k v hv=>let ⟨x,hx,hr⟩:=a5 k v hv; ⟨x,hx,bC v x hr⟩⟩;rw [stay i loc g2 g3 ⟨_,h1,by simp⟩ (dS a2)]; exact a2
  ·rw [newH i j g1] at h1
   obtain ⟨u,hu,hu'⟩:=backH j _ h1;obtain ⟨cs',rfl,hcs⟩:=ET hu';obtain ⟨a1,c,e',a2,a3,a4,a5⟩:=s.rel.cells j cs' e loc hu g2;obtain ⟨q1,q2⟩:=nY hcs;refine ⟨a1,c,e',a2,a3,⟨by have:=a4.1; omega,fun he=>by have:=a4.2 he; omega⟩,fun k v hv=>?_⟩;obtain ⟨u,hu,hu'⟩:=q2 k v hv;obtain ⟨x,hx,hr⟩:=a5 k u hu;exact ⟨x,hx,turnR u v x hr hu'⟩
 ·rcases cases3 i loc h2 with ⟨g1,g2,g3⟩ | ⟨j,g1,g2⟩
  ·rw [oldH i g1 g2] at h1
   obtain ⟨a1,a2,c,e',a3,a4⟩:=hR.tok i n sz loc h1 g3;refine ⟨a1,a2,c,e',?_,a4⟩;rw [stay i loc g2 g3 ⟨_,h1,by simp⟩ (dS a3)]; exact a3
  ·rw [newH i j g1] at h1
   obtain ⟨u,hu,hu'⟩:=backH j _ h1;have:=KJ hu';subst this;exact s.rel.tok j n sz loc hu g2
 ·rcases cases3 i loc h2 with ⟨g1,g2,g3⟩ | ⟨j,g1,g2⟩
  ·rw [oldH i g1 g2] at h1
   obtain ⟨a1,ab,ob,xs,a2,a3,a5⟩:=hR.objs i sh vs loc h1 g3;refine ⟨a1,ab,ob,xs,?_,a3,fun k v hv=>let ⟨x,hx,hr⟩:=a5 k v hv; ⟨x,hx,bC v x hr⟩⟩;rw [stay i loc g2 g3 ⟨_,h1,by simp⟩ (dS a2)]; exact a2
  ·rw [newH i j g1] at h1
   obtain ⟨u,hu,hu'⟩:=backH j _ h1;obtain ⟨vs',rfl,hcs⟩:=FJ hu';obtain ⟨a1,ab,ob,xs,a2,a3,a5⟩:=s.rel.objs j sh vs' loc hu g2;obtain ⟨q1,q2⟩:=nY hcs;refine ⟨a1,ab,ob,xs,a2,a3,fun k v hv=>?_⟩;obtain ⟨u,hu,hu'⟩:=q2 k v hv;obtain ⟨x,hx,hr⟩:=a5 k u hu;exact ⟨x,hx,turnR u v x hr hu'⟩
 ·-- two that live lie apart
  have half:∀ i i' l l',live (bQ H σ H2') i->live (bQ H σ H2') i' -> i<H.length/\i ∉ σ/\β[i]? = some l->(∃ j,eJ σ H.length j=some i' /\ β2[j]? = some l')->l.block=l'.block->False:=by
   rintro i i' l l' h1 h2 ⟨g1,g2,g3⟩ ⟨j,a1,a2⟩ hb
   have hli:live H i:=by obtain ⟨o,e1,e2⟩:=h1; exact ⟨o,by rw [<- oldH i g1 g2,e1],e2⟩
   have hlj:live H2 j:=by
    obtain ⟨o,e1,e2⟩:=h2;rw [newH i' j a1] at e1;obtain ⟨u,hu,hu'⟩:=backH j _ e1;exact ⟨u,hu,(JF hu').1 e2⟩
   obtain ⟨o,ho⟩:=KG hlj a2
   rcases s.own _ o ho with h | h
   ·rw [<- hb] at h; exact apart i l g2 g3 hli o h
   ·obtain ⟨o',ho'⟩:=KG hli g3
    have:=GO hR ho';omega
  intro i i' l l' h1 h2 h3 h4 h5
  rcases cases3 i l h3 with g | g
  ·rcases cases3 i' l' h4 with k | k
   ·have hli:live H i:=by obtain ⟨o,e1,e2⟩:=h1; exact ⟨o,by rw [<- oldH i g.1 g.2.1,e1],e2⟩
    have hli' : live H i' := by obtain ⟨o,e1,e2⟩:=h2; exact ⟨o,by rw [<- oldH i' k.1 k.2.1,e1],e2⟩
    exact hR.disj i i' l l' hli hli' g.2.2 k.2.2 h5
   ·exact (half i i' l l' h1 h2 g k h5).elim
  ·rcases cases3 i' l' h4 with k | k
   ·exact (half i' i l' l h2 h1 k g h5.symm).elim
   ·obtain ⟨j,a1,a2⟩:=g
    obtain ⟨j',b1,b2⟩:=k
    have lv:∀ i j,live (bQ H σ H2') i->eJ σ H.length j=some i->live H2 j:=by
     rintro i j ⟨o,e1,e2⟩ a1;rw [newH i j a1] at e1;obtain ⟨u,hu,hu'⟩:=backH j _ e1;exact ⟨u,hu,(JF hu').1 e2⟩
    have:=s.rel.disj j j' l l' (lv i j h1 a1) (lv i' j' h2 b1) a2 b2 h5;subst this;rw [a1] at b1;exact Option.some.inj b1
 ·rcases s.pres b hb with h | ⟨⟨o,ho⟩,c,c',e,h1,h2,h3,h4⟩ | ⟨⟨o,ho⟩,x,y,h1,h2,h3,h4⟩
  ·exact .inl h
  ·exact .inr (.inl ⟨⟨o,hi.sub b o ho⟩,c,c',e,h1,h2,h3,fun o h=>h4 o (fun h' => h (hi.sub b o h'))⟩)
  ·exact .inr (.inr ⟨⟨o,hi.sub b o ho⟩,x,y,h1,h2,h3,h4⟩)
 ·rcases ownSplit b o h with ⟨i,loc,g1,g2,g3,g4,g5,g6⟩ | h
  ·exact .inl g6
  ·rcases s.own b o h with h | h
   ·exact .inl (hi.sub b o h)
   ·exact .inr h
end
end Go.Ab

namespace Go.Ab
open Go.MapKept
section
variable {P:Program} {E:Nat->Nat->Prop} {H:List O} {β:List Loc} {w:World}
theorem Step.pushObj (d:Rel w (Xs E H β) H β) (c:Obj) {sh:Shape} {xs:List Value} {vs:List V} {loc:Loc} (b:Shp sh c xs)
  (f:∀ (k:Nat) v,vs[k]? = some v -> ∃ x,xs[k]? = some x/\R w (Xs E H β) β v x) (a:loc.block=w.heap.size) (e:loc.kind=false) (hb:loc.base=0) :
  Step E H β w (H++[.obj sh vs]) (β++[loc]) (w.alloc c):=Step.pushObjD d c b f a e hb
theorem Step.setObj (f:Rel w (Xs E H β) H β) {id:Nat} {sh sh' : Shape} {vs c : List V} {loc:Loc} {ob' : Obj} {xs' : List Value}
  (d:H[id]? = some (.obj sh vs)) (a:β[id]? = some loc) (b:Shp sh' ob' xs') (i:∀ (k:Nat) v,c[k]? = some v -> ∃ x,xs'[k]? = some x/\R w (Xs E H β) β v x)
  (g:sh.isPage=false:=by rfl) (e : sh'.isPage=false:=by rfl) :
  Step E H β w (H.set id (.obj sh' c)) β { w with heap:=w.heap.setIfInBounds loc.block ob' }:=
 Step.setObjG f d a b i fun _ _ _ h=>.inl ⟨h.special g,b.special e⟩
theorem aTX {t:TypeId} (h:KO P t=true) (w:World):(zeroValue t).run P w = .ok (.pointer none) w:=by
 unfold KO at h;split at h
 ·rename_i i hi
  split at h
  ·rename_i a
   simp [zeroValue,typeInfo,hi,a]
  ·cases h
 ·cases h
theorem aF5 {t:TypeId} (h:CZ P t=true):P.underlying t=some (.int .u64):=by
 unfold CZ at h;split at h
 ·assumption
 ·cases h
theorem aR1 (b:Rel w (Xs E H β) H β) (t:TypeId) :
  ∃ z w' a,(Instr.makeMap t none).run P w = .ok z w' /\ Step E H β w (H++[.obj (.map []) []]) a w' /\ R w' (Xs E (H++[.obj (.map []) []]) a) a (.mp H.length) z:=by
 refine ⟨.map (some w.heap.size),_,β++[{ kind:=false,block:=w.heap.size,base:=0,n:=0,size:=0 }],rfl,
  Step.pushObj b (.map #[] 0) (xs:=[]) ⟨#[],0,[],rfl,stamped_empty 0,.nil,.refl _,rfl,rfl⟩ (fun k v h=>by simp at h) rfl rfl rfl,?_⟩
 exact .mp _ _ { kind:=false,block:=w.heap.size,base:=0,n:=0,size:=0 } (by rw [b.len]; simp) rfl
theorem QQ {z:V} {f:V->Bool->V} {u:V} {n:Int}:∀ {keys:List Int} {vs:List V},(G3 z f keys vs n).run=some u ->
  (∃ (i:Nat) (v:V),keys[i]? = some n/\vs[i]? = some v/\u=f v true)\/(n ∉ keys/\u=f z false)
 | [],[],h=>by simp only [G3,Tree.run,ZH3] at h; exact .inr ⟨by simp,h.symm⟩
 | k :: ks,v :: vs,h=>by
  unfold G3 at h;simp only [Tree.run] at h;cases hb:(n==k)
  ·rw [hb,cond_false] at h
   rcases QQ h with ⟨i,v',a,h2,h3⟩ | ⟨a,h2⟩
   ·exact .inl ⟨i+1,v',by simpa using a,by simpa using h2,h3⟩
   ·refine .inr ⟨?_,h2⟩
    simp only [ZE3,not_or];exact ⟨fun e=>by rw [e] at hb; simp at hb,a⟩
  ·rw [hb,cond_true] at h
   simp only [ZH3] at h;exact .inl ⟨0,v,by simp [eq_of_beq hb],rfl,h.symm⟩
 | [],_ :: _,h=>by cases h
 | _ :: _,[],h=>by cases h
theorem aEF {keys:List Int} {b:Obj} {xs:List Value} (h:Shp (.map keys) b xs) :
  ∃ (arr:Array MapEntry) (clock:Nat) (l:List MapEntry),b = .map arr clock/\Stamped arr clock/\keys.Pairwise (· < ·)/\l.Perm arr.toList/\l.map (·.key)=keys.map (Value.int .u64)/\l.map (·.val)=xs /\
   (∀ x ∈ arr.toList,IsKey (.int .u64) x.key) /\ ∀ (i:Nat) e n,l[i]? = some e->e.key = .int .u64 n->keys[i]? = some n/\xs[i]? = some e.val:=by
 obtain ⟨arr,clock,l,h1,h2,h3,h4,h5,h6⟩:=h;refine ⟨arr,clock,l,h1,h2,h3,h4,h5,h6,fun x d=>?_,fun i e n hi c=>⟨?_,?_⟩⟩
 ·have:x.key ∈ l.map (·.key):=List.mem_map_of_mem (h4.mem_iff.2 d)
  rw [h5] at this;obtain ⟨n,_,hn⟩:=ZF3.1 this;rw [<- hn];rfl
 ·have:(l.map (·.key))[i]? = some (.int .u64 n):=by rw [ZC0,hi]; exact congrArg some c
  rw [h5,ZC0] at this;obtain ⟨m,hm,a⟩:=Option.map_eq_some_iff.1 this;cases a;exact hm
 ·rw [<- h6,ZC0,hi]
  rfl
theorem aDA {keys:List Int} (h:keys.Pairwise (· < ·)) {i j:Nat} {n:Int} (hi:keys[i]? = some n) (e:keys[j]? = some n):i=j:=by
 obtain ⟨a,ei⟩:=ZB2.1 hi;obtain ⟨b,ej⟩:=ZB2.1 e
 rcases Nat.lt_trichotomy i j with d | heq | c
 ·have:=List.pairwise_iff_getElem.1 h i j a b d
  omega
 ·exact heq
 ·have:=List.pairwise_iff_getElem.1 h j i b a c
  omega
theorem aRZ {t:TypeId} {x K u:V} {M L:Value} {ok:Bool} (S:Rel w (Xs E H β) H β) (c:R w (Xs E H β) β x M) (hi:R w (Xs E H β) β K L) (h:(TZ P H t x K ok).run=some u) :
  ∃ z,(Instr.lookup t M L ok).run P w = .ok z w/\R w (Xs E H β) β u z:=by
 unfold TZ at h;split at h;rotate_left
 ·cases h
 rename_i kt et G;split at h;rotate_left
 ·cases h
 rename_i n id;split at h;rotate_left
 ·cases h
 rename_i keys vs D;cases f:(CZ P kt&&KO P et)
 ·rw [f] at h; cases h
 rw [f,cond_true] at h;rw [ZA2] at f;have A:=aF5 f.1;cases hi
 cases c with
 | mp _ _ loc m B =>
  obtain ⟨_,_,ob,xs,hob,hsh,hval⟩:=S.objs id _ _ loc D m;obtain ⟨arr,clock,l,rfl,hst,hsort,hperm,hkeys,hvals,g,hat⟩:=aEF hsh;have B:IsKey (.int .u64) (.int .u64 n):=rfl
  have fin:∀ (r:Option (Nat × Value)) (v:V) (b:Bool) (y:Value),Instr.findNow (.int .u64) (.int .u64 n) arr.toList 0=some r->u=okV ok v b->R w (Xs E H β) β v y ->
    (r=none->y = .pointer none/\b=false)->(∀ q,r=some q->y=q.2/\b=true) -> ∃ z,(Instr.lookup t (.map (some loc.block)) (.int .u64 n) ok).run P w = .ok z w/\R w (Xs E H β) β u z:=by
   intro r v b y F I p N Q
   have a:R w (Xs E H β) β (.tup [v,.bool b]) (.tuple #[y,.bool b]):=.tup _ _ [y,.bool b] rfl fun k X x s c=>by
    match k,s,c with
    | 0,s,c=>cases s; cases c; exact p
    | 1,s,c=>cases s; cases c; exact .bool _ _
   cases r with
   | none =>
    obtain ⟨rfl,rfl⟩:=N rfl;refine ⟨if ok then .tuple #[.pointer none,.bool false] else .pointer none,?_,?_⟩
    ·simp [Instr.lookup,run_underlying G,run_getObj_map hob,run_checkKey A B,run_findKey A F,aTX f.2,Result.andThen]
    ·rw [I]
     cases ok
     ·exact p
     ·exact a
   | some q =>
    obtain ⟨rfl,rfl⟩:=Q q rfl;refine ⟨if ok then .tuple #[q.2,.bool true] else q.2,?_,?_⟩
    ·obtain ⟨W,q2⟩:=q
     simp [Instr.lookup,run_underlying G,run_getObj_map hob,run_checkKey A B,run_findKey A F,Result.andThen]
    ·rw [I]
     cases ok
     ·exact p
     ·exact a
  rcases findNow_spec B arr.toList 0 g with ⟨f1,f2⟩ | ⟨j,e,f1,f2,f3⟩
  ·rcases QQ h with ⟨i,v,d,g2,g3⟩ | ⟨d,g2⟩
   ·exfalso
    have T:(l.map (·.key))[i]? = some (.int .u64 n):=by rw [hkeys,ZC0,d]; rfl
    obtain ⟨e,he,he'⟩:=ZF3.1 (List.mem_of_getElem? T);exact f2 e (hperm.mem_iff.1 he) he'
   ·exact fin none _ false (.pointer none) f1 g2 (.val _ _) (fun _=>⟨rfl,rfl⟩) (fun q o=>by cases o)
  ·have C:e ∈ l:=hperm.mem_iff.2 (List.mem_of_getElem? f2)
   obtain ⟨i,hi⟩:=List.getElem?_of_mem C;obtain ⟨k1,k2⟩:=hat i e n hi f3
   rcases QQ h with ⟨U,v,d,g2,g3⟩ | ⟨d,g2⟩
   ·have:=aDA hsort k1 d
    subst this;obtain ⟨y,J,p⟩:=hval i v g2;rw [k2] at J;cases J;exact fin _ v true e.val f1 g3 p (fun o=>by cases o) (fun q o=>by cases o; exact ⟨rfl,rfl⟩)
   ·exact absurd (List.mem_of_getElem? k1) d
theorem aSY {t:TypeId} {x:V} {c:Value} {res:Res} (b:Rel w (Xs E H β) H β) (e:R w (Xs E H β) β x c) (h:(V9 P H t x).run=some res) :
  ∃ u H',res = .ok u H' /\ ∃ z w' a,(Instr.range t c).run P w = .ok z w' /\ Step E H β w H' a w' /\ R w' (Xs E H' a) a u z:=by
 unfold V9 at h;split at h;rotate_left
 ·cases h
 rename_i s d;simp only [Tree.run,ZH3] at h;subst h;cases e
 refine ⟨_,_,rfl,.pointer (some ⟨w.heap.size,0,none⟩),_,β++[{ kind:=false,block:=w.heap.size,base:=0,n:=0,size:=0 }],run_range_string w t _ d,
  Step.pushObj b (.stringIter ⟨s.toArray⟩ 0) (xs:=[]) ⟨rfl,rfl⟩ (fun k v h=>by simp at h) rfl rfl rfl,?_⟩
 exact .ptr _ _ 0 { kind:=false,block:=w.heap.size,base:=0,n:=0,size:=0 } (by rw [b.len]; simp) rfl
theorem aUT {it:V} {p:Value} {res:Res} {ty:TypeId} (n:Rel w (Xs E H β) H β) (a:R w (Xs E H β) β it p) (h:(W8 H it).run=some res) :
  ∃ u H',res = .ok u H' /\ ∃ z w' j,(Instr.next p true ty).run P w = .ok z w' /\ Step E H β w H' j w' /\ R w' (Xs E H' j) j u z:=by
 unfold W8 at h;split at h;rotate_left
 ·cases h
 rename_i id off;split at h;rotate_left
 ·cases h
 rename_i s pos vs l;cases o:Nat.beq off 0
 ·rw [o] at h; cases h
 rw [o,cond_true] at h;have q:=ZG1 o;subst q
 cases a with
 | ptr _ _ _ loc f r =>
  obtain ⟨_,hb,ob,xs,hob,hsh,hval⟩:=n.objs id _ _ loc l f;obtain ⟨rfl,rfl⟩:=hsh;rw [hb];simp only [Tree.run] at h
  have i:(⟨s.toArray⟩:ByteArray).size=s.length:=by simp [ByteArray.size]
  cases c:decide (pos<s.length)
  ·rw [c,cond_false] at h
   simp only [ZH3] at h;subst h;have c:=of_decide_eq_false c;refine ⟨_,_,rfl,.tuple #[.bool false],w,β,?_,Step.refl n,?_⟩
   ·simp [Instr.next,getObj,Sem.run,hob,Result.andThen,i,c]
   ·exact .tup _ _ [.bool false] rfl fun k v x b a=>by
     match k,b,a with
     | 0,b,a=>cases b; cases a; exact .bool _ _
  ·rw [c,cond_true] at h
   obtain ⟨m,h2⟩:=aM h;simp only [Tree.run,ZH3] at h2;subst h2;have c:=of_decide_eq_true c;have m:=of_decide_eq_true m
   have g:pos<(⟨s.toArray⟩:ByteArray).size:=by rw [i]; exact c
   have e:((⟨s.toArray⟩:ByteArray)[pos]'g)=s.getD pos 0:=by
    have:((⟨s.toArray⟩:ByteArray)[pos]'g)=s[pos]:=rfl;rw [this,List.getD,List.getElem?_eq_getElem c];rfl
   have d:=decode_ascii ⟨s.toArray⟩ pos g (by rw [e]; exact m);rw [e] at d;refine ⟨_,_,rfl,.tuple #[.bool true,.int .i64 pos,.int .i32 (s.getD pos 0).toNat],_,β,?_,Step.setObj n l f (sh' := .siter s (pos+1)) (ob' := .stringIter ⟨s.toArray⟩ (pos+1)) (xs' := []) ⟨rfl,rfl⟩ (fun k v h=>by simp at h),?_⟩
   ·simp [Instr.next,getObj,setObj,Sem.run,hob,Result.andThen,i,c,d,goInt]
   ·exact .tup _ _ [.bool true,.int .i64 pos,.int .i32 (s.getD pos 0).toNat] rfl fun k v x b a=>by
     match k,b,a with
     | 0,b,a=>cases b; cases a; exact .bool _ _
     | 1,b,a=>cases b; cases a; exact .int _ _ _
     | 2,b,a=>cases b; cases a; exact .int _ _ _
theorem SA {n:Int} {v:V}:∀ {keys:List Int} {vs:List V} {p:List Int × List V},(HO n v keys vs).run=some p->keys.Pairwise (· < ·)->vs.length=keys.length ->
  (∃ i:Nat,keys[i]? = some n/\p=(keys,vs.set i v)) \/
  (n ∉ keys /\ ∃ i:Nat,i<=keys.length/\p=(keys.take i++n :: keys.drop i,vs.take i++v :: vs.drop i)/\p.1.Pairwise (· < ·))
 | [],[],p,h,_,_=>by
  simp only [HO,Tree.run,ZH3] at h;subst h;exact .inr ⟨by simp,0,Nat.le_refl _,rfl,by simp⟩
 | k :: ks,u :: us,p,h,hs,m=>by
  unfold HO at h;simp only [Tree.run] at h;have d:=(List.pairwise_cons.1 hs).1;have j:=(List.pairwise_cons.1 hs).2;cases hb:(n==k)
  ·have f:n ≠ k:=fun e=>by rw [e] at hb; simp at hb
   rw [hb,cond_false] at h;cases c:decide (n<k)
   ·rw [c,cond_false] at h
    have c:=of_decide_eq_false c;obtain ⟨q,l,h2⟩:=bD h;simp only [Tree.run,ZH3] at h2;subst h2
    rcases SA l j (by simpa using m) with ⟨i,g,rfl⟩ | ⟨g,i,g2,rfl,g5⟩
    ·exact .inl ⟨i+1,by simpa using g,by simp⟩
    ·refine .inr ⟨?_,i+1,by simpa using g2,by simp,?_⟩
     ·simp only [ZE3,not_or]
      exact ⟨f,g⟩
     ·refine List.pairwise_cons.2 ⟨fun a b=>?_,g5⟩
      simp only [List.mem_append,ZE3] at b
      rcases b with b | b | b
      ·exact d a (List.mem_of_mem_take b)
      ·omega
      ·exact d a (List.mem_of_mem_drop b)
   ·rw [c,cond_true] at h
    have c:=of_decide_eq_true c;simp only [ZH3] at h;subst h;refine .inr ⟨?_,0,by simp,by simp,?_⟩
    ·simp only [ZE3,not_or]
     exact ⟨f,fun o=>by have:=d n o; omega⟩
    ·refine List.pairwise_cons.2 ⟨fun a b=>?_,hs⟩
     simp only [ZE3] at b
     rcases b with b | b
     ·omega
     ·have:=d a b; omega
  ·rw [hb,cond_true] at h
   simp only [ZH3] at h;subst h;exact .inl ⟨0,by simp [eq_of_beq hb],rfl⟩
 | [],_ :: _,_,h,_,_=>by cases h
 | _ :: _,[],_,h,_,_=>by cases h
theorem aH2 {α:Type} {l:List α} {i:Nat} {e:α} (h:l[i]? = some e):l=l.take i++e :: l.drop (i+1):=by
 obtain ⟨hi,rfl⟩:=ZB2.1 h;rw [List.getElem_cons_drop,List.take_append_drop]
theorem aE7 {α:Type} {l:List α} {i:Nat} {e x:α} (h:l[i]? = some e):l.set i x=l.take i++x :: l.drop (i+1):=by
 obtain ⟨hi,_⟩:=ZB2.1 h;rw [List.set_eq_take_append_cons_drop,if_pos hi]
theorem a45 {α:Type} {l m:List α} {i j:Nat} {e x:α} (h:l.Perm m) (hi:l[i]? = some e) (a:m[j]? = some e):(l.set i x).Perm (m.set j x):=by
 rw [aE7 hi,aE7 a];rw [aH2 hi,aH2 a] at h;have b:=(List.perm_middle.symm.trans (h.trans List.perm_middle)).cons_inv;exact List.perm_middle.trans ((b.cons x).trans List.perm_middle.symm)
theorem aTT {α:Type} {a:Array α} {i:Nat} {e:α} (f:α->α) (h:a[i]? = some e):(a.modify i f).toList=a.toList.set i (f e):=by
 apply List.ext_getElem?;intro j;rw [Array.getElem?_toList,Array.getElem?_modify,List.getElem?_set];by_cases hij:i=j
 ·subst hij
  obtain ⟨b,_⟩:=Array.getElem?_eq_some_iff.1 h;rw [h];simp [b]
 ·simp [hij]
theorem aQQ {t:TypeId} {m k v:V} {W U d:Value} {H' : List O} (I:Rel w (Xs E H β) H β) (Z:R w (Xs E H β) β m W) (s:R w (Xs E H β) β k U) (T:R w (Xs E H β) β v d)
  (h:(QK P H t m k v).run=some H'):∃ w' Q,(Instr.mapUpdate t W U d).run P w = .ok () w' /\ Step E H β w H' Q w' := by
 unfold QK at h;split at h;rotate_left
 ·cases h
 rename_i kt et D;split at h;rotate_left
 ·cases h
 rename_i n id;split at h;rotate_left
 ·cases h
 rename_i keys vs g;cases z:(CZ P kt&&Nat.beq vs.length keys.length)
 ·rw [z] at h; cases h
 rw [z,cond_true] at h;rw [ZA2] at z;have F:=aF5 z.1;have hlen:=ZG1 z.2;obtain ⟨p,S,h2⟩:=bD h;simp only [Tree.run,ZH3] at h2;subst h2;cases s
 cases Z with
 | mp _ _ loc c X =>
  obtain ⟨_,_,ob,xs,hob,hsh,hval⟩:=I.objs id _ _ loc g c;obtain ⟨arr,clock,l,rfl,hst,a,hperm,hkeys,hvals,A,hat⟩:=aEF hsh;have s:IsKey (.int .u64) (.int .u64 n):=rfl
  have K:l.length=keys.length:=by have:=congrArg List.length hkeys; simpa using this
  have hxl:xs.length=keys.length:=by rw [<- hvals,ZF0,K]
  rcases findNow_spec s arr.toList 0 A with ⟨f1,f2⟩ | ⟨j,e,f1,f2,f3⟩
  ·rcases SA S a hlen with ⟨i,o,rfl⟩ | ⟨o,i,g2,rfl,g5⟩
   ·exfalso
    have Y:(l.map (·.key))[i]? = some (.int .u64 n):=by rw [hkeys,ZC0,o]; rfl
    obtain ⟨e,he,f⟩:=ZF3.1 (List.mem_of_getElem? Y);exact f2 e (hperm.mem_iff.1 he) f
   ·refine ⟨{ w with heap:=w.heap.setIfInBounds loc.block (.map (arr.push { key:=.int .u64 n,val:=d,born:=clock }) (clock+1)) },β,?_,
     Step.setObj I g c (xs' := xs.take i++d :: xs.drop i) ⟨_,_,l.take i ++ { key:=.int .u64 n,val:=d,born:=clock } :: l.drop i,rfl,stamped_push hst f2,g5,?_,?_,?_⟩ (fun q u b=>?_)⟩
    ·simp [Instr.mapUpdate,run_underlying D,run_getObj_map hob,run_checkKey F s,run_findKey F f1,run_setObj_map _ hob,Result.andThen]
    ·rw [Array.toList_push]
     refine List.perm_middle.trans ?_;rw [List.take_append_drop];exact (hperm.cons _).trans (List.perm_append_singleton _ _).symm
    ·simp only [List.map_append,List.map_cons,List.map_take,List.map_drop,hkeys]
    ·simp only [List.map_append,List.map_cons,List.map_take,List.map_drop,hvals]
    ·have M:(vs.take i).length=i:=by rw [ZF2]; omega
     have N:(xs.take i).length=i:=by rw [ZF2]; omega
     by_cases x:q<i
     ·rw [List.getElem?_append_left (by omega)] at b ⊢
      rw [List.getElem?_take_of_lt x] at b ⊢;exact hval q u b
     ·rw [ZB1 (by omega),M] at b
      rw [ZB1 (by omega),N]
      cases C:q - i with
      | zero=>rw [C] at b; simp at b; subst b; exact ⟨d,by simp,T⟩
      | succ r =>
       rw [C] at b;simp only [List.getElem?_cons_succ,List.getElem?_drop] at b ⊢;exact hval (i+r) u b
  ·have J:e ∈ l:=hperm.mem_iff.2 (List.mem_of_getElem? f2)
   obtain ⟨y,hi0⟩:=List.getElem?_of_mem J;obtain ⟨k1,k2⟩:=hat y e n hi0 f3
   rcases SA S a hlen with ⟨i,o,rfl⟩ | ⟨o,_⟩
   ·have:=aDA a k1 o
    subst this
    have G:arr[j]? = some e:=by simpa using f2
    have B:=aTT (fun e:MapEntry=>{ e with key:=.int .u64 n,val:=d }) G
    refine ⟨{ w with heap:=w.heap.setIfInBounds loc.block (.map (arr.modify j fun e=>{ e with key:=.int .u64 n,val:=d }) clock) },β,?_,
     Step.setObj I g c (xs' := xs.set y d) ⟨_,_,l.set y { e with key:=.int .u64 n,val:=d },rfl,?_,a,?_,?_,?_⟩ (fun q u b=>?_)⟩
    ·simp [Instr.mapUpdate,run_underlying D,run_getObj_map hob,run_checkKey F s,run_findKey F f1,G,f3,run_keyThatStays s,run_setObj_map _ hob,Result.andThen]
    ·exact stamped_modify hst _ _ (fun _ _=>rfl) (fun e' _ f => by rw [G] at f; cases f; exact f3.symm)
    ·rw [B]
     exact a45 hperm hi0 (by simpa using G)
    ·rw [List.map_set,hkeys]
     apply List.ext_getElem?;intro q;rw [List.getElem?_set];split
     ·rename_i x
      subst x
      have:y<(keys.map (Value.int .u64)).length:=by rw [ZF0]; exact (ZB2.1 k1).1
      rw [if_pos this,ZC0,k1];rfl
     ·rfl
    ·rw [List.map_set,hvals]
    ·rw [List.getElem?_set] at b ⊢
     by_cases x:y=q
     ·subst x
      simp only [if_true] at b ⊢
      have L:y<vs.length:=by rw [hlen]; exact (ZB2.1 k1).1
      rw [if_pos L] at b;cases b;rw [if_pos (by omega)];exact ⟨d,rfl,T⟩
     ·simp only [x,if_false] at b ⊢
      exact hval q u b
   ·exact absurd (List.mem_of_getElem? k1) o
theorem aVT {argTypes:Array TypeId} {ty:TypeId} {x v:V} {y:Value} (i:Rel w (Xs E H β) H β) (d:R w (Xs E H β) β x y) (h:G5 P H argTypes x=some v) :
  ∃ z,(Builtin.len_ argTypes ty #[y]).run P w = .ok z w/\R w (Xs E H β) β v z:=by
 unfold G5 at h;cases a:mapArg P argTypes
 ·rw [a,cond_false] at h
  exact aYL d h
 ·rw [a,cond_true] at h
  unfold mapArg at a;split at a;rotate_left
  ·cases a
  rename_i t j;split at a;rotate_left
  ·cases a
  rename_i kt et k;split at h;rotate_left
  ·cases h
  rename_i id;split at h;rotate_left
  ·cases h
  rename_i keys vs g;cases h
  cases d with
  | mp _ _ loc b m =>
  obtain ⟨_,_,ob,xs,hob,⟨arr,clock,l,rfl,_,_,hperm,hkeys,_⟩,_⟩:=i.objs id _ _ loc g b
  have c:arr.size=keys.length:=by
   have e:=congrArg List.length hkeys;have f:=hperm.length_eq;simp only [ZF0,Array.length_toList] at e f;omega
  refine ⟨.int .i64 (keys.length:Int),?_,.int _ _ _⟩;simp [Builtin.len_,j,cZ w k,run_getObj_map hob,c,goInt]
end
end Go.Ab
