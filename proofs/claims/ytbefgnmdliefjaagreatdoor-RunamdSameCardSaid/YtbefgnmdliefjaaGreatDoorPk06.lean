/-
  The engine, part Ob: into a call that writes, and back. Conditions: none.
-/
import Derived.Test.YtbefgnmdliefjaaGreatDoorPk05
import Derived.Laws.RangeString
set_option linter.unusedVariables false
set_option linter.unusedSimpArgs false
namespace Go.Ab
section
variable {E:Nat→Nat→Prop} {H Hs os:List O} {β:List Loc} {w:World} {σ:List Nat}
def pickL (β:List Loc) (σ:List Nat):List Loc:=σ.filterMap fun i=>β[i]?
theorem pickL_get:∀ {σ:List Nat},(∀ i ∈ σ,i<β.length)→(pickL β σ).length=σ.length ∧ ∀ (k i:Nat),σ[k]? = some i→(pickL β σ)[k]? = β[i]?
 | [],_=>⟨rfl,by simp⟩
 | s :: σ,h=>by
  have hs:s<β.length:=h s (by simp)
  obtain ⟨g1,g2⟩:=pickL_get (σ:=σ) (fun i hi=>h i (by simp [hi]))
  have e:pickL β (s :: σ)=β[s] :: pickL β σ:=by simp [pickL,hs]
  rw [e]
  refine ⟨by simp [g1],fun k i hk=>?_⟩
  cases k with
  | zero=>simp only [List.getElem?_cons_zero,Option.some.injEq] at hk; subst hk; simp [hs]
  | succ k=>simpa using g2 k i (by simpa using hk)
theorem oren_tok {ρ:Nat→Option Nat} {o:O} {n sz:Nat} (h:O.ren? ρ o=some (.tok n sz)):o = .tok n sz:=by
 cases o with
 | cells cs e =>
  simp only [O.ren?] at h
  split at h <;> cases h
 | tok a b=>simpa [O.ren?] using h
 | obj sh vs =>
  simp only [O.ren?] at h
  split at h <;> cases h
 | dead=>simp [O.ren?] at h
theorem oren_cells {ρ:Nat→Option Nat} {o:O} {cs:List V} {e:TypeId} (h:O.ren? ρ o=some (.cells cs e)):∃ cs',o = .cells cs' e∧V.rens? ρ cs' = some cs:=by
 cases o with
 | cells ds e' =>
  simp only [O.ren?] at h
  split at h
  rotate_left
  ·cases h
  rename_i us hu
  cases h
  exact ⟨ds,rfl,hu⟩
 | tok a b=>simp [O.ren?] at h
 | obj sh vs =>
  simp only [O.ren?] at h
  split at h <;> cases h
 | dead=>simp [O.ren?] at h
theorem oren_obj {ρ:Nat→Option Nat} {o:O} {sh:Shape} {vs:List V} (h:O.ren? ρ o=some (.obj sh vs)):∃ vs',o = .obj sh vs' ∧ V.rens? ρ vs' = some vs:=by
 cases o with
 | obj sh' ds =>
  simp only [O.ren?] at h
  split at h
  rotate_left
  ·cases h
  rename_i us hu
  cases h
  exact ⟨ds,rfl,hu⟩
 | tok a b=>simp [O.ren?] at h
 | cells cs e =>
  simp only [O.ren?] at h
  split at h <;> cases h
 | dead=>simp [O.ren?] at h
theorem oren_live {ρ:Nat→Option Nat} {o o' : O} (h:O.ren? ρ o=some o'):o' ≠ .dead ↔ o ≠ .dead:=by
 cases o with
 | cells cs e =>
  simp only [O.ren?] at h
  split at h
  ·cases h; simp
  ·cases h
 | tok a b=>simp only [O.ren?,Option.some.injEq] at h; subst h; simp
 | obj sh vs =>
  simp only [O.ren?] at h
  split at h
  ·cases h; simp
  ·cases h
 | dead=>simp only [O.ren?,Option.some.injEq] at h; subst h; simp
theorem own_at {b o i:Nat} {loc:Loc} (hl:β[i]? = some loc) (hb:loc.block=b) (h:(∃ cs e,H[i]? = some (.cells cs e))∨(∃ n sz,H[i]? = some (.tok n sz)∧loc.base+n*sz≤o)∨(∃ sh vs,H[i]? = some (.obj sh vs))):Own H β b o∧live H i:=
 ⟨⟨i,loc,hl,hb,h⟩,by
  rcases h with ⟨cs,e,h⟩ | ⟨n,sz,h,_⟩ | ⟨sh,vs,h⟩
  ·exact ⟨_,h,by simp⟩
  ·exact ⟨_,h,by simp⟩
  ·exact ⟨_,h,by simp⟩⟩
theorem live_own {i:Nat} {loc:Loc} (h:live H i) (hl:β[i]? = some loc):∃ o,Own H β loc.block o:=by
 obtain ⟨o,h1,h2⟩:=h
 cases o with
 | cells cs e=>exact ⟨0,i,loc,hl,rfl,.inl ⟨cs,e,h1⟩⟩
 | tok n sz=>exact ⟨loc.base+n*sz,i,loc,hl,rfl,.inr (.inl ⟨n,sz,h1,Nat.le_refl _⟩)⟩
 | obj sh vs=>exact ⟨0,i,loc,hl,rfl,.inr (.inr ⟨sh,vs,h1⟩)⟩
 | dead=>exact absurd rfl h2
theorem Own.live_of {b o:Nat} (h:Own H β b o):∃ i loc,live H i∧β[i]? = some loc∧loc.block=b:=by
 obtain ⟨i,loc,h1,h2,h3⟩:=h
 exact ⟨i,loc,(own_at (o:=o) h1 h2 h3).2,h1,h2⟩
def Shut (E:Nat→Nat→Prop) (H:List O) (β:List Loc) (Hs:List O) (βs:List Loc) (b o:Nat):Prop:=Xs E H β b o∧¬ Own Hs βs b o
structure Into (E:Nat→Nat→Prop) (H:List O) (β:List Loc) (w:World) (σ:List Nat) (Hs:List O) (βs:List Loc):Prop where
 rel:Rel w (Xs (Shut E H β Hs βs) Hs βs) Hs βs
 sub:∀ b o,Own Hs βs b o→Own H β b o
 same:Xs (Shut E H β Hs βs) Hs βs=Xs E H β
 old:∀ b o,Shut E H β Hs βs b o→b<w.heap.size∧¬ Own Hs βs b o
 lens:βs.length=σ.length∧Hs.length=σ.length
 get:∀ (k i:Nat),σ[k]? = some i→i<H.length∧βs[k]? = β[i]? ∧ (live Hs k ↔ live H i)
theorem into (hE:∀ b o,E b o→b<w.heap.size∧¬ Own H β b o) (hR:Rel w (Xs E H β) H β) (hσ:noDup σ=true) (hp:pickO H σ=some os)
  (hr:rensO (fun i=>place i σ) os=some Hs):Into E H β w σ Hs (pickL β σ)∧Turned (fun i=>place i σ) β (pickL β σ):=by
 obtain ⟨p1,p2⟩:=pickO_get hp
 obtain ⟨r1,r2⟩:=rensO_get hr
 have hlt:∀ i ∈ σ,i<β.length:=fun i hi=>by
  obtain ⟨k,hk⟩:=List.getElem?_of_mem hi
  rw [← hR.len]; exact (p2 k i hk).1
 obtain ⟨l1,l2⟩:=pickL_get (β:=β) hlt
 have hturn:Turned (fun i=>place i σ) β (pickL β σ):=fun i j loc h1 h2=>by rw [l2 j i (place_some h1),h2]
 have back:∀ (k:Nat) o,Hs[k]? = some o → ∃ i u,σ[k]? = some i∧H[i]? = some u∧O.ren? (fun i=>place i σ) u=some o:=by
  intro k o h
  obtain ⟨u,hu,hu'⟩:=r2 k o h
  have hk:k<σ.length:=by rw [← p1]; exact (List.getElem?_eq_some_iff.1 hu).1
  refine ⟨σ[k],u,by simp [hk],?_,hu'⟩
  rw [← (p2 k σ[k] (by simp [hk])).2,hu]
 have hsub:∀ b o,Own Hs (pickL β σ) b o→Own H β b o:=by
  rintro b o ⟨k,loc,h1,h2,h3⟩
  have hk:k<σ.length:=by rw [← l1]; exact (List.getElem?_eq_some_iff.1 h1).1
  have hk' : σ[k]? = some σ[k]:=by simp [hk]
  rw [l2 k _ hk'] at h1
  refine ⟨σ[k],loc,h1,h2,?_⟩
  rcases h3 with ⟨cs,e,h⟩ | ⟨n,sz,h,h'⟩ | ⟨sh,vs,h⟩
  ·obtain ⟨i,u,e1,e2,e3⟩:=back k _ h
   rw [hk'] at e1
   simp only [Option.some.injEq] at e1
   subst e1
   obtain ⟨cs',rfl,_⟩:=oren_cells e3
   exact .inl ⟨cs',e,e2⟩
  ·obtain ⟨i,u,e1,e2,e3⟩:=back k _ h
   rw [hk'] at e1
   simp only [Option.some.injEq] at e1
   subst e1
   have:=oren_tok e3
   subst this
   exact .inr (.inl ⟨n,sz,e2,h'⟩)
  ·obtain ⟨i,u,e1,e2,e3⟩:=back k _ h
   rw [hk'] at e1
   simp only [Option.some.injEq] at e1
   subst e1
   obtain ⟨vs',rfl,_⟩:=oren_obj e3
   exact .inr (.inr ⟨sh,vs',e2⟩)
 have hsame:Xs (Shut E H β Hs (pickL β σ)) Hs (pickL β σ)=Xs E H β:=by
  funext b o
  apply propext
  constructor
  ·rintro (⟨h,_⟩ | h)
   ·exact h
   ·exact .inr (hsub b o h)
  ·intro h
   by_cases hh:Own Hs (pickL β σ) b o
   ·exact .inr hh
   ·exact .inl ⟨h,hh⟩
 have hlive:∀ (k i:Nat),σ[k]? = some i→(live Hs k ↔ live H i):=by
  intro k i hk
  constructor
  ·rintro ⟨o,h1,h2⟩
   obtain ⟨i',u,e1,e2,e3⟩:=back k o h1
   rw [hk] at e1
   simp only [Option.some.injEq] at e1
   subst e1
   exact ⟨u,e2,(oren_live e3).1 h2⟩
  ·rintro ⟨u,h1,h2⟩
   have hk' : k<Hs.length:=by rw [r1,p1]; exact (List.getElem?_eq_some_iff.1 hk).1
   have hget:Hs[k]? = some Hs[k]:=by simp [hk']
   obtain ⟨i',u',e1,e2,e3⟩:=back k _ hget
   rw [hk] at e1
   simp only [Option.some.injEq] at e1
   subst e1
   rw [h1] at e2
   simp only [Option.some.injEq] at e2
   subst e2
   exact ⟨_,hget,(oren_live e3).2 h2⟩
 refine ⟨⟨?_,hsub,hsame,?_,⟨l1,by omega⟩,fun k i hk=>⟨(p2 k i hk).1,l2 k i hk,hlive k i hk⟩⟩,hturn⟩
 ·rw [hsame]
  refine ⟨by omega,fun k cs e loc h1 h2=>?_,fun k n sz loc h1 h2=>?_,fun k sh vs loc h1 h2=>?_,fun k k' l l' h1 h2 h3 h4 h5=>?_⟩
  ·obtain ⟨i,u,e1,e2,e3⟩:=back k _ h1
   obtain ⟨cs',rfl,hren⟩:=oren_cells e3
   rw [l2 k i e1] at h2
   obtain ⟨g1,c,e',g2,g3,g4,g5⟩:=hR.cells i cs' e loc e2 h2
   obtain ⟨q1,q2⟩:=rens_get hren
   refine ⟨g1,c,e',g2,g3,⟨by have:=g4.1; omega,fun he=>by have:=g4.2 he; omega⟩,fun m v hv=>?_⟩
   obtain ⟨u,hu,hu'⟩:=q2 m v hv
   obtain ⟨x,hx,hr⟩:=g5 m u hu
   exact ⟨x,hx,ren_R hturn hr v hu'⟩
  ·obtain ⟨i,u,e1,e2,e3⟩:=back k _ h1
   have:=oren_tok e3
   subst this
   rw [l2 k i e1] at h2
   exact hR.tok i n sz loc e2 h2
  ·obtain ⟨i,u,e1,e2,e3⟩:=back k _ h1
   obtain ⟨vs',rfl,hren⟩:=oren_obj e3
   rw [l2 k i e1] at h2
   obtain ⟨g1,gb,ob,xs,g2,g3,g5⟩:=hR.objs i sh vs' loc e2 h2
   obtain ⟨q1,q2⟩:=rens_get hren
   refine ⟨g1,gb,ob,xs,g2,g3,fun m v hv=>?_⟩
   obtain ⟨u,hu,hu'⟩:=q2 m v hv
   obtain ⟨x,hx,hr⟩:=g5 m u hu
   exact ⟨x,hx,ren_R hturn hr v hu'⟩
  ·have hk:k<σ.length:=by rw [← l1]; exact (List.getElem?_eq_some_iff.1 h3).1
   have hk' : k' < σ.length:=by rw [← l1]; exact (List.getElem?_eq_some_iff.1 h4).1
   have g1:σ[k]? = some σ[k]:=by simp [hk]
   have g2:σ[k']? = some σ[k']:=by simp [hk']
   have:=hR.disj σ[k] σ[k'] l l' ((hlive _ _ g1).1 h1) ((hlive _ _ g2).1 h2) (by rw [← l2 _ _ g1,h3]) (by rw [← l2 _ _ g2,h4]) h5
   rw [this] at g1
   exact noDup_inj hσ g1 g2
 ·rintro b o ⟨h1,h2⟩
  refine ⟨?_,h2⟩
  rcases h1 with h | h
  ·exact (hE b o h).1
  ·exact own_lt hR h
variable {βs β2:List Loc} {w' : World} {H2 H2' : List O}
theorem back_out (hE:∀ b o,E b o→b<w.heap.size∧¬ Own H β b o) (hR:Rel w (Xs E H β) H β) (hσ:noDup σ=true) (hi:Into E H β w σ Hs βs)
  (s:Step (Shut E H β Hs βs) Hs βs w H2 β2 w') (hl:σ.length≤H2.length) (hr:rensO (backTo σ H.length) H2=some H2') :
  Step E H β w (setAll H σ H2') (setAll β σ β2) w' ∧ ∀ v v' y,R w' (Xs (Shut E H β Hs βs) H2 β2) β2 v y→V.ren? (backTo σ H.length) v=some v' → R w' (Xs E (setAll H σ H2') (setAll β σ β2)) (setAll β σ β2) v' y:=by
 obtain ⟨r1,r2⟩:=rensO_get hr
 have hlb:=hR.len
 have hl2:=s.rel.len
 have hlt:∀ i ∈ σ,i<H.length:=fun i h=>by
  obtain ⟨k,hk⟩:=List.getElem?_of_mem h
  exact (hi.get k i hk).1
 have hlt' : ∀ i ∈ σ,i<β.length:=fun i h=>hlb ▸ hlt i h
 have newH:∀ i j,backTo σ H.length j=some i→(setAll H σ H2')[i]? = H2'[j]? := fun i j h=>setAll_new H σ H2' i j hσ hlt (by omega) h
 have newB:∀ i j,backTo σ H.length j=some i→(setAll β σ β2)[i]? = β2[j]? := fun i j h=>setAll_new β σ β2 i j hσ hlt' (by omega) (by rw [← hlb]; exact h)
 have oldH:∀ i,i<H.length→i ∉ σ→(setAll H σ H2')[i]? = H[i]? := fun i h1 h2=>setAll_old H σ H2' i h1 h2 (by omega)
 have oldB:∀ i,i<H.length→i ∉ σ→(setAll β σ β2)[i]? = β[i]? := fun i h1 h2=>setAll_old β σ β2 i (by omega) h2 (by omega)
 have cases3:∀ (i:Nat) loc,(setAll β σ β2)[i]? = some loc→(i<H.length∧i ∉ σ∧β[i]? = some loc) ∨ ∃ j,backTo σ H.length j=some i∧β2[j]? = some loc:=by
  intro i loc h
  by_cases hc:i<H.length∧i ∉ σ
  ·exact .inl ⟨hc.1,hc.2,by rw [← oldB i hc.1 hc.2,h]⟩
  ·obtain ⟨j,hj⟩:=backTo_all (σ:=σ) (n:=H.length) hc
   exact .inr ⟨j,hj,by rw [← newB i j hj,h]⟩
 have backH:∀ (j:Nat) o,H2'[j]? = some o → ∃ u,H2[j]? = some u∧O.ren? (backTo σ H.length) u=some o:=r2
 have ownNew:∀ i j loc b o,backTo σ H.length j=some i→β2[j]? = some loc→loc.block=b →
   ((∃ cs e,(setAll H σ H2')[i]? = some (.cells cs e))∨(∃ n sz,(setAll H σ H2')[i]? = some (.tok n sz)∧loc.base+n*sz≤o)∨(∃ sh vs,(setAll H σ H2')[i]? = some (.obj sh vs)))→Own H2 β2 b o:=by
  intro i j loc b o h1 h2 h3 h4
  refine ⟨j,loc,h2,h3,?_⟩
  rw [newH i j h1] at h4
  rcases h4 with ⟨cs,e,h⟩ | ⟨n,sz,h,h'⟩ | ⟨sh,vs,h⟩
  ·obtain ⟨u,hu,hu'⟩:=backH j _ h
   obtain ⟨cs',rfl,_⟩:=oren_cells hu'
   exact .inl ⟨cs',e,hu⟩
  ·obtain ⟨u,hu,hu'⟩:=backH j _ h
   have:=oren_tok hu'
   subst this
   exact .inr (.inl ⟨n,sz,hu,h'⟩)
  ·obtain ⟨u,hu,hu'⟩:=backH j _ h
   obtain ⟨vs',rfl,_⟩:=oren_obj hu'
   exact .inr (.inr ⟨sh,vs',hu⟩)
 have ownSplit:∀ b o,Own (setAll H σ H2') (setAll β σ β2) b o→(∃ i loc,i<H.length∧i ∉ σ∧β[i]? = some loc∧loc.block=b∧live H i∧Own H β b o)∨Own H2 β2 b o:=by
  rintro b o ⟨i,loc,h1,h2,h3⟩
  rcases cases3 i loc h1 with ⟨g1,g2,g3⟩ | ⟨j,g1,g2⟩
  ·rw [oldH i g1 g2] at h3
   obtain ⟨a1,a2⟩:=own_at (o:=o) g3 h2 h3
   exact .inl ⟨i,loc,g1,g2,g3,h2,a2,a1⟩
  ·exact .inr (ownNew i j loc b o g1 g2 h2 h3)
 have apart:∀ i loc,i ∉ σ→β[i]? = some loc→live H i → ∀ o,¬ Own Hs βs loc.block o:=by
  rintro i loc h1 h2 h3 o ho
  obtain ⟨k,l,g1,g2,g3⟩:=ho.live_of
  have hk:k<σ.length:=by rw [← hi.lens.1]; exact (List.getElem?_eq_some_iff.1 g2).1
  obtain ⟨_,q2,q3⟩:=hi.get k σ[k] (by simp [hk])
  have:=hR.disj i σ[k] loc l h3 (q3.1 g1) h2 (by rw [← q2,g2]) g3.symm
  exact h1 (by rw [this]; simp)
 have hX:∀ b o,Xs E (setAll H σ H2') (setAll β σ β2) b o→Xs (Shut E H β Hs βs) H2 β2 b o:=by
  rintro b o (h | h)
  ·exact .inl ⟨.inl h,fun h' => (hE b o h).2 (hi.sub b o h')⟩
  ·rcases ownSplit b o h with ⟨i,loc,g1,g2,g3,g4,g5,g6⟩ | h
   ·subst g4
    exact .inl ⟨.inr g6,apart i loc g2 g3 g5 o⟩
   ·exact .inr h
 have hturn:Turned (backTo σ H.length) β2 (setAll β σ β2):=fun j i loc h1 h2=>by rw [newB i j h1,h2]
 have hlocs:LocLe β (setAll β σ β2):=by
  intro i loc h
  by_cases hc:i ∈ σ
  ·obtain ⟨k,hk⟩:=List.getElem?_of_mem hc
   obtain ⟨q1,q2,_⟩:=hi.get k i hk
   obtain ⟨loc',g1,g2⟩:=s.locs k loc (by rw [q2,h])
   exact ⟨loc',by rw [newB i k (by simp [backTo,hk]),g1],g2⟩
  ·have:i<H.length:=by rw [hlb]; exact (List.getElem?_eq_some_iff.1 h).1
   exact ⟨loc,by rw [oldB i this hc,h],.inl rfl⟩
 have hstab:=s.stab
 rw [hi.same] at hstab
 have keep:∀ v x,R w (Xs E H β) β v x→R w' (Xs E (setAll H σ H2') (setAll β σ β2)) (setAll β σ β2) v x:=fun v x h=>(h.stab hstab _ hlocs).weak hX
 have turnR:∀ v v' y,R w' (Xs (Shut E H β Hs βs) H2 β2) β2 v y→V.ren? (backTo σ H.length) v=some v' → R w' (Xs E (setAll H σ H2') (setAll β σ β2)) (setAll β σ β2) v' y:=
  fun v v' y h hv=>(ren_R hturn h v' hv).weak hX
 have stay:∀ i loc,i ∉ σ→β[i]? = some loc→live H i→loc.block<w.heap.size→w'.heap[loc.block]? = w.heap[loc.block]? := by
  intro i loc h1 h2 h3 h4
  rcases s.pres loc.block h4 with h | ⟨⟨o,h⟩,_⟩ | ⟨⟨o,h⟩,_⟩
  ·exact h
  ·exact absurd h (apart i loc h1 h2 h3 o)
  ·exact absurd h (apart i loc h1 h2 h3 o)
 refine ⟨⟨⟨?_,fun i cs e loc h1 h2=>?_,fun i n sz loc h1 h2=>?_,fun i sh vs loc h1 h2=>?_,?_⟩,s.os,s.tape,s.output,s.size,fun b hb=>?_,fun b o h=>?_,hlocs⟩,turnR⟩
 ·rw [setAll_len _ _ _ (by omega),setAll_len _ _ _ (by omega)]; omega
 ·rcases cases3 i loc h2 with ⟨g1,g2,g3⟩ | ⟨j,g1,g2⟩
  ·rw [oldH i g1 g2] at h1
   obtain ⟨a1,c,e',a2,a3,a4,a5⟩:=hR.cells i cs e loc h1 g3
   refine ⟨a1,c,e',?_,a3,a4,fun k v hv=>let ⟨x,hx,hr⟩:=a5 k v hv; ⟨x,hx,keep v x hr⟩⟩
   rw [stay i loc g2 g3 ⟨_,h1,by simp⟩ (heap_lt a2)]; exact a2
  ·rw [newH i j g1] at h1
   obtain ⟨u,hu,hu'⟩:=backH j _ h1
   obtain ⟨cs',rfl,hcs⟩:=oren_cells hu'
   obtain ⟨a1,c,e',a2,a3,a4,a5⟩:=s.rel.cells j cs' e loc hu g2
   obtain ⟨q1,q2⟩:=rens_get hcs
   refine ⟨a1,c,e',a2,a3,⟨by have:=a4.1; omega,fun he=>by have:=a4.2 he; omega⟩,fun k v hv=>?_⟩
   obtain ⟨u,hu,hu'⟩:=q2 k v hv
   obtain ⟨x,hx,hr⟩:=a5 k u hu
   exact ⟨x,hx,turnR u v x hr hu'⟩
 ·rcases cases3 i loc h2 with ⟨g1,g2,g3⟩ | ⟨j,g1,g2⟩
  ·rw [oldH i g1 g2] at h1
   obtain ⟨a1,a2,c,e',a3,a4⟩:=hR.tok i n sz loc h1 g3
   refine ⟨a1,a2,c,e',?_,a4⟩
   rw [stay i loc g2 g3 ⟨_,h1,by simp⟩ (heap_lt a3)]; exact a3
  ·rw [newH i j g1] at h1
   obtain ⟨u,hu,hu'⟩:=backH j _ h1
   have:=oren_tok hu'
   subst this
   exact s.rel.tok j n sz loc hu g2
 ·rcases cases3 i loc h2 with ⟨g1,g2,g3⟩ | ⟨j,g1,g2⟩
  ·rw [oldH i g1 g2] at h1
   obtain ⟨a1,ab,ob,xs,a2,a3,a5⟩:=hR.objs i sh vs loc h1 g3
   refine ⟨a1,ab,ob,xs,?_,a3,fun k v hv=>let ⟨x,hx,hr⟩:=a5 k v hv; ⟨x,hx,keep v x hr⟩⟩
   rw [stay i loc g2 g3 ⟨_,h1,by simp⟩ (heap_lt a2)]; exact a2
  ·rw [newH i j g1] at h1
   obtain ⟨u,hu,hu'⟩:=backH j _ h1
   obtain ⟨vs',rfl,hcs⟩:=oren_obj hu'
   obtain ⟨a1,ab,ob,xs,a2,a3,a5⟩:=s.rel.objs j sh vs' loc hu g2
   obtain ⟨q1,q2⟩:=rens_get hcs
   refine ⟨a1,ab,ob,xs,a2,a3,fun k v hv=>?_⟩
   obtain ⟨u,hu,hu'⟩:=q2 k v hv
   obtain ⟨x,hx,hr⟩:=a5 k u hu
   exact ⟨x,hx,turnR u v x hr hu'⟩
 ·-- two that live lie apart
  have half:∀ i i' l l',live (setAll H σ H2') i→live (setAll H σ H2') i' → i<H.length∧i ∉ σ∧β[i]? = some l→(∃ j,backTo σ H.length j=some i' ∧ β2[j]? = some l')→l.block=l'.block→False:=by
   rintro i i' l l' h1 h2 ⟨g1,g2,g3⟩ ⟨j,a1,a2⟩ hb
   have hli:live H i:=by obtain ⟨o,e1,e2⟩:=h1; exact ⟨o,by rw [← oldH i g1 g2,e1],e2⟩
   have hlj:live H2 j:=by
    obtain ⟨o,e1,e2⟩:=h2
    rw [newH i' j a1] at e1
    obtain ⟨u,hu,hu'⟩:=backH j _ e1
    exact ⟨u,hu,(oren_live hu').1 e2⟩
   obtain ⟨o,ho⟩:=live_own hlj a2
   rcases s.own _ o ho with h | h
   ·rw [← hb] at h; exact apart i l g2 g3 hli o h
   ·obtain ⟨o',ho'⟩:=live_own hli g3
    have:=own_lt hR ho'
    omega
  intro i i' l l' h1 h2 h3 h4 h5
  rcases cases3 i l h3 with g | g
  ·rcases cases3 i' l' h4 with k | k
   ·have hli:live H i:=by obtain ⟨o,e1,e2⟩:=h1; exact ⟨o,by rw [← oldH i g.1 g.2.1,e1],e2⟩
    have hli' : live H i' := by obtain ⟨o,e1,e2⟩:=h2; exact ⟨o,by rw [← oldH i' k.1 k.2.1,e1],e2⟩
    exact hR.disj i i' l l' hli hli' g.2.2 k.2.2 h5
   ·exact (half i i' l l' h1 h2 g k h5).elim
  ·rcases cases3 i' l' h4 with k | k
   ·exact (half i' i l' l h2 h1 k g h5.symm).elim
   ·obtain ⟨j,a1,a2⟩:=g
    obtain ⟨j',b1,b2⟩:=k
    have lv:∀ i j,live (setAll H σ H2') i→backTo σ H.length j=some i→live H2 j:=by
     rintro i j ⟨o,e1,e2⟩ a1
     rw [newH i j a1] at e1
     obtain ⟨u,hu,hu'⟩:=backH j _ e1
     exact ⟨u,hu,(oren_live hu').1 e2⟩
    have:=s.rel.disj j j' l l' (lv i j h1 a1) (lv i' j' h2 b1) a2 b2 h5
    subst this
    rw [a1] at b1
    exact Option.some.inj b1
 ·rcases s.pres b hb with h | ⟨⟨o,ho⟩,c,c',e,h1,h2,h3,h4⟩ | ⟨⟨o,ho⟩,x,y,h1,h2,h3,h4⟩
  ·exact .inl h
  ·exact .inr (.inl ⟨⟨o,hi.sub b o ho⟩,c,c',e,h1,h2,h3,fun o h=>h4 o (fun h' => h (hi.sub b o h'))⟩)
  ·exact .inr (.inr ⟨⟨o,hi.sub b o ho⟩,x,y,h1,h2,h3,h4⟩)
 ·rcases ownSplit b o h with ⟨i,loc,g1,g2,g3,g4,g5,g6⟩ | h
  ·exact .inl g6
  ·rcases s.own b o h with h | h
   ·exact .inl (hi.sub b o h)
   ·exact .inr h
end
end Go.Ab

namespace Go.Ab
open Go.MapKept
section
variable {P:Program} {E:Nat→Nat→Prop} {H:List O} {β:List Loc} {w:World}
theorem Step.pushObj (hR:Rel w (Xs E H β) H β) (ob:Obj) {sh:Shape} {xs:List Value} {vs:List V} {loc:Loc} (hsh:Shp sh ob xs)
  (hv:∀ (k:Nat) v,vs[k]? = some v → ∃ x,xs[k]? = some x∧R w (Xs E H β) β v x) (hloc:loc.block=w.heap.size) (hk:loc.kind=false) (hb:loc.base=0) :
  Step E H β w (H++[.obj sh vs]) (β++[loc]) (w.alloc ob):=Step.pushObjD hR ob hsh hv hloc hk hb
theorem Step.setObj (hR:Rel w (Xs E H β) H β) {id:Nat} {sh sh' : Shape} {vs vs' : List V} {loc:Loc} {ob' : Obj} {xs' : List Value}
  (hid:H[id]? = some (.obj sh vs)) (hloc:β[id]? = some loc) (hsh:Shp sh' ob' xs') (hv:∀ (k:Nat) v,vs'[k]? = some v → ∃ x,xs'[k]? = some x∧R w (Xs E H β) β v x)
  (hp:sh.isPage=false:=by rfl) (hp' : sh'.isPage=false:=by rfl) :
  Step E H β w (H.set id (.obj sh' vs')) β { w with heap:=w.heap.setIfInBounds loc.block ob' }:=
 Step.setObjG hR hid hloc hsh hv fun _ _ _ h=>.inl ⟨h.special hp,hsh.special hp'⟩
theorem zeroPtr_run {t:TypeId} (h:zeroPtr P t=true) (w:World):(zeroValue t).run P w = .ok (.pointer none) w:=by
 unfold zeroPtr at h
 split at h
 ·rename_i i hi
  split at h
  ·rename_i hz
   simp [zeroValue,typeInfo,hi,hz]
  ·cases h
 ·cases h
theorem isU64_und {t:TypeId} (h:isU64 P t=true):P.underlying t=some (.int .u64):=by
 unfold isU64 at h
 split at h
 ·assumption
 ·cases h
theorem sound_makeMap (hR:Rel w (Xs E H β) H β) (t:TypeId) :
  ∃ z w' β',(Instr.makeMap t none).run P w = .ok z w' ∧ Step E H β w (H++[.obj (.map []) []]) β' w' ∧ R w' (Xs E (H++[.obj (.map []) []]) β') β' (.mp H.length) z:=by
 refine ⟨.map (some w.heap.size),_,β++[{ kind:=false,block:=w.heap.size,base:=0,n:=0,size:=0 }],rfl,
  Step.pushObj hR (.map #[] 0) (xs:=[]) ⟨#[],0,[],rfl,stamped_empty 0,.nil,.refl _,rfl,rfl⟩ (fun k v h=>by simp at h) rfl rfl rfl,?_⟩
 exact .mp _ _ { kind:=false,block:=w.heap.size,base:=0,n:=0,size:=0 } (by rw [hR.len]; simp) rfl
theorem lookK_run {z:V} {f:V→Bool→V} {u:V} {n:Int}:∀ {keys:List Int} {vs:List V},(lookK z f keys vs n).run=some u →
  (∃ (i:Nat) (v:V),keys[i]? = some n∧vs[i]? = some v∧u=f v true)∨(n ∉ keys∧u=f z false)
 | [],[],h=>by simp only [lookK,Tree.run,Option.some.injEq] at h; exact .inr ⟨by simp,h.symm⟩
 | k :: ks,v :: vs,h=>by
  unfold lookK at h
  simp only [Tree.run] at h
  cases hb:(n == k)
  ·rw [hb,cond_false] at h
   rcases lookK_run h with ⟨i,v',h1,h2,h3⟩ | ⟨h1,h2⟩
   ·exact .inl ⟨i+1,v',by simpa using h1,by simpa using h2,h3⟩
   ·refine .inr ⟨?_,h2⟩
    simp only [List.mem_cons,not_or]
    exact ⟨fun e=>by rw [e] at hb; simp at hb,h1⟩
  ·rw [hb,cond_true] at h
   simp only [Option.some.injEq] at h
   exact .inl ⟨0,v,by simp [eq_of_beq hb],rfl,h.symm⟩
 | [],_ :: _,h=>by cases h
 | _ :: _,[],h=>by cases h
theorem map_facts {keys:List Int} {ob:Obj} {xs:List Value} (h:Shp (.map keys) ob xs) :
  ∃ (arr:Array MapEntry) (clock:Nat) (l:List MapEntry),ob = .map arr clock∧Stamped arr clock∧keys.Pairwise (· < ·)∧l.Perm arr.toList∧l.map (·.key)=keys.map (Value.int .u64)∧l.map (·.val)=xs ∧
   (∀ x ∈ arr.toList,IsKey (.int .u64) x.key) ∧ ∀ (i:Nat) e n,l[i]? = some e→e.key = .int .u64 n→keys[i]? = some n∧xs[i]? = some e.val:=by
 obtain ⟨arr,clock,l,h1,h2,h3,h4,h5,h6⟩:=h
 refine ⟨arr,clock,l,h1,h2,h3,h4,h5,h6,fun x hx=>?_,fun i e n hi he=>⟨?_,?_⟩⟩
 ·have:x.key ∈ l.map (·.key):=List.mem_map_of_mem (h4.mem_iff.2 hx)
  rw [h5] at this
  obtain ⟨n,_,hn⟩:=List.mem_map.1 this
  rw [← hn]
  rfl
 ·have:(l.map (·.key))[i]? = some (.int .u64 n):=by rw [List.getElem?_map,hi]; exact congrArg some he
  rw [h5,List.getElem?_map] at this
  obtain ⟨m,hm,hm'⟩:=Option.map_eq_some_iff.1 this
  cases hm'
  exact hm
 ·rw [← h6,List.getElem?_map,hi]
  rfl
theorem sorted_inj {keys:List Int} (h:keys.Pairwise (· < ·)) {i j:Nat} {n:Int} (hi:keys[i]? = some n) (hj:keys[j]? = some n):i=j:=by
 obtain ⟨hi',ei⟩:=List.getElem?_eq_some_iff.1 hi
 obtain ⟨hj',ej⟩:=List.getElem?_eq_some_iff.1 hj
 rcases Nat.lt_trichotomy i j with hlt | heq | hgt
 ·have:=List.pairwise_iff_getElem.1 h i j hi' hj' hlt
  omega
 ·exact heq
 ·have:=List.pairwise_iff_getElem.1 h j i hj' hi' hgt
  omega
theorem sound_lookup {t:TypeId} {x ix u:V} {sx si:Value} {ok:Bool} (hR:Rel w (Xs E H β) H β) (hx:R w (Xs E H β) β x sx) (hi:R w (Xs E H β) β ix si) (h:(oLookup P H t x ix ok).run=some u) :
  ∃ z,(Instr.lookup t sx si ok).run P w = .ok z w∧R w (Xs E H β) β u z:=by
 unfold oLookup at h
 split at h
 rotate_left
 ·cases h
 rename_i kt et hm
 split at h
 rotate_left
 ·cases h
 rename_i n id
 split at h
 rotate_left
 ·cases h
 rename_i keys vs hid
 cases hc:(isU64 P kt && zeroPtr P et)
 ·rw [hc] at h; cases h
 rw [hc,cond_true] at h
 rw [Bool.and_eq_true] at hc
 have hd:=isU64_und hc.1
 cases hi
 cases hx with
 | mp _ _ loc hloc hk =>
  obtain ⟨_,_,ob,xs,hob,hsh,hval⟩:=hR.objs id _ _ loc hid hloc
  obtain ⟨arr,clock,l,rfl,hst,hsort,hperm,hkeys,hvals,hisk,hat⟩:=map_facts hsh
  have hk:IsKey (.int .u64) (.int .u64 n):=rfl
  have fin:∀ (r:Option (Nat × Value)) (v:V) (b:Bool) (y:Value),Instr.findNow (.int .u64) (.int .u64 n) arr.toList 0=some r→u=okV ok v b→R w (Xs E H β) β v y →
    (r=none→y = .pointer none∧b=false)→(∀ q,r=some q→y=q.2∧b=true) → ∃ z,(Instr.lookup t (.map (some loc.block)) (.int .u64 n) ok).run P w = .ok z w∧R w (Xs E H β) β u z:=by
   intro r v b y hf hu hr h1 h2
   have hpair:R w (Xs E H β) β (.tup [v,.bool b]) (.tuple #[y,.bool b]):=.tup _ _ [y,.bool b] rfl fun k v' x hv hx=>by
    match k,hv,hx with
    | 0,hv,hx=>cases hv; cases hx; exact hr
    | 1,hv,hx=>cases hv; cases hx; exact .bool _ _
   cases r with
   | none =>
    obtain ⟨rfl,rfl⟩:=h1 rfl
    refine ⟨if ok then .tuple #[.pointer none,.bool false] else .pointer none,?_,?_⟩
    ·simp [Instr.lookup,run_underlying hm,run_getObj_map hob,run_checkKey hd hk,run_findKey hd hf,zeroPtr_run hc.2,Result.andThen]
    ·rw [hu]
     cases ok
     ·exact hr
     ·exact hpair
   | some q =>
    obtain ⟨rfl,rfl⟩:=h2 q rfl
    refine ⟨if ok then .tuple #[q.2,.bool true] else q.2,?_,?_⟩
    ·obtain ⟨q1,q2⟩:=q
     simp [Instr.lookup,run_underlying hm,run_getObj_map hob,run_checkKey hd hk,run_findKey hd hf,Result.andThen]
    ·rw [hu]
     cases ok
     ·exact hr
     ·exact hpair
  rcases findNow_spec hk arr.toList 0 hisk with ⟨f1,f2⟩ | ⟨j,e,f1,f2,f3⟩
  ·rcases lookK_run h with ⟨i,v,g1,g2,g3⟩ | ⟨g1,g2⟩
   ·exfalso
    have hl:(l.map (·.key))[i]? = some (.int .u64 n):=by rw [hkeys,List.getElem?_map,g1]; rfl
    obtain ⟨e,he,he'⟩:=List.mem_map.1 (List.mem_of_getElem? hl)
    exact f2 e (hperm.mem_iff.1 he) he'
   ·exact fin none _ false (.pointer none) f1 g2 (.val _ _) (fun _=>⟨rfl,rfl⟩) (fun q hq=>by cases hq)
  ·have hel:e ∈ l:=hperm.mem_iff.2 (List.mem_of_getElem? f2)
   obtain ⟨i,hi⟩:=List.getElem?_of_mem hel
   obtain ⟨k1,k2⟩:=hat i e n hi f3
   rcases lookK_run h with ⟨i',v,g1,g2,g3⟩ | ⟨g1,g2⟩
   ·have:=sorted_inj hsort k1 g1
    subst this
    obtain ⟨y,hy,hr⟩:=hval i v g2
    rw [k2] at hy
    cases hy
    exact fin _ v true e.val f1 g3 hr (fun hq=>by cases hq) (fun q hq=>by cases hq; exact ⟨rfl,rfl⟩)
   ·exact absurd (List.mem_of_getElem? k1) g1
theorem sound_range {t:TypeId} {x:V} {sx:Value} {res:Res} (hR:Rel w (Xs E H β) H β) (hx:R w (Xs E H β) β x sx) (h:(oRange P H t x).run=some res) :
  ∃ u H',res = .ok u H' ∧ ∃ z w' β',(Instr.range t sx).run P w = .ok z w' ∧ Step E H β w H' β' w' ∧ R w' (Xs E H' β') β' u z:=by
 unfold oRange at h
 split at h
 rotate_left
 ·cases h
 rename_i s hs
 simp only [Tree.run,Option.some.injEq] at h
 subst h
 cases hx
 refine ⟨_,_,rfl,.pointer (some ⟨w.heap.size,0,none⟩),_,β++[{ kind:=false,block:=w.heap.size,base:=0,n:=0,size:=0 }],run_range_string w t _ hs,
  Step.pushObj hR (.stringIter ⟨s.toArray⟩ 0) (xs:=[]) ⟨rfl,rfl⟩ (fun k v h=>by simp at h) rfl rfl rfl,?_⟩
 exact .ptr _ _ 0 { kind:=false,block:=w.heap.size,base:=0,n:=0,size:=0 } (by rw [hR.len]; simp) rfl
theorem sound_next {it:V} {si:Value} {res:Res} {ty:TypeId} (hR:Rel w (Xs E H β) H β) (hx:R w (Xs E H β) β it si) (h:(oNext H it).run=some res) :
  ∃ u H',res = .ok u H' ∧ ∃ z w' β',(Instr.next si true ty).run P w = .ok z w' ∧ Step E H β w H' β' w' ∧ R w' (Xs E H' β') β' u z:=by
 unfold oNext at h
 split at h
 rotate_left
 ·cases h
 rename_i id off
 split at h
 rotate_left
 ·cases h
 rename_i s pos vs hid
 cases hc:Nat.beq off 0
 ·rw [hc] at h; cases h
 rw [hc,cond_true] at h
 have h0:=Nat.eq_of_beq_eq_true hc
 subst h0
 cases hx with
 | ptr _ _ _ loc hloc hk =>
  obtain ⟨_,hb,ob,xs,hob,hsh,hval⟩:=hR.objs id _ _ loc hid hloc
  obtain ⟨rfl,rfl⟩:=hsh
  rw [hb]
  simp only [Tree.run] at h
  have hsz:(⟨s.toArray⟩:ByteArray).size=s.length:=by simp [ByteArray.size]
  cases hp:decide (pos<s.length)
  ·rw [hp,cond_false] at h
   simp only [Option.some.injEq] at h
   subst h
   have hp:=of_decide_eq_false hp
   refine ⟨_,_,rfl,.tuple #[.bool false],w,β,?_,Step.refl hR,?_⟩
   ·simp [Instr.next,getObj,Sem.run,hob,Result.andThen,hsz,hp]
   ·exact .tup _ _ [.bool false] rfl fun k v x hv hx=>by
     match k,hv,hx with
     | 0,hv,hx=>cases hv; cases hx; exact .bool _ _
  ·rw [hp,cond_true] at h
   obtain ⟨h1,h2⟩:=req_run h
   simp only [Tree.run,Option.some.injEq] at h2
   subst h2
   have hp:=of_decide_eq_true hp
   have h1:=of_decide_eq_true h1
   have hps:pos<(⟨s.toArray⟩:ByteArray).size:=by rw [hsz]; exact hp
   have hget:((⟨s.toArray⟩:ByteArray)[pos]'hps)=s.getD pos 0:=by
    have:((⟨s.toArray⟩:ByteArray)[pos]'hps)=s[pos]:=rfl
    rw [this,List.getD,List.getElem?_eq_getElem hp]
    rfl
   have hdec:=decode_ascii ⟨s.toArray⟩ pos hps (by rw [hget]; exact h1)
   rw [hget] at hdec
   refine ⟨_,_,rfl,.tuple #[.bool true,.int .i64 pos,.int .i32 (s.getD pos 0).toNat],_,β,?_,Step.setObj hR hid hloc (sh' := .siter s (pos+1)) (ob' := .stringIter ⟨s.toArray⟩ (pos+1)) (xs' := []) ⟨rfl,rfl⟩ (fun k v h=>by simp at h),?_⟩
   ·simp [Instr.next,getObj,setObj,Sem.run,hob,Result.andThen,hsz,hp,hdec,goInt]
   ·exact .tup _ _ [.bool true,.int .i64 pos,.int .i32 (s.getD pos 0).toNat] rfl fun k v x hv hx=>by
     match k,hv,hx with
     | 0,hv,hx=>cases hv; cases hx; exact .bool _ _
     | 1,hv,hx=>cases hv; cases hx; exact .int _ _ _
     | 2,hv,hx=>cases hv; cases hx; exact .int _ _ _
theorem setK_run {n:Int} {v:V}:∀ {keys:List Int} {vs:List V} {p:List Int × List V},(setK n v keys vs).run=some p→keys.Pairwise (· < ·)→vs.length=keys.length →
  (∃ i:Nat,keys[i]? = some n∧p=(keys,vs.set i v)) ∨
  (n ∉ keys ∧ ∃ i:Nat,i≤keys.length∧p=(keys.take i++n :: keys.drop i,vs.take i++v :: vs.drop i)∧p.1.Pairwise (· < ·))
 | [],[],p,h,_,_=>by
  simp only [setK,Tree.run,Option.some.injEq] at h
  subst h
  exact .inr ⟨by simp,0,Nat.le_refl _,rfl,by simp⟩
 | k :: ks,u :: us,p,h,hs,hl=>by
  unfold setK at h
  simp only [Tree.run] at h
  have hs1:=(List.pairwise_cons.1 hs).1
  have hs2:=(List.pairwise_cons.1 hs).2
  cases hb:(n == k)
  ·have hne:n ≠ k:=fun e=>by rw [e] at hb; simp at hb
   rw [hb,cond_false] at h
   cases hlt:decide (n<k)
   ·rw [hlt,cond_false] at h
    have hlt:=of_decide_eq_false hlt
    obtain ⟨q,h1,h2⟩:=bind_run h
    simp only [Tree.run,Option.some.injEq] at h2
    subst h2
    rcases setK_run h1 hs2 (by simpa using hl) with ⟨i,g1,rfl⟩ | ⟨g1,i,g2,rfl,g5⟩
    ·exact .inl ⟨i+1,by simpa using g1,by simp⟩
    ·refine .inr ⟨?_,i+1,by simpa using g2,by simp,?_⟩
     ·simp only [List.mem_cons,not_or]
      exact ⟨hne,g1⟩
     ·refine List.pairwise_cons.2 ⟨fun a ha=>?_,g5⟩
      simp only [List.mem_append,List.mem_cons] at ha
      rcases ha with ha | ha | ha
      ·exact hs1 a (List.mem_of_mem_take ha)
      ·omega
      ·exact hs1 a (List.mem_of_mem_drop ha)
   ·rw [hlt,cond_true] at h
    have hlt:=of_decide_eq_true hlt
    simp only [Option.some.injEq] at h
    subst h
    refine .inr ⟨?_,0,by simp,by simp,?_⟩
    ·simp only [List.mem_cons,not_or]
     exact ⟨hne,fun hm=>by have:=hs1 n hm; omega⟩
    ·refine List.pairwise_cons.2 ⟨fun a ha=>?_,hs⟩
     simp only [List.mem_cons] at ha
     rcases ha with ha | ha
     ·omega
     ·have:=hs1 a ha; omega
  ·rw [hb,cond_true] at h
   simp only [Option.some.injEq] at h
   subst h
   exact .inl ⟨0,by simp [eq_of_beq hb],rfl⟩
 | [],_ :: _,_,h,_,_=>by cases h
 | _ :: _,[],_,h,_,_=>by cases h
theorem split_at {α:Type} {l:List α} {i:Nat} {e:α} (h:l[i]? = some e):l=l.take i++e :: l.drop (i+1):=by
 obtain ⟨hi,rfl⟩:=List.getElem?_eq_some_iff.1 h
 rw [List.getElem_cons_drop,List.take_append_drop]
theorem set_split {α:Type} {l:List α} {i:Nat} {e x:α} (h:l[i]? = some e):l.set i x=l.take i++x :: l.drop (i+1):=by
 obtain ⟨hi,_⟩:=List.getElem?_eq_some_iff.1 h
 rw [List.set_eq_take_append_cons_drop,if_pos hi]
theorem perm_set {α:Type} {l m:List α} {i j:Nat} {e x:α} (h:l.Perm m) (hi:l[i]? = some e) (hj:m[j]? = some e):(l.set i x).Perm (m.set j x):=by
 rw [set_split hi,set_split hj]
 rw [split_at hi,split_at hj] at h
 have h1:=(List.perm_middle.symm.trans (h.trans List.perm_middle)).cons_inv
 exact List.perm_middle.trans ((h1.cons x).trans List.perm_middle.symm)
theorem modify_list {α:Type} {a:Array α} {i:Nat} {e:α} (f:α→α) (h:a[i]? = some e):(a.modify i f).toList=a.toList.set i (f e):=by
 apply List.ext_getElem?
 intro j
 rw [Array.getElem?_toList,Array.getElem?_modify,List.getElem?_set]
 by_cases hij:i=j
 ·subst hij
  obtain ⟨hlt,_⟩:=Array.getElem?_eq_some_iff.1 h
  rw [h]
  simp [hlt]
 ·simp [hij]
theorem sound_mapUpdate {t:TypeId} {m k v:V} {sm sk sv:Value} {H' : List O} (hR:Rel w (Xs E H β) H β) (hm:R w (Xs E H β) β m sm) (hk:R w (Xs E H β) β k sk) (hv:R w (Xs E H β) β v sv)
  (h:(oMapUpdate P H t m k v).run=some H'):∃ w' β',(Instr.mapUpdate t sm sk sv).run P w = .ok () w' ∧ Step E H β w H' β' w' := by
 unfold oMapUpdate at h
 split at h
 rotate_left
 ·cases h
 rename_i kt et hty
 split at h
 rotate_left
 ·cases h
 rename_i n id
 split at h
 rotate_left
 ·cases h
 rename_i keys vs hid
 cases hc:(isU64 P kt && Nat.beq vs.length keys.length)
 ·rw [hc] at h; cases h
 rw [hc,cond_true] at h
 rw [Bool.and_eq_true] at hc
 have hd:=isU64_und hc.1
 have hlen:=Nat.eq_of_beq_eq_true hc.2
 obtain ⟨p,hp,h2⟩:=bind_run h
 simp only [Tree.run,Option.some.injEq] at h2
 subst h2
 cases hk
 cases hm with
 | mp _ _ loc hloc hkd =>
  obtain ⟨_,_,ob,xs,hob,hsh,hval⟩:=hR.objs id _ _ loc hid hloc
  obtain ⟨arr,clock,l,rfl,hst,hsort,hperm,hkeys,hvals,hisk,hat⟩:=map_facts hsh
  have hk:IsKey (.int .u64) (.int .u64 n):=rfl
  have hll:l.length=keys.length:=by have:=congrArg List.length hkeys; simpa using this
  have hxl:xs.length=keys.length:=by rw [← hvals,List.length_map,hll]
  rcases findNow_spec hk arr.toList 0 hisk with ⟨f1,f2⟩ | ⟨j,e,f1,f2,f3⟩
  ·rcases setK_run hp hsort hlen with ⟨i,g1,rfl⟩ | ⟨g1,i,g2,rfl,g5⟩
   ·exfalso
    have hl:(l.map (·.key))[i]? = some (.int .u64 n):=by rw [hkeys,List.getElem?_map,g1]; rfl
    obtain ⟨e,he,he'⟩:=List.mem_map.1 (List.mem_of_getElem? hl)
    exact f2 e (hperm.mem_iff.1 he) he'
   ·refine ⟨{ w with heap:=w.heap.setIfInBounds loc.block (.map (arr.push { key:=.int .u64 n,val:=sv,born:=clock }) (clock+1)) },β,?_,
     Step.setObj hR hid hloc (xs' := xs.take i++sv :: xs.drop i) ⟨_,_,l.take i ++ { key:=.int .u64 n,val:=sv,born:=clock } :: l.drop i,rfl,stamped_push hst f2,g5,?_,?_,?_⟩ (fun q u hu=>?_)⟩
    ·simp [Instr.mapUpdate,run_underlying hty,run_getObj_map hob,run_checkKey hd hk,run_findKey hd f1,run_setObj_map _ hob,Result.andThen]
    ·rw [Array.toList_push]
     refine List.perm_middle.trans ?_
     rw [List.take_append_drop]
     exact (hperm.cons _).trans (List.perm_append_singleton _ _).symm
    ·simp only [List.map_append,List.map_cons,List.map_take,List.map_drop,hkeys]
    ·simp only [List.map_append,List.map_cons,List.map_take,List.map_drop,hvals]
    ·have hti:(vs.take i).length=i:=by rw [List.length_take]; omega
     have htx:(xs.take i).length=i:=by rw [List.length_take]; omega
     by_cases hq:q<i
     ·rw [List.getElem?_append_left (by omega)] at hu ⊢
      rw [List.getElem?_take_of_lt hq] at hu ⊢
      exact hval q u hu
     ·rw [List.getElem?_append_right (by omega),hti] at hu
      rw [List.getElem?_append_right (by omega),htx]
      cases hqi:q - i with
      | zero=>rw [hqi] at hu; simp at hu; subst hu; exact ⟨sv,by simp,hv⟩
      | succ r =>
       rw [hqi] at hu
       simp only [List.getElem?_cons_succ,List.getElem?_drop] at hu ⊢
       exact hval (i+r) u hu
  ·have hel:e ∈ l:=hperm.mem_iff.2 (List.mem_of_getElem? f2)
   obtain ⟨i0,hi0⟩:=List.getElem?_of_mem hel
   obtain ⟨k1,k2⟩:=hat i0 e n hi0 f3
   rcases setK_run hp hsort hlen with ⟨i,g1,rfl⟩ | ⟨g1,_⟩
   ·have:=sorted_inj hsort k1 g1
    subst this
    have hj:arr[j]? = some e:=by simpa using f2
    have hmod:=modify_list (fun e:MapEntry=>{ e with key:=.int .u64 n,val:=sv }) hj
    refine ⟨{ w with heap:=w.heap.setIfInBounds loc.block (.map (arr.modify j fun e=>{ e with key:=.int .u64 n,val:=sv }) clock) },β,?_,
     Step.setObj hR hid hloc (xs' := xs.set i0 sv) ⟨_,_,l.set i0 { e with key:=.int .u64 n,val:=sv },rfl,?_,hsort,?_,?_,?_⟩ (fun q u hu=>?_)⟩
    ·simp [Instr.mapUpdate,run_underlying hty,run_getObj_map hob,run_checkKey hd hk,run_findKey hd f1,hj,f3,run_keyThatStays hk,run_setObj_map _ hob,Result.andThen]
    ·exact stamped_modify hst _ _ (fun _ _=>rfl) (fun e' _ he' => by rw [hj] at he'; cases he'; exact f3.symm)
    ·rw [hmod]
     exact perm_set hperm hi0 (by simpa using hj)
    ·rw [List.map_set,hkeys]
     apply List.ext_getElem?
     intro q
     rw [List.getElem?_set]
     split
     ·rename_i hq
      subst hq
      have:i0<(keys.map (Value.int .u64)).length:=by rw [List.length_map]; exact (List.getElem?_eq_some_iff.1 k1).1
      rw [if_pos this,List.getElem?_map,k1]
      rfl
     ·rfl
    ·rw [List.map_set,hvals]
    ·rw [List.getElem?_set] at hu ⊢
     by_cases hq:i0=q
     ·subst hq
      simp only [if_true] at hu ⊢
      have hlt:i0<vs.length:=by rw [hlen]; exact (List.getElem?_eq_some_iff.1 k1).1
      rw [if_pos hlt] at hu
      cases hu
      rw [if_pos (by omega)]
      exact ⟨sv,rfl,hv⟩
     ·simp only [hq,if_false] at hu ⊢
      exact hval q u hu
   ·exact absurd (List.mem_of_getElem? k1) g1
theorem sound_lenM {argTypes:Array TypeId} {ty:TypeId} {x v:V} {y:Value} (hR:Rel w (Xs E H β) H β) (hx:R w (Xs E H β) β x y) (h:oLenM P H argTypes x=some v) :
  ∃ z,(Builtin.len_ argTypes ty #[y]).run P w = .ok z w∧R w (Xs E H β) β v z:=by
 unfold oLenM at h
 cases hm:mapArg P argTypes
 ·rw [hm,cond_false] at h
  exact sound_len hx h
 ·rw [hm,cond_true] at h
  unfold mapArg at hm
  split at hm
  rotate_left
  ·cases hm
  rename_i t ht
  split at hm
  rotate_left
  ·cases hm
  rename_i kt et hu
  split at h
  rotate_left
  ·cases h
  rename_i id
  split at h
  rotate_left
  ·cases h
  rename_i keys vs hH
  cases h
  cases hx with
  | mp _ _ loc hid hk =>
  obtain ⟨_,_,ob,xs,hob,⟨arr,clock,l,rfl,_,_,hperm,hkeys,_⟩,_⟩:=hR.objs id _ _ loc hH hid
  have hsz:arr.size=keys.length:=by
   have h1:=congrArg List.length hkeys
   have h2:=hperm.length_eq
   simp only [List.length_map,Array.length_toList] at h1 h2
   omega
  refine ⟨.int .i64 (keys.length:Int),?_,.int _ _ _⟩
  simp [Builtin.len_,ht,run_und w hu,run_getObj_map hob,hsz,goInt]
end
end Go.Ab

namespace Go.Ab
def Sound (P:Program) (f:Nat) (s:Spec):Prop:=∀ args out,(s args).run=some out→PCall P f args out
def XCall (P:Program) (f:Nat) (args:List V) (out:V):Prop:=
 ∀ (w:World) (X:Nat→Nat→Prop) (β:List Loc) (rargs:List Value),rargs.length=args.length →
  (∀ (k:Nat) (v:V) (x:Value),args[k]? = some v→rargs[k]? = some x→R w X β v x) → ∃ y,(callFunc f rargs.toArray).run P w = .ok (.value y) w∧R w X β out y
def XSound (P:Program) (f:Nat) (s:Spec):Prop:=∀ args out,(s args).run=some out→XCall P f args out
def TabOk (P:Program) (tab:List (Nat × Spec)):Prop:=∀ p ∈ tab,Sound P p.1 p.2∨XSound P p.1 p.2
theorem TabOk.nil (P:Program):TabOk P []:=fun p h=>by cases h
theorem TabOk.cons {P:Program} {f:Nat} {s:Spec} {tab:List (Nat × Spec)} (h:Sound P f s) (ht:TabOk P tab):TabOk P ((f,s) :: tab):=by
 intro p hp
 rcases List.mem_cons.1 hp with rfl | hp
 ·exact .inl h
 ·exact ht p hp
theorem TabOk.consX {P:Program} {f:Nat} {s:Spec} {tab:List (Nat × Spec)} (h:XSound P f s) (ht:TabOk P tab):TabOk P ((f,s) :: tab):=by
 intro p hp
 rcases List.mem_cons.1 hp with rfl | hp
 ·exact .inr h
 ·exact ht p hp
def CxOk (cx:Cx):Prop:=TabOk cx.P cx.tab∧MTabOk cx.P cx.mtab∧RTabOk cx.P cx.rtab ∧ ∀ p ∈ cx.globs,p ∈ globsOf cx.P
theorem look_spec {f:Nat} {args:List V} {out:V}:∀ {tab:List (Nat × Spec)},(look f tab args).run=some out → ∃ s,(f,s) ∈ tab∧(s args).run=some out
 | [],h=>by cases h
 | (g,s) :: r,h=>by
  unfold look at h
  cases hb:Nat.beq f g
  ·simp only [hb,cond_false] at h
   obtain ⟨s',h1,h2⟩:=look_spec h
   exact ⟨s',List.mem_cons_of_mem _ h1,h2⟩
  ·simp only [hb,cond_true] at h
   have:=Nat.eq_of_beq_eq_true hb
   subst this
   exact ⟨s,List.mem_cons_self,h⟩
section
variable {E:Nat→Nat→Prop} {H:List O} {β:List Loc} {w:World}
theorem own_nil (b o:Nat):¬ Own [] [] b o:=by
 rintro ⟨id,l,h,_⟩
 simp at h
theorem rel_nil (w:World) (X:Nat→Nat→Prop):Rel w X [] []:=
 ⟨rfl,fun id cs e loc h=>by simp at h,fun id n sz loc h=>by simp at h,fun id sh vs loc h=>by simp at h,fun i j l l' hi=>by obtain ⟨o,h,_⟩:=hi; simp at h⟩
theorem Step.of_pure {w' : World} (hR:Rel w (Xs E H β) H β) (s:Step (Xs E H β) [] [] w [] [] w'):Step E H β w H β w' ∧ ∀ v y,R w' (Xs E H β) [] v y→R w' (Xs E H β) β v y:=by
 have hold:∀ b,b<w.heap.size→w'.heap[b]? = w.heap[b]? := fun b hb=>by
  rcases s.pres b hb with h | ⟨⟨o,h⟩,_⟩ | ⟨⟨o,h⟩,_⟩
  ·exact h
  ·exact absurd h (own_nil b o)
  ·exact absurd h (own_nil b o)
 have st:Stab w (Xs E H β) w' (Xs E H β):=
  ⟨fun b o v hx hv=>⟨hx,(cell_heap (hold b (cell_lt hv)) o).trans hv⟩,fun b cs e h=>⟨cs,e,by rw [hold b (heap_lt h)]; exact h⟩⟩
 refine ⟨⟨⟨hR.len,fun id cs e loc g1 g2=>?_,fun id n sz loc g1 g2=>?_,fun id sh vs loc g1 g2=>?_,hR.disj⟩,s.os,s.tape,s.output,s.size,fun b hb=>.inl (hold b hb),fun b o h=>.inl h,.refl _⟩,fun v y h=>h.up β⟩
 ·obtain ⟨k,c,e',a1,a2,a3,a4⟩:=hR.cells id cs e loc g1 g2
  exact ⟨k,c,e',by rw [hold _ (heap_lt a1)]; exact a1,a2,a3,fun k v hv=>let ⟨x,hx,hr⟩:=a4 k v hv; ⟨x,hx,hr.stab st _ (.refl _)⟩⟩
 ·obtain ⟨k,m,c,e',a1,a2⟩:=hR.tok id n sz loc g1 g2
  exact ⟨k,m,c,e',by rw [hold _ (heap_lt a1)]; exact a1,a2⟩
 ·obtain ⟨k,kb,ob,xs,a1,a2,a3⟩:=hR.objs id sh vs loc g1 g2
  exact ⟨k,kb,ob,xs,by rw [hold _ (heap_lt a1)]; exact a1,a2,fun k v hv=>let ⟨x,hx,hr⟩:=a3 k v hv; ⟨x,hx,hr.stab st _ (.refl _)⟩⟩
variable {n:Nat} {t:T} {a:Act} {o:Oper} {cx:Cx} {K:Act→World→Prop} {Q:Exit→Act→World→Prop}
def Then (E:Nat→Nat→Prop) (H:List O) (β:List Loc) (w:World) (a:Act) (o:Oper) (K:Act→World→Prop) (Q:Exit→Act→World→Prop):Res→Prop
 | .ok v H' => ∀ x w' β',Step E H β w H' β' w' → R w' (Xs E H' β') β' v x→K (a.put o.dst x) w'
 | .pan v H' => ∀ x w' β',Step E H β w H' β' w' → R w' (Xs E H' β') β' v x→Q (.panic [{ v:=x,recovered:=false }]) a w'
theorem wp_sem {P:Program} {s:Sem Value} {x:Value} {w' : World} (he:execOp a.eval o=(do pure (Next.value (← s)))) (hrun:s.run P w = .ok x w') (hk:K (a.put o.dst x) w'):o.wp P a w K Q:=by
 unfold Oper.wp
 rw [he]
 simp only [Sem.run_bind,hrun,Result.andThen_ok]
 exact hk
theorem wp_unit {P:Program} {s:Sem Unit} {w' : World} (he:execOp a.eval o=(do s; pure Next.skip)) (hrun:s.run P w = .ok () w') (hk:K (a.put o.dst undef) w'):o.wp P a w K Q:=by
 unfold Oper.wp
 rw [he]
 simp only [Sem.run_bind,hrun,Result.andThen_ok]
 exact hk
theorem pieces_get {X:Nat→Nat→Prop} {l:List (Nat × Operand)} (h:∀ x:Operand,R w X β (rd t x) (a.eval x)) :
  ∀ (k:Nat) p q,(l.map fun p=>(p.1,rd t p.2))[k]? = some p→(l.map fun p=>(p.1,a.eval p.2))[k]? = some q→p.1=q.1∧R w X β p.2 q.2:=by
 intro k p q hp hq
 simp only [List.getElem?_map,Option.map_eq_some_iff] at hp hq
 obtain ⟨u,hu,rfl⟩:=hp
 obtain ⟨v,hv,rfl⟩:=hq
 rw [hu] at hv
 simp only [Option.some.injEq] at hv
 subst hv
 exact ⟨rfl,h u.2⟩
theorem holdO_run {H:List O} {v:Option V} {r:Res} (h:(holdO H v).run=some r):∃ u,v=some u∧r = .ok u H:=by
 cases v with
 | none=>cases h
 | some u=>simp only [holdO,Tree.run,Option.some.injEq] at h; exact ⟨u,rfl,h.symm⟩
theorem bind_hold {H:List O} {x:Tree V} {r:Res} (h:(x.bind (hold H)).run=some r):∃ u,x.run=some u∧r = .ok u H:=by
 obtain ⟨u,h1,h2⟩:=bind_run h
 simp only [hold,Tree.run,Option.some.injEq] at h2
 exact ⟨u,h1,h2.symm⟩
theorem bind_both {x:Tree (V × List O)} {r:Res} (h:(x.bind both).run=some r):∃ u H',x.run=some (u,H')∧r = .ok u H' := by
 obtain ⟨⟨u,H'⟩,h1,h2⟩:=bind_run h
 simp only [both,Tree.run,Option.some.injEq] at h2
 exact ⟨u,H',h1,h2.symm⟩
theorem convT_run {P:Program} {H:List O} {src dst:TypeId} {x v:V} (h:(oConvertT P H src dst x).run=some v):oConvert P H src dst x=some v:=by
 unfold oConvertT at h
 split at h
 ·rename_i k l b hp
  split at h
  rotate_left
  ·cases h
  rename_i e hs hd
  split at h
  rotate_left
  ·cases h
  rename_i he
  cases hk:decide (k=IntKind.u8)
  ·rw [hk] at h; cases h
  rw [hk,cond_true] at h
  have hk:=of_decide_eq_true hk
  subst hk
  unfold pageRef at hp
  split at hp
  rotate_left
  ·cases hp
  rename_i id s off len
  split at hp
  rotate_left
  ·cases hp
  rename_i n k2 l2 vs hH
  simp only [Option.some.injEq,Prod.mk.injEq] at hp
  obtain ⟨rfl,rfl,rfl⟩:=hp
  have hb:(Nat.beq s 1 && (Nat.ble n off && Nat.ble (off - n+len) l2.length))=true:=by
   cases hb:(Nat.beq s 1 && (Nat.ble n off && Nat.ble (off - n+len) l2.length))
   ·rw [hb] at h; cases h
   ·rfl
  rw [hb] at h
  simp only [Tree.req,Tree.run,cond_true,Option.some.injEq] at h
  subst h
  have e1:elemsOf (.int .u8) H (.ref id s off len)=some ((l2.drop (off - n)).take len):=by
   simp only [elemsOf,hH,hb,cond_true]
   rfl
  unfold oConvert
  rw [hs,hd]
  simp only [he]
  exact congrArg (Option.map fun l=>V.str (List.map (fun (n:Int)=>UInt8.ofNat n.toNat) l)) e1
 ·cases hc:oConvert P H src dst x with
  | none=>rw [hc] at h; cases h
  | some u=>rw [hc] at h; exact h
theorem optR_map {X:Nat→Nat→Prop} (h:∀ x:Operand,R w X β (rd t x) (a.eval x)) (lo:Option Operand):optR w X β (lo.map (rd t)) (lo.map a.eval):=by
 cases lo with
 | none=>trivial
 | some x=>exact h x
theorem sound_callM0 {P:Program} {cx:Cx} {f:Nat} {vs:List V} {xs:List Value} {res:Res} (hM:MTabOk P cx.mtab) (hE:StartOk P E H β w)
  (hR:Rel w (Xs E H β) H β) (hl:xs.length=vs.length) (hv:∀ (k:Nat) (v:V) (x:Value),vs[k]? = some v→xs[k]? = some x→R w (Xs E H β) β v x)
  (h:(callM0 cx H f vs).run=some res):Normal P f∧Calls P f xs.toArray w (Outcome E H β w res):=by
 unfold callM0 at h
 generalize reach H 64 (V.idss vs) []=σ at h
 simp only at h
 split at h
 rotate_left
 ·cases h
 rename_i os hos
 split at h
 rotate_left
 ·cases h
 rename_i as Hs has hHs
 cases hd:noDup σ
 ·simp [hd,Tree.run] at h
 simp only [hd,cond_true] at h
 obtain ⟨r,h1,h2⟩:=bind_run h
 obtain ⟨s,hs,hs'⟩:=lookM_spec h1
 obtain ⟨hnorm,hcalls⟩:=hM _ hs as Hs r hs'
 obtain ⟨hi,hturn⟩:=into hE.1 hR hd hos hHs
 obtain ⟨q1,q2⟩:=rens_get has
 refine ⟨hnorm,?_⟩
 have:=hcalls w (Shut E H β Hs (pickL β σ)) (pickL β σ) xs ⟨hi.old,by rw [hi.same]; exact hE.2⟩ hi.rel (by omega) (fun k v x h1 h2=>by
  obtain ⟨u,hu,hu'⟩:=q2 k v h1
  rw [hi.same]
  exact ren_R hturn (hv k u x hu h2) v hu')
 refine this.mono ?_
 intro e w' ho
 have back:∀ v H2 k,(backRes H σ v H2 k).run=some res → ∃ v' H2',V.ren? (backTo σ H.length) v=some v' ∧ rensO (backTo σ H.length) H2=some H2' ∧ σ.length≤H2.length∧res=k v' (setAll H σ H2'):=by
  intro v H2 k hb
  unfold backRes at hb
  split at hb
  rotate_left
  ·cases hb
  rename_i v' H2' e1 e2
  cases hle:Nat.ble σ.length H2'.length
  ·simp [hle,Tree.run] at hb
  simp only [hle,cond_true,Tree.run,Option.some.injEq] at hb
  exact ⟨v',H2',e1,e2,by rw [← (rensO_get e2).1]; exact Nat.le_of_ble_eq_true hle,hb.symm⟩
 cases r with
 | ok v H2 =>
  obtain ⟨v',H2',e1,e2,e3,rfl⟩:=back v H2 _ h2
  obtain ⟨y,β2,he,st,hr⟩:=ho
  obtain ⟨s1,s2⟩:=back_out hE.1 hR hd hi st e3 e2
  exact ⟨y,_,he,s1,s2 v v' y hr e1⟩
 | pan v H2 =>
  obtain ⟨v',H2',e1,e2,e3,rfl⟩:=back v H2 _ h2
  obtain ⟨y,β2,he,st,hr⟩:=ho
  obtain ⟨s1,s2⟩:=back_out hE.1 hR hd hi st e3 e2
  exact ⟨y,_,he,s1,s2 v v' y hr e1⟩
mutual
theorem ren_back {ρ τ:Nat→Option Nat} (h:∀ i j,ρ i=some j→τ j=some i):∀ (v u:V),V.ren? ρ v=some u→V.ren? τ u=some v
 | .int _ _,u,e=>by simp only [V.ren?,Option.some.injEq] at e; subst e; rfl
 | .bool _,u,e=>by simp only [V.ren?,Option.some.injEq] at e; subst e; rfl
 | .str _,u,e=>by simp only [V.ren?,Option.some.injEq] at e; subst e; rfl
 | .val _,u,e=>by simp only [V.ren?,Option.some.injEq] at e; subst e; rfl
 | .pin _,u,e=>by simp only [V.ren?,Option.some.injEq] at e; subst e; rfl
 | .sl _ _ _ _,u,e=>by simp only [V.ren?,Option.some.injEq] at e; subst e; rfl
 | .any,u,e=>by simp only [V.ren?,Option.some.injEq] at e; subst e; rfl
 | .rng _ _ _,u,e=>by simp only [V.ren?,Option.some.injEq] at e; subst e; rfl
 | .gro id c l,u,e=>by
  unfold V.ren? at e
  split at e
  ·rename_i j hj; simp only [Option.some.injEq] at e; subst e; unfold V.ren?; rw [h _ _ hj]
  ·cases e
 | .ptr id off,u,e=>by
  unfold V.ren? at e
  split at e
  ·rename_i j hj; simp only [Option.some.injEq] at e; subst e; unfold V.ren?; rw [h _ _ hj]
  ·cases e
 | .ref id sz off len,u,e=>by
  unfold V.ren? at e
  split at e
  ·rename_i j hj; simp only [Option.some.injEq] at e; subst e; unfold V.ren?; rw [h _ _ hj]
  ·cases e
 | .mp id,u,e=>by
  unfold V.ren? at e
  split at e
  ·rename_i j hj; simp only [Option.some.injEq] at e; subst e; unfold V.ren?; rw [h _ _ hj]
  ·cases e
 | .agg cs,u,e=>by
  unfold V.ren? at e
  split at e
  ·rename_i ds hd; simp only [Option.some.injEq] at e; subst e; unfold V.ren?; rw [rens_back h cs ds hd]
  ·cases e
 | .tup cs,u,e=>by
  unfold V.ren? at e
  split at e
  ·rename_i ds hd; simp only [Option.some.injEq] at e; subst e; unfold V.ren?; rw [rens_back h cs ds hd]
  ·cases e
 | .ifc t v,u,e=>by
  unfold V.ren? at e
  split at e
  ·rename_i d hd; simp only [Option.some.injEq] at e; subst e; unfold V.ren?; rw [ren_back h v d hd]
  ·cases e
 | .clo g a b,u,e=>by
  unfold V.ren? at e
  split at e
  ·rename_i d f hd hf; simp only [Option.some.injEq] at e; subst e; unfold V.ren?; rw [rens_back h a d hd,rens_back h b f hf]
  ·cases e
theorem rens_back {ρ τ:Nat→Option Nat} (h:∀ i j,ρ i=some j→τ j=some i):∀ (l m:List V),V.rens? ρ l=some m→V.rens? τ m=some l
 | [],m,e=>by simp only [V.rens?,Option.some.injEq] at e; subst e; rfl
 | v :: r,m,e=>by
  unfold V.rens? at e
  split at e
  ·rename_i d f hd hf; simp only [Option.some.injEq] at e; subst e; unfold V.rens?; rw [ren_back h v d hd,rens_back h r f hf]
  ·cases e
end
mutual
theorem ren_le {ρ τ:Nat→Option Nat} (h:∀ i j,ρ i=some j→τ i=some j):∀ (v u:V),V.ren? ρ v=some u→V.ren? τ v=some u
 | .int _ _,u,e=>by simp only [V.ren?,Option.some.injEq] at e; subst e; rfl
 | .bool _,u,e=>by simp only [V.ren?,Option.some.injEq] at e; subst e; rfl
 | .str _,u,e=>by simp only [V.ren?,Option.some.injEq] at e; subst e; rfl
 | .val _,u,e=>by simp only [V.ren?,Option.some.injEq] at e; subst e; rfl
 | .pin _,u,e=>by simp only [V.ren?,Option.some.injEq] at e; subst e; rfl
 | .sl _ _ _ _,u,e=>by simp only [V.ren?,Option.some.injEq] at e; subst e; rfl
 | .any,u,e=>by simp only [V.ren?,Option.some.injEq] at e; subst e; rfl
 | .rng _ _ _,u,e=>by simp only [V.ren?,Option.some.injEq] at e; subst e; rfl
 | .gro id c l,u,e=>by
  unfold V.ren? at e
  split at e
  ·rename_i j hj; simp only [Option.some.injEq] at e; subst e; unfold V.ren?; rw [h _ _ hj]
  ·cases e
 | .ptr id off,u,e=>by
  unfold V.ren? at e
  split at e
  ·rename_i j hj; simp only [Option.some.injEq] at e; subst e; unfold V.ren?; rw [h _ _ hj]
  ·cases e
 | .ref id sz off len,u,e=>by
  unfold V.ren? at e
  split at e
  ·rename_i j hj; simp only [Option.some.injEq] at e; subst e; unfold V.ren?; rw [h _ _ hj]
  ·cases e
 | .mp id,u,e=>by
  unfold V.ren? at e
  split at e
  ·rename_i j hj; simp only [Option.some.injEq] at e; subst e; unfold V.ren?; rw [h _ _ hj]
  ·cases e
 | .agg cs,u,e=>by
  unfold V.ren? at e
  split at e
  ·rename_i ds hd; simp only [Option.some.injEq] at e; subst e; unfold V.ren?; rw [rens_le h cs ds hd]
  ·cases e
 | .tup cs,u,e=>by
  unfold V.ren? at e
  split at e
  ·rename_i ds hd; simp only [Option.some.injEq] at e; subst e; unfold V.ren?; rw [rens_le h cs ds hd]
  ·cases e
 | .ifc t v,u,e=>by
  unfold V.ren? at e
  split at e
  ·rename_i d hd; simp only [Option.some.injEq] at e; subst e; unfold V.ren?; rw [ren_le h v d hd]
  ·cases e
 | .clo g a b,u,e=>by
  unfold V.ren? at e
  split at e
  ·rename_i d f hd hf; simp only [Option.some.injEq] at e; subst e; unfold V.ren?; rw [rens_le h a d hd,rens_le h b f hf]
  ·cases e
theorem rens_le {ρ τ:Nat→Option Nat} (h:∀ i j,ρ i=some j→τ i=some j):∀ (l m:List V),V.rens? ρ l=some m→V.rens? τ l=some m
 | [],m,e=>by simp only [V.rens?,Option.some.injEq] at e; subst e; rfl
 | v :: r,m,e=>by
  unfold V.rens? at e
  split at e
  ·rename_i d f hd hf; simp only [Option.some.injEq] at e; subst e; unfold V.rens?; rw [ren_le h v d hd,rens_le h r f hf]
  ·cases e
end
theorem oren_le {ρ τ:Nat→Option Nat} (h:∀ i j,ρ i=some j→τ i=some j) (o u:O) (e:O.ren? ρ o=some u):O.ren? τ o=some u:=by
 cases o with
 | cells cs t =>
  simp only [O.ren?] at e ⊢
  cases hc:V.rens? ρ cs with
  | none=>rw [hc] at e; cases e
  | some ds =>
   rw [hc] at e
   rw [rens_le h _ _ hc]
   exact e
 | tok n sz=>exact e
 | obj sh vs =>
  simp only [O.ren?] at e ⊢
  cases hc:V.rens? ρ vs with
  | none=>rw [hc] at e; cases e
  | some ds =>
   rw [hc] at e
   rw [rens_le h _ _ hc]
   exact e
 | dead=>exact e
theorem rensO_le {ρ τ:Nat→Option Nat} (h:∀ i j,ρ i=some j→τ i=some j):∀ (l m:List O),rensO ρ l=some m→rensO τ l=some m
 | [],_,e=>e
 | o :: r,m,e=>by
  unfold rensO at e ⊢
  cases h1:O.ren? ρ o with
  | none=>rw [h1] at e; cases e
  | some u =>
   cases h2:rensO ρ r with
   | none=>rw [h1,h2] at e; cases e
   | some us =>
    rw [h1,h2] at e
    rw [oren_le h _ _ h1,rensO_le h _ _ h2]
    exact e
theorem bind_again {α γ:Type} {x:Tree α} {f g:α→Tree γ} {c:γ} (h:(x.bind f).run=some c) (hfg:∀ a,(f a).run=some c→(g a).run=some c):(x.bind g).run=some c:=by
 induction x with
 | leaf b=>exact hfg b h
 | fail=>cases h
 | br cd x y ihx ihy =>
  cases cd
  ·exact ihy h
  ·exact ihx h
theorem backS_spec {H:List O} {σ:List Nat} {u r:Res} (h:(backS H σ u).run=some r):∃ (v:V) (H2:List O) (v1:V) (H3:List O),u = .ok v H2∧V.ren? (fun j=>σ[j]?) v=some v1∧rensO (fun j=>σ[j]?) H2=some H3∧σ.length=H3.length∧r = .ok v1 (setAll H σ H3):=by
 cases u with
 | pan v H2=>cases h
 | ok v H2 =>
  simp only [backS] at h
  cases e1:V.ren? (fun j=>σ[j]?) v with
  | none=>rw [e1] at h; cases h
  | some v1 =>
  cases e2:rensO (fun j=>σ[j]?) H2 with
  | none=>rw [e1,e2] at h; cases h
  | some H3 =>
  rw [e1,e2] at h
  simp only at h
  cases hb:Nat.beq σ.length H3.length
  ·rw [hb] at h; cases h
  rw [hb] at h
  simp only [cond_true,Tree.run,Option.some.injEq] at h
  exact ⟨v,H2,v1,H3,rfl,e1,e2,Nat.eq_of_beq_eq_true hb,h.symm⟩
theorem callM_0 {cx:Cx} {H:List O} {f:Nat} {vs:List V} {res:Res} (h:(callM cx H f vs).run=some res):(callM0 cx H f vs).run=some res:=by
 unfold callM at h
 cases hs:hasN f cx.still
 ·rw [hs] at h; exact h
 rw [hs,cond_true] at h
 unfold callS at h
 unfold callM0
 simp only at h ⊢
 split at h
 rotate_left
 ·cases h
 split at h
 rotate_left
 ·cases h
 cases hd:noDup (reach H 64 (V.idss vs) [])
 ·rw [hd] at h; cases h
 rw [hd,cond_true] at h
 rw [cond_true]
 refine bind_again h fun u hu=>?_
 obtain ⟨v,H2,v',H2',rfl,e1,e2,e3,rfl⟩:=backS_spec hu
 have le:∀ i j,(reach H 64 (V.idss vs) [])[i]? = some j→backTo (reach H 64 (V.idss vs) []) H.length i=some j:=fun i j hij=>by
  unfold backTo
  rw [hij]
 show (backRes H (reach H 64 (V.idss vs) []) v H2 .ok).run=_
 unfold backRes
 rw [ren_le le _ _ e1,rensO_le le _ _ e2]
 simp only
 rw [e3,Nat.ble_eq_true_of_le (Nat.le_refl _)]
 rfl
theorem sound_callM {P:Program} {cx:Cx} {f:Nat} {vs:List V} {xs:List Value} {res:Res} (hM:MTabOk P cx.mtab) (hE:StartOk P E H β w)
  (hR:Rel w (Xs E H β) H β) (hl:xs.length=vs.length) (hv:∀ (k:Nat) (v:V) (x:Value),vs[k]? = some v→xs[k]? = some x→R w (Xs E H β) β v x)
  (h:(callM cx H f vs).run=some res):Normal P f∧Calls P f xs.toArray w (Outcome E H β w res):=sound_callM0 hM hE hR hl hv (callM_0 h)
theorem oren_back {ρ τ:Nat→Option Nat} (h:∀ i j,ρ i=some j→τ j=some i) (o u:O) (e:O.ren? ρ o=some u):O.ren? τ u=some o:=by
 cases o with
 | cells cs t =>
  unfold O.ren? at e
  simp only at e
  split at e
  ·rename_i ds hd; simp only [Option.some.injEq] at e; subst e; unfold O.ren?; simp only; rw [rens_back h cs ds hd]
  ·cases e
 | tok n sz=>simp only [O.ren?,Option.some.injEq] at e; subst e; rfl
 | obj sh vs =>
  unfold O.ren? at e
  simp only at e
  split at e
  ·rename_i ds hd; simp only [Option.some.injEq] at e; subst e; unfold O.ren?; simp only; rw [rens_back h vs ds hd]
  ·cases e
 | dead=>simp only [O.ren?,Option.some.injEq] at e; subst e; rfl
theorem rensO_back {ρ τ:Nat→Option Nat} (h:∀ i j,ρ i=some j→τ j=some i):∀ (l m:List O),rensO ρ l=some m→rensO τ m=some l
 | [],m,e=>by simp only [rensO,Option.some.injEq] at e; subst e; rfl
 | v :: r,m,e=>by
  unfold rensO at e
  split at e
  ·rename_i d f hd hf; simp only [Option.some.injEq] at e; subst e; unfold rensO; rw [oren_back h v d hd,rensO_back h r f hf]
  ·cases e
theorem setAll_same:∀ (σ:List Nat) (H os:List O),pickO H σ=some os→setAll H σ os=H
 | [],H,os,e=>by simp only [pickO,Option.some.injEq] at e; subst e; simp [setAll]
 | i :: σ,H,os,e=>by
  unfold pickO at e
  split at e
  ·rename_i o r h1 h2
   simp only [Option.some.injEq] at e
   subst e
   have hset:H.set i o=H:=by
    apply List.ext_getElem?
    intro j
    rw [List.getElem?_set]
    split
    ·rename_i hj; subst hj; split
     ·exact h1.symm
     ·rename_i hlt; rw [List.getElem?_eq_none (by omega)]
    ·rfl
   unfold setAll
   rw [hset]
   exact setAll_same σ H r h2
  ·cases e
theorem numO_run {cx:Cx} {f:Nat} {v:V} {H:List O} {r:Res} (h:(numO cx f v H).run=some r):r = .ok v H ∧ ∀ H',(numO cx f v H').run=some (.ok v H'):=by
 unfold numO at h ⊢
 cases hc:(hasN f cx.nums && !V.isInt v)
 ·rw [hc] at h
  cases h
  exact ⟨rfl,fun _=>rfl⟩
 ·rw [hc] at h
  cases h
theorem numO_ids {cx:Cx} {f:Nat} {v:V} {H:List O} {r:Res} (h:(numO cx f v H).run=some r) (hf:hasN f cx.nums=true):V.ids v=[]:=by
 unfold numO at h
 rw [hf,Bool.true_and] at h
 cases v with
 | int k n=>rfl
 | _=>cases h
theorem sound_callR {P:Program} {cx:Cx} {f:Nat} {vs:List V} {xs:List Value} {res:Res} (hM:RTabOk P cx.rtab) (hE:StartOk P E H β w)
  (hR:Rel w (Xs E H β) H β) (hl:xs.length=vs.length) (hv:∀ (k:Nat) (v:V) (x:Value),vs[k]? = some v→xs[k]? = some x→R w (Xs E H β) β v x)
  (h:(callR cx H f vs).run=some res):Normal P f∧Calls P f xs.toArray w (Outcome E H β w res):=by
 unfold callR at h
 generalize reach H 64 (V.idss vs) []=σ at h
 simp only at h
 split at h
 rotate_left
 ·cases h
 rename_i os hos
 split at h
 rotate_left
 ·cases h
 rename_i as Hs has hHs
 cases hd:noDup σ
 ·simp [hd,Tree.run] at h
 simp only [hd,cond_true] at h
 obtain ⟨v,h1,h2⟩:=bind_run h
 obtain ⟨s,hs,hs'⟩:=lookR_spec h1
 obtain ⟨hnorm,hcalls⟩:=hM _ hs as Hs v hs'
 obtain ⟨hi,hturn⟩:=into hE.1 hR hd hos hHs
 obtain ⟨q1,q2⟩:=rens_get has
 refine ⟨hnorm,?_⟩
 have:=hcalls w (Shut E H β Hs (pickL β σ)) (pickL β σ) xs ⟨hi.old,by rw [hi.same]; exact hE.2⟩ hi.rel (by omega) (fun k v x h1 h2=>by
  obtain ⟨u,hu,hu'⟩:=q2 k v h1
  rw [hi.same]
  exact ren_R hturn (hv k u x hu h2) v hu')
 refine this.mono ?_
 intro e w' ho
 split at h2
 rotate_left
 ·cases h2
 rename_i v' e1
 obtain ⟨rfl,_⟩:=numO_run h2
 obtain ⟨y,β2,he,st,hr⟩:=ho
 have hτ:∀ i j,(fun i=>place i σ) i=some j→backTo σ H.length j=some i:=fun i j hij=>by
  unfold backTo
  rw [place_some hij]
 have e2:=rensO_back (τ:=backTo σ H.length) hτ os Hs hHs
 have e3:σ.length≤Hs.length:=by rw [hi.lens.2]; exact Nat.le_refl _
 obtain ⟨s1,s2⟩:=back_out hE.1 hR hd hi st e3 e2
 have hset:=setAll_same σ H os hos
 rw [hset] at s1 s2
 exact ⟨y,_,he,s1,s2 v v' y hr (ren_le (fun a b hab=>by unfold backTo; rw [hab]) v v' e1)⟩
theorem sound_call {P:Program} {c:Call} {fo:Operand} {res:Res} (_hP:P=cx.P) (hT:TabOk P cx.tab) (hM:MTabOk P cx.mtab) (hRt:RTabOk P cx.rtab) (hE:StartOk P E H β w) (hR:Rel w (Xs E H β) H β)
  (hF:FR w (Xs E H β) β n t a) (ho:o.op = .call c) (hc:c.callee = .value fo) (h:(oCall cx H (rd t fo) (c.args.toList.map (rd t))).run=some res) (hk:Then E H β w a o K Q res):o.wp P a w K Q:=by
 have hrd:=fun x=>rd_R hF x
 have enter:∀ (f:Nat) (xs:List Value),Normal P f→(callFunc f xs.toArray).run P w = .ok (.enter f xs.toArray) w:=by
  rintro f xs ⟨fn,h1,h2,h3⟩
  obtain ⟨b,hb⟩:=Option.isSome_iff_exists.1 h3
  simp [callFunc,h1,h2,hb]
 have key:∀ (f:Nat) (vs:List V) (xs:List Value),xs.length=vs.length→(∀ (k:Nat) (v:V) (x:Value),vs[k]? = some v→xs[k]? = some x→R w (Xs E H β) β v x) →
   (callF cx H f vs).run=some res → ∃ q:Result Next,(callFunc f xs.toArray).run P w=q∧o.upon P a K Q q:=by
  intro f vs xs hl hv hcall
  unfold callF at hcall
  cases hkey:hasKey f cx.mtab
  rotate_left
  ·simp only [hkey,cond_true] at hcall
   obtain ⟨m1,m2⟩:=sound_callM hM hE hR hl hv hcall
   refine ⟨_,enter f xs m1,?_⟩
   rw [Oper.upon_enter]
   refine m2.mono ?_
   intro e w' ho
   cases res with
   | ok v H' =>
    obtain ⟨y,β',rfl,st,hr⟩:=ho
    exact hk y w' β' st hr
   | pan v H' =>
    obtain ⟨y,β',rfl,st,hr⟩:=ho
    exact hk y w' β' st hr
  simp only [hkey,cond_false] at hcall
  cases hkr:hasKey f cx.rtab
  rotate_left
  ·simp only [hkr,cond_true] at hcall
   obtain ⟨m1,m2⟩:=sound_callR hRt hE hR hl hv hcall
   refine ⟨_,enter f xs m1,?_⟩
   rw [Oper.upon_enter]
   refine m2.mono ?_
   intro e w' ho
   cases res with
   | ok v H' =>
    obtain ⟨y,β',rfl,st,hr⟩:=ho
    exact hk y w' β' st hr
   | pan v H' =>
    obtain ⟨y,β',rfl,st,hr⟩:=ho
    exact hk y w' β' st hr
  simp only [hkr,cond_false] at hcall
  unfold callP at hcall
  split at hcall
  rotate_left
  ·cases hcall
  rename_i as has
  obtain ⟨out,h1,h2⟩:=bind_run hcall
  simp only [Tree.run,Option.some.injEq] at h2
  subst h2
  obtain ⟨s,hs,hs'⟩:=look_spec h1
  obtain ⟨p1,p2⟩:=pures_get has
  rcases hT _ hs with hsnd | hsnd
  rotate_left
  ·obtain ⟨y,hy,hr⟩:=hsnd as out hs' w (Xs E H β) [] xs (by omega) (fun k v x h1 h2=>by
    obtain ⟨u,hu,hp⟩:=p2 k v h1
    exact pure_R (hv k u x hu h2) v hp)
   refine ⟨_,hy,?_⟩
   rw [Oper.upon_value]
   exact hk y w β (Step.refl hR) (hr.up β)
  obtain ⟨hnorm,hcalls⟩:=hsnd as out hs'
  refine ⟨_,enter f xs hnorm,?_⟩
  rw [Oper.upon_enter]
  have hEX:∀ b o,Xs E H β b o→b<w.heap.size:=fun b o h=>by
   rcases h with h | h
   ·exact (hE.1 b o h).1
   ·exact own_lt hR h
  have:=hcalls w (Xs E H β) xs ⟨hEX,hE.2⟩ (by omega) (fun k v x h1 h2=>by
   obtain ⟨u,hu,hp⟩:=p2 k v h1
   exact pure_R (hv k u x hu h2) v hp)
  intro cs
  obtain ⟨e,w',fr,⟨y,he,st,hr⟩,rest⟩:=this cs
  obtain ⟨s1,s2⟩:=Step.of_pure hR st
  refine ⟨e,w',fr,?_,rest⟩
  subst he
  exact hk y w' β s1 (s2 _ _ hr)
 have hargs:∀ (k:Nat) (v:V) (x:Value),(c.args.toList.map (rd t))[k]? = some v→(c.args.toList.map a.eval)[k]? = some x→R w (Xs E H β) β v x:=by
  intro k v x h1 h2
  simp only [List.getElem?_map,Option.map_eq_some_iff] at h1 h2
  obtain ⟨u,hu,rfl⟩:=h1
  obtain ⟨u',hu',rfl⟩:=h2
  rw [hu] at hu'
  simp only [Option.some.injEq] at hu'
  subst hu'
  exact hrd u
 have hmap:c.args.map a.eval=(c.args.toList.map a.eval).toArray:=by apply Array.ext'; simp
 unfold oCall at h
 split at h
 ·rename_i g first captured heq
  have hfo:=hrd fo
  rw [heq] at hfo
  generalize hev:a.eval fo=fv at hfo
  cases hfo
  cases hb:(Nat.beq first.size 0 && Nat.beq captured.size 0)
  ·simp [hb,Tree.run] at h
  simp only [hb,cond_true] at h
  obtain ⟨b1,b2⟩:=Bool.and_eq_true_iff.1 hb
  have b1:first = #[]:=Array.eq_empty_of_size_eq_zero (Nat.eq_of_beq_eq_true b1)
  have b2:captured = #[]:=Array.eq_empty_of_size_eq_zero (Nat.eq_of_beq_eq_true b2)
  subst b1
  subst b2
  obtain ⟨q,k1,k2⟩:=key g _ (c.args.toList.map a.eval) (by simp) hargs h
  unfold Oper.wp
  rw [← hmap] at k1
  simp only [execOp,ho,resolve,hc,hev,Deferred.ofValue,invoke,Sem.run_bind,Sem.run_pure,Result.andThen_ok,Array.empty_append,Array.append_empty]
  rw [k1]
  exact k2
 ·rename_i g first captured heq
  have hfo:=hrd fo
  rw [heq] at hfo
  generalize hev:a.eval fo=fv at hfo
  cases hfo with
  | clo _ _ _ _ xs ys hl hm h1 h2 =>
   obtain ⟨q,k1,k2⟩:=key g _ (xs++c.args.toList.map a.eval++ys) (by simp [hl,hm]) (by
    intro k v x hv hx
    by_cases hk1:k<first.length
    ·rw [List.append_assoc,List.getElem?_append_left hk1] at hv
     rw [List.append_assoc,List.getElem?_append_left (by omega)] at hx
     exact h1 k v x hv hx
    ·rw [List.append_assoc,List.getElem?_append_right (by omega)] at hv
     rw [List.append_assoc,List.getElem?_append_right (by omega),hl] at hx
     by_cases hk2:k - first.length<c.args.toList.length
     ·rw [List.getElem?_append_left (by simpa using hk2)] at hv hx
      exact hargs _ v x hv hx
     ·rw [List.getElem?_append_right (by simpa using hk2)] at hv hx
      simp only [List.length_map] at hv hx
      exact h2 _ v x hv hx) h
   unfold Oper.wp
   have e:(xs++c.args.toList.map a.eval++ys).toArray=xs.toArray++c.args.map a.eval++ys.toArray:=by rw [hmap]; simp
   rw [e] at k1
   simp only [execOp,ho,resolve,hc,hev,Deferred.ofValue,invoke,Sem.run_bind,Sem.run_pure,Result.andThen_ok]
   rw [k1]
   exact k2
 ·cases h
end
end Go.Ab
