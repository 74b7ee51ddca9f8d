/-
  The engine, part Ob: into a call that writes, and back. Conditions: none.
-/
import Derived.Test.YtbefgnmdliefjaaGreatDoorPk08
import Derived.Laws.RangeString
set_option linter.unusedVariables false
set_option linter.unusedSimpArgs false
namespace Go.Ab
section
variable {E:Nat→Nat→Prop} {H Hs os:List O} {β:List Loc} {w:World} {σ:List Nat}
def pickL (β:List Loc) (σ:List Nat):List Loc:=σ.filterMap fun i=>β[i]?
theorem pickL_get:∀ {σ:List Nat},(∀ i ∈ σ,i<β.length)→(pickL β σ).length=σ.length ∧ ∀ (k i:Nat),σ[k]? = some i→(pickL β σ)[k]? = β[i]?
 | [],_=>⟨rfl,by simp⟩
 | s :: σ,h=>by
  have hs:s<β.length:=h s (by simp)
  obtain ⟨g1,g2⟩:=pickL_get (σ:=σ) (fun i hi=>h i (by simp [hi]))
  have e:pickL β (s :: σ)=β[s] :: pickL β σ:=by simp [pickL,hs]
  rw [e]
  refine ⟨by simp [g1],fun k i hk=>?_⟩
  cases k with
  | zero=>simp only [List.getElem?_cons_zero,Option.some.injEq] at hk; subst hk; simp [hs]
  | succ k=>simpa using g2 k i (by simpa using hk)
theorem oren_tok {ρ:Nat→Option Nat} {o:O} {n sz:Nat} (h:O.ren? ρ o=some (.tok n sz)):o = .tok n sz:=by
 cases o with
 | cells cs e =>
  simp only [O.ren?] at h
  split at h <;> cases h
 | tok a b=>simpa [O.ren?] using h
 | obj sh vs =>
  simp only [O.ren?] at h
  split at h <;> cases h
 | dead=>simp [O.ren?] at h
theorem oren_cells {ρ:Nat→Option Nat} {o:O} {cs:List V} {e:TypeId} (h:O.ren? ρ o=some (.cells cs e)):∃ cs',o = .cells cs' e∧V.rens? ρ cs' = some cs:=by
 cases o with
 | cells ds e' =>
  simp only [O.ren?] at h
  split at h
  rotate_left
  ·cases h
  rename_i us hu
  cases h
  exact ⟨ds,rfl,hu⟩
 | tok a b=>simp [O.ren?] at h
 | obj sh vs =>
  simp only [O.ren?] at h
  split at h <;> cases h
 | dead=>simp [O.ren?] at h
theorem oren_obj {ρ:Nat→Option Nat} {o:O} {sh:Shape} {vs:List V} (h:O.ren? ρ o=some (.obj sh vs)):∃ vs',o = .obj sh vs' ∧ V.rens? ρ vs' = some vs:=by
 cases o with
 | obj sh' ds =>
  simp only [O.ren?] at h
  split at h
  rotate_left
  ·cases h
  rename_i us hu
  cases h
  exact ⟨ds,rfl,hu⟩
 | tok a b=>simp [O.ren?] at h
 | cells cs e =>
  simp only [O.ren?] at h
  split at h <;> cases h
 | dead=>simp [O.ren?] at h
theorem oren_live {ρ:Nat→Option Nat} {o o' : O} (h:O.ren? ρ o=some o'):o' ≠ .dead ↔ o ≠ .dead:=by
 cases o with
 | cells cs e =>
  simp only [O.ren?] at h
  split at h
  ·cases h; simp
  ·cases h
 | tok a b=>simp only [O.ren?,Option.some.injEq] at h; subst h; simp
 | obj sh vs =>
  simp only [O.ren?] at h
  split at h
  ·cases h; simp
  ·cases h
 | dead=>simp only [O.ren?,Option.some.injEq] at h; subst h; simp
theorem own_at {b o i:Nat} {loc:Loc} (hl:β[i]? = some loc) (hb:loc.block=b) (h:(∃ cs e,H[i]? = some (.cells cs e))∨(∃ n sz,H[i]? = some (.tok n sz)∧loc.base+n*sz≤o)∨(∃ sh vs,H[i]? = some (.obj sh vs))):Own H β b o∧live H i:=
 ⟨⟨i,loc,hl,hb,h⟩,by
  rcases h with ⟨cs,e,h⟩ | ⟨n,sz,h,_⟩ | ⟨sh,vs,h⟩
  ·exact ⟨_,h,by simp⟩
  ·exact ⟨_,h,by simp⟩
  ·exact ⟨_,h,by simp⟩⟩
theorem live_own {i:Nat} {loc:Loc} (h:live H i) (hl:β[i]? = some loc):∃ o,Own H β loc.block o:=by
 obtain ⟨o,h1,h2⟩:=h
 cases o with
 | cells cs e=>exact ⟨0,i,loc,hl,rfl,.inl ⟨cs,e,h1⟩⟩
 | tok n sz=>exact ⟨loc.base+n*sz,i,loc,hl,rfl,.inr (.inl ⟨n,sz,h1,Nat.le_refl _⟩)⟩
 | obj sh vs=>exact ⟨0,i,loc,hl,rfl,.inr (.inr ⟨sh,vs,h1⟩)⟩
 | dead=>exact absurd rfl h2
theorem Own.live_of {b o:Nat} (h:Own H β b o):∃ i loc,live H i∧β[i]? = some loc∧loc.block=b:=by
 obtain ⟨i,loc,h1,h2,h3⟩:=h
 exact ⟨i,loc,(own_at (o:=o) h1 h2 h3).2,h1,h2⟩
def Shut (E:Nat→Nat→Prop) (H:List O) (β:List Loc) (Hs:List O) (βs:List Loc) (b o:Nat):Prop:=Xs E H β b o∧¬ Own Hs βs b o
structure Into (E:Nat→Nat→Prop) (H:List O) (β:List Loc) (w:World) (σ:List Nat) (Hs:List O) (βs:List Loc):Prop where
 rel:Rel w (Xs (Shut E H β Hs βs) Hs βs) Hs βs
 sub:∀ b o,Own Hs βs b o→Own H β b o
 same:Xs (Shut E H β Hs βs) Hs βs=Xs E H β
 old:∀ b o,Shut E H β Hs βs b o→b<w.heap.size∧¬ Own Hs βs b o
 lens:βs.length=σ.length∧Hs.length=σ.length
 get:∀ (k i:Nat),σ[k]? = some i→i<H.length∧βs[k]? = β[i]? ∧ (live Hs k ↔ live H i)
theorem into (hE:∀ b o,E b o→b<w.heap.size∧¬ Own H β b o) (hR:Rel w (Xs E H β) H β) (hσ:noDup σ=true) (hp:pickO H σ=some os)
  (hr:rensO (fun i=>place i σ) os=some Hs):Into E H β w σ Hs (pickL β σ)∧Turned (fun i=>place i σ) β (pickL β σ):=by
 obtain ⟨p1,p2⟩:=pickO_get hp
 obtain ⟨r1,r2⟩:=rensO_get hr
 have hlt:∀ i ∈ σ,i<β.length:=fun i hi=>by
  obtain ⟨k,hk⟩:=List.getElem?_of_mem hi
  rw [← hR.len]; exact (p2 k i hk).1
 obtain ⟨l1,l2⟩:=pickL_get (β:=β) hlt
 have hturn:Turned (fun i=>place i σ) β (pickL β σ):=fun i j loc h1 h2=>by rw [l2 j i (place_some h1),h2]
 have back:∀ (k:Nat) o,Hs[k]? = some o → ∃ i u,σ[k]? = some i∧H[i]? = some u∧O.ren? (fun i=>place i σ) u=some o:=by
  intro k o h
  obtain ⟨u,hu,hu'⟩:=r2 k o h
  have hk:k<σ.length:=by rw [← p1]; exact (List.getElem?_eq_some_iff.1 hu).1
  refine ⟨σ[k],u,by simp [hk],?_,hu'⟩
  rw [← (p2 k σ[k] (by simp [hk])).2,hu]
 have hsub:∀ b o,Own Hs (pickL β σ) b o→Own H β b o:=by
  rintro b o ⟨k,loc,h1,h2,h3⟩
  have hk:k<σ.length:=by rw [← l1]; exact (List.getElem?_eq_some_iff.1 h1).1
  have hk' : σ[k]? = some σ[k]:=by simp [hk]
  rw [l2 k _ hk'] at h1
  refine ⟨σ[k],loc,h1,h2,?_⟩
  rcases h3 with ⟨cs,e,h⟩ | ⟨n,sz,h,h'⟩ | ⟨sh,vs,h⟩
  ·obtain ⟨i,u,e1,e2,e3⟩:=back k _ h
   rw [hk'] at e1
   simp only [Option.some.injEq] at e1
   subst e1
   obtain ⟨cs',rfl,_⟩:=oren_cells e3
   exact .inl ⟨cs',e,e2⟩
  ·obtain ⟨i,u,e1,e2,e3⟩:=back k _ h
   rw [hk'] at e1
   simp only [Option.some.injEq] at e1
   subst e1
   have:=oren_tok e3
   subst this
   exact .inr (.inl ⟨n,sz,e2,h'⟩)
  ·obtain ⟨i,u,e1,e2,e3⟩:=back k _ h
   rw [hk'] at e1
   simp only [Option.some.injEq] at e1
   subst e1
   obtain ⟨vs',rfl,_⟩:=oren_obj e3
   exact .inr (.inr ⟨sh,vs',e2⟩)
 have hsame:Xs (Shut E H β Hs (pickL β σ)) Hs (pickL β σ)=Xs E H β:=by
  funext b o
  apply propext
  constructor
  ·rintro (⟨h,_⟩ | h)
   ·exact h
   ·exact .inr (hsub b o h)
  ·intro h
   by_cases hh:Own Hs (pickL β σ) b o
   ·exact .inr hh
   ·exact .inl ⟨h,hh⟩
 have hlive:∀ (k i:Nat),σ[k]? = some i→(live Hs k ↔ live H i):=by
  intro k i hk
  constructor
  ·rintro ⟨o,h1,h2⟩
   obtain ⟨i',u,e1,e2,e3⟩:=back k o h1
   rw [hk] at e1
   simp only [Option.some.injEq] at e1
   subst e1
   exact ⟨u,e2,(oren_live e3).1 h2⟩
  ·rintro ⟨u,h1,h2⟩
   have hk' : k<Hs.length:=by rw [r1,p1]; exact (List.getElem?_eq_some_iff.1 hk).1
   have hget:Hs[k]? = some Hs[k]:=by simp [hk']
   obtain ⟨i',u',e1,e2,e3⟩:=back k _ hget
   rw [hk] at e1
   simp only [Option.some.injEq] at e1
   subst e1
   rw [h1] at e2
   simp only [Option.some.injEq] at e2
   subst e2
   exact ⟨_,hget,(oren_live e3).2 h2⟩
 refine ⟨⟨?_,hsub,hsame,?_,⟨l1,by omega⟩,fun k i hk=>⟨(p2 k i hk).1,l2 k i hk,hlive k i hk⟩⟩,hturn⟩
 ·rw [hsame]
  refine ⟨by omega,fun k cs e loc h1 h2=>?_,fun k n sz loc h1 h2=>?_,fun k sh vs loc h1 h2=>?_,fun k k' l l' h1 h2 h3 h4 h5=>?_⟩
  ·obtain ⟨i,u,e1,e2,e3⟩:=back k _ h1
   obtain ⟨cs',rfl,hren⟩:=oren_cells e3
   rw [l2 k i e1] at h2
   obtain ⟨g1,c,e',g2,g3,g4,g5⟩:=hR.cells i cs' e loc e2 h2
   obtain ⟨q1,q2⟩:=rens_get hren
   refine ⟨g1,c,e',g2,g3,⟨by have:=g4.1; omega,fun he=>by have:=g4.2 he; omega⟩,fun m v hv=>?_⟩
   obtain ⟨u,hu,hu'⟩:=q2 m v hv
   obtain ⟨x,hx,hr⟩:=g5 m u hu
   exact ⟨x,hx,ren_R hturn hr v hu'⟩
  ·obtain ⟨i,u,e1,e2,e3⟩:=back k _ h1
   have:=oren_tok e3
   subst this
   rw [l2 k i e1] at h2
   exact hR.tok i n sz loc e2 h2
  ·obtain ⟨i,u,e1,e2,e3⟩:=back k _ h1
   obtain ⟨vs',rfl,hren⟩:=oren_obj e3
   rw [l2 k i e1] at h2
   obtain ⟨g1,gb,ob,xs,g2,g3,g5⟩:=hR.objs i sh vs' loc e2 h2
   obtain ⟨q1,q2⟩:=rens_get hren
   refine ⟨g1,gb,ob,xs,g2,g3,fun m v hv=>?_⟩
   obtain ⟨u,hu,hu'⟩:=q2 m v hv
   obtain ⟨x,hx,hr⟩:=g5 m u hu
   exact ⟨x,hx,ren_R hturn hr v hu'⟩
  ·have hk:k<σ.length:=by rw [← l1]; exact (List.getElem?_eq_some_iff.1 h3).1
   have hk' : k' < σ.length:=by rw [← l1]; exact (List.getElem?_eq_some_iff.1 h4).1
   have g1:σ[k]? = some σ[k]:=by simp [hk]
   have g2:σ[k']? = some σ[k']:=by simp [hk']
   have:=hR.disj σ[k] σ[k'] l l' ((hlive _ _ g1).1 h1) ((hlive _ _ g2).1 h2) (by rw [← l2 _ _ g1,h3]) (by rw [← l2 _ _ g2,h4]) h5
   rw [this] at g1
   exact noDup_inj hσ g1 g2
 ·rintro b o ⟨h1,h2⟩
  refine ⟨?_,h2⟩
  rcases h1 with h | h
  ·exact (hE b o h).1
  ·exact own_lt hR h
variable {βs β2:List Loc} {w' : World} {H2 H2' : List O}
theorem back_out (hE:∀ b o,E b o→b<w.heap.size∧¬ Own H β b o) (hR:Rel w (Xs E H β) H β) (hσ:noDup σ=true) (hi:Into E H β w σ Hs βs)
  (s:Step (Shut E H β Hs βs) Hs βs w H2 β2 w') (hl:σ.length≤H2.length) (hr:rensO (backTo σ H.length) H2=some H2') :
  Step E H β w (setAll H σ H2') (setAll β σ β2) w' ∧ ∀ v v' y,R w' (Xs (Shut E H β Hs βs) H2 β2) β2 v y→V.ren? (backTo σ H.length) v=some v' → R w' (Xs E (setAll H σ H2') (setAll β σ β2)) (setAll β σ β2) v' y:=by
 obtain ⟨r1,r2⟩:=rensO_get hr
 have hlb:=hR.len
 have hl2:=s.rel.len
 have hlt:∀ i ∈ σ,i<H.length:=fun i h=>by
  obtain ⟨k,hk⟩:=List.getElem?_of_mem h
  exact (hi.get k i hk).1
 have hlt' : ∀ i ∈ σ,i<β.length:=fun i h=>hlb ▸ hlt i h
 have newH:∀ i j,backTo σ H.length j=some i→(setAll H σ H2')[i]? = H2'[j]? := fun i j h=>setAll_new H σ H2' i j hσ hlt (by omega) h
 have newB:∀ i j,backTo σ H.length j=some i→(setAll β σ β2)[i]? = β2[j]? := fun i j h=>setAll_new β σ β2 i j hσ hlt' (by omega) (by rw [← hlb]; exact h)
 have oldH:∀ i,i<H.length→i ∉ σ→(setAll H σ H2')[i]? = H[i]? := fun i h1 h2=>setAll_old H σ H2' i h1 h2 (by omega)
 have oldB:∀ i,i<H.length→i ∉ σ→(setAll β σ β2)[i]? = β[i]? := fun i h1 h2=>setAll_old β σ β2 i (by omega) h2 (by omega)
 have cases3:∀ (i:Nat) loc,(setAll β σ β2)[i]? = some loc→(i<H.length∧i ∉ σ∧β[i]? = some loc) ∨ ∃ j,backTo σ H.length j=some i∧β2[j]? = some loc:=by
  intro i loc h
  by_cases hc:i<H.length∧i ∉ σ
  ·exact .inl ⟨hc.1,hc.2,by rw [← oldB i hc.1 hc.2,h]⟩
  ·obtain ⟨j,hj⟩:=backTo_all (σ:=σ) (n:=H.length) hc
   exact .inr ⟨j,hj,by rw [← newB i j hj,h]⟩
 have backH:∀ (j:Nat) o,H2'[j]? = some o → ∃ u,H2[j]? = some u∧O.ren? (backTo σ H.length) u=some o:=r2
 have ownNew:∀ i j loc b o,backTo σ H.length j=some i→β2[j]? = some loc→loc.block=b →
   ((∃ cs e,(setAll H σ H2')[i]? = some (.cells cs e))∨(∃ n sz,(setAll H σ H2')[i]? = some (.tok n sz)∧loc.base+n*sz≤o)∨(∃ sh vs,(setAll H σ H2')[i]? = some (.obj sh vs)))→Own H2 β2 b o:=by
  intro i j loc b o h1 h2 h3 h4
  refine ⟨j,loc,h2,h3,?_⟩
  rw [newH i j h1] at h4
  rcases h4 with ⟨cs,e,h⟩ | ⟨n,sz,h,h'⟩ | ⟨sh,vs,h⟩
  ·obtain ⟨u,hu,hu'⟩:=backH j _ h
   obtain ⟨cs',rfl,_⟩:=oren_cells hu'
   exact .inl ⟨cs',e,hu⟩
  ·obtain ⟨u,hu,hu'⟩:=backH j _ h
   have:=oren_tok hu'
   subst this
   exact .inr (.inl ⟨n,sz,hu,h'⟩)
  ·obtain ⟨u,hu,hu'⟩:=backH j _ h
   obtain ⟨vs',rfl,_⟩:=oren_obj hu'
   exact .inr (.inr ⟨sh,vs',hu⟩)
 have ownSplit:∀ b o,Own (setAll H σ H2') (setAll β σ β2) b o→(∃ i loc,i<H.length∧i ∉ σ∧β[i]? = some loc∧loc.block=b∧live H i∧Own H β b o)∨Own H2 β2 b o:=by
  rintro b o ⟨i,loc,h1,h2,h3⟩
  rcases cases3 i loc h1 with ⟨g1,g2,g3⟩ | ⟨j,g1,g2⟩
  ·rw [oldH i g1 g2] at h3
   obtain ⟨a1,a2⟩:=own_at (o:=o) g3 h2 h3
   exact .inl ⟨i,loc,g1,g2,g3,h2,a2,a1⟩
  ·exact .inr (ownNew i j loc b o g1 g2 h2 h3)
 have apart:∀ i loc,i ∉ σ→β[i]? = some loc→live H i → ∀ o,¬ Own Hs βs loc.block o:=by
  rintro i loc h1 h2 h3 o ho
  obtain ⟨k,l,g1,g2,g3⟩:=ho.live_of
  have hk:k<σ.length:=by rw [← hi.lens.1]; exact (List.getElem?_eq_some_iff.1 g2).1
  obtain ⟨_,q2,q3⟩:=hi.get k σ[k] (by simp [hk])
  have:=hR.disj i σ[k] loc l h3 (q3.1 g1) h2 (by rw [← q2,g2]) g3.symm
  exact h1 (by rw [this]; simp)
 have hX:∀ b o,Xs E (setAll H σ H2') (setAll β σ β2) b o→Xs (Shut E H β Hs βs) H2 β2 b o:=by
  rintro b o (h | h)
  ·exact .inl ⟨.inl h,fun h' => (hE b o h).2 (hi.sub b o h')⟩
  ·rcases ownSplit b o h with ⟨i,loc,g1,g2,g3,g4,g5,g6⟩ | h
   ·subst g4
    exact .inl ⟨.inr g6,apart i loc g2 g3 g5 o⟩
   ·exact .inr h
 have hturn:Turned (backTo σ H.length) β2 (setAll β σ β2):=fun j i loc h1 h2=>by rw [newB i j h1,h2]
 have hlocs:LocLe β (setAll β σ β2):=by
  intro i loc h
  by_cases hc:i ∈ σ
  ·obtain ⟨k,hk⟩:=List.getElem?_of_mem hc
   obtain ⟨q1,q2,_⟩:=hi.get k i hk
   obtain ⟨loc',g1,g2⟩:=s.locs k loc (by rw [q2,h])
   exact ⟨loc',by rw [newB i k (by simp [backTo,hk]),g1],g2⟩
  ·have:i<H.length:=by rw [hlb]; exact (List.getElem?_eq_some_iff.1 h).1
   exact ⟨loc,by rw [oldB i this hc,h],.inl rfl⟩
 have hstab:=s.stab
 rw [hi.same] at hstab
 have keep:∀ v x,R w (Xs E H β) β v x→R w' (Xs E (setAll H σ H2') (setAll β σ β2)) (setAll β σ β2) v x:=fun v x h=>(h.stab hstab _ hlocs).weak hX
 have turnR:∀ v v' y,R w' (Xs (Shut E H β Hs βs) H2 β2) β2 v y→V.ren? (backTo σ H.length) v=some v' → R w' (Xs E (setAll H σ H2') (setAll β σ β2)) (setAll β σ β2) v' y:=
  fun v v' y h hv=>(ren_R hturn h v' hv).weak hX
 have stay:∀ i loc,i ∉ σ→β[i]? = some loc→live H i→loc.block<w.heap.size→w'.heap[loc.block]? = w.heap[loc.block]? := by
  intro i loc h1 h2 h3 h4
  rcases s.pres loc.block h4 with h | ⟨⟨o,h⟩,_⟩ | ⟨⟨o,h⟩,_⟩
  ·exact h
  ·exact absurd h (apart i loc h1 h2 h3 o)
  ·exact absurd h (apart i loc h1 h2 h3 o)
 refine ⟨⟨⟨?_,fun i cs e loc h1 h2=>?_,fun i n sz loc h1 h2=>?_,fun i sh vs loc h1 h2=>?_,?_⟩,s.os,s.tape,s.output,s.size,fun b hb=>?_,fun b o h=>?_,hlocs⟩,turnR⟩
 ·rw [setAll_len _ _ _ (by omega),setAll_len _ _ _ (by omega)]; omega
 ·rcases cases3 i loc h2 with ⟨g1,g2,g3⟩ | ⟨j,g1,g2⟩
  ·rw [oldH i g1 g2] at h1
   obtain ⟨a1,c,e',a2,a3,a4,a5⟩:=hR.cells i cs e loc h1 g3
   refine ⟨a1,c,e',?_,a3,a4,fun k v hv=>let ⟨x,hx,hr⟩:=a5 k v hv; ⟨x,hx,keep v x hr⟩⟩
   rw [stay i loc g2 g3 ⟨_,h1,by simp⟩ (heap_lt a2)]; exact a2
  ·rw [newH i j g1] at h1
   obtain ⟨u,hu,hu'⟩:=backH j _ h1
   obtain ⟨cs',rfl,hcs⟩:=oren_cells hu'
   obtain ⟨a1,c,e',a2,a3,a4,a5⟩:=s.rel.cells j cs' e loc hu g2
   obtain ⟨q1,q2⟩:=rens_get hcs
   refine ⟨a1,c,e',a2,a3,⟨by have:=a4.1; omega,fun he=>by have:=a4.2 he; omega⟩,fun k v hv=>?_⟩
   obtain ⟨u,hu,hu'⟩:=q2 k v hv
   obtain ⟨x,hx,hr⟩:=a5 k u hu
   exact ⟨x,hx,turnR u v x hr hu'⟩
 ·rcases cases3 i loc h2 with ⟨g1,g2,g3⟩ | ⟨j,g1,g2⟩
  ·rw [oldH i g1 g2] at h1
   obtain ⟨a1,a2,c,e',a3,a4⟩:=hR.tok i n sz loc h1 g3
   refine ⟨a1,a2,c,e',?_,a4⟩
   rw [stay i loc g2 g3 ⟨_,h1,by simp⟩ (heap_lt a3)]; exact a3
  ·rw [newH i j g1] at h1
   obtain ⟨u,hu,hu'⟩:=backH j _ h1
   have:=oren_tok hu'
   subst this
   exact s.rel.tok j n sz loc hu g2
 ·rcases cases3 i loc h2 with ⟨g1,g2,g3⟩ | ⟨j,g1,g2⟩
  ·rw [oldH i g1 g2] at h1
   obtain ⟨a1,ab,ob,xs,a2,a3,a5⟩:=hR.objs i sh vs loc h1 g3
   refine ⟨a1,ab,ob,xs,?_,a3,fun k v hv=>let ⟨x,hx,hr⟩:=a5 k v hv; ⟨x,hx,keep v x hr⟩⟩
   rw [stay i loc g2 g3 ⟨_,h1,by simp⟩ (heap_lt a2)]; exact a2
  ·rw [newH i j g1] at h1
   obtain ⟨u,hu,hu'⟩:=backH j _ h1
   obtain ⟨vs',rfl,hcs⟩:=oren_obj hu'
   obtain ⟨a1,ab,ob,xs,a2,a3,a5⟩:=s.rel.objs j sh vs' loc hu g2
   obtain ⟨q1,q2⟩:=rens_get hcs
   refine ⟨a1,ab,ob,xs,a2,a3,fun k v hv=>?_⟩
   obtain ⟨u,hu,hu'⟩:=q2 k v hv
   obtain ⟨x,hx,hr⟩:=a5 k u hu
   exact ⟨x,hx,turnR u v x hr hu'⟩
 ·-- two that live lie apart
  have half:∀ i i' l l',live (setAll H σ H2') i→live (setAll H σ H2') i' → i<H.length∧i ∉ σ∧β[i]? = some l→(∃ j,backTo σ H.length j=some i' ∧ β2[j]? = some l')→l.block=l'.block→False:=by
   rintro i i' l l' h1 h2 ⟨g1,g2,g3⟩ ⟨j,a1,a2⟩ hb
   have hli:live H i:=by obtain ⟨o,e1,e2⟩:=h1; exact ⟨o,by rw [← oldH i g1 g2,e1],e2⟩
   have hlj:live H2 j:=by
    obtain ⟨o,e1,e2⟩:=h2
    rw [newH i' j a1] at e1
    obtain ⟨u,hu,hu'⟩:=backH j _ e1
    exact ⟨u,hu,(oren_live hu').1 e2⟩
   obtain ⟨o,ho⟩:=live_own hlj a2
   rcases s.own _ o ho with h | h
   ·rw [← hb] at h; exact apart i l g2 g3 hli o h
   ·obtain ⟨o',ho'⟩:=live_own hli g3
    have:=own_lt hR ho'
    omega
  intro i i' l l' h1 h2 h3 h4 h5
  rcases cases3 i l h3 with g | g
  ·rcases cases3 i' l' h4 with k | k
   ·have hli:live H i:=by obtain ⟨o,e1,e2⟩:=h1; exact ⟨o,by rw [← oldH i g.1 g.2.1,e1],e2⟩
    have hli' : live H i' := by obtain ⟨o,e1,e2⟩:=h2; exact ⟨o,by rw [← oldH i' k.1 k.2.1,e1],e2⟩
    exact hR.disj i i' l l' hli hli' g.2.2 k.2.2 h5
   ·exact (half i i' l l' h1 h2 g k h5).elim
  ·rcases cases3 i' l' h4 with k | k
   ·exact (half i' i l' l h2 h1 k g h5.symm).elim
   ·obtain ⟨j,a1,a2⟩:=g
    obtain ⟨j',b1,b2⟩:=k
    have lv:∀ i j,live (setAll H σ H2') i→backTo σ H.length j=some i→live H2 j:=by
     rintro i j ⟨o,e1,e2⟩ a1
     rw [newH i j a1] at e1
     obtain ⟨u,hu,hu'⟩:=backH j _ e1
     exact ⟨u,hu,(oren_live hu').1 e2⟩
    have:=s.rel.disj j j' l l' (lv i j h1 a1) (lv i' j' h2 b1) a2 b2 h5
    subst this
    rw [a1] at b1
    exact Option.some.inj b1
 ·rcases s.pres b hb with h | ⟨⟨o,ho⟩,c,c',e,h1,h2,h3,h4⟩ | ⟨⟨o,ho⟩,x,y,h1,h2,h3,h4⟩
  ·exact .inl h
  ·exact .inr (.inl ⟨⟨o,hi.sub b o ho⟩,c,c',e,h1,h2,h3,fun o h=>h4 o (fun h' => h (hi.sub b o h'))⟩)
  ·exact .inr (.inr ⟨⟨o,hi.sub b o ho⟩,x,y,h1,h2,h3,h4⟩)
 ·rcases ownSplit b o h with ⟨i,loc,g1,g2,g3,g4,g5,g6⟩ | h
  ·exact .inl g6
  ·rcases s.own b o h with h | h
   ·exact .inl (hi.sub b o h)
   ·exact .inr h
end
end Go.Ab

namespace Go.Ab
open Go.MapKept
section
variable {P:Program} {E:Nat→Nat→Prop} {H:List O} {β:List Loc} {w:World}
theorem Step.pushObj (hR:Rel w (Xs E H β) H β) (ob:Obj) {sh:Shape} {xs:List Value} {vs:List V} {loc:Loc} (hsh:Shp sh ob xs)
  (hv:∀ (k:Nat) v,vs[k]? = some v → ∃ x,xs[k]? = some x∧R w (Xs E H β) β v x) (hloc:loc.block=w.heap.size) (hk:loc.kind=false) (hb:loc.base=0) :
  Step E H β w (H++[.obj sh vs]) (β++[loc]) (w.alloc ob):=Step.pushObjD hR ob hsh hv hloc hk hb
theorem Step.setObj (hR:Rel w (Xs E H β) H β) {id:Nat} {sh sh' : Shape} {vs vs' : List V} {loc:Loc} {ob' : Obj} {xs' : List Value}
  (hid:H[id]? = some (.obj sh vs)) (hloc:β[id]? = some loc) (hsh:Shp sh' ob' xs') (hv:∀ (k:Nat) v,vs'[k]? = some v → ∃ x,xs'[k]? = some x∧R w (Xs E H β) β v x)
  (hp:sh.isPage=false:=by rfl) (hp' : sh'.isPage=false:=by rfl) :
  Step E H β w (H.set id (.obj sh' vs')) β { w with heap:=w.heap.setIfInBounds loc.block ob' }:=
 Step.setObjG hR hid hloc hsh hv fun _ _ _ h=>.inl ⟨h.special hp,hsh.special hp'⟩
theorem zeroPtr_run {t:TypeId} (h:zeroPtr P t=true) (w:World):(zeroValue t).run P w = .ok (.pointer none) w:=by
 unfold zeroPtr at h
 split at h
 ·rename_i i hi
  split at h
  ·rename_i hz
   simp [zeroValue,typeInfo,hi,hz]
  ·cases h
 ·cases h
theorem isU64_und {t:TypeId} (h:isU64 P t=true):P.underlying t=some (.int .u64):=by
 unfold isU64 at h
 split at h
 ·assumption
 ·cases h
theorem sound_makeMap (hR:Rel w (Xs E H β) H β) (t:TypeId) :
  ∃ z w' β',(Instr.makeMap t none).run P w = .ok z w' ∧ Step E H β w (H++[.obj (.map []) []]) β' w' ∧ R w' (Xs E (H++[.obj (.map []) []]) β') β' (.mp H.length) z:=by
 refine ⟨.map (some w.heap.size),_,β++[{ kind:=false,block:=w.heap.size,base:=0,n:=0,size:=0 }],rfl,
  Step.pushObj hR (.map #[] 0) (xs:=[]) ⟨#[],0,[],rfl,stamped_empty 0,.nil,.refl _,rfl,rfl⟩ (fun k v h=>by simp at h) rfl rfl rfl,?_⟩
 exact .mp _ _ { kind:=false,block:=w.heap.size,base:=0,n:=0,size:=0 } (by rw [hR.len]; simp) rfl
theorem lookK_run {z:V} {f:V→Bool→V} {u:V} {n:Int}:∀ {keys:List Int} {vs:List V},(lookK z f keys vs n).run=some u →
  (∃ (i:Nat) (v:V),keys[i]? = some n∧vs[i]? = some v∧u=f v true)∨(n ∉ keys∧u=f z false)
 | [],[],h=>by simp only [lookK,Tree.run,Option.some.injEq] at h; exact .inr ⟨by simp,h.symm⟩
 | k :: ks,v :: vs,h=>by
  unfold lookK at h
  simp only [Tree.run] at h
  cases hb:(n == k)
  ·rw [hb,cond_false] at h
   rcases lookK_run h with ⟨i,v',h1,h2,h3⟩ | ⟨h1,h2⟩
   ·exact .inl ⟨i+1,v',by simpa using h1,by simpa using h2,h3⟩
   ·refine .inr ⟨?_,h2⟩
    simp only [List.mem_cons,not_or]
    exact ⟨fun e=>by rw [e] at hb; simp at hb,h1⟩
  ·rw [hb,cond_true] at h
   simp only [Option.some.injEq] at h
   exact .inl ⟨0,v,by simp [eq_of_beq hb],rfl,h.symm⟩
 | [],_ :: _,h=>by cases h
 | _ :: _,[],h=>by cases h
theorem map_facts {keys:List Int} {ob:Obj} {xs:List Value} (h:Shp (.map keys) ob xs) :
  ∃ (arr:Array MapEntry) (clock:Nat) (l:List MapEntry),ob = .map arr clock∧Stamped arr clock∧keys.Pairwise (· < ·)∧l.Perm arr.toList∧l.map (·.key)=keys.map (Value.int .u64)∧l.map (·.val)=xs ∧
   (∀ x ∈ arr.toList,IsKey (.int .u64) x.key) ∧ ∀ (i:Nat) e n,l[i]? = some e→e.key = .int .u64 n→keys[i]? = some n∧xs[i]? = some e.val:=by
 obtain ⟨arr,clock,l,h1,h2,h3,h4,h5,h6⟩:=h
 refine ⟨arr,clock,l,h1,h2,h3,h4,h5,h6,fun x hx=>?_,fun i e n hi he=>⟨?_,?_⟩⟩
 ·have:x.key ∈ l.map (·.key):=List.mem_map_of_mem (h4.mem_iff.2 hx)
  rw [h5] at this
  obtain ⟨n,_,hn⟩:=List.mem_map.1 this
  rw [← hn]
  rfl
 ·have:(l.map (·.key))[i]? = some (.int .u64 n):=by rw [List.getElem?_map,hi]; exact congrArg some he
  rw [h5,List.getElem?_map] at this
  obtain ⟨m,hm,hm'⟩:=Option.map_eq_some_iff.1 this
  cases hm'
  exact hm
 ·rw [← h6,List.getElem?_map,hi]
  rfl
theorem sorted_inj {keys:List Int} (h:keys.Pairwise (· < ·)) {i j:Nat} {n:Int} (hi:keys[i]? = some n) (hj:keys[j]? = some n):i=j:=by
 obtain ⟨hi',ei⟩:=List.getElem?_eq_some_iff.1 hi
 obtain ⟨hj',ej⟩:=List.getElem?_eq_some_iff.1 hj
 rcases Nat.lt_trichotomy i j with hlt | heq | hgt
 ·have:=List.pairwise_iff_getElem.1 h i j hi' hj' hlt
  omega
 ·exact heq
 ·have:=List.pairwise_iff_getElem.1 h j i hj' hi' hgt
  omega
theorem sound_lookup {t:TypeId} {x ix u:V} {sx si:Value} {ok:Bool} (hR:Rel w (Xs E H β) H β) (hx:R w (Xs E H β) β x sx) (hi:R w (Xs E H β) β ix si) (h:(oLookup P H t x ix ok).run=some u) :
  ∃ z,(Instr.lookup t sx si ok).run P w = .ok z w∧R w (Xs E H β) β u z:=by
 unfold oLookup at h
 split at h
 rotate_left
 ·cases h
 rename_i kt et hm
 split at h
 rotate_left
 ·cases h
 rename_i n id
 split at h
 rotate_left
 ·cases h
 rename_i keys vs hid
 cases hc:(isU64 P kt && zeroPtr P et)
 ·rw [hc] at h; cases h
 rw [hc,cond_true] at h
 rw [Bool.and_eq_true] at hc
 have hd:=isU64_und hc.1
 cases hi
 cases hx with
 | mp _ _ loc hloc hk =>
  obtain ⟨_,_,ob,xs,hob,hsh,hval⟩:=hR.objs id _ _ loc hid hloc
  obtain ⟨arr,clock,l,rfl,hst,hsort,hperm,hkeys,hvals,hisk,hat⟩:=map_facts hsh
  have hk:IsKey (.int .u64) (.int .u64 n):=rfl
  have fin:∀ (r:Option (Nat × Value)) (v:V) (b:Bool) (y:Value),Instr.findNow (.int .u64) (.int .u64 n) arr.toList 0=some r→u=okV ok v b→R w (Xs E H β) β v y →
    (r=none→y = .pointer none∧b=false)→(∀ q,r=some q→y=q.2∧b=true) → ∃ z,(Instr.lookup t (.map (some loc.block)) (.int .u64 n) ok).run P w = .ok z w∧R w (Xs E H β) β u z:=by
   intro r v b y hf hu hr h1 h2
   have hpair:R w (Xs E H β) β (.tup [v,.bool b]) (.tuple #[y,.bool b]):=.tup _ _ [y,.bool b] rfl fun k v' x hv hx=>by
    match k,hv,hx with
    | 0,hv,hx=>cases hv; cases hx; exact hr
    | 1,hv,hx=>cases hv; cases hx; exact .bool _ _
   cases r with
   | none =>
    obtain ⟨rfl,rfl⟩:=h1 rfl
    refine ⟨if ok then .tuple #[.pointer none,.bool false] else .pointer none,?_,?_⟩
    ·simp [Instr.lookup,run_underlying hm,run_getObj_map hob,run_checkKey hd hk,run_findKey hd hf,zeroPtr_run hc.2,Result.andThen]
    ·rw [hu]
     cases ok
     ·exact hr
     ·exact hpair
   | some q =>
    obtain ⟨rfl,rfl⟩:=h2 q rfl
    refine ⟨if ok then .tuple #[q.2,.bool true] else q.2,?_,?_⟩
    ·obtain ⟨q1,q2⟩:=q
     simp [Instr.lookup,run_underlying hm,run_getObj_map hob,run_checkKey hd hk,run_findKey hd hf,Result.andThen]
    ·rw [hu]
     cases ok
     ·exact hr
     ·exact hpair
  rcases findNow_spec hk arr.toList 0 hisk with ⟨f1,f2⟩ | ⟨j,e,f1,f2,f3⟩
  ·rcases lookK_run h with ⟨i,v,g1,g2,g3⟩ | ⟨g1,g2⟩
   ·exfalso
    have hl:(l.map (·.key))[i]? = some (.int .u64 n):=by rw [hkeys,List.getElem?_map,g1]; rfl
    obtain ⟨e,he,he'⟩:=List.mem_map.1 (List.mem_of_getElem? hl)
    exact f2 e (hperm.mem_iff.1 he) he'
   ·exact fin none _ false (.pointer none) f1 g2 (.val _ _) (fun _=>⟨rfl,rfl⟩) (fun q hq=>by cases hq)
  ·have hel:e ∈ l:=hperm.mem_iff.2 (List.mem_of_getElem? f2)
   obtain ⟨i,hi⟩:=List.getElem?_of_mem hel
   obtain ⟨k1,k2⟩:=hat i e n hi f3
   rcases lookK_run h with ⟨i',v,g1,g2,g3⟩ | ⟨g1,g2⟩
   ·have:=sorted_inj hsort k1 g1
    subst this
    obtain ⟨y,hy,hr⟩:=hval i v g2
    rw [k2] at hy
    cases hy
    exact fin _ v true e.val f1 g3 hr (fun hq=>by cases hq) (fun q hq=>by cases hq; exact ⟨rfl,rfl⟩)
   ·exact absurd (List.mem_of_getElem? k1) g1
theorem sound_range {t:TypeId} {x:V} {sx:Value} {res:Res} (hR:Rel w (Xs E H β) H β) (hx:R w (Xs E H β) β x sx) (h:(oRange P H t x).run=some res) :
  ∃ u H',res = .ok u H' ∧ ∃ z w' β',(Instr.range t sx).run P w = .ok z w' ∧ Step E H β w H' β' w' ∧ R w' (Xs E H' β') β' u z:=by
 unfold oRange at h
 split at h
 rotate_left
 ·cases h
 rename_i s hs
 simp only [Tree.run,Option.some.injEq] at h
 subst h
 cases hx
 refine ⟨_,_,rfl,.pointer (some ⟨w.heap.size,0,none⟩),_,β++[{ kind:=false,block:=w.heap.size,base:=0,n:=0,size:=0 }],run_range_string w t _ hs,
  Step.pushObj hR (.stringIter ⟨s.toArray⟩ 0) (xs:=[]) ⟨rfl,rfl⟩ (fun k v h=>by simp at h) rfl rfl rfl,?_⟩
 exact .ptr _ _ 0 { kind:=false,block:=w.heap.size,base:=0,n:=0,size:=0 } (by rw [hR.len]; simp) rfl
theorem sound_next {it:V} {si:Value} {res:Res} {ty:TypeId} (hR:Rel w (Xs E H β) H β) (hx:R w (Xs E H β) β it si) (h:(oNext H it).run=some res) :
  ∃ u H',res = .ok u H' ∧ ∃ z w' β',(Instr.next si true ty).run P w = .ok z w' ∧ Step E H β w H' β' w' ∧ R w' (Xs E H' β') β' u z:=by
 unfold oNext at h
 split at h
 rotate_left
 ·cases h
 rename_i id off
 split at h
 rotate_left
 ·cases h
 rename_i s pos vs hid
 cases hc:Nat.beq off 0
 ·rw [hc] at h; cases h
 rw [hc,cond_true] at h
 have h0:=Nat.eq_of_beq_eq_true hc
 subst h0
 cases hx with
 | ptr _ _ _ loc hloc hk =>
  obtain ⟨_,hb,ob,xs,hob,hsh,hval⟩:=hR.objs id _ _ loc hid hloc
  obtain ⟨rfl,rfl⟩:=hsh
  rw [hb]
  simp only [Tree.run] at h
  have hsz:(⟨s.toArray⟩:ByteArray).size=s.length:=by simp [ByteArray.size]
  cases hp:decide (pos<s.length)
  ·rw [hp,cond_false] at h
   simp only [Option.some.injEq] at h
   subst h
   have hp:=of_decide_eq_false hp
   refine ⟨_,_,rfl,.tuple #[.bool false],w,β,?_,Step.refl hR,?_⟩
   ·simp [Instr.next,getObj,Sem.run,hob,Result.andThen,hsz,hp]
   ·exact .tup _ _ [.bool false] rfl fun k v x hv hx=>by
     match k,hv,hx with
     | 0,hv,hx=>cases hv; cases hx; exact .bool _ _
  ·rw [hp,cond_true] at h
   obtain ⟨h1,h2⟩:=req_run h
   simp only [Tree.run,Option.some.injEq] at h2
   subst h2
   have hp:=of_decide_eq_true hp
   have h1:=of_decide_eq_true h1
   have hps:pos<(⟨s.toArray⟩:ByteArray).size:=by rw [hsz]; exact hp
   have hget:((⟨s.toArray⟩:ByteArray)[pos]'hps)=s.getD pos 0:=by
    have:((⟨s.toArray⟩:ByteArray)[pos]'hps)=s[pos]:=rfl
    rw [this,List.getD,List.getElem?_eq_getElem hp]
    rfl
   have hdec:=decode_ascii ⟨s.toArray⟩ pos hps (by rw [hget]; exact h1)
   rw [hget] at hdec
   refine ⟨_,_,rfl,.tuple #[.bool true,.int .i64 pos,.int .i32 (s.getD pos 0).toNat],_,β,?_,Step.setObj hR hid hloc (sh' := .siter s (pos+1)) (ob' := .stringIter ⟨s.toArray⟩ (pos+1)) (xs' := []) ⟨rfl,rfl⟩ (fun k v h=>by simp at h),?_⟩
   ·simp [Instr.next,getObj,setObj,Sem.run,hob,Result.andThen,hsz,hp,hdec,goInt]
   ·exact .tup _ _ [.bool true,.int .i64 pos,.int .i32 (s.getD pos 0).toNat] rfl fun k v x hv hx=>by
     match k,hv,hx with
     | 0,hv,hx=>cases hv; cases hx; exact .bool _ _
     | 1,hv,hx=>cases hv; cases hx; exact .int _ _ _
     | 2,hv,hx=>cases hv; cases hx; exact .int _ _ _
theorem setK_run {n:Int} {v:V}:∀ {keys:List Int} {vs:List V} {p:List Int × List V},(setK n v keys vs).run=some p→keys.Pairwise (· < ·)→vs.length=keys.length →
  (∃ i:Nat,keys[i]? = some n∧p=(keys,vs.set i v)) ∨
  (n ∉ keys ∧ ∃ i:Nat,i≤keys.length∧p=(keys.take i++n :: keys.drop i,vs.take i++v :: vs.drop i)∧p.1.Pairwise (· < ·))
 | [],[],p,h,_,_=>by
  simp only [setK,Tree.run,Option.some.injEq] at h
  subst h
  exact .inr ⟨by simp,0,Nat.le_refl _,rfl,by simp⟩
 | k :: ks,u :: us,p,h,hs,hl=>by
  unfold setK at h
  simp only [Tree.run] at h
  have hs1:=(List.pairwise_cons.1 hs).1
  have hs2:=(List.pairwise_cons.1 hs).2
  cases hb:(n == k)
  ·have hne:n ≠ k:=fun e=>by rw [e] at hb; simp at hb
   rw [hb,cond_false] at h
   cases hlt:decide (n<k)
   ·rw [hlt,cond_false] at h
    have hlt:=of_decide_eq_false hlt
    obtain ⟨q,h1,h2⟩:=bind_run h
    simp only [Tree.run,Option.some.injEq] at h2
    subst h2
    rcases setK_run h1 hs2 (by simpa using hl) with ⟨i,g1,rfl⟩ | ⟨g1,i,g2,rfl,g5⟩
    ·exact .inl ⟨i+1,by simpa using g1,by simp⟩
    ·refine .inr ⟨?_,i+1,by simpa using g2,by simp,?_⟩
     ·simp only [List.mem_cons,not_or]
      exact ⟨hne,g1⟩
     ·refine List.pairwise_cons.2 ⟨fun a ha=>?_,g5⟩
      simp only [List.mem_append,List.mem_cons] at ha
      rcases ha with ha | ha | ha
      ·exact hs1 a (List.mem_of_mem_take ha)
      ·omega
      ·exact hs1 a (List.mem_of_mem_drop ha)
   ·rw [hlt,cond_true] at h
    have hlt:=of_decide_eq_true hlt
    simp only [Option.some.injEq] at h
    subst h
    refine .inr ⟨?_,0,by simp,by simp,?_⟩
    ·simp only [List.mem_cons,not_or]
     exact ⟨hne,fun hm=>by have:=hs1 n hm; omega⟩
    ·refine List.pairwise_cons.2 ⟨fun a ha=>?_,hs⟩
     simp only [List.mem_cons] at ha
     rcases ha with ha | ha
     ·omega
     ·have:=hs1 a ha; omega
  ·rw [hb,cond_true] at h
   simp only [Option.some.injEq] at h
   subst h
   exact .inl ⟨0,by simp [eq_of_beq hb],rfl⟩
 | [],_ :: _,_,h,_,_=>by cases h
 | _ :: _,[],_,h,_,_=>by cases h
theorem split_at {α:Type} {l:List α} {i:Nat} {e:α} (h:l[i]? = some e):l=l.take i++e :: l.drop (i+1):=by
 obtain ⟨hi,rfl⟩:=List.getElem?_eq_some_iff.1 h
 rw [List.getElem_cons_drop,List.take_append_drop]
theorem set_split {α:Type} {l:List α} {i:Nat} {e x:α} (h:l[i]? = some e):l.set i x=l.take i++x :: l.drop (i+1):=by
 obtain ⟨hi,_⟩:=List.getElem?_eq_some_iff.1 h
 rw [List.set_eq_take_append_cons_drop,if_pos hi]
theorem perm_set {α:Type} {l m:List α} {i j:Nat} {e x:α} (h:l.Perm m) (hi:l[i]? = some e) (hj:m[j]? = some e):(l.set i x).Perm (m.set j x):=by
 rw [set_split hi,set_split hj]
 rw [split_at hi,split_at hj] at h
 have h1:=(List.perm_middle.symm.trans (h.trans List.perm_middle)).cons_inv
 exact List.perm_middle.trans ((h1.cons x).trans List.perm_middle.symm)
theorem modify_list {α:Type} {a:Array α} {i:Nat} {e:α} (f:α→α) (h:a[i]? = some e):(a.modify i f).toList=a.toList.set i (f e):=by
 apply List.ext_getElem?
 intro j
 rw [Array.getElem?_toList,Array.getElem?_modify,List.getElem?_set]
 by_cases hij:i=j
 ·subst hij
  obtain ⟨hlt,_⟩:=Array.getElem?_eq_some_iff.1 h
  rw [h]
  simp [hlt]
 ·simp [hij]
theorem sound_mapUpdate {t:TypeId} {m k v:V} {sm sk sv:Value} {H' : List O} (hR:Rel w (Xs E H β) H β) (hm:R w (Xs E H β) β m sm) (hk:R w (Xs E H β) β k sk) (hv:R w (Xs E H β) β v sv)
  (h:(oMapUpdate P H t m k v).run=some H'):∃ w' β',(Instr.mapUpdate t sm sk sv).run P w = .ok () w' ∧ Step E H β w H' β' w' := by
 unfold oMapUpdate at h
 split at h
 rotate_left
 ·cases h
 rename_i kt et hty
 split at h
 rotate_left
 ·cases h
 rename_i n id
 split at h
 rotate_left
 ·cases h
 rename_i keys vs hid
 cases hc:(isU64 P kt && Nat.beq vs.length keys.length)
 ·rw [hc] at h; cases h
 rw [hc,cond_true] at h
 rw [Bool.and_eq_true] at hc
 have hd:=isU64_und hc.1
 have hlen:=Nat.eq_of_beq_eq_true hc.2
 obtain ⟨p,hp,h2⟩:=bind_run h
 simp only [Tree.run,Option.some.injEq] at h2
 subst h2
 cases hk
 cases hm with
 | mp _ _ loc hloc hkd =>
  obtain ⟨_,_,ob,xs,hob,hsh,hval⟩:=hR.objs id _ _ loc hid hloc
  obtain ⟨arr,clock,l,rfl,hst,hsort,hperm,hkeys,hvals,hisk,hat⟩:=map_facts hsh
  have hk:IsKey (.int .u64) (.int .u64 n):=rfl
  have hll:l.length=keys.length:=by have:=congrArg List.length hkeys; simpa using this
  have hxl:xs.length=keys.length:=by rw [← hvals,List.length_map,hll]
  rcases findNow_spec hk arr.toList 0 hisk with ⟨f1,f2⟩ | ⟨j,e,f1,f2,f3⟩
  ·rcases setK_run hp hsort hlen with ⟨i,g1,rfl⟩ | ⟨g1,i,g2,rfl,g5⟩
   ·exfalso
    have hl:(l.map (·.key))[i]? = some (.int .u64 n):=by rw [hkeys,List.getElem?_map,g1]; rfl
    obtain ⟨e,he,he'⟩:=List.mem_map.1 (List.mem_of_getElem? hl)
    exact f2 e (hperm.mem_iff.1 he) he'
   ·refine ⟨{ w with heap:=w.heap.setIfInBounds loc.block (.map (arr.push { key:=.int .u64 n,val:=sv,born:=clock }) (clock+1)) },β,?_,
     Step.setObj hR hid hloc (xs' := xs.take i++sv :: xs.drop i) ⟨_,_,l.take i ++ { key:=.int .u64 n,val:=sv,born:=clock } :: l.drop i,rfl,stamped_push hst f2,g5,?_,?_,?_⟩ (fun q u hu=>?_)⟩
    ·simp [Instr.mapUpdate,run_underlying hty,run_getObj_map hob,run_checkKey hd hk,run_findKey hd f1,run_setObj_map _ hob,Result.andThen]
    ·rw [Array.toList_push]
     refine List.perm_middle.trans ?_
     rw [List.take_append_drop]
     exact (hperm.cons _).trans (List.perm_append_singleton _ _).symm
    ·simp only [List.map_append,List.map_cons,List.map_take,List.map_drop,hkeys]
    ·simp only [List.map_append,List.map_cons,List.map_take,List.map_drop,hvals]
    ·have hti:(vs.take i).length=i:=by rw [List.length_take]; omega
     have htx:(xs.take i).length=i:=by rw [List.length_take]; omega
     by_cases hq:q<i
     ·rw [List.getElem?_append_left (by omega)] at hu ⊢
      rw [List.getElem?_take_of_lt hq] at hu ⊢
      exact hval q u hu
     ·rw [List.getElem?_append_right (by omega),hti] at hu
      rw [List.getElem?_append_right (by omega),htx]
      cases hqi:q - i with
      | zero=>rw [hqi] at hu; simp at hu; subst hu; exact ⟨sv,by simp,hv⟩
      | succ r =>
       rw [hqi] at hu
       simp only [List.getElem?_cons_succ,List.getElem?_drop] at hu ⊢
       exact hval (i+r) u hu
  ·have hel:e ∈ l:=hperm.mem_iff.2 (List.mem_of_getElem? f2)
   obtain ⟨i0,hi0⟩:=List.getElem?_of_mem hel
   obtain ⟨k1,k2⟩:=hat i0 e n hi0 f3
   rcases setK_run hp hsort hlen with ⟨i,g1,rfl⟩ | ⟨g1,_⟩
   ·have:=sorted_inj hsort k1 g1
    subst this
    have hj:arr[j]? = some e:=by simpa using f2
    have hmod:=modify_list (fun e:MapEntry=>{ e with key:=.int .u64 n,val:=sv }) hj
    refine ⟨{ w with heap:=w.heap.setIfInBounds loc.block (.map (arr.modify j fun e=>{ e with key:=.int .u64 n,val:=sv }) clock) },β,?_,
     Step.setObj hR hid hloc (xs' := xs.set i0 sv) ⟨_,_,l.set i0 { e with key:=.int .u64 n,val:=sv },rfl,?_,hsort,?_,?_,?_⟩ (fun q u hu=>?_)⟩
    ·simp [Instr.mapUpdate,run_underlying hty,run_getObj_map hob,run_checkKey hd hk,run_findKey hd f1,hj,f3,run_keyThatStays hk,run_setObj_map _ hob,Result.andThen]
    ·exact stamped_modify hst _ _ (fun _ _=>rfl) (fun e' _ he' => by rw [hj] at he'; cases he'; exact f3.symm)
    ·rw [hmod]
     exact perm_set hperm hi0 (by simpa using hj)
    ·rw [List.map_set,hkeys]
     apply List.ext_getElem?
     intro q
     rw [List.getElem?_set]
     split
     ·rename_i hq
      subst hq
      have:i0<(keys.map (Value.int .u64)).length:=by rw [List.length_map]; exact (List.getElem?_eq_some_iff.1 k1).1
      rw [if_pos this,List.getElem?_map,k1]
      rfl
     ·rfl
    ·rw [List.map_set,hvals]
    ·rw [List.getElem?_set] at hu ⊢
     by_cases hq:i0=q
     ·subst hq
      simp only [if_true] at hu ⊢
      have hlt:i0<vs.length:=by rw [hlen]; exact (List.getElem?_eq_some_iff.1 k1).1
      rw [if_pos hlt] at hu
      cases hu
      rw [if_pos (by omega)]
      exact ⟨sv,rfl,hv⟩
     ·simp only [hq,if_false] at hu ⊢
      exact hval q u hu
   ·exact absurd (List.mem_of_getElem? k1) g1
theorem sound_lenM {argTypes:Array TypeId} {ty:TypeId} {x v:V} {y:Value} (hR:Rel w (Xs E H β) H β) (hx:R w (Xs E H β) β x y) (h:oLenM P H argTypes x=some v) :
  ∃ z,(Builtin.len_ argTypes ty #[y]).run P w = .ok z w∧R w (Xs E H β) β v z:=by
 unfold oLenM at h
 cases hm:mapArg P argTypes
 ·rw [hm,cond_false] at h
  exact sound_len hx h
 ·rw [hm,cond_true] at h
  unfold mapArg at hm
  split at hm
  rotate_left
  ·cases hm
  rename_i t ht
  split at hm
  rotate_left
  ·cases hm
  rename_i kt et hu
  split at h
  rotate_left
  ·cases h
  rename_i id
  split at h
  rotate_left
  ·cases h
  rename_i keys vs hH
  cases h
  cases hx with
  | mp _ _ loc hid hk =>
  obtain ⟨_,_,ob,xs,hob,⟨arr,clock,l,rfl,_,_,hperm,hkeys,_⟩,_⟩:=hR.objs id _ _ loc hH hid
  have hsz:arr.size=keys.length:=by
   have h1:=congrArg List.length hkeys
   have h2:=hperm.length_eq
   simp only [List.length_map,Array.length_toList] at h1 h2
   omega
  refine ⟨.int .i64 (keys.length:Int),?_,.int _ _ _⟩
  simp [Builtin.len_,ht,run_und w hu,run_getObj_map hob,hsz,goInt]
end
end Go.Ab
