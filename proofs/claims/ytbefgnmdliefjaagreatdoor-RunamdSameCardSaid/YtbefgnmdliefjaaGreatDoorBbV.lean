/-
  The engine, part V: regions that draw their order; code; functions without loops. Conditions: none.
-/
import Derived.Test.YtbefgnmdliefjaaGreatDoorPk08
set_option linter.unusedVariables false
set_option linter.unusedSimpArgs false
namespace Go.Ab
section
variable {cx:Cx} {ops:Array Oper} {I:T × List O→Prop}
theorem wanted_spec {E H0 β0 w0 n D t H β a w} (hg:Good E H0 β0 w0 n D t H β a w) {o:Oper} {b:Bool} (hb:wantedT ops t o=some b):Region.wanted o (yielded ops a.tmps)=b:=by
 unfold wantedT at hb
 split at hb
 ·rename_i hgd
  simp only [Option.some.injEq] at hb
  subst hb
  simp [Region.wanted,hgd]
 ·rename_i j want hgd
  split at hb
  rotate_left
  ·cases hb
  rename_i d hd
  have hslot:=hg.fr.slot d
  split at hb
  ·rename_i c hc
   simp only [Option.some.injEq] at hb
   subst hb
   rw [hc] at hslot
   generalize hv:a.tmps.getD d undef=v at hslot
   cases hslot
   have hy:yielded ops a.tmps j=some c:=by
    unfold yielded
    rw [hd]
    simp only [Option.bind_some]
    rw [Array.getD_eq_getD_getElem?] at hv
    cases hq:a.tmps[d]? with
    | none=>rw [hq] at hv; simp [undef] at hv
    | some q=>rw [hq] at hv; simp at hv; subst hv; rfl
   simp only [Region.wanted,hgd,hy]
   cases c <;> cases want <;> rfl
  ·rename_i vs hc
   simp only [Option.some.injEq] at hb
   subst hb
   rw [hc] at hslot
   generalize hv:a.tmps.getD d undef=v at hslot
   cases hslot
   have hy:yielded ops a.tmps j=none:=by
    unfold yielded
    rw [hd]
    simp only [Option.bind_some]
    rw [Array.getD_eq_getD_getElem?] at hv
    cases hq:a.tmps[d]? with
    | none=>rfl
    | some q=>rw [hq] at hv; simp at hv; subst hv; rfl
   simp [Region.wanted,hgd,hy]
  ·cases hb
theorem step1_sound (hT:CxOk cx) {E H0 β0 w0 D} (hs:StartOk cx.P E H0 β0 w0) {i:Nat} {o:Oper} (ho:ops[i]? = some o) {t:T} {H:List O} {β:List Loc} {a:Act} {w:World} {r:T × List O}
  (hg:Good E H0 β0 w0 cx.n D t H β a w) (h:step1 cx ops o (t,H)=some r) {K:Act→World→Prop} {Q:Exit→Act→World→Prop}
  (hk:∀ β' a' w',Good E H0 β0 w0 cx.n D r.1 r.2 β' a' w' → K a' w'):wpOp cx.P ops Q i K a w:=by
 have put:∀ {v x t H β a w},puts cx o v t H=some r→R w (Xs E H β) β v x→Good E H0 β0 w0 cx.n D t H β a w→K (a.put o.dst x) w:=by
  intro v x t H β a w hp hv hg
  unfold puts putO at hp
  cases hd:o.dst with
  | none =>
   simp only [hd,Option.map_some,Option.some.injEq] at hp
   subst hp
   exact hk β a w hg
  | some d =>
   simp only [hd] at hp
   cases hb:Nat.blt d cx.n
   ·simp [hb] at hp
   ·simp only [hb,cond_true,Option.map_some,Option.some.injEq] at hp
    subst hp
    have hlt:d<cx.n:=by simpa [Nat.blt_eq] using hb
    exact hk β _ w ⟨hg.step,hg.fr.put hlt hv,hg.defers⟩
 have hwant:∀ b,wantedT ops t o=some b→Region.wanted o (yielded ops a.tmps)=b:=fun _ hb=>wanted_spec hg hb
 unfold step1 at h
 simp only at h
 unfold wpOp
 simp only [ho]
 cases hw:wantedT ops t o with
 | none=>rw [hw] at h; cases h
 | some b =>
  rw [hw] at h
  rw [hwant b hw]
  cases b
  ·simp only [Bool.false_eq_true,if_false]
   exact put h (.val _ _) hg
  ·simp only at h
   cases hu:(dop cx t H o).run with
   | none=>rw [hu] at h; cases h
   | some res =>
    rw [hu] at h
    cases res with
    | pan u H2=>cases h
    | ok u H2 =>
     simp only [if_true]
     refine .inl (dop_sound hT (hs.now hg.step) hg.step.rel hg.fr hu ?_)
     intro x w' β' st hv
     exact put h hv ⟨hg.step.trans st,hg.fr.step st,hg.defers⟩
theorem Good.like {E H0 β0 w0 n D t s H β a w} (hg:Good E H0 β0 w0 n D t H β a w) (h:TEq s t):Good E H0 β0 w0 n D s H β a w:=
 ⟨hg.step,hg.fr.le (fun d=>.inl (h d)),hg.defers⟩
theorem any_sound (hT:CxOk cx) {E H0 β0 w0 D} (hs:StartOk cx.P E H0 β0 w0) {p0 r0:T × List O} (hd:DrawOk cx ops p0) (h:runI cx ops (List.range ops.size) p0=some r0) {Q:AEx→T→List O→Prop}
  (hq:∀ β a w,Good E H0 β0 w0 cx.n D r0.1 r0.2 β a w→Post E H0 β0 w0 cx.n D Q .normal a w) :
  ∀ (fuel:Nat) (listed:Array Bool) (p:T × List O) (β:List Loc) (a:Act) (w:World),listed.size=ops.size→missing ops.size (fun i=>listed.getD i false)=fuel →
   Closed ops (fun i=>listed.getD i false)→stateOf cx ops (fun i=>listed.getD i false) p0=some p→Good E H0 β0 w0 cx.n D p.1 p.2 β a w →
   wpAny cx.P .any ops (Post E H0 β0 w0 cx.n D Q) fuel listed a w
 | 0,listed,p,β,a,w,hsz,hm,_,hp,hg=>by
  rw [stateOf_full hm] at hp
  rw [h] at hp
  simp only [Option.some.injEq] at hp
  subst hp
  refine ⟨?_,hq β a w hg⟩
  apply List.eq_nil_iff_forall_not_mem.2
  intro i hi
  obtain ⟨h1,o,h2,_⟩:=mem_ready.1 hi
  have hlt:i<ops.size:=(Array.getElem?_eq_some_iff.1 h2).1
  have:listed.getD i false=false:=by
   rw [Array.getD_eq_getD_getElem?] at h1 ⊢
   have:i<listed.size:=by omega
   simp [this] at h1 ⊢
   exact h1
  have hin:i ∈ (List.range ops.size).filter fun i=>!(listed.getD i false):=List.mem_filter.2 ⟨List.mem_range.2 hlt,by simp [this]⟩
  have h0:=List.length_eq_zero_iff.1 hm
  rw [h0] at hin; cases hin
 | fuel+1,listed,p,β,a,w,hsz,hm,hc,hp,hg=>by
  refine ⟨fun hr=>?_,fun i hi=>?_⟩
  ·-- something can be carried out
   obtain ⟨i,h1,h2,h3⟩:=first_missing (S:=fun i=>listed.getD i false) (n:=ops.size) (by omega)
   obtain ⟨o,ho⟩:∃ o,ops[i]? = some o:=⟨ops[i],by simp [h1]⟩
   have:i ∈ Region.ready .any ops listed:=mem_ready.2 ⟨by
    rw [Array.getD_eq_getD_getElem?] at h2 ⊢
    have:i<listed.size:=by omega
    simp [this] at h2 ⊢; exact h2,o,ho,fun e he hb=>h3 _ (hd.back i o ho e he hb)⟩
   rw [hr] at this; cases this
  ·obtain ⟨h1,o,ho,h3⟩:=mem_ready.1 hi
   have hlt:i<ops.size:=(Array.getElem?_eq_some_iff.1 ho).1
   have hS:listed.getD i false=false:=by
    rw [Array.getD_eq_getD_getElem?] at h1 ⊢
    have:i<listed.size:=by omega
    simp [this] at h1 ⊢; exact h1
   have hw:(fun j=>(listed.setIfInBounds i true).getD j false)=with1 (fun j=>listed.getD j false) i:=by
    funext j
    unfold with1
    by_cases hj:j=i
    ·subst hj
     have:j<listed.size:=by omega
     simp [Array.getD_eq_getD_getElem?,this]
    ·have hji:(j == i)=false:=by simpa using hj
     rw [getD_set_ne false (fun e=>hj e.symm),hji,Bool.or_false]
   have hc' : Closed ops (with1 (fun j=>listed.getD j false) i):=closed_with hc fun o' ho' e he hb=>by
    rw [ho] at ho'
    simp only [Option.some.injEq] at ho'
    subst ho'
    exact h3 e he hb
   have hm' := missing_with (S:=fun j=>listed.getD j false) hlt hS
   obtain ⟨r,hr⟩:=closed_some hd h fuel (with1 (fun j=>listed.getD j false) i) (by omega) hc'
   obtain ⟨p',r',hp',hst,hl⟩:=step_to hd hc hlt hS hr
   rw [hp] at hp'
   simp only [Option.some.injEq] at hp'
   subst hp'
   refine step1_sound hT hs ho (t:=p.1) (H:=p.2) hg (hst o ho) ?_
   intro β' a' w' hg'
   refine any_sound hT hs hd h hq fuel _ r β' a' w' (by simp [hsz]) (by rw [hw]; omega) (by rw [hw]; exact hc') (by rw [hw]; exact hr) ?_
   have:=hg'.like hl.1
   rw [hl.2]
   exact this
theorem range_filter {n j:Nat} {S:Nat→Bool} (hj:j≤n) (h1:∀ k,k<j→S k=true) (h2:∀ k,k<n→S k=true→k<j):(List.range n).filter S=List.range j:=by
 induction n with
 | zero =>
  have:j=0:=by omega
  subst this
  rfl
 | succ n ih =>
  rw [List.range_succ,List.filter_append]
  by_cases hjn:j≤n
  ·rw [ih hjn (fun k hk=>h2 k (by omega))]
   have:S n=false:=by
    cases hs:S n
    ·rfl
    ·have:=h2 n (by omega) hs
     omega
   simp [this]
  ·have:j=n+1:=by omega
   subst this
   have e:(List.range n).filter S=List.range n:=List.filter_eq_self.2 fun k hk=>h1 k (by have:=List.mem_range.1 hk; omega)
   have e2:S n=true:=h1 n (by omega)
   rw [e,List.range_succ]
   simp [e2]
theorem closed_someP {p0 r0:T × List O} (hd:DrawOk cx ops p0) {j:Nat} (hj:j≤ops.size) (h:runI cx ops (List.range j) p0=some r0) :
  ∀ (m:Nat) (S:Nat→Bool),missing j S=m→(∀ k,k<ops.size→S k=true→k<j)→Closed ops S → ∃ p,stateOf cx ops S p0=some p
 | 0,S,hm,hS,_=>by
  refine ⟨r0,?_⟩
  unfold stateOf
  rw [range_filter hj (fun k hk=>?_) hS]
  ·exact h
  ·cases hs:S k
   ·have:k ∈ (List.range j).filter fun i=>!S i:=List.mem_filter.2 ⟨List.mem_range.2 hk,by simp [hs]⟩
    have h0:=List.length_eq_zero_iff.1 hm
    rw [h0] at this; cases this
   ·rfl
 | m+1,S,hm,hSj,hc=>by
  obtain ⟨i,hi,hS,hlt⟩:=first_missing (S:=S) (n:=j) (by omega)
  have hm' := missing_with hi hS
  have hi' : i<ops.size:=by omega
  obtain ⟨r,hr⟩:=closed_someP hd hj h m (with1 S i) (by omega) (fun k hk hk2=>by
   unfold with1 at hk2
   rcases Bool.or_eq_true_iff.1 hk2 with h | h
   ·exact hSj k hk h
   ·have:k=i:=by simpa using h
    omega) (closed_with hc fun o ho e he hb=>hlt _ (hd.back i o ho e he hb))
  obtain ⟨p,_,hp,_⟩:=step_to hd hc hi' hS hr
  exact ⟨p,hp⟩
theorem quiet_step {x y:Oper} {p q:T × List O} (hap:x.apart ops y=true) (hq:quiet cx x=true) (h:step1 cx ops x p=some q) :
  q.2=p.2∧wantedT ops q.1 y=wantedT ops p.1 y ∧ ∀ H,dop cx q.1 H y=dop cx p.1 H y:=by
 obtain ⟨a1,_,_⟩:=Oper.apart_spec hap
 have done:∀ {v:V} {H' : List O},puts cx x v p.1 H' = some q→H' = p.2→q.2=p.2∧wantedT ops q.1 y=wantedT ops p.1 y ∧ ∀ H,dop cx q.1 H y=dop cx p.1 H y:=by
  intro v H' hp hH
  have ex:∀ d ∈ y.looksAt ops,get d q.1=get d p.1:=fun d hd=>(puts_spec hp).2.1 d fun e=>a1 d e hd
  exact ⟨(puts_spec hp).1.trans hH,wanted_eq ex,fun H=>dop_eq ex⟩
 unfold step1 at h
 cases hw:wantedT ops p.1 x with
 | none=>rw [hw] at h; cases h
 | some b =>
  rw [hw] at h
  cases b
  ·exact done h rfl
  ·simp only at h
   cases hu:(dop cx p.1 p.2 x).run with
   | none=>rw [hu] at h; cases h
   | some res =>
    rw [hu] at h
    cases res with
    | pan u H2=>cases h
    | ok u H2=>exact done h (quiet_spec hq hu)
theorem pan_at {p0 r0:T × List O} (hd:DrawOk cx ops p0) {j:Nat} (hj:j<ops.size) (hc1:∀ k,k<j→Anc ops k j ∨ ∀ o,ops[k]? = some o→quiet cx o=true)
  (h:runI cx ops (List.range j) p0=some r0) {oj:Oper} (hoj:ops[j]? = some oj) (hw:wantedT ops r0.1 oj=some true) {v:V} {H' : List O} (hp:(dop cx r0.1 r0.2 oj).run=some (.pan v H')) :
  ∀ (m:Nat) (S:Nat→Bool),missing j S=m→(∀ k,k<ops.size→S k=true→k<j)→Closed ops S→(∀ e ∈ oj.after,Region.binds .any e=true→S e.on=true) → ∀ p,stateOf cx ops S p0=some p →
   wantedT ops p.1 oj=some true∧(dop cx p.1 p.2 oj).run=some (.pan v H')
 | 0,S,hm,hS,_,_,p,hst=>by
  unfold stateOf at hst
  rw [range_filter (by omega) (fun k hk=>?_) hS,h] at hst
  ·cases hst
   exact ⟨hw,hp⟩
  ·cases hs:S k
   ·have:k ∈ (List.range j).filter fun i=>!S i:=List.mem_filter.2 ⟨List.mem_range.2 hk,by simp [hs]⟩
    have h0:=List.length_eq_zero_iff.1 hm
    rw [h0] at this; cases this
   ·rfl
 | m+1,S,hm,hSj,hc,hr,p,hst=>by
  obtain ⟨i,hi,hS,hlt⟩:=first_missing (S:=S) (n:=j) (by omega)
  have hm' := missing_with hi hS
  have hi' : i<ops.size:=by omega
  have hc' : Closed ops (with1 S i):=closed_with hc fun o ho e he hb=>hlt _ (hd.back i o ho e he hb)
  have hSj' : ∀ k,k<ops.size→with1 S i k=true→k<j:=fun k hk hk2=>by
   unfold with1 at hk2
   rcases Bool.or_eq_true_iff.1 hk2 with h | h
   ·exact hSj k hk h
   ·have:k=i:=by simpa using h
    omega
  have hcj:Closed ops (with1 S j):=closed_with hc fun o ho e he hb=>by
   rw [hoj] at ho
   cases ho
   exact hr e he hb
  have hna:¬ Anc ops i j:=fun ha=>by
   have:=ha _ hcj (by simp [with1])
   unfold with1 at this
   rcases Bool.or_eq_true_iff.1 this with h | h
   ·rw [hS] at h; cases h
   ·have:i=j:=by simpa using h
    omega
  obtain ⟨r,hst'⟩:=closed_someP hd (by omega) h m (with1 S i) (by omega) hSj' hc'
  obtain ⟨f1,f2⟩:=pan_at hd hj hc1 h hoj hw hp m (with1 S i) (by omega) hSj' hc' (fun e he hb=>by
   unfold with1
   rw [hr e he hb]
   rfl) r hst'
  obtain ⟨p',r',g1,g2,g3⟩:=step_to hd hc hi' hS hst'
  rw [hst] at g1
  cases g1
  obtain ⟨oi,hoi⟩:∃ o,ops[i]? = some o:=⟨ops[i],by simp [hi']⟩
  have hq:quiet cx oi=true:=(hc1 i hi).elim (fun h=>(hna h).elim) fun h=>h oi hoi
  have hap:oi.apart ops oj=true:=by
   rcases hd.pairs i j hi hj with h | h
   ·exact (hna h).elim
   ·exact (h [] p0 (fun k hk=>by cases hk) rfl oi oj hoi hoj).1
  obtain ⟨k1,k2,k3⟩:=quiet_step hap hq (g2 oi hoi)
  rw [← k2,← k1,← k3]
  have e1:wantedT ops r'.1 oj=wantedT ops r.1 oj:=wanted_eq fun d _=>(g3.1 d).symm
  have e2:∀ H,dop cx r'.1 H oj=dop cx r.1 H oj:=fun H=>dop_eq (ops:=ops) fun d _=>(g3.1 d).symm
  rw [e1,e2,← g3.2]
  exact ⟨f1,f2⟩
theorem any_pan (hT:CxOk cx) {E H0 β0 w0 D} (hs:StartOk cx.P E H0 β0 w0) {p0 r0:T × List O} (hd:DrawOk cx ops p0) {j:Nat} (hj:j<ops.size) (hc1:∀ k,k<j→Anc ops k j ∨ ∀ o,ops[k]? = some o→quiet cx o=true) (hc2:∀ k,j<k→k<ops.size→Anc ops j k)
  (h:runI cx ops (List.range j) p0=some r0) {oj:Oper} (hoj:ops[j]? = some oj) (hw:wantedT ops r0.1 oj=some true) {v:V} {H' : List O} (hp:(dop cx r0.1 r0.2 oj).run=some (.pan v H')) {Q:AEx→T→List O→Prop} (hq:Q (.panic v) [] H') :
  ∀ (fuel:Nat) (listed:Array Bool) (p:T × List O) (β:List Loc) (a:Act) (w:World),listed.size=ops.size→missing ops.size (fun i=>listed.getD i false)=fuel →
   Closed ops (fun i=>listed.getD i false)→listed.getD j false=false→stateOf cx ops (fun i=>listed.getD i false) p0=some p→Good E H0 β0 w0 cx.n D p.1 p.2 β a w →
   wpAny cx.P .any ops (Post E H0 β0 w0 cx.n D Q) fuel listed a w
 | 0,listed,p,β,a,w,hsz,hm,_,hSj,hst,hg=>by
  have:j ∈ (List.range ops.size).filter fun i=>!(listed.getD i false):=List.mem_filter.2 ⟨List.mem_range.2 hj,by simp [hSj]⟩
  have h0:=List.length_eq_zero_iff.1 hm
  rw [h0] at this; cases this
 | fuel+1,listed,p,β,a,w,hsz,hm,hc,hSj,hst,hg=>by
  have hlow:∀ k,k<ops.size→listed.getD k false=true→k<j:=by
   intro k hk hS
   by_cases h1:k<j
   ·exact h1
   by_cases h2:k=j
   ·subst h2; rw [hSj] at hS; cases hS
   ·have:=hc2 k (by omega) hk _ hc hS
    rw [hSj] at this; cases this
  refine ⟨fun hr=>?_,fun i hi=>?_⟩
  ·obtain ⟨i,h1,h2,h3⟩:=first_missing (S:=fun i=>listed.getD i false) (n:=ops.size) (by omega)
   obtain ⟨o,ho⟩:∃ o,ops[i]? = some o:=⟨ops[i],by simp [h1]⟩
   have:i ∈ Region.ready .any ops listed:=mem_ready.2 ⟨by
    rw [Array.getD_eq_getD_getElem?] at h2 ⊢
    have:i<listed.size:=by omega
    simp [this] at h2 ⊢; exact h2,o,ho,fun e he hb=>h3 _ (hd.back i o ho e he hb)⟩
   rw [hr] at this; cases this
  ·obtain ⟨h1,o,ho,h3⟩:=mem_ready.1 hi
   have hlt:i<ops.size:=(Array.getElem?_eq_some_iff.1 ho).1
   have hS:listed.getD i false=false:=by
    rw [Array.getD_eq_getD_getElem?] at h1 ⊢
    have:i<listed.size:=by omega
    simp [this] at h1 ⊢; exact h1
   have hw1:(fun k=>(listed.setIfInBounds i true).getD k false)=with1 (fun k=>listed.getD k false) i:=by
    funext k
    unfold with1
    by_cases hk:k=i
    ·subst hk
     have:k<listed.size:=by omega
     simp [Array.getD_eq_getD_getElem?,this]
    ·have hki:(k == i)=false:=by simpa using hk
     rw [getD_set_ne false (fun e=>hk e.symm),hki,Bool.or_false]
   have hc' : Closed ops (with1 (fun k=>listed.getD k false) i):=closed_with hc fun o' ho' e he hb=>by
    rw [ho] at ho'
    simp only [Option.some.injEq] at ho'
    subst ho'
    exact h3 e he hb
   have own:with1 (fun k=>listed.getD k false) i i=true:=by simp [with1]
   by_cases hij:i=j
   ·subst hij
    rw [hoj] at ho
    cases ho
    obtain ⟨hw,hp⟩:=pan_at hd hj hc1 h hoj hw hp _ _ rfl hlow hc (fun e he hb=>h3 e he hb) p hst
    unfold wpOp
    simp only [hoj]
    rw [wanted_spec hg hw]
    simp only [if_true]
    refine .inl (dop_sound hT (hs.now hg.step) hg.step.rel hg.fr hp ?_)
    intro x w' β' st hv
    exact ⟨[],H',β',v,x,hq,⟨hg.step.trans st,(hg.fr.step st).le (fun d=>.inr rfl),hg.defers⟩,hv,rfl⟩
   ·have hij' : i<j:=by
     by_cases h1:i<j
     ·exact h1
     ·have:=hc2 i (by omega) hlt _ hc' own
      unfold with1 at this
      rcases Bool.or_eq_true_iff.1 this with h | h
      ·have h:listed.getD j false=true:=h
       rw [hSj] at h; cases h
      ·have:j=i:=by simpa using h
       omega
    have hm' := missing_with (S:=fun k=>listed.getD k false) hlt hS
    obtain ⟨r,hr⟩:=closed_someP hd (by omega) h _ (with1 (fun k=>listed.getD k false) i) rfl (fun k hk hk2=>by
     unfold with1 at hk2
     rcases Bool.or_eq_true_iff.1 hk2 with h | h
     ·exact hlow k hk h
     ·have:k=i:=by simpa using h
      omega) hc'
    obtain ⟨p',r',hp',hst',hl⟩:=step_to hd hc hlt hS hr
    rw [hst] at hp'
    simp only [Option.some.injEq] at hp'
    subst hp'
    refine step1_sound hT hs ho (t:=p.1) (H:=p.2) hg (hst' o ho) ?_
    intro β' a' w' hg'
    refine any_pan hT hs hd hj hc1 hc2 h hoj hw hp hq fuel _ r β' a' w' (by simp [hsz]) (by rw [hw1]; omega) (by rw [hw1]; exact hc') (by rw [getD_set_ne false hij]; exact hSj) (by rw [hw1]; exact hr) ?_
    have:=hg'.like hl.1
    rw [hl.2]
    exact this
theorem druns_run:∀ (l:List Oper) (k:Nat) (t:T) (H:List O) (p:T × List O) (t' : T) (H' : List O),ops.toList.drop k=l→Like (t,H) p→(druns cx ops l t H).run=some (.normal,t',H') →
  ∃ r,runI cx ops (List.range' k l.length) p=some r∧r.2=H' ∧ ∀ d,get d t' = get d r.1∨get d t' = .any
 | [],k,t,H,p,t',H',_,hp,h=>by
  simp only [druns,Tree.run,Option.some.injEq,Prod.mk.injEq,true_and] at h
  obtain ⟨rfl,rfl⟩:=h
  refine ⟨p,rfl,hp.2.symm,fun d=>?_⟩
  rcases get_keep cx.keeps d t with e | e
  ·left; rw [e]; exact hp.1 d
  ·exact .inr e
 | o :: r,k,t,H,p,t',H',hl,hp,h=>by
  have hk:ops.toList[k]? = some o:=by
   have:=congrArg (fun l=>l[0]?) hl
   simpa using this
  have hk' : ops[k]? = some o:=by simpa using hk
  have hr:ops.toList.drop (k+1)=r:=by
   have:=congrArg List.tail hl
   simpa [List.tail_drop] using this
  have ih:=druns_run r (k+1)
  simp only [List.length_cons,List.range'_succ,runI,hk']
  have put:∀ {v t1 H1},Like (t1,H1) (p.1,H1)→(dputs cx o v t1 H1 (druns cx ops r)).run=some (.normal,t',H') → ∃ q,puts cx o v p.1 H1=some q ∧
    ∃ s,runI cx ops (List.range' (k+1) r.length) q=some s∧s.2=H' ∧ ∀ d,get d t' = get d s.1∨get d t' = .any:=by
   intro v t1 H1 hl1 h
   unfold dputs at h
   split at h
   ·rename_i t2 h2
    have h3:puts cx o v t1 H1=some (t2,H1):=by unfold puts; rw [h2]; rfl
    obtain ⟨q,hq,hq'⟩:=puts_like (p:=(t1,H1)) (q:=(p.1,H1)) hl1.1 h3
    exact ⟨q,hq,ih t2 H1 q t' H' hr hq' h⟩
   ·cases h
  have op:∀ {t1},Like (t1,H) p→((dop cx t1 H o).bind (dres cx o t1 (druns cx ops r))).run=some (.normal,t',H')→wantedT ops p.1 o=some true →
    ∃ q,step1 cx ops o p=some q ∧ ∃ s,runI cx ops (List.range' (k+1) r.length) q=some s∧s.2=H' ∧ ∀ d,get d t' = get d s.1∨get d t' = .any:=by
   intro t1 hl1 h hw
   obtain ⟨res,hres,hd⟩:=bind_run h
   have ed:dop cx p.1 p.2 o=dop cx t1 H o:=by rw [← hl1.2]; exact dop_congr fun x _=>(rd_eq hl1.1 x).symm
   cases res with
   | pan v H1 =>
    simp [dres,Tree.run] at hd
   | ok v H1 =>
    obtain ⟨q,hq,hh⟩:=put (v:=v) (t1:=t1) (H1:=H1) ⟨hl1.1,rfl⟩ hd
    refine ⟨q,?_,hh⟩
    unfold step1
    simp only [hw,ed,hres]
    exact hq
  have no:∀ {t1},Like (t1,H) p→(dputs cx o vundef t1 H (druns cx ops r)).run=some (.normal,t',H')→wantedT ops p.1 o=some false →
    ∃ q,step1 cx ops o p=some q ∧ ∃ s,runI cx ops (List.range' (k+1) r.length) q=some s∧s.2=H' ∧ ∀ d,get d t' = get d s.1∨get d t' = .any:=by
   intro t1 hl1 h hw
   have e:p.2=H:=hl1.2.symm
   obtain ⟨q,hq,hh⟩:=put (v:=vundef) (t1:=t1) (H1:=H) ⟨hl1.1,rfl⟩ h
   refine ⟨q,?_,hh⟩
   unfold step1
   simp only [hw,e]
   exact hq
  have done:(∃ q,step1 cx ops o p=some q ∧ ∃ s,runI cx ops (List.range' (k+1) r.length) q=some s∧s.2=H' ∧ ∀ d,get d t' = get d s.1∨get d t' = .any) →
    ∃ s,(match step1 cx ops o p with | some q=>runI cx ops (List.range' (k+1) r.length) q | none=>none)=some s∧s.2=H' ∧ ∀ d,get d t' = get d s.1∨get d t' = .any:=by
   rintro ⟨q,h1,s,h2,h3⟩
   exact ⟨s,by rw [h1]; exact h2,h3⟩
  refine done ?_
  unfold druns dstep at h
  split at h
  ·rename_i hgd
   exact op hp h (by simp [wantedT,hgd])
  ·rename_i j want hgd
   split at h
   rotate_left
   ·cases h
   rename_i d hd
   have hpd:get d p.1=get d t:=(hp.1 d).symm
   split at h
   ·rename_i b hb
    have pinned:Like (Ab.put d (.bool b) t,H) p:=by
     refine ⟨fun e=>?_,hp.2⟩
     simp only [get_put]
     split
     ·rename_i he; subst he; rw [← hb]; exact hp.1 e
     ·exact hp.1 e
    have hw:wantedT ops p.1 o=some (b == want):=by simp only [wantedT,hgd,hd,hpd,hb]
    cases b <;> cases want
    ·exact op pinned h hw
    ·exact no pinned h hw
    ·exact no pinned h hw
    ·exact op pinned h hw
   ·rename_i vs hb
    exact no hp h (by simp only [wantedT,hgd,hd,hpd,hb])
   ·cases h
theorem druns_pan:∀ (l:List Oper) (k:Nat) (t:T) (H:List O) (p:T × List O) (v:V) (t' : T) (H' : List O),ops.toList.drop k=l→Like (t,H) p→(druns cx ops l t H).run=some (.panic v,t',H') →
  ∃ (m:Nat) (r:T × List O) (o:Oper),ops[k+m]? = some o∧runI cx ops (List.range' k m) p=some r∧wantedT ops r.1 o=some true∧(dop cx r.1 r.2 o).run=some (.pan v H')
 | [],k,t,H,p,v,t',H',_,hp,h=>by
  simp only [druns,Tree.run,Option.some.injEq,Prod.mk.injEq,reduceCtorEq,false_and] at h
 | o :: r,k,t,H,p,u,t',H',hl,hp,h=>by
  have hk:ops.toList[k]? = some o:=by
   have:=congrArg (fun l=>l[0]?) hl
   simpa using this
  have hk' : ops[k]? = some o:=by simpa using hk
  have hr:ops.toList.drop (k+1)=r:=by
   have:=congrArg List.tail hl
   simpa [List.tail_drop] using this
  have ih:=druns_pan r (k+1)
  have next:∀ {q},step1 cx ops o p=some q→(∃ (m:Nat) (s:T × List O) (o:Oper),ops[k+1+m]? = some o∧runI cx ops (List.range' (k+1) m) q=some s∧wantedT ops s.1 o=some true∧(dop cx s.1 s.2 o).run=some (.pan u H')) →
    ∃ (m:Nat) (s:T × List O) (o:Oper),ops[k+m]? = some o∧runI cx ops (List.range' k m) p=some s∧wantedT ops s.1 o=some true∧(dop cx s.1 s.2 o).run=some (.pan u H'):=by
   rintro q h1 ⟨m,s,o',h2,h3,h4⟩
   refine ⟨m+1,s,o',by rw [← Nat.add_assoc,Nat.add_right_comm]; exact h2,?_,h4⟩
   simp only [List.range'_succ,runI,hk',h1]
   exact h3
  have put:∀ {v t1 H1},Like (t1,H1) (p.1,H1)→(dputs cx o v t1 H1 (druns cx ops r)).run=some (.panic u,t',H') → ∃ q,puts cx o v p.1 H1=some q ∧
    ∃ (m:Nat) (s:T × List O) (o:Oper),ops[k+1+m]? = some o∧runI cx ops (List.range' (k+1) m) q=some s∧wantedT ops s.1 o=some true∧(dop cx s.1 s.2 o).run=some (.pan u H'):=by
   intro v t1 H1 hl1 h
   unfold dputs at h
   split at h
   ·rename_i t2 h2
    have h3:puts cx o v t1 H1=some (t2,H1):=by unfold puts; rw [h2]; rfl
    obtain ⟨q,hq,hq'⟩:=puts_like (p:=(t1,H1)) (q:=(p.1,H1)) hl1.1 h3
    exact ⟨q,hq,ih t2 H1 q u t' H' hr hq' h⟩
   ·cases h
  have op:∀ {t1},Like (t1,H) p→((dop cx t1 H o).bind (dres cx o t1 (druns cx ops r))).run=some (.panic u,t',H')→wantedT ops p.1 o=some true →
    ∃ (m:Nat) (s:T × List O) (o:Oper),ops[k+m]? = some o∧runI cx ops (List.range' k m) p=some s∧wantedT ops s.1 o=some true∧(dop cx s.1 s.2 o).run=some (.pan u H'):=by
   intro t1 hl1 h hw
   obtain ⟨res,hres,hd⟩:=bind_run h
   have ed:dop cx p.1 p.2 o=dop cx t1 H o:=by rw [← hl1.2]; exact dop_congr fun x _=>(rd_eq hl1.1 x).symm
   cases res with
   | pan v H1 =>
    simp only [dres,Tree.run,Option.some.injEq,Prod.mk.injEq,AEx.panic.injEq] at hd
    obtain ⟨rfl,_,rfl⟩:=hd
    exact ⟨0,p,o,hk',rfl,hw,by rw [ed]; exact hres⟩
   | ok v H1 =>
    obtain ⟨q,hq,hh⟩:=put (v:=v) (t1:=t1) (H1:=H1) ⟨hl1.1,rfl⟩ hd
    refine next (q:=q) ?_ hh
    unfold step1
    simp only [hw,ed,hres]
    exact hq
  have no:∀ {t1},Like (t1,H) p→(dputs cx o vundef t1 H (druns cx ops r)).run=some (.panic u,t',H')→wantedT ops p.1 o=some false →
    ∃ (m:Nat) (s:T × List O) (o:Oper),ops[k+m]? = some o∧runI cx ops (List.range' k m) p=some s∧wantedT ops s.1 o=some true∧(dop cx s.1 s.2 o).run=some (.pan u H'):=by
   intro t1 hl1 h hw
   have e:p.2=H:=hl1.2.symm
   obtain ⟨q,hq,hh⟩:=put (v:=vundef) (t1:=t1) (H1:=H) ⟨hl1.1,rfl⟩ h
   refine next (q:=q) ?_ hh
   unfold step1
   simp only [hw,e]
   exact hq
  unfold druns dstep at h
  split at h
  ·rename_i hgd
   exact op hp h (by simp [wantedT,hgd])
  ·rename_i j want hgd
   split at h
   rotate_left
   ·cases h
   rename_i d hd
   have hpd:get d p.1=get d t:=(hp.1 d).symm
   split at h
   ·rename_i b hb
    have pinned:Like (Ab.put d (.bool b) t,H) p:=by
     refine ⟨fun e=>?_,hp.2⟩
     simp only [get_put]
     split
     ·rename_i he; subst he; rw [← hb]; exact hp.1 e
     ·exact hp.1 e
    have hw:wantedT ops p.1 o=some (b == want):=by simp only [wantedT,hgd,hd,hpd,hb]
    cases b <;> cases want
    ·exact op pinned h hw
    ·exact no pinned h hw
    ·exact no pinned h hw
    ·exact op pinned h hw
   ·rename_i vs hb
    exact no hp h (by simp only [wantedT,hgd,hd,hpd,hb])
   ·cases h
theorem hold_nopan {H:List O} {x v:V} {H' : List O} (h:(hold H x).run=some (.pan v H')):False:=by
 unfold hold at h
 cases h
theorem holdO_nopan {H:List O} {x:Option V} {v:V} {H' : List O} (h:(holdO H x).run=some (.pan v H')):False:=by
 unfold holdO at h
 split at h
 ·cases h
 ·cases h
theorem bind_nopan {α:Type} {x:Tree α} {f:α→Tree Res} (hf:∀ (a:α) (v:V) (H' : List O),(f a).run=some (.pan v H')→False) {v:V} {H' : List O} (h:(x.bind f).run=some (.pan v H')):False:=by
 obtain ⟨a,_,h2⟩:=bind_run h
 exact hf a _ _ h2
theorem cond_nopan {b:Bool} {x y:Tree Res} {v:V} {H' : List O} (hx:x.run=some (.pan v H')→False) (hy:y.run=some (.pan v H')→False) (h:(cond b x y).run=some (.pan v H')):False:=by
 cases b
 ·exact hy h
 ·exact hx h
theorem callP_nopan {f:Nat} {as:List V} {H:List O} {v:V} {H' : List O} (h:(callP cx H f as).run=some (.pan v H')):False:=by
 unfold callP at h
 split at h
 ·exact bind_nopan (fun a v H' h=>by cases h) h
 ·cases h
theorem callR_nopan {f:Nat} {as:List V} {H:List O} {v:V} {H' : List O} (h:(callR cx H f as).run=some (.pan v H')):False:=by
 unfold callR at h
 simp only at h
 split at h
 rotate_left
 ·cases h
 split at h
 rotate_left
 ·cases h
 refine cond_nopan (fun h=>bind_nopan (fun a v H' h=>?_) h) (fun h=>by cases h) h
 split at h
 ·unfold numO at h
  exact cond_nopan (fun h=>by cases h) (fun h=>by cases h) h
 ·cases h
theorem noPan_spec {o:Oper} (hn:noPan cx o=true) {t:T} {H:List O} {v:V} {H' : List O} (h:(dop cx t H o).run=some (.pan v H')):False:=by
 unfold noPan at hn
 unfold dop at h
 split at hn <;> first | (cases hn; done) | (rename_i ho; simp only [ho] at h)
 all_goals first
  | exact hold_nopan h
  | exact holdO_nopan h
  | exact bind_nopan (fun a v H' h=>hold_nopan h) h
  | (split at h <;> first | exact hold_nopan h | exact holdO_nopan h | (cases h; done))
  | exact cond_nopan (bind_nopan fun a v H' h=>hold_nopan h) holdO_nopan h
  | exact cond_nopan holdO_nopan (bind_nopan fun a v H' h=>hold_nopan h) h
  | exact cond_nopan (bind_nopan fun a v H' h=>by cases h) (fun h=>by split at h <;> cases h) h
  | skip
 rename_i _ g args _
 have hk:hasKey g cx.mtab=false:=by simpa using hn
 simp only [rd,oCall,callF,hk,cond_false] at h
 refine cond_nopan (fun h=>cond_nopan (fun h=>callR_nopan h) (fun h=>callP_nopan h) h) (fun h=>?_) h
 cases h
theorem union1_mem {m:Nat}:∀ (l r:List Nat),m ∈ aheads.union1 l r→m ∈ l∨m ∈ r
 | [],r,h=>.inr h
 | n :: l,r,h=>by
  unfold aheads.union1 at h
  cases hb:hasN n r
  ·rw [hb,cond_false] at h
   rcases union1_mem l _ h with h | h
   ·exact .inl (List.mem_cons_of_mem _ h)
   ·rcases List.mem_cons.1 h with rfl | h
    ·exact .inl List.mem_cons_self
    ·exact .inr h
  ·rw [hb,cond_true] at h
   rcases union1_mem l _ h with h | h
   ·exact .inl (List.mem_cons_of_mem _ h)
   ·exact .inr h
theorem hasN_mem {n:Nat}:∀ {l:List Nat},hasN n l=true→n ∈ l
 | [],h=>by cases h
 | m :: l,h=>by
  unfold hasN at h
  cases hb:Nat.beq n m
  ·rw [hb,cond_false] at h; exact List.mem_cons_of_mem _ (hasN_mem h)
  ·have:=Nat.eq_of_beq_eq_true hb; subst this; exact List.mem_cons_self
theorem aheads_ok:∀ (l:List Oper) (k:Nat) (acc:List (List Nat)),ops.toList.drop k=l→acc.length=k→(∀ (j:Nat) a,acc[j]? = some a → ∀ i ∈ a,Anc ops i j) →
  ∀ (j:Nat) a,(aheads l acc)[j]? = some a → ∀ i ∈ a,Anc ops i j
 | [],k,acc,_,_,h=>h
 | o :: r,k,acc,hl,hk,h=>by
  have ho:ops.toList[k]? = some o:=by
   have:=congrArg (fun l=>l[0]?) hl
   simpa using this
  have ho' : ops[k]? = some o:=by simpa using ho
  have hr:ops.toList.drop (k+1)=r:=by
   have:=congrArg List.tail hl
   simpa [List.tail_drop] using this
  unfold aheads
  refine aheads_ok r (k+1) _ hr (by simp [hk]) ?_
  intro j a hj i hi
  rw [getElem?_concat] at hj
  split at hj
  ·exact h j a hj i hi
  ·split at hj
   ·rename_i hjk
    simp only [Option.some.injEq] at hj
    subst hj
    have hjk:j=k:=by omega
    subst hjk
    have key:∀ (es:List Edge),(∀ e ∈ es,e ∈ o.after) → ∀ (l0:List Nat),(∀ m ∈ l0,Anc ops m j) →
      ∀ m ∈ es.foldl (fun l e=>cond (Region.binds .any e) (aheads.union1 (e.on :: acc.getD e.on []) l) l) l0,Anc ops m j:=by
     intro es
     induction es with
     | nil=>intro _ l0 h0 m hm; exact h0 m hm
     | cons e es ih =>
      intro hes l0 h0 m hm
      refine ih (fun e he=>hes e (List.mem_cons_of_mem _ he)) _ ?_ m hm
      intro m hm
      simp only at hm
      cases hb:Region.binds .any e
      ·rw [hb,cond_false] at hm; exact h0 m hm
      ·rw [hb,cond_true] at hm
       rcases union1_mem _ _ hm with hm | hm
       ·have he:Anc ops e.on j:=fun S hS hj=>hS j o ho' hj e (hes e List.mem_cons_self) hb
        rcases List.mem_cons.1 hm with rfl | hm
        ·exact he
        ·rw [List.getD_eq_getElem?_getD] at hm
         cases ha:acc[e.on]? with
         | none=>rw [ha] at hm; cases hm
         | some b =>
          rw [ha] at hm
          exact fun S hS hj=>h e.on b ha m hm S hS (he S hS hj)
       ·exact h0 m hm
    exact key o.after.toList (fun e he=>by simpa using he) [] (fun m hm=>by cases hm) i hi
   ·cases hj
theorem backs_spec (h2:backs 0 ops.toList=true):∀ (j:Nat) o,ops[j]? = some o → ∀ e ∈ o.after,Region.binds .any e=true→e.on<j:=by
  have key:∀ (l:List Oper) (k:Nat),ops.toList.drop k=l→backs k l=true → ∀ (j:Nat) o,l[j]? = some o → ∀ e ∈ o.after,Region.binds .any e=true→e.on<k+j:=by
   intro l
   induction l with
   | nil=>intro k _ _ j o h; simp at h
   | cons o r ih =>
    intro k hl hb j o' ho' e he hbe
    unfold backs at hb
    obtain ⟨b1,b2⟩:=Bool.and_eq_true_iff.1 hb
    cases j with
    | zero =>
     simp only [List.getElem?_cons_zero,Option.some.injEq] at ho'
     subst ho'
     have:=List.all_eq_true.1 b1 e (by simpa using he)
     rw [hbe] at this
     simp [Nat.blt_eq] at this
     omega
    | succ j =>
     have hr:ops.toList.drop (k+1)=r:=by
      have:=congrArg List.tail hl
      simpa [List.tail_drop] using this
     have:=ih (k+1) hr b2 j o' (by simpa using ho') e he hbe
     omega
  intro j o ho e he hb
  have:=key ops.toList 0 rfl h2 j o (by simpa using ho) e he hb
  omega
theorem pairs_spec:∀ (n:Nat),pairsOk cx ops (aheads ops.toList []) n=true → ∀ i j,i<j→j<n→Anc ops i j∨Turns cx ops I i j:=by
 have hah:=aheads_ok (ops:=ops) ops.toList 0 [] rfl rfl (fun j a h=>by simp at h)
 intro n
 induction n with
 | zero=>intro _ i j _ h; omega
 | succ n ih =>
  intro hp i j hij hj
  unfold pairsOk at hp
  obtain ⟨p1,p2⟩:=Bool.and_eq_true_iff.1 hp
  by_cases hjn:j=n
  ·subst hjn
   have:=List.all_eq_true.1 p1 i (List.mem_range.2 hij)
   rcases Bool.or_eq_true_iff.1 this with h | h
   ·left
    have hm:=hasN_mem h
    rw [List.getD_eq_getElem?_getD] at hm
    cases ha:(aheads ops.toList [])[j]? with
    | none=>rw [ha] at hm; cases hm
    | some b=>rw [ha] at hm; exact hah j b ha i hm
   ·right
    intro x y hx hy
    simp only [hx,hy] at h
    obtain ⟨h1,h2⟩:=Bool.and_eq_true_iff.1 h
    exact ⟨h1,.inl h2⟩
  ·exact ih p2 i j hij (by omega)
theorem drawOk_spec (h:drawOk cx ops=true) (p0:T × List O):cx.P.follows .mixedOrders=true∧DrawOk cx ops p0:=by
 unfold drawOk at h
 obtain ⟨h1,h⟩:=Bool.and_eq_true_iff.1 h
 obtain ⟨h2,h3⟩:=Bool.and_eq_true_iff.1 h
 refine ⟨h1,backs_spec h2,fun i j g1 g2=>(pairs_spec (I:=fun _=>True) ops.size h3 i j g1 g2).imp id fun h l p _ _ x y hx hy=>?_⟩
 obtain ⟨k1,k2⟩:=h x y hx hy
 exact ⟨k1,k2.imp id fun g=>.inl (g p trivial)⟩
def RootsInv (S:Roots) (p:T × List O):Prop:=∀ d i,(d,i) ∈ S→rootAt i (get d p.1)=true
theorem rootOf_mem {d i:Nat}:∀ {S:Roots},rootOf d S=some i→(d,i) ∈ S
 | [],h=>by cases h
 | (e,j) :: r,h=>by
  unfold rootOf at h
  cases hb:Nat.beq d e
  ·rw [hb] at h; exact List.mem_cons_of_mem _ (rootOf_mem h)
  ·rw [hb] at h
   have:=Nat.eq_of_beq_eq_true hb
   simp only [cond_true,Option.some.injEq] at h
   subst this; subst h
   exact List.mem_cons_self
theorem root_ptr {i:Nat} {v:V} (h:rootAt i v=true):v = .any ∨ ∃ o,v = .ptr i o:=by
 unfold rootAt at h
 split at h
 ·exact .inl rfl
 ·have:=Nat.eq_of_beq_eq_true h
  subst this
  exact .inr ⟨_,rfl⟩
 ·cases h
theorem sepB_spec {S:Roots} {x y:Oper} (h:sepB S x y=true) (p:T × List O) (hp:RootsInv S p):SepAt x y p.1:=by
 unfold sepB at h
 split at h
 rotate_left
 ·cases h
 rename_i a b ha hb
 split at h
 rotate_left
 ·cases h
 rename_i i j hi hj
 refine ⟨_,_,ha,hb,fun i' j' o o' h1 h2 e=>?_⟩
 subst e
 have g1:=root_ptr (hp _ _ (rootOf_mem hi))
 have g2:=root_ptr (hp _ _ (rootOf_mem hj))
 have h1:get a p.1 = .ptr i' o:=h1
 have h2:get b p.1 = .ptr i' o' := h2
 rw [h1] at g1
 rw [h2] at g2
 rcases g1 with g1 | ⟨_,g1⟩
 ·cases g1
 rcases g2 with g2 | ⟨_,g2⟩
 ·cases g2
 cases g1
 cases g2
 simp at h
theorem rootsOk_spec {t:T} {H:List O} {S:Roots} (h:rootsOk ops t S=true):RootsInv S (t,H)∧Keeps cx ops (RootsInv S):=by
 have hall:=List.all_eq_true.1 h
 refine ⟨fun d i hm=>(Bool.and_eq_true_iff.1 (hall _ hm)).1,?_⟩
 intro k o p q ho hI hs d i hm
 have hw:=(Bool.and_eq_true_iff.1 (hall _ hm)).2
 have hw:=List.all_eq_true.1 hw o (Array.mem_toList_iff.2 (Array.mem_of_getElem? ho))
 have same:o.dst ≠ some d→rootAt i (get d q.1)=true:=by
  intro hne
  have e:get d q.1=get d p.1:=by
   unfold step1 at hs
   split at hs
   ·split at hs
    ·exact (puts_spec hs).2.1 d hne
    ·cases hs
   ·exact (puts_spec hs).2.1 d hne
   ·cases hs
  rw [e]
  exact hI d i hm
 rcases Bool.or_eq_true_iff.1 hw with hw | hw
 ·refine same fun e=>?_
  unfold notDst at hw
  rw [e] at hw
  simp at hw
 ·by_cases hd:o.dst=some d
  rotate_left
  ·exact same hd
  cases hf:fromSlot o with
  | none=>rw [hf] at hw; cases hw
  | some c =>
   rw [hf] at hw
   unfold isRoot at hw
   simp only at hw
   cases hc:rootOf c S with
   | none=>rw [hc] at hw; cases hw
   | some j =>
    rw [hc] at hw
    have:=Nat.eq_of_beq_eq_true hw
    subst this
    have hroot:=root_ptr (hI _ _ (rootOf_mem hc))
    have hg:o.guard=none:=by
     unfold fromSlot at hf
     split at hf
     ·assumption
     ·cases hf
    unfold step1 at hs
    rw [show wantedT ops p.1 o=some true from by unfold wantedT; rw [hg]] at hs
    simp only at hs
    cases hu:(dop cx p.1 p.2 o).run with
    | none=>rw [hu] at hs; cases hs
    | some res =>
     rw [hu] at hs
     cases res with
     | pan u H2=>cases hs
     | ok u H2 =>
      rw [((puts_spec hs).2.2 d hd).1]
      unfold fromSlot at hf
      rw [hg] at hf
      simp only at hf
      unfold dop at hu
      split at hf
      ·rename_i ty c' f ho
       simp only [Option.some.injEq] at hf
       subst hf
       simp only [ho,rd] at hu
       obtain ⟨w,hw,e⟩:=holdO_run hu
       simp only [Res.ok.injEq] at e
       obtain ⟨rfl,rfl⟩:=e
       rcases hroot with g | ⟨off,g⟩
       ·rw [g] at hw
        unfold oFieldAddr at hw
        split at hw
        ·split at hw
         ·split at hw
          ·rename_i size _ _
           cases hz:Nat.beq size 0
           ·rw [hz] at hw; cases hw
           ·rw [hz] at hw; cases hw
          ·cases hw
         ·cases hw
        ·cases hw
       ·rw [g] at hw
        unfold oFieldAddr at hw
        split at hw
        ·split at hw
         ·split at hw
          ·rename_i size _ _
           cases hz:Nat.beq size 0
           ·rw [hz] at hw
            simp only [cond_false,Option.some.injEq] at hw
            subst hw
            exact Nat.beq_refl _
           ·rw [hz] at hw; cases hw
          ·cases hw
         ·cases hw
        ·cases hw
      ·rename_i c' ho
       simp only [Option.some.injEq] at hf
       subst hf
       simp only [ho,rd] at hu
       rcases hroot with g | ⟨off,g⟩
       ·rw [g] at hu; cases hu
       ·rw [g] at hu
        simp only [hold,Tree.run,Option.some.injEq,Res.ok.injEq] at hu
        rw [← hu.1]
        exact Nat.beq_refl _
      ·rename_i c' ho
       simp only [Option.some.injEq] at hf
       subst hf
       simp only [ho,rd,hold,Tree.run,Option.some.injEq,Res.ok.injEq] at hu
       rw [← hu.1]
       rcases hroot with g | ⟨off,g⟩
       ·rw [g]; rfl
       ·rw [g]; exact Nat.beq_refl _
      ·cases hf
theorem step1_other {o:Oper} {p q:T × List O} {d:Nat} (hs:step1 cx ops o p=some q) (hd:notDst d o.dst=true):get d q.1=get d p.1:=by
 have hne:o.dst ≠ some d:=fun e=>by
  unfold notDst at hd
  rw [e] at hd
  simp at hd
 unfold step1 at hs
 split at hs
 ·split at hs
  ·exact (puts_spec hs).2.1 d hne
  ·cases hs
 ·exact (puts_spec hs).2.1 d hne
 ·cases hs
theorem step1_quiet {o:Oper} {p q:T × List O} (hs:step1 cx ops o p=some q) (hq:quiet cx o=true):q.2=p.2:=by
 unfold step1 at hs
 split at hs
 ·split at hs
  ·rename_i v H1 hd
   rw [(puts_spec hs).1]
   exact quiet_spec hq hd
  ·cases hs
 ·exact (puts_spec hs).1
 ·cases hs
theorem runI_quiet {i j:Nat} (hq:quietTo cx ops i j=true):∀ (l:List Nat) {p q:T × List O},(∀ k ∈ l,k<j∧k ≠ i)→runI cx ops l p=some q→q.2=p.2
 | [],p,q,_,h=>by simp only [runI,Option.some.injEq] at h; subst h; rfl
 | k :: l,p,q,hl,h=>by
  simp only [runI] at h
  cases ho:ops[k]? with
  | none=>rw [ho] at h; exact runI_quiet hq l (fun m hm=>hl m (List.mem_cons_of_mem _ hm)) h
  | some o =>
   rw [ho] at h
   simp only at h
   cases h1:step1 cx ops o p with
   | none=>rw [h1] at h; cases h
   | some p1 =>
    rw [h1] at h
    rw [runI_quiet hq l (fun m hm=>hl m (List.mem_cons_of_mem _ hm)) h]
    obtain ⟨k1,k2⟩:=hl k List.mem_cons_self
    have:=List.all_eq_true.1 hq k (List.mem_range.2 k1)
    rw [ho] at this
    rcases Bool.or_eq_true_iff.1 this with g | g
    ·exact absurd (Nat.eq_of_beq_eq_true g) k2
    ·exact step1_quiet h1 g
def Tree.every {β:Type} (Q:β→Prop):Tree β→Prop
 | .leaf b=>Q b
 | .fail=>True
 | .br _ x y=>x.every Q∧y.every Q
theorem Tree.every_run {β:Type} {Q:β→Prop}:∀ {x:Tree β} {b:β},x.every Q→x.run=some b→Q b
 | .leaf _,_,h,e=>by cases e; exact h
 | .fail,_,_,e=>by cases e
 | .br c x y,b,h,e=>by
  cases c
  ·exact Tree.every_run (x:=y) h.2 e
  ·exact Tree.every_run (x:=x) h.1 e
theorem Tree.every_cond {β:Type} {Q:β→Prop} {c:Bool} {x y:Tree β} (hx:x.every Q) (hy:y.every Q):(cond c x y).every Q:=by
 cases c
 ·exact hy
 ·exact hx
def NoIds (v:V):Prop:=V.ids v=[]
theorem intBin_ids (op:BinOp) (k:IntKind) (a b:Int):(intBin op k a b).every NoIds:=by
 cases op <;> first | exact (rfl:V.ids (.int _ _)=[]) | exact (rfl:V.ids (.bool _)=[]) | exact ⟨(rfl:V.ids (.int _ _)=[]),trivial⟩ | exact trivial
theorem intShift_ids (op:BinOp) (k:IntKind) (a b:Int):(intShift op k a b).every NoIds:=by
 cases op <;> first | exact ⟨(rfl:V.ids (.int _ _)=[]),trivial⟩ | exact trivial
theorem strBin_ids (op:BinOp) (a b:List UInt8):(strBin op a b).every NoIds:=by
 cases op <;> first | exact ⟨(rfl:V.ids (.str _)=[]),trivial⟩ | exact (rfl:V.ids (.bool _)=[]) | exact trivial
theorem oIfc_ids (P:Program) (op:BinOp) (t tx:TypeId) (k:IntKind) (a:Int) (ty:TypeId) (l:IntKind) (b:Int):(oIfc P op t tx k a ty l b).every NoIds:=by
 unfold oIfc
 split
 ·rename_i i _ _ _
  cases (Nat.beq tx ty && (i.comparable && decide (k=l)))
  ·exact trivial
  ·rw [cond_true]
   split
   ·exact (rfl:V.ids (.bool _)=[])
   ·exact (rfl:V.ids (.bool _)=[])
   ·exact trivial
 ·exact trivial
theorem oNil_ids (P:Program) (op:BinOp) (t:TypeId) (x:V):(oNil P op t x).every NoIds:=by
 unfold oNil
 split <;> first | exact (rfl:V.ids (.bool _)=[]) | exact trivial
theorem oBin_ids (P:Program) (op:BinOp) (t:TypeId) (x y:V):(oBin P op t x y).every NoIds:=by
 unfold oBin
 split
 ·split
  ·exact intShift_ids _ _ _ _
  ·exact intShift_ids _ _ _ _
  ·exact Tree.every_cond (intBin_ids _ _ _ _) trivial
 ·exact strBin_ids _ _ _
 ·split <;> first | exact (rfl:V.ids (.bool _)=[]) | exact trivial
 ·split <;> first | exact (rfl:V.ids (.bool _)=[]) | exact trivial
 ·split
  ·split <;> first | exact (rfl:V.ids (.bool _)=[]) | exact trivial
  ·exact trivial
 ·split
  ·split <;> first | exact (rfl:V.ids (.bool _)=[]) | exact trivial
  ·exact trivial
 ·split
  ·rename_i ms _
   cases ms.isEmpty
   ·exact trivial
   ·rw [cond_true]
    split <;> first | exact (rfl:V.ids (.bool _)=[]) | exact trivial
  ·exact trivial
 ·exact oIfc_ids _ _ _ _ _ _ _ _ _
 ·exact trivial
theorem binOp_ids {o:Oper} {op:BinOp} {ty:TypeId} {x y:Operand} {yt:TypeId} (ho:o.op = .binOp op ty x y yt) {t:T} {H:List O} {v:V} {H' : List O} (h:(dop cx t H o).run=some (.ok v H')):NoIds v:=by
 unfold dop at h
 simp only [ho] at h
 obtain ⟨u,h1,h2⟩:=bind_run h
 simp only [hold,Tree.run,Option.some.injEq,Res.ok.injEq] at h2
 obtain ⟨rfl,rfl⟩:=h2
 cases hn:isNilC y
 ·rw [hn,cond_false] at h1
  exact Tree.every_run (oBin_ids _ _ _ _ _) h1
 ·rw [hn,cond_true] at h1
  exact Tree.every_run (oNil_ids _ _ _ _) h1
def IdIn (v:V) (l:List V):Prop:=∃ u,u ∈ l∧V.ids v=V.ids u
theorem IdIn.cons {v u:V} {l:List V} (h:IdIn v l):IdIn v (u :: l):=by
 obtain ⟨w,h1,h2⟩:=h
 exact ⟨w,List.mem_cons_of_mem _ h1,h2⟩
def NoneOp (cx:Cx) (x:Op):Prop:=(∃ op ty x1 x2 yt,x = .binOp op ty x1 x2 yt)∨(∃ ty a,x = .load ty a∧isLz cx.lz a=true) ∨
 ∃ g args ats,x = .call { callee:=.value (.func g),args:=args,argTypes:=ats } ∧ (hasN g cx.nums && (hasKey g cx.rtab && !(hasKey g cx.mtab)))=true
theorem oLoadZ_ids (P:Program) (H:List O) (t:TypeId) (a:V):(oLoadZ P H t a).every NoIds:=by
 unfold oLoadZ
 split
 ·split
  ·exact ⟨(rfl:V.ids (.int _ _)=[]),trivial⟩
  ·refine Tree.every_cond ⟨(rfl:V.ids (.int _ _)=[]),trivial⟩ trivial
  ·exact trivial
 ·exact trivial
theorem noneOp_ids {o:Oper} (ho:NoneOp cx o.op) {t:T} {H:List O} {v:V} {H' : List O} (h:(dop cx t H o).run=some (.ok v H')):NoIds v:=by
 rcases ho with ⟨_,_,_,_,_,ho⟩ | ⟨ty,a,ho,hz⟩ | ⟨g,args,ats,ho,hz⟩
 ·exact binOp_ids ho h
 ·unfold dop at h
  simp only [ho,hz,cond_true] at h
  obtain ⟨u,h1,h2⟩:=bind_run h
  simp only [hold,Tree.run,Option.some.injEq,Res.ok.injEq] at h2
  obtain ⟨rfl,rfl⟩:=h2
  exact Tree.every_run (oLoadZ_ids _ _ _ _) h1
 ·simp only [Bool.and_eq_true,Bool.not_eq_true'] at hz
  obtain ⟨z1,z2,z3⟩:=hz
  unfold dop at h
  simp only [ho] at h
  unfold oCall at h
  simp only [rd] at h
  rw [show (Nat.beq (#[]:Array Value).size 0 && Nat.beq (#[]:Array Value).size 0)=true from rfl,cond_true] at h
  unfold callF at h
  rw [z3,z2,cond_false,cond_true] at h
  unfold callR at h
  simp only at h
  split at h
  rotate_left
  ·cases h
  split at h
  rotate_left
  ·cases h
  generalize noDup _=nd at h
  cases nd
  ·cases h
  rw [cond_true] at h
  obtain ⟨u,h1,h2⟩:=bind_run h
  split at h2
  rotate_left
  ·cases h2
  have e:=(numO_run h2).1
  cases e
  exact numO_ids h2 z1
theorem mayHold1_spec {t:T} {d:Nat} {o:Oper} {acc:Option (List V)} {l:List V} (h:mayHold1 cx ops t d o acc=some l) :
  ∃ l',acc=some l' ∧ ((notDst d o.dst=true∧l=l')∨(notDst d o.dst=false∧o.guard=none∧((∃ y,o.op = .move y∧fixedArg ops y=true∧l=rd t y :: l')∨(NoneOp cx o.op∧l = .any :: l')))):=by
 unfold mayHold1 at h
 split at h
 ·cases h
 ·rename_i l'
  refine ⟨l',rfl,?_⟩
  cases hn:notDst d o.dst
  ·rw [hn,cond_false] at h
   split at h
   ·rename_i y hg hop
    cases hf:fixedArg ops y
    ·rw [hf] at h; cases h
    ·rw [hf] at h; cases h; exact .inr ⟨rfl,hg,.inl ⟨y,hop,hf,rfl⟩⟩
   ·rename_i hg hop
    cases h
    exact .inr ⟨rfl,hg,.inr ⟨.inl ⟨_,_,_,_,_,hop⟩,rfl⟩⟩
   ·rename_i ty a hg hop
    cases hz:isLz cx.lz a
    ·rw [hz] at h; cases h
    ·rw [hz] at h
     cases h
     exact .inr ⟨rfl,hg,.inr ⟨.inr (.inl ⟨_,_,hop,hz⟩),rfl⟩⟩
   ·rename_i g args ats hg hop
    cases hz:(hasN g cx.nums && (hasKey g cx.rtab && !(hasKey g cx.mtab)))
    ·rw [hz] at h; cases h
    ·rw [hz] at h
     cases h
     exact .inr ⟨rfl,hg,.inr ⟨.inr (.inr ⟨_,_,_,hop,hz⟩),rfl⟩⟩
   ·cases h
  ·rw [hn] at h
   cases h
   exact .inl ⟨rfl,rfl⟩
theorem mayHold_init {t:T} {x:Operand} {l:List V} (h:mayHold cx ops t x=some l):IdIn (rd t x) l:=by
 cases x with
 | tmp d =>
  unfold mayHold at h
  have key:∀ (os:List Oper) (l:List V),os.foldr (mayHold1 cx ops t d) (some [get d t])=some l→IdIn (get d t) l:=by
   intro os
   induction os with
   | nil=>intro l h; cases h; exact ⟨_,List.mem_cons_self,rfl⟩
   | cons o os ih =>
    intro l h
    rw [List.foldr_cons] at h
    obtain ⟨l',hl',g⟩:=mayHold1_spec h
    have g0:=ih l' hl'
    rcases g with ⟨_,rfl⟩ | ⟨_,_,⟨y,_,_,rfl⟩ | ⟨_,rfl⟩⟩
    ·exact g0
    ·exact g0.cons
    ·exact g0.cons
  exact key _ _ h
 | const v=>unfold mayHold at h; cases h; exact ⟨_,List.mem_cons_self,rfl⟩
 | global g=>unfold mayHold at h; cases h; exact ⟨_,List.mem_cons_self,rfl⟩
 | func f=>unfold mayHold at h; cases h; exact ⟨_,List.mem_cons_self,rfl⟩
theorem mayHold_move {t:T} {d:Nat} {l:List V} (h:mayHold cx ops t (.tmp d)=some l) {o:Oper} (ho:o ∈ ops.toList) (hd:notDst d o.dst=false) :
  o.guard=none∧((∃ y,o.op = .move y∧fixedArg ops y=true∧IdIn (rd t y) l)∨(NoneOp cx o.op∧IdIn .any l)):=by
 unfold mayHold at h
 have key:∀ (os:List Oper) (l:List V),os.foldr (mayHold1 cx ops t d) (some [get d t])=some l→o ∈ os →
   o.guard=none∧((∃ y,o.op = .move y∧fixedArg ops y=true∧IdIn (rd t y) l)∨(NoneOp cx o.op∧IdIn .any l)):=by
  intro os
  induction os with
  | nil=>intro l h hm; cases hm
  | cons o' os ih =>
   intro l h hm
   rw [List.foldr_cons] at h
   obtain ⟨l',hl',g⟩:=mayHold1_spec h
   rcases List.mem_cons.1 hm with rfl | hm
   ·rcases g with ⟨g,_⟩ | ⟨_,hg,⟨y,hop,hf,rfl⟩ | ⟨hop,rfl⟩⟩
    ·rw [hd] at g; cases g
    ·exact ⟨hg,.inl ⟨y,hop,hf,_,List.mem_cons_self,rfl⟩⟩
    ·exact ⟨hg,.inr ⟨hop,_,List.mem_cons_self,rfl⟩⟩
   ·obtain ⟨g1,g2⟩:=ih l' hl' hm
    refine ⟨g1,?_⟩
    have up:∀ v,IdIn v l' → IdIn v l:=by
     intro v hv
     rcases g with ⟨_,rfl⟩ | ⟨_,_,⟨y,_,_,rfl⟩ | ⟨_,rfl⟩⟩
     ·exact hv
     ·exact hv.cons
     ·exact hv.cons
    rcases g2 with ⟨y,a1,a2,a3⟩ | ⟨a1,a2⟩
    ·exact .inl ⟨y,a1,a2,up _ a3⟩
    ·exact .inr ⟨a1,up _ a2⟩
 exact key _ _ h ho
theorem runI_may {t:T} {H:List O} {x:Operand} {l:List V} (h:mayHold cx ops t x=some l):∀ (ls:List Nat) {p q:T × List O},(∀ y,fixedArg ops y=true→rd p.1 y=rd t y)→IdIn (rd p.1 x) l→runI cx ops ls p=some q→IdIn (rd q.1 x) l
 | [],p,q,_,hx,hr=>by simp only [runI,Option.some.injEq] at hr; subst hr; exact hx
 | i :: ls,p,q,hp,hx,hr=>by
  simp only [runI] at hr
  cases ho:ops[i]? with
  | none=>rw [ho] at hr; exact runI_may (H:=H) h ls hp hx hr
  | some o =>
   rw [ho] at hr
   simp only at hr
   cases h1:step1 cx ops o p with
   | none=>rw [h1] at hr; cases hr
   | some p1 =>
    rw [h1] at hr
    have hm:o ∈ ops.toList:=Array.mem_toList_iff.2 (Array.mem_of_getElem? ho)
    have hfix:∀ y,fixedArg ops y=true→rd p1.1 y=rd t y:=by
     intro y hy
     rw [← hp y hy]
     cases y with
     | tmp d=>exact step1_other h1 (List.all_eq_true.1 hy o hm)
     | _=>rfl
    refine runI_may (H:=H) h ls hfix ?_ hr
    cases x with
    | tmp d =>
     cases hd:notDst d o.dst
     ·obtain ⟨g1,g2⟩:=mayHold_move h hm hd
      have e:o.dst=some d:=by
       unfold notDst at hd
       split at hd
       ·rename_i e' he
        have:Nat.beq e' d=true:=by simpa using hd
        rw [he,Nat.eq_of_beq_eq_true this]
       ·cases hd
      show IdIn (get d p1.1) l
      unfold step1 at h1
      rw [show wantedT ops p.1 o=some true from by unfold wantedT; rw [g1]] at h1
      rcases g2 with ⟨y,g2,g3,g4⟩ | ⟨g2,w,g4,g5⟩
      ·have hdop:(dop cx p.1 p.2 o).run=some (.ok (rd p.1 y) p.2):=by
        unfold dop
        simp only [g2]
        rfl
       simp only [hdop] at h1
       rw [((puts_spec h1).2.2 d e).1,hp y g3]
       exact g4
      ·cases hr:(dop cx p.1 p.2 o).run with
       | none=>simp only [hr] at h1; cases h1
       | some r =>
        cases r with
        | pan v H' => simp only [hr] at h1; cases h1
        | ok v H' =>
         simp only [hr] at h1
         rw [((puts_spec h1).2.2 d e).1]
         refine ⟨w,g4,?_⟩
         rw [← g5]
         exact noneOp_ids g2 hr
     ·show IdIn (get d p1.1) l
      rw [step1_other h1 hd]
      exact hx
    | _=>exact hx
theorem mayHolds_spec {t:T} {H:List O}:∀ {as:List Operand} {m:List (List V)},mayHolds cx ops t as=some m → ∀ (ls:List Nat) {p:T × List O},runI cx ops ls (t,H)=some p → ∃ us,us ∈ m∧V.idss (as.map (rd p.1))=V.idss us
 | [],m,h,ls,p,hr=>by cases h; exact ⟨[],List.mem_cons_self,rfl⟩
 | x :: as,m,h,ls,p,hr=>by
  unfold mayHolds at h
  split at h
  rotate_left
  ·cases h
  rename_i l m' hl hm
  cases h
  obtain ⟨u,h1,h2⟩:=runI_may (H:=H) hl ls (fun _ _=>rfl) (mayHold_init hl) hr
  obtain ⟨us,h3,h4⟩:=mayHolds_spec hm ls hr
  refine ⟨u :: us,List.mem_flatMap.2 ⟨u,h1,List.mem_map.2 ⟨us,h3,rfl⟩⟩,?_⟩
  show V.ids (rd p.1 x)++V.idss (as.map (rd p.1))=V.ids u++V.idss us
  rw [h2,h4]
theorem callSep1_spec {S:Roots} {t:T} {H:List O} {x y:Oper} {p:T × List O} (h:callSep1 cx ops S t H x y=true) (hp:RootsInv S p) (hH:p.2=H) {ls:List Nat} (hr:runI cx ops ls (t,H)=some p):CallSep cx x y p:=by
 unfold callSep1 at h
 obtain ⟨h1,h⟩:=Bool.and_eq_true_iff.1 h
 split at h
 rotate_left
 ·cases h
 rename_i a as ha hc
 split at h
 rotate_left
 ·cases h
 rename_i i m hi hm
 obtain ⟨h2,h4⟩:=Bool.and_eq_true_iff.1 h
 refine ⟨h1,_,as,ha,hc,fun i' o' hr' => ?_⟩
 have g:=root_ptr (hp _ _ (rootOf_mem hi))
 have hr' : get a p.1 = .ptr i' o' := hr'
 rw [hr'] at g
 have e:i' = i:=by
  rcases g with g | ⟨_,g⟩
  ·cases g
  ·cases g; rfl
 subst e
 obtain ⟨us,hus,hids⟩:=mayHolds_spec hm ls hr
 have hall:=List.all_eq_true.1 h4 _ hus
 rw [hH,hids]
 refine ⟨?_,by simpa using hall⟩
 rw [Nat.blt_eq] at h2
 exact h2
theorem pairsS_spec {S:Roots} {t:T} {H:List O} (hS:RootsInv S (t,H)) (hK:Keeps cx ops (RootsInv S)):∀ (n:Nat),pairsOkS cx ops (aheads ops.toList []) S t H n=true → ∀ i j,i<j→j<n →
  Anc ops i j ∨ ∀ l p,(∀ k ∈ l,k<j∧k ≠ i)→runI cx ops l (t,H)=some p→TurnsAt cx ops i j p:=by
 have hah:=aheads_ok (ops:=ops) ops.toList 0 [] rfl rfl (fun j a h=>by simp at h)
 intro n
 induction n with
 | zero=>intro _ i j _ h; omega
 | succ n ih =>
  intro hp i j hij hj
  unfold pairsOkS at hp
  obtain ⟨p1,p2⟩:=Bool.and_eq_true_iff.1 hp
  by_cases hjn:j=n
  ·subst hjn
   have:=List.all_eq_true.1 p1 i (List.mem_range.2 hij)
   rcases Bool.or_eq_true_iff.1 this with h | h
   ·left
    have hm:=hasN_mem h
    rw [List.getD_eq_getElem?_getD] at hm
    cases ha:(aheads ops.toList [])[j]? with
    | none=>rw [ha] at hm; cases hm
    | some b=>rw [ha] at hm; exact hah j b ha i hm
   ·right
    intro l p hl hrun x y hx hy
    simp only [hx,hy] at h
    obtain ⟨h1,h2⟩:=Bool.and_eq_true_iff.1 h
    refine ⟨h1,(Bool.or_eq_true_iff.1 h2).imp id fun h=>?_⟩
    have hI:=runI_keeps hK l hS hrun
    rcases Bool.or_eq_true_iff.1 h with h | h
    ·exact .inl (sepB_spec h p hI)
    ·right
     obtain ⟨q1,q2⟩:=Bool.and_eq_true_iff.1 h
     have hH:=runI_quiet q1 l hl hrun
     exact (Bool.or_eq_true_iff.1 q2).imp (fun g=>callSep1_spec g hI hH hrun) (fun g=>callSep1_spec g hI hH hrun)
  ·exact ih p2 i j hij (by omega)
theorem drawOkT_spec {t:T} {H:List O} (h:drawOkT cx ops t H=true):cx.P.follows .mixedOrders=true∧DrawOk cx ops (t,H):=by
 unfold drawOkT at h
 obtain ⟨h1,h⟩:=Bool.and_eq_true_iff.1 h
 obtain ⟨h2,h⟩:=Bool.and_eq_true_iff.1 h
 obtain ⟨h3,h4⟩:=Bool.and_eq_true_iff.1 h
 generalize roots1 ops.toList (roots0 t)=S at h3 h4
 obtain ⟨r1,r2⟩:=rootsOk_spec (cx:=cx) (H:=H) h3
 exact ⟨h1,backs_spec h2,fun i j g1 g2=>pairsS_spec r1 r2 ops.size h4 i j g1 g2⟩
theorem drawAny_spec {t:T} {H:List O} (h:(drawOk cx ops || drawOkT cx ops t H)=true):cx.P.follows .mixedOrders=true∧DrawOk cx ops (t,H):=by
 rcases Bool.or_eq_true_iff.1 h with h | h
 ·exact drawOk_spec h _
 ·exact drawOkT_spec h
variable {P:Program} {n:Nat} {Q:AEx→T→List O→Prop} {t:T} {H:List O}
theorem AWP_draw (hP:cx.P=P) (hn:cx.n=n) (hT:CxOk cx) {id:Nat} (h:(dcode cx (.region id ops true) t H).all (fun s=>Q s.1 s.2.1 s.2.2)) :
  AWP P n (.region id ops true) Q t H:=by
 subst hP
 subst hn
 simp only [dcode,cond_true] at h
 cases hd:(drawOk cx ops || drawOkT cx ops t H)
 ·rw [hd] at h; exact h.elim
 rw [hd,cond_true] at h
 obtain ⟨hm,hok⟩:=drawAny_spec (H:=H) hd
 obtain ⟨s,hs1,hs2⟩:=Tree.all_run h
 obtain ⟨s',h1,h2⟩:=bind_run hs1
 obtain ⟨e,t',H'⟩:=s'
 cases e with
 | normal =>
  simp only [dnorm,Tree.run,Option.some.injEq] at h2
  subst h2
  obtain ⟨r,r1,r2,r3⟩:=druns_run (cx:=cx) (ops:=ops) ops.toList 0 t H (t,H) t' H' rfl (.refl _) h1
  have r1:runI cx ops (List.range ops.size) (t,H)=some r:=by simpa [List.range_eq_range'] using r1
  intro E H0 β0 w0 D β a w hs hg
  refine wp_region_any hm ?_
  have hg' : Good E H0 β0 w0 cx.n D t H β a { w with drawn:=w.drawn+1 }:=
   have st:=Step.heap_same (w' := { w with drawn:=w.drawn+1 }) hg.step.rel rfl rfl rfl rfl
   ⟨hg.step.trans st,hg.fr.step st,hg.defers⟩
  have hnone:(fun i=>(Array.replicate ops.size false).getD i false)=fun _=>false:=by
   funext i
   rw [Array.getD_eq_getD_getElem?,Array.getElem?_replicate]
   split <;> rfl
  refine any_sound hT hs hok r1 (Q:=Q) ?_ ops.size _ (t,H) β a _ (by simp) ?_ ?_ ?_ hg'
  ·intro β a w hg
   refine ⟨t',H',β,hs2,?_⟩
   rw [r2] at hg
   exact ⟨hg.step,hg.fr.le r3,hg.defers⟩
  ·rw [hnone]; unfold missing
   have:(List.range ops.size).filter (fun _=>!false)=List.range ops.size:=List.filter_eq_self.2 (fun _ _=>rfl)
   rw [this]; simp
  ·rw [hnone]; intro j o _ hj; cases hj
  ·rw [hnone]
   have:(List.range ops.size).filter (fun _=>false)=[]:=by simp
   unfold stateOf
   rw [this]; rfl
 | exit _=>cases h2
 | ret=>cases h2
 | panic v =>
  simp only [dnorm] at h2
  cases hp:pansOk cx ops
  ·rw [hp] at h2; cases h2
  rw [hp,cond_true] at h2
  simp only [Tree.run,Option.some.injEq] at h2
  subst h2
  obtain ⟨j,r,o,ho,r1,hw,hdp⟩:=druns_pan (cx:=cx) (ops:=ops) ops.toList 0 t H (t,H) v t' H' rfl (.refl _) h1
  rw [Nat.zero_add] at ho
  have r1:runI cx ops (List.range j) (t,H)=some r:=by simpa [List.range_eq_range'] using r1
  have hj:j<ops.size:=(Array.getElem?_eq_some_iff.1 ho).1
  have hcut:cutB cx ops (aheads ops.toList []) ops.size j=true:=by
   have:=List.all_eq_true.1 hp j (List.mem_range.2 hj)
   rw [ho] at this
   rcases Bool.or_eq_true_iff.1 this with g | g
   ·exact (noPan_spec g hdp).elim
   ·exact g
  have hah:=aheads_ok (ops:=ops) ops.toList 0 [] rfl rfl (fun j a h=>by simp at h)
  have anc:∀ i k,hasN i ((aheads ops.toList []).getD k [])=true→Anc ops i k:=by
   intro i k hm
   have hm:=hasN_mem hm
   rw [List.getD_eq_getElem?_getD] at hm
   cases ha:(aheads ops.toList [])[k]? with
   | none=>rw [ha] at hm; cases hm
   | some b=>rw [ha] at hm; exact hah k b ha i hm
  unfold cutB at hcut
  obtain ⟨c1,c2⟩:=Bool.and_eq_true_iff.1 hcut
  intro E H0 β0 w0 D β a w hs hg
  refine wp_region_any hm ?_
  have hg' : Good E H0 β0 w0 cx.n D t H β a { w with drawn:=w.drawn+1 }:=
   have st:=Step.heap_same (w' := { w with drawn:=w.drawn+1 }) hg.step.rel rfl rfl rfl rfl
   ⟨hg.step.trans st,hg.fr.step st,hg.defers⟩
  have hnone:(fun i=>(Array.replicate ops.size false).getD i false)=fun _=>false:=by
   funext i
   rw [Array.getD_eq_getD_getElem?,Array.getElem?_replicate]
   split <;> rfl
  refine any_pan hT hs hok hj (fun k hk=>(Bool.or_eq_true_iff.1 (List.all_eq_true.1 c1 k (List.mem_range.2 hk))).imp (anc k j) fun g o ho=>by rw [ho] at g; exact g) (fun k hk1 hk2=>?_) r1 ho hw hdp (Q:=Q) hs2 ops.size _ (t,H) β a _ (by simp) ?_ ?_ ?_ ?_ hg'
  ·have:=List.all_eq_true.1 c2 k (List.mem_range.2 hk2)
   rcases Bool.or_eq_true_iff.1 this with g | g
   ·have:=Nat.le_of_ble_eq_true g
    omega
   ·exact anc j k g
  ·rw [hnone]; unfold missing
   have:(List.range ops.size).filter (fun _=>!false)=List.range ops.size:=List.filter_eq_self.2 (fun _ _=>rfl)
   rw [this]; simp
  ·rw [hnone]; intro j o _ hj; cases hj
  ·exact congrFun hnone j
  ·rw [hnone]
   have:(List.range ops.size).filter (fun _=>false)=[]:=by simp
   unfold stateOf
   rw [this]; rfl
theorem AWP_code {cx:Cx} (hP:cx.P=P) (hn:cx.n=n) (hT:CxOk cx):∀ (c:Code) (Q:AEx→T→List O→Prop) (t:T) (H:List O),
  (dcode cx c t H).all (fun s=>Q s.1 s.2.1 s.2.2)→AWP P n c Q t H
 | .skip,Q,t,H,h=>AWP_skip h
 | .region id ops draw,Q,t,H,h=>by
  cases draw
  ·exact AWP_region hP hn hT h
  ·exact AWP_draw hP hn hT h
 | .seq a b,Q,t,H,h=>by
  refine AWP_seq (AWP_code hP hn hT a _ t H ?_)
  obtain ⟨s,hs1,hs2⟩:=Tree.all_run h
  obtain ⟨s',h1,h2⟩:=bind_run hs1
  refine Tree.run_all h1 ?_
  obtain ⟨e,t',H'⟩:=s'
  cases e with
  | normal=>exact AWP_code hP hn hT b Q t' H' (Tree.run_all h2 hs2)
  | exit id=>simp only [dseq,Tree.run,Option.some.injEq] at h2; subst h2; exact hs2
  | ret=>simp only [dseq,Tree.run,Option.some.injEq] at h2; subst h2; exact hs2
  | panic v=>simp only [dseq,Tree.run,Option.some.injEq] at h2; subst h2; exact hs2
 | .cond c a b,Q,t,H,h=>by
  unfold dcode at h
  split at h
  ·rename_i d
   split at h
   ·rename_i v hv
    exact AWP_cond hv (fun e=>AWP_code hP hn hT a Q _ H (h.1 e)) (fun e=>AWP_code hP hn hT b Q _ H (h.2 e))
   ·exact h.elim
  ·split at h
   ·rename_i v hv
    exact AWP_cond' hv (fun e=>AWP_code hP hn hT a Q _ H (h.1 e)) (fun e=>AWP_code hP hn hT b Q _ H (h.2 e))
   ·exact h.elim
 | .block id c,Q,t,H,h=>by
  refine AWP_block (AWP_code hP hn hT c _ t H ?_)
  obtain ⟨s,hs1,hs2⟩:=Tree.all_run h
  obtain ⟨s',h1,h2⟩:=bind_run hs1
  refine Tree.run_all h1 ?_
  obtain ⟨e,t',H'⟩:=s'
  cases e with
  | exit j =>
   simp only [dblock,Tree.run,Option.some.injEq] at h2
   subst h2
   simp only [blockQ]
   by_cases hj:j=id
   ·subst hj; simpa using hs2
   ·simpa [hj,nbeq_ne hj] using hs2
  | normal=>simp only [dblock,Tree.run,Option.some.injEq] at h2; subst h2; exact hs2
  | ret=>simp only [dblock,Tree.run,Option.some.injEq] at h2; subst h2; exact hs2
  | panic v=>simp only [dblock,Tree.run,Option.some.injEq] at h2; subst h2; exact hs2
 | .exit id,Q,t,H,h=>AWP_exit h
 | .ret,Q,t,H,h=>AWP_ret h
 | .loop c,Q,t,H,h=>by
  have round:=AWP_code hP hn hT c
  have h:(dloop (dcode cx c) cx.fuel t H).all (fun s=>Q s.1 s.2.1 s.2.2):=h
  refine AWP_loop (α:={ s:Nat × T × List O // (dloop (dcode cx c) s.1 s.2.1 s.2.2).all (fun s=>Q s.1 s.2.1 s.2.2) }) (fun i=>i.1.2) (fun i=>i.1.1) ?_ ⟨(cx.fuel,t,H),h⟩
  rintro ⟨⟨m,t',H'⟩,hm⟩
  cases m with
  | zero=>exact hm.elim
  | succ m =>
   refine round _ t' H' ?_
   obtain ⟨s,hs1,hs2⟩:=Tree.all_run hm
   obtain ⟨s',h1,h2⟩:=bind_run hs1
   refine Tree.run_all h1 ?_
   obtain ⟨e,t2,H2⟩:=s'
   cases e with
   | normal=>exact ⟨⟨(m,t2,H2),Tree.run_all h2 hs2⟩,Nat.lt_succ_self m,fun _=>.inl rfl,rfl⟩
   | exit id=>simp only [dseq,Tree.run,Option.some.injEq] at h2; subst h2; exact hs2
   | ret=>simp only [dseq,Tree.run,Option.some.injEq] at h2; subst h2; exact hs2
   | panic v=>simp only [dseq,Tree.run,Option.some.injEq] at h2; subst h2; exact hs2
 | .rangeFunc ..,_,_,_,h=>h.elim
 | .scope _,_,_,_,h=>h.elim
 | .label _,_,_,_,h=>h.elim
 | .goto _,_,_,_,h=>h.elim
 | .refuse _,_,_,_,h=>h.elim
theorem pcall_fun {cx:Cx} {f:Nat} {fn:Func} {c:Code} {args:List V} {out:V} (hP:cx.P=P) (hT:CxOk cx) (hf:P.funcs[f]? = some fn) (hb:fn.body=some c)
  (hname : fn.name ≠ "runtime.NumGoroutine") (hn : Nat.ble args.length fn.ntmps = true) (h : (dfun cx fn args).run = some out) : PCall P f args out := by
 subst hP
 refine pcall_of hf hb hname (Nat.le_of_ble_eq_true hn) ?_
 unfold dfun at h
 rw [hb] at h
 obtain ⟨s,h1,h2⟩:=bind_run h
 refine AWP_code (cx:={ cx with n:=fn.ntmps }) rfl rfl hT c _ _ _ (Tree.run_all h1 ?_)
 obtain ⟨e,t,H⟩:=s
 have ans:(match answerV cx.P fn.results.toList H t with | some v=>Tree.leaf v | none=>.fail).run=some out→answerV cx.P fn.results.toList H t=some out:=by
  intro h
  cases hv:answerV cx.P fn.results.toList H t with
  | none=>rw [hv] at h; cases h
  | some v=>rw [hv] at h; simpa [Tree.run] using h
 cases e with
 | normal=>exact ⟨.inr rfl,ans h2⟩
 | ret=>exact ⟨.inl rfl,ans h2⟩
 | exit id=>cases h2
 | panic v=>cases h2
end
end Go.Ab
