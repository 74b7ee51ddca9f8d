/-
  The engine, part Yh: a region that draws its order; what may be turned is not tried twice. Conditions: none.
-/
import Derived.Test.YtbefgnmdliefjaaGreatDoorPk10
import Derived.Maps.RangeRun
import Derived.LoopN
set_option linter.unusedVariables false
set_option linter.unusedSimpArgs false
namespace Go.Ab
def firmB (cx:Cx) (ops:Array Oper) (ah:List (List Nat)) (listed:Array Bool) (i:Nat):Bool:=
 (List.range ops.size).all fun j=>listed.getD j false || (Nat.beq j i || (hasN i (ah.getD j []) || (match ops[i]?,ops[j]? with
  | some x,some y=>x.apart ops y && mayTurn cx x y
  | _,_=>true)))
def ordsP (cx:Cx) (ops:Array Oper) (ah:List (List Nat)):Nat→Array Bool→T × List O→Option (List (T × List O))
 | 0,listed,p=>cond (Region.ready .any ops listed).isEmpty (some [p]) none
 | fuel+1,listed,p=>match (Region.ready .any ops listed).find? (firmB cx ops ah listed) with
  | some i=>match ops[i]? with
   | some o=>match step1 cx ops o p with
    | some q=>ordsP cx ops ah fuel (listed.setIfInBounds i true) q
    | none=>none
   | none=>none
  | none=>cond (Region.ready .any ops listed).isEmpty none
   ((Region.ready .any ops listed).foldr (fun i acc=>match acc,ops[i]? with
    | some l,some o=>match step1 cx ops o p with
     | some q=>match ordsP cx ops ah fuel (listed.setIfInBounds i true) q with
      | some m=>some (m++l)
      | none=>none
     | none=>none
    | _,_=>none) (some []))
inductive Compl (ops:Array Oper):Array Bool→List Nat→Prop
 | nil {listed:Array Bool}:Region.ready .any ops listed=[]→Compl ops listed []
 | cons {listed:Array Bool} {i:Nat} {l:List Nat}:i ∈ Region.ready .any ops listed→Compl ops (listed.setIfInBounds i true) l→Compl ops listed (i :: l)
section
variable {cx:Cx} {ops:Array Oper}
def isIn (listed:Array Bool):Nat→Bool:=fun j=>listed.getD j false
theorem isIn_set {listed:Array Bool} {i:Nat} (hi:i<listed.size):isIn (listed.setIfInBounds i true)=with1 (isIn listed) i:=by
 funext j
 unfold with1 isIn
 by_cases hj:j=i
 ·subst hj
  simp [Array.getD_eq_getD_getElem?,hi]
 ·have hji:(j == i)=false:=by simpa using hj
  rw [getD_set_ne false (fun e=>hj e.symm),hji,Bool.or_false]
theorem ready_lt {listed:Array Bool} {i:Nat} (h:i ∈ Region.ready .any ops listed):i<ops.size:=by
 obtain ⟨_,o,ho,_⟩:=mem_ready.1 h
 exact (Array.getElem?_eq_some_iff.1 ho).1
theorem ready_out {listed:Array Bool} {i:Nat} (hs:listed.size=ops.size) (h:i ∈ Region.ready .any ops listed):isIn listed i=false:=by
 have hlt:=ready_lt h
 obtain ⟨h1,_⟩:=mem_ready.1 h
 unfold isIn
 rw [Array.getD_eq_getD_getElem?] at h1 ⊢
 have:i<listed.size:=by omega
 simp [this] at h1 ⊢
 exact h1
theorem closed_set {listed:Array Bool} {i:Nat} (hs:listed.size=ops.size) (hc:Closed ops (isIn listed)) (h:i ∈ Region.ready .any ops listed):Closed ops (isIn (listed.setIfInBounds i true)):=by
 rw [isIn_set (by rw [hs]; exact ready_lt h)]
 obtain ⟨_,o,ho,h3⟩:=mem_ready.1 h
 exact closed_with hc fun o' ho' e he hb=>by
  rw [ho] at ho'
  simp only [Option.some.injEq] at ho'
  subst ho'
  exact h3 e he hb
theorem ready_stays {listed:Array Bool} {i j:Nat} (h:i ∈ Region.ready .any ops listed) (hj:j ≠ i):i ∈ Region.ready .any ops (listed.setIfInBounds j true):=by
 obtain ⟨h1,o,ho,h3⟩:=mem_ready.1 h
 exact mem_ready.2 ⟨by rw [getD_set_ne true hj]; exact h1,o,ho,fun e he hb=>getD_set_true (h3 e he hb)⟩
theorem ready_not {listed:Array Bool} {i j:Nat} (hs:listed.size=ops.size) (hc:Closed ops (isIn listed)) (hi:i ∈ Region.ready .any ops listed) (hj:j ∈ Region.ready .any ops listed) (hne:j ≠ i):¬ Anc ops i j:=by
 intro ha
 have:=ha _ (closed_set hs hc hj) (by rw [isIn_set (by rw [hs]; exact ready_lt hj)]; simp [with1])
 rw [isIn_set (by rw [hs]; exact ready_lt hj)] at this
 unfold with1 at this
 rw [ready_out hs hi,Bool.false_or] at this
 exact hne (by simpa using this:i=j).symm
theorem compl_split {listed:Array Bool} {l:List Nat} (h:Compl ops listed l):∀ {i:Nat},listed.size=ops.size→Closed ops (isIn listed)→i ∈ Region.ready .any ops listed →
  ∃ A B,l=A++i :: B∧Compl ops (listed.setIfInBounds i true) (A++B) ∧ ∀ j ∈ A,j ≠ i∧j<ops.size∧isIn listed j=false∧¬ Anc ops i j:=by
 induction h with
 | nil h0 =>
  intro i _ _ hi
  rw [h0] at hi; cases hi
 | @cons listed j l hj hc ih =>
  intro i hs hcl hi
  by_cases hji:j=i
  ·subst hji
   exact ⟨[],l,rfl,hc,fun j hj=>by cases hj⟩
  ·obtain ⟨A,B,rfl,h2,h3⟩:=ih (i:=i) (by simpa using hs) (closed_set hs hcl hj) (ready_stays hi hji)
   refine ⟨j :: A,B,rfl,.cons (ready_stays hj (fun e=>hji e.symm)) ?_,fun k hk=>?_⟩
   ·rw [Array.setIfInBounds_comm _ _ (fun e=>hji e.symm)]
    exact h2
   ·rcases List.mem_cons.1 hk with rfl | hk
    ·exact ⟨hji,ready_lt hj,ready_out hs hj,ready_not hs hcl hi hj hji⟩
    ·obtain ⟨g1,g2,g3,g4⟩:=h3 k hk
     refine ⟨g1,g2,?_,g4⟩
     rw [isIn_set (by rw [hs]; exact ready_lt hj)] at g3
     unfold with1 at g3
     exact (Bool.or_eq_false_iff.1 g3).1
theorem firm_turns {ah:List (List Nat)} {listed:Array Bool} {i:Nat} (hah:∀ (j:Nat) a,ah[j]? = some a → ∀ k ∈ a,Anc ops k j) (h:firmB cx ops ah listed i=true) {j:Nat} (hj:j<ops.size) (hne:j ≠ i)
  (ho:isIn listed j=false) (hn:¬ Anc ops i j):Turns cx ops (fun _=>True) i j:=by
 intro x y hx hy
 have:=List.all_eq_true.1 h j (List.mem_range.2 hj)
 rw [hx,hy] at this
 have h1:listed.getD j false=false:=ho
 have h2:Nat.beq j i=false:=by
  cases hb:Nat.beq j i
  ·rfl
  ·exact absurd (Nat.eq_of_beq_eq_true hb) hne
 have h3:hasN i (ah.getD j [])=false:=by
  cases hb:hasN i (ah.getD j [])
  ·rfl
  ·have hm:=hasN_mem hb
   rw [List.getD_eq_getElem?_getD] at hm
   cases ha:ah[j]? with
   | none=>rw [ha] at hm; cases hm
   | some a=>rw [ha] at hm; exact absurd (hah j a ha i hm) hn
 rw [h1,h2,h3,Bool.false_or,Bool.false_or,Bool.false_or,Bool.and_eq_true] at this
 exact ⟨this.1,.inl this.2⟩
theorem keeps_true:Keeps cx ops (fun _=>True):=fun _ _ _ _ _ _ _=>trivial
theorem ordsP_step {ah:List (List Nat)} {fuel:Nat} {listed:Array Bool} {p:T × List O}:∀ (is:List Nat) (l:List (T × List O)),
  is.foldr (fun i acc=>match acc,ops[i]? with
   | some l,some o=>match step1 cx ops o p with
    | some q=>match ordsP cx ops ah fuel (listed.setIfInBounds i true) q with
     | some m=>some (m++l)
     | none=>none
    | none=>none
   | _,_=>none) (some [])=some l →
  ∀ i ∈ is,∃ o q m,ops[i]? = some o∧step1 cx ops o p=some q∧ordsP cx ops ah fuel (listed.setIfInBounds i true) q=some m ∧ ∀ s ∈ m,s ∈ l
 | [],_,_,i,hi=>by cases hi
 | j :: is,l,h,i,hi=>by
  rw [List.foldr_cons] at h
  split at h
  rotate_left
  ·cases h
  rename_i l' o h1 h2
  split at h
  rotate_left
  ·cases h
  rename_i q hq
  split at h
  rotate_left
  ·cases h
  rename_i m hm
  simp only [Option.some.injEq] at h
  subst h
  rcases List.mem_cons.1 hi with rfl | hi
  ·exact ⟨o,q,m,h2,hq,hm,fun s hs=>List.mem_append_left _ hs⟩
  ·obtain ⟨o',q',m',g1,g2,g3,g4⟩:=ordsP_step is l' h1 i hi
   exact ⟨o',q',m',g1,g2,g3,fun s hs=>List.mem_append_right _ (g4 s hs)⟩
theorem runI_cons {i:Nat} {o:Oper} (ho:ops[i]? = some o) {p q:T × List O} (h:step1 cx ops o p=some q) (l:List Nat):runI cx ops (i :: l) p=runI cx ops l q:=by
 simp only [runI,ho,h]
theorem ordsP_all {ah:List (List Nat)} (hah:∀ (j:Nat) a,ah[j]? = some a → ∀ k ∈ a,Anc ops k j):∀ (fuel:Nat) (listed:Array Bool) (p:T × List O) (L:List (T × List O)),ordsP cx ops ah fuel listed p=some L→listed.size=ops.size→Closed ops (isIn listed) →
  ∀ l,Compl ops listed l → ∃ r,runI cx ops l p=some r ∧ ∃ s ∈ L,Like s r
 | 0,listed,p,L,h,hs,hc,l,hl=>by
  unfold ordsP at h
  cases hr:(Region.ready .any ops listed).isEmpty
  ·rw [hr] at h; cases h
  rw [hr] at h
  simp only [cond_true,Option.some.injEq] at h
  subst h
  cases hl with
  | nil _=>exact ⟨p,rfl,p,List.mem_cons_self,.refl p⟩
  | cons hi _ =>
   rw [List.isEmpty_iff.1 hr] at hi; cases hi
 | fuel+1,listed,p,L,h,hs,hc,l,hl=>by
  unfold ordsP at h
  split at h
  ·rename_i i hf
   have hfirm:=List.find?_some hf
   have hi:=List.mem_of_find?_eq_some hf
   split at h
   rotate_left
   ·cases h
   rename_i o ho
   split at h
   rotate_left
   ·cases h
   rename_i q hq
   obtain ⟨A,B,rfl,h2,h3⟩:=compl_split hl hs hc hi
   obtain ⟨r,hr,s,hsL,hlk⟩:=ordsP_all hah fuel _ q L h (by simpa using hs) (closed_set hs hc hi) _ h2
   have hr' : runI cx ops ((i :: A)++B) p=some r:=by rw [List.cons_append,runI_cons ho hq]; exact hr
   rw [runI_append] at hr'
   obtain ⟨m,hm,hB⟩:=Option.bind_eq_some_iff.1 hr'
   obtain ⟨m',hm',hlm⟩:=move_end (I:=fun _=>True) keeps_true A trivial (fun j hj=>by
    obtain ⟨g1,g2,g3,g4⟩:=h3 j hj
    exact firm_turns hah hfirm g2 g1 g3 g4) hm
   obtain ⟨r',hr2,hlr⟩:=runI_like B hlm hB
   refine ⟨r',?_,s,hsL,hlk.trans hlr⟩
   rw [show A++i :: B=(A++[i])++B from by simp,runI_append,hm']
   exact hr2
  ·cases hr:(Region.ready .any ops listed).isEmpty
   rotate_left
   ·rw [hr] at h; cases h
   rw [hr,cond_false] at h
   cases hl with
   | nil h0=>rw [h0] at hr; cases hr
   | @cons _ i l hi hl =>
    obtain ⟨o,q,m,g1,g2,g3,g4⟩:=ordsP_step _ L h i hi
    obtain ⟨r,h1,s,h2,h4⟩:=ordsP_all hah fuel _ q m g3 (by simpa using hs) (closed_set hs hc hi) l hl
    exact ⟨r,by rw [runI_cons g1 g2]; exact h1,s,g4 s h2,h4⟩
theorem ready_some (hb:∀ (j:Nat) o,ops[j]? = some o → ∀ e ∈ o.after,Region.binds .any e=true→e.on<j) {listed:Array Bool} (hs:listed.size=ops.size) (h:0<missing ops.size (isIn listed)):∃ i,i ∈ Region.ready .any ops listed:=by
 obtain ⟨i,h1,h2,h3⟩:=first_missing h
 obtain ⟨o,ho⟩:∃ o,ops[i]? = some o:=⟨ops[i],by simp [h1]⟩
 refine ⟨i,mem_ready.2 ⟨?_,o,ho,fun e he hbb=>h3 _ (hb i o ho e he hbb)⟩⟩
 unfold isIn at h2
 rw [Array.getD_eq_getD_getElem?] at h2 ⊢
 have:i<listed.size:=by omega
 simp [this] at h2 ⊢
 exact h2
theorem ready_none {listed:Array Bool} (hs:listed.size=ops.size) (h:missing ops.size (isIn listed)=0):Region.ready .any ops listed=[]:=by
 apply List.eq_nil_iff_forall_not_mem.2
 intro i hi
 have h1:=ready_out hs hi
 have hin:i ∈ (List.range ops.size).filter fun i=>!(isIn listed i):=List.mem_filter.2 ⟨List.mem_range.2 (ready_lt hi),by simp [h1]⟩
 have h0:=List.length_eq_zero_iff.1 h
 rw [h0] at hin; cases hin
theorem compl_some (hb:∀ (j:Nat) o,ops[j]? = some o → ∀ e ∈ o.after,Region.binds .any e=true→e.on<j):∀ (fuel:Nat) (listed:Array Bool),listed.size=ops.size→missing ops.size (isIn listed)=fuel → ∃ l,Compl ops listed l
 | 0,listed,hs,hm=>⟨[],.nil (ready_none hs hm)⟩
 | fuel+1,listed,hs,hm=>by
  obtain ⟨i,hi⟩:=ready_some hb hs (by omega)
  have:=missing_with (S:=isIn listed) (ready_lt hi) (ready_out hs hi)
  obtain ⟨l,hl⟩:=compl_some hb fuel (listed.setIfInBounds i true) (by simpa using hs) (by rw [isIn_set (by rw [hs]; exact ready_lt hi)]; omega)
  exact ⟨i :: l,.cons hi hl⟩
theorem compl_sound (hT:CxOk cx) {E H0 β0 w0 D} (hs0:StartOk cx.P E H0 β0 w0) (hb:∀ (j:Nat) o,ops[j]? = some o → ∀ e ∈ o.after,Region.binds .any e=true→e.on<j) {Q:AEx→T→List O→Prop} :
  ∀ (fuel:Nat) (listed:Array Bool) (p:T × List O) (β:List Loc) (a:Act) (w:World),listed.size=ops.size→missing ops.size (isIn listed)=fuel →
   (∀ l,Compl ops listed l → ∃ r,runI cx ops l p=some r ∧ ∃ s:T × List O,Q .normal s.1 s.2∧Like s r)→Good E H0 β0 w0 cx.n D p.1 p.2 β a w →
   wpAny cx.P .any ops (Post E H0 β0 w0 cx.n D Q) fuel listed a w
 | 0,listed,p,β,a,w,hs,hm,h,hg=>by
  have hr:=ready_none hs hm
  obtain ⟨r,h1,s,h2,h3⟩:=h [] (.nil hr)
  simp only [runI,Option.some.injEq] at h1
  subst h1
  refine ⟨hr,s.1,s.2,β,h2,?_⟩
  have:=hg.like h3.1
  rw [h3.2]
  exact this
 | fuel+1,listed,p,β,a,w,hs,hm,h,hg=>by
  refine ⟨fun hr=>?_,fun i hi=>?_⟩
  ·obtain ⟨i,hi⟩:=ready_some hb hs (by omega)
   rw [hr] at hi; cases hi
  ·obtain ⟨_,o,ho,_⟩:=mem_ready.1 hi
   have hmw:=missing_with (S:=isIn listed) (ready_lt hi) (ready_out hs hi)
   have hm' : missing ops.size (isIn (listed.setIfInBounds i true))=fuel:=by rw [isIn_set (by rw [hs]; exact ready_lt hi)]; omega
   obtain ⟨l,hl⟩:=compl_some hb fuel (listed.setIfInBounds i true) (by simpa using hs) hm'
   obtain ⟨r,h1,_⟩:=h (i :: l) (.cons hi hl)
   cases hst:step1 cx ops o p with
   | none=>simp only [runI,ho,hst] at h1; cases h1
   | some q =>
    refine step1_sound hT hs0 ho (t:=p.1) (H:=p.2) hg hst ?_
    intro β' a' w' hg'
    refine compl_sound hT hs0 hb fuel _ q β' a' w' (by simpa using hs) hm' (fun l hl=>?_) hg'
    obtain ⟨r,h1,h2⟩:=h (i :: l) (.cons hi hl)
    rw [runI_cons ho hst] at h1
    exact ⟨r,h1,h2⟩
end
section
variable {P:Program} {n:Nat} {Q:AEx→T→List O→Prop} {t:T} {H:List O} {cx:Cx} {ops:Array Oper}
def nothing (ops:Array Oper):Array Bool:=Array.replicate ops.size false
def allOrds (cx:Cx) (ops:Array Oper) (p:T × List O):Option (List (T × List O)):=
 cond (cx.P.follows .mixedOrders && backs 0 ops.toList) (ordsP cx ops (aheads ops.toList []) ops.size (nothing ops) p) none
theorem AWP_ordersP (hP:cx.P=P) (hn:cx.n=n) (hT:CxOk cx) {id:Nat} {l:List (T × List O)}
  (h:allOrds cx ops (t,H)=some l) (hq:∀ s ∈ l,Q .normal s.1 s.2):AWP P n (.region id ops true) Q t H:=by
 subst hP
 subst hn
 unfold allOrds at h
 cases hf:(cx.P.follows .mixedOrders && backs 0 ops.toList)
 ·rw [hf] at h; cases h
 rw [hf,cond_true] at h
 obtain ⟨hm,hb⟩:=Bool.and_eq_true_iff.1 hf
 intro E H0 β0 w0 D β a w hs hg
 refine wp_region_any hm ?_
 have st:=Step.heap_same (w' := { w with drawn:=w.drawn+1 }) hg.step.rel rfl rfl rfl rfl
 have hsz:(nothing ops).size=ops.size:=by simp [nothing]
 have hno:isIn (nothing ops)=fun _=>false:=by
  funext j
  unfold isIn nothing
  simp only [Array.getD_eq_getD_getElem?,Array.getElem?_replicate]
  split <;> rfl
 have hcl:Closed ops (isIn (nothing ops)):=by rw [hno]; intro j o ho hj; cases hj
 refine compl_sound hT hs (backs_spec hb) ops.size (nothing ops) (t,H) β a _ hsz ?_ (fun l' hl' => ?_) ⟨hg.step.trans st,hg.fr.step st,hg.defers⟩
 ·rw [hno]
  unfold missing
  have e:(List.range ops.size).filter (fun i=>!(fun _=>false) i)=List.range ops.size:=List.filter_eq_self.2 fun _ _=>rfl
  rw [e,List.length_range]
 ·obtain ⟨r,h1,s,h2,h3⟩:=ordsP_all (aheads_ok (ops:=ops) ops.toList 0 [] rfl rfl (fun j a h=>by simp at h)) _ _ _ _ h hsz hcl l' hl'
  exact ⟨r,h1,s,hq s h2,h3⟩
theorem AWP.keepQ (l:List Nat) {c:Code} (h:AWP P n c (fun e t H=>Q e (keep l t) H) t H):AWP P n c Q t H:=by
 intro E H0 β0 w0 D β a w hs hg
 refine wp_mono (h E H0 β0 w0 D β a w hs hg) fun e a w hp=>?_
 have le:∀ {t H β a w},Good E H0 β0 w0 n D t H β a w→Good E H0 β0 w0 n D (keep l t) H β a w:=fun hg=>⟨hg.step,hg.fr.le (TLe.keep l _),hg.defers⟩
 cases e with
 | normal=>obtain ⟨t,H,β,h1,h2⟩:=hp; exact ⟨_,H,β,h1,le h2⟩
 | exit id=>obtain ⟨t,H,β,h1,h2⟩:=hp; exact ⟨_,H,β,h1,le h2⟩
 | ret=>obtain ⟨t,H,β,h1,h2⟩:=hp; exact ⟨_,H,β,h1,le h2⟩
 | panic ch=>obtain ⟨t,H,β,v,x,h1,h2,h3,h4⟩:=hp; exact ⟨_,H,β,v,x,h1,le h2,h3,h4⟩
 | goto l=>exact hp.elim
 | outgrown=>exact hp.elim
theorem AWP_ordersPK (ks keeps:List Nat) (k:Nat) (hP:cx.P=P) (hn:cx.n=n) (hT:CxOk cx) {id:Nat} {t' : T} {H' : List O}
  (h:(allOrds cx ops (t,H)).map (fun l=>l.map fun s=>(dropS H.length (ordK ks s.1) (.normal,keep keeps s.1,s.2)))=some (List.replicate k (some (.normal,t',H'))))
  (hq:Q .normal t' H'):AWP P n (.region id ops true) Q t H:=by
 obtain ⟨l,hl,h2⟩:=Option.map_eq_some_iff.1 h
 refine AWP_scope (AWP.keepQ keeps (AWP_ordersP hP hn hT hl fun s hs=>⟨ordK ks s.1,(.normal,t',H'),?_,hq⟩))
 have:dropS H.length (ordK ks s.1) (.normal,keep keeps s.1,s.2) ∈ List.replicate k (some ((.normal,t',H'):St)):=by rw [← h2]; exact List.mem_map_of_mem hs
 exact (List.mem_replicate.1 this).2
end
end Go.Ab

namespace Go.Ab
def quietC (cx:Cx):Code→Bool
 | .skip=>true
 | .region _ ops _=>ops.toList.all (quiet cx)
 | .seq a b=>quietC cx a && quietC cx b
 | .cond _ a b=>quietC cx a && quietC cx b
 | .block _ c=>quietC cx c
 | .exit _=>true
 | .ret=>true
 | .loop c=>quietC cx c
 | _=>false
def SameH (H:List O) (s:St):Prop:=(∃ v,s.1 = .panic v)∨s.2.2=H
section
variable {cx:Cx}
theorem br_cases {α:Type} {c:Bool} {x y:Tree α} {r:α} (h:(Tree.br c x y).run=some r):x.run=some r∨y.run=some r:=by
 rw [br_run] at h
 cases c
 ·exact .inr h
 ·exact .inl h
theorem druns_same {ops:Array Oper}:∀ (l:List Oper) (t:T) (H:List O) (s:St),l.all (quiet cx)=true→(druns cx ops l t H).run=some s→SameH H s
 | [],t,H,s,_,h=>by
  simp only [druns,Tree.run,Option.some.injEq] at h
  subst h
  exact .inr rfl
 | o :: r,t,H,s,hq,h=>by
  obtain ⟨hq1,hq2⟩:=Bool.and_eq_true_iff.1 (by simpa using hq:(quiet cx o && r.all (quiet cx))=true)
  have put:∀ {v t},(dputs cx o v t H (druns cx ops r)).run=some s→SameH H s:=by
   intro v t h
   unfold dputs at h
   split at h
   ·exact druns_same r _ H s hq2 h
   ·cases h
  have op:∀ {t},((dop cx t H o).bind (dres cx o t (druns cx ops r))).run=some s→SameH H s:=by
   intro t h
   obtain ⟨res,h1,h2⟩:=bind_run h
   cases res with
   | ok v H1 =>
    have:=quiet_spec hq1 h1
    subst this
    exact put h2
   | pan v H1 =>
    simp only [dres,Tree.run,Option.some.injEq] at h2
    subst h2
    exact .inl ⟨v,rfl⟩
  unfold druns dstep at h
  split at h
  ·exact op h
  ·rename_i j want hg
   split at h
   ·split at h
    ·rename_i b hb
     rcases br_cases h with h | h
     ·cases want
      ·exact put h
      ·exact op h
     ·cases want
      ·exact op h
      ·exact put h
    ·exact put h
    ·cases h
   ·cases h
theorem dloop_same {f:T→List O→Tree St} {H:List O} (hf:∀ t s,(f t H).run=some s→SameH H s):∀ (n:Nat) (t:T) (s:St),(dloop f n t H).run=some s→SameH H s
 | 0,_,_,h=>by cases h
 | n+1,t,s,h=>by
  obtain ⟨s1,h1,h2⟩:=bind_run h
  have g:=hf t s1 h1
  obtain ⟨e,t1,H1⟩:=s1
  cases e
  ·rcases g with ⟨v,hv⟩ | g
   ·cases hv
   ·cases g
    exact dloop_same hf n t1 s h2
  all_goals (simp only [dseq,Tree.run,Option.some.injEq] at h2; subst h2; exact g)
theorem dcode_same:∀ (c:Code) (t:T) (H:List O) (s:St),quietC cx c=true→(dcode cx c t H).run=some s→SameH H s
 | .skip,t,H,s,_,h=>by
  simp only [dcode,Tree.run,Option.some.injEq] at h
  subst h
  exact .inr rfl
 | .region id ops draw,t,H,s,hq,h=>by
  unfold dcode at h
  cases draw
  ·exact druns_same _ _ _ _ hq h
  ·simp only [cond_true] at h
   cases hd:(drawOk cx ops || drawOkT cx ops t H)
   ·rw [hd] at h; cases h
   ·rw [hd] at h
    obtain ⟨s1,h1,h2⟩:=bind_run h
    have g:=druns_same _ _ _ _ hq h1
    obtain ⟨e,t1,H1⟩:=s1
    cases e
    ·simp only [dnorm,Tree.run,Option.some.injEq] at h2
     subst h2
     exact g
    ·cases h2
    ·cases h2
    ·simp only [dnorm] at h2
     cases hp:pansOk cx ops
     ·rw [hp] at h2; cases h2
     ·rw [hp,cond_true] at h2
      simp only [Tree.run,Option.some.injEq] at h2
      subst h2
      exact .inl ⟨_,rfl⟩
 | .seq a b,t,H,s,hq,h=>by
  obtain ⟨q1,q2⟩:=Bool.and_eq_true_iff.1 hq
  unfold dcode at h
  obtain ⟨s1,h1,h2⟩:=bind_run h
  have g:=dcode_same a t H s1 q1 h1
  obtain ⟨e,t1,H1⟩:=s1
  cases e
  ·rcases g with ⟨v,hv⟩ | g
   ·cases hv
   ·cases g
    exact dcode_same b t1 _ s q2 h2
  all_goals (simp only [dseq,Tree.run,Option.some.injEq] at h2; subst h2; exact g)
 | .cond c a b,t,H,s,hq,h=>by
  obtain ⟨q1,q2⟩:=Bool.and_eq_true_iff.1 hq
  unfold dcode at h
  split at h
  ·split at h
   ·rcases br_cases h with h | h
    ·exact dcode_same a _ H s q1 h
    ·exact dcode_same b _ H s q2 h
   ·cases h
  ·split at h
   ·rcases br_cases h with h | h
    ·exact dcode_same a _ H s q1 h
    ·exact dcode_same b _ H s q2 h
   ·cases h
 | .block id c,t,H,s,hq,h=>by
  unfold dcode at h
  obtain ⟨s1,h1,h2⟩:=bind_run h
  have g:=dcode_same c t H s1 hq h1
  obtain ⟨e,t1,H1⟩:=s1
  cases e
  all_goals (simp only [dblock,Tree.run,Option.some.injEq] at h2; subst h2)
  ·exact g
  ·rcases g with ⟨v,hv⟩ | g
   ·cases hv
   ·exact .inr g
  all_goals exact g
 | .exit _,t,H,s,_,h=>by
  simp only [dcode,Tree.run,Option.some.injEq] at h
  subst h
  exact .inr rfl
 | .ret,t,H,s,_,h=>by
  simp only [dcode,Tree.run,Option.some.injEq] at h
  subst h
  exact .inr rfl
 | .loop c,t,H,s,hq,h=>by
  unfold dcode at h
  exact dloop_same (fun t s h=>dcode_same c t H s hq h) _ _ _ h
 | .goto _,_,_,_,hq,_=>by cases hq
def qfun (cx:Cx) (fn:Func) (args:List V) (H:List O):Tree V:=
 .req (Nat.ble args.length fn.ntmps) ((mfun cx fn args H).bind fun r=>match r with
  | .ok v _=>.leaf v
  | .pan _ _=>.fail)
theorem qfun_ok {cx : Cx} {f : Nat} {fn : Func} (hT : CxOk cx) (hf : cx.P.funcs[f]? = some fn) (hname : (fn.name == "runtime.NumGoroutine") = false)
  (hq:quietC { cx with n:=fn.ntmps } (bodyOf fn)=true) (hb:fn.body=some (bodyOf fn)):RSound cx.P f (qfun cx fn):=by
 intro args H v h
 obtain ⟨h1,h2⟩:=req_run h
 obtain ⟨r,h3,h4⟩:=bind_run h2
 cases r with
 | pan _ _=>cases h4
 | ok u H1 =>
  cases h4
  have e:H1=H:=by
   unfold mfun at h3
   rw [hb] at h3
   simp only at h3
   obtain ⟨s,g1,g2⟩:=bind_run h3
   have g:=dcode_same _ _ _ _ hq g1
   obtain ⟨ex,t,H2⟩:=s
   unfold answerM at g2
   split at g2
   ·rename_i heq
    cases heq
    split at g2
    ·cases g2
     rcases g with ⟨v,hv⟩ | g
     ·cases hv
     ·exact g
    ·cases g2
   ·rename_i heq
    cases heq
    split at g2
    ·cases g2
     rcases g with ⟨v,hv⟩ | g
     ·cases hv
     ·exact g
    ·cases g2
   ·cases g2
   ·cases g2
  subst e
  exact msound_fun hT hf hname _ _ _ (by
   show (Tree.req _ _).run=_
   unfold Tree.req
   rw [br_run,h1]
   exact h3)
end
end Go.Ab

namespace Go.Ab
def dropR (n:Nat) (κ:List Nat):Res→Tree Res
 | .ok v H=>cond (noDup (List.range n++κ)) (match pickO H (List.range n++κ) with
  | some os=>match rensO (fun i=>place i (List.range n++κ)) os,V.ren? (fun i=>place i (List.range n++κ)) v with
   | some Hs,some v=>.leaf (.ok v Hs)
   | _,_=>.fail
  | none=>.fail) .fail
 | .pan _ _=>.fail
theorem mcall_drop {P:Program} {f:Nat} {args:List V} {H:List O} {r r' : Res} {κ:List Nat} (h:MCall P f args H r) (hd:(dropR H.length κ r).run=some r'):MCall P f args H r' := by
 cases r with
 | pan _ _=>cases hd
 | ok v H1 =>
  unfold dropR at hd
  cases hσ:noDup (List.range H.length++κ)
  ·rw [hσ] at hd; cases hd
  rw [hσ] at hd
  simp only [cond_true] at hd
  split at hd
  rotate_left
  ·cases hd
  rename_i os hos
  split at hd
  rotate_left
  ·cases hd
  rename_i Hs v' hHs hv'
  cases hd
  obtain ⟨hnorm,hc⟩:=h
  refine ⟨hnorm,fun w E β rargs hE hR hl hv=>(hc w E β rargs hE hR hl hv).mono ?_⟩
  rintro ev w' ⟨y,β',rfl,st,hr⟩
  let a:Act:=⟨#[],[]⟩
  have hg:Good E H β w a.tmps.size a.defers [] H1 β' a w' := ⟨st,⟨rfl,fun d=>.any _ _⟩,rfl⟩
  have hlen:β.length=H.length:=hR.len.symm
  obtain ⟨g1,g2⟩:=hg.drop hσ hos hHs (fun i hi=>by
   have hi' : i<(List.range H.length).length:=by rw [List.length_range]; omega
   rw [List.getElem?_append_left hi',List.getElem?_eq_getElem hi',List.getElem_range])
  exact ⟨y,_,rfl,g1.step,g2 _ _ _ hr hv'⟩
def mfunR (cx:Cx) (fn:Func) (κ:List Nat) (args:List V) (H:List O):Tree Res:=
 .req (Nat.ble args.length fn.ntmps) ((mfun cx fn args H).bind (dropR H.length κ))
theorem mfunR_ok {cx : Cx} {f : Nat} {fn : Func} (κ : List Nat) (hT : CxOk cx) (hf : cx.P.funcs[f]? = some fn) (hname : (fn.name == "runtime.NumGoroutine") = false) : MSound cx.P f (mfunR cx fn κ) := by
 intro args H r h
 obtain ⟨h1,h2⟩:=req_run h
 obtain ⟨r0,h3,h4⟩:=bind_run h2
 refine mcall_drop (msound_fun hT hf hname args H r0 ?_) h4
 show (Tree.req _ _).run=_
 unfold Tree.req
 rw [br_run,h1]
 exact h3
end Go.Ab

namespace Go.Ab
open Go.ChangeMaps (setBlock)
section
variable {E:Nat→Nat→Prop} {H0 H H' : List O} {β0 β β' : List Loc} {w0 w w' : World} {n:Nat} {D:List Deferred} {t:T} {a:Act}
theorem Step.same {b:Nat} (s:Step E H β w H' β' w') (hu:∀ o,¬ Own H β b o) (hb:b<w.heap.size):w'.heap[b]? = w.heap[b]? := by
 rcases s.pres b hb with h | ⟨⟨o,h⟩,_⟩ | ⟨⟨o,h⟩,_⟩
 ·exact h
 ·exact absurd h (hu o)
 ·exact absurd h (hu o)
theorem Step.notOwn {b:Nat} (s:Step E H β w H' β' w') (hu:∀ o,¬ Own H β b o) (hb:b<w.heap.size):∀ o,¬ Own H' β' b o:=by
 intro o h
 rcases s.own b o h with h | h
 ·exact hu o h
 ·omega
structure Side (H:List O) (β:List Loc) (r:Nat) (w w' : World):Prop where
 other:∀ b,b ≠ r→w'.heap[b]? = w.heap[b]?
 size:w.heap.size≤w'.heap.size
 spec:∀ x,w.heap[r]? = some x→special x=true
 unowned:∀ o,¬ Own H β r o
 os:w'.os=w.os
 tape:w'.tape=w.tape
 output:w'.output=w.output
theorem Side.stab {r:Nat} {X:Nat→Nat→Prop} (h:Side H β r w w'):Stab w X w' X:=by
 refine ⟨fun b o v hx hv=>⟨hx,?_⟩,fun b cs e hb=>?_⟩
 ·by_cases hb:b=r
  ·subst hb
   exfalso
   cases hc:w.heap[b]? with
   | none =>
    have:=cell_lt hv
    simp only [Array.getElem?_eq_none_iff] at hc
    omega
   | some x=>rw [cell_special hc (h.spec x hc)] at hv; cases hv
  ·rw [cell_heap (h.other b hb)]; exact hv
 ·have hne:b ≠ r:=fun e' => by
   subst e'
   have:=h.spec _ hb
   cases this
  exact ⟨cs,e,by rw [h.other b hne]; exact hb⟩
theorem Side.rel {r:Nat} (h:Side H β r w w') (hR:Rel w (Xs E H β) H β):Rel w' (Xs E H β) H β:=by
 have ne:∀ {id loc},live H id→β[id]? = some loc→loc.block ≠ r:=by
  intro id loc h1 h2 e
  obtain ⟨o,ho⟩:=live_own h1 h2
  rw [e] at ho
  exact h.unowned o ho
 refine ⟨hR.len,fun id cs e loc h1 h2=>?_,fun id m sz loc h1 h2=>?_,fun id sh vs loc h1 h2=>?_,hR.disj⟩
 ·obtain ⟨a1,c,e',a2,a3,a4,a5⟩:=hR.cells id cs e loc h1 h2
  exact ⟨a1,c,e',by rw [h.other _ (ne (live_cells h1) h2)]; exact a2,a3,a4,fun k v hv=>let ⟨x,hx,hr⟩:=a5 k v hv; ⟨x,hx,hr.stab h.stab β (.refl _)⟩⟩
 ·obtain ⟨a1,a2,c,e',a3,a4⟩:=hR.tok id m sz loc h1 h2
  exact ⟨a1,a2,c,e',by rw [h.other _ (ne (live_tok h1) h2)]; exact a3,a4⟩
 ·obtain ⟨a1,a2,ob,xs,a3,a4,a5⟩:=hR.objs id sh vs loc h1 h2
  exact ⟨a1,a2,ob,xs,by rw [h.other _ (ne (live_obj h1) h2)]; exact a3,a4,fun k v hv=>let ⟨x,hx,hr⟩:=a5 k v hv; ⟨x,hx,hr.stab h.stab β (.refl _)⟩⟩
theorem Good.side {r:Nat} (h:Side H β r w w') (hr:w0.heap.size≤r) (hg:Good E H0 β0 w0 n D t H β a w):Good E H0 β0 w0 n D t H β a w' := by
 refine ⟨⟨h.rel hg.step.rel,h.os.trans hg.step.os,h.tape.trans hg.step.tape,h.output.trans hg.step.output,Nat.le_trans hg.step.size h.size,fun b hb=>?_,hg.step.own,hg.step.locs⟩,
  ⟨hg.fr.size,fun d=>(hg.fr.slot d).stab h.stab β (.refl _)⟩,hg.defers⟩
 have e:=h.other b (by omega)
 rcases hg.step.pres b hb with g | ⟨g1,c,c',e',g2,g3,g4⟩ | ⟨g1,x,y,g2,g3,g4⟩
 ·exact .inl (e.trans g)
 ·exact .inr (.inl ⟨g1,c,c',e',g2,e.trans g3,g4⟩)
 ·exact .inr (.inr ⟨g1,x,y,g2,e.trans g3,g4⟩)
theorem own_dead {mid b o:Nat} (h:Own (H.set mid .dead) β b o):Own H β b o:=by
 obtain ⟨id,loc,h1,h2,h3⟩:=h
 refine ⟨id,loc,h1,h2,?_⟩
 by_cases e:mid=id
 ·subst e
  rcases h3 with ⟨cs,e,h3⟩ | ⟨m,sz,h3,_⟩ | ⟨sh,vs,h3⟩
  all_goals (rw [get_set] at h3; split at h3 <;> simp_all)
 ·rw [List.getElem?_set_ne e] at h3
  exact h3
theorem Good.hide {mid:Nat} (hg:Good E H0 β0 w0 n D t H β a w):Good E H0 β0 w0 n D t (H.set mid .dead) β a w:=by
 have hX:∀ b o,Xs E (H.set mid .dead) β b o→Xs E H β b o:=fun b o h=>h.imp id own_dead
 have get:∀ {id:Nat} {ob:O},(H.set mid .dead)[id]? = some ob→ob ≠ O.dead→H[id]? = some ob:=by
  intro id ob h1 h2
  by_cases e:mid=id
  ·subst e
   rw [get_set] at h1
   split at h1 <;> simp_all
  ·rw [List.getElem?_set_ne e] at h1; exact h1
 have hR:=hg.step.rel
 refine ⟨⟨⟨by rw [List.length_set]; exact hR.len,fun id cs e loc h1 h2=>?_,fun id m sz loc h1 h2=>hR.tok id m sz loc (get h1 (by simp)) h2,fun id sh vs loc h1 h2=>?_,fun i j l l' h1 h2 h3 h4 h5=>?_⟩,hg.step.os,hg.step.tape,hg.step.output,hg.step.size,hg.step.pres,
  fun b o h=>hg.step.own b o (own_dead h),hg.step.locs⟩,⟨hg.fr.size,fun d=>(hg.fr.slot d).weak hX⟩,hg.defers⟩
 ·obtain ⟨a1,c,e',a2,a3,a4,a5⟩:=hR.cells id cs e loc (get h1 (by simp)) h2
  exact ⟨a1,c,e',a2,a3,a4,fun k v hv=>let ⟨x,hx,hr⟩:=a5 k v hv; ⟨x,hx,hr.weak hX⟩⟩
 ·obtain ⟨a1,a2,ob,xs,a3,a4,a5⟩:=hR.objs id sh vs loc (get h1 (by simp)) h2
  exact ⟨a1,a2,ob,xs,a3,a4,fun k v hv=>let ⟨x,hx,hr⟩:=a5 k v hv; ⟨x,hx,hr.weak hX⟩⟩
 ·obtain ⟨o1,g1,g2⟩:=h1
  obtain ⟨o2,g3,g4⟩:=h2
  exact hR.disj i j l l' ⟨o1,get g1 g2,g2⟩ ⟨o2,get g3 g4,g4⟩ h3 h4 h5
theorem Good.show {mid:Nat} {sh:Shape} {vs:List V} {loc:Loc} {ob:Obj} {xs:List Value} (hg:Good E H0 β0 w0 n D t H β a w) (hm:H[mid]? = some .dead) (hl:β[mid]? = some loc)
  (hk:loc.kind=false) (hb:loc.base=0) (ho:w.heap[loc.block]? = some ob) (hs:Shp sh ob xs) (hv:∀ (k:Nat) v,vs[k]? = some v → ∃ x,xs[k]? = some x∧R w (Xs E H β) β v x)
  (hu:∀ o,¬ Own H β loc.block o) (hown:w0.heap.size≤loc.block ∨ ∀ o,Own H0 β0 loc.block o) (hp:sh.isPage=false:=by rfl):Good E H0 β0 w0 n D t (H.set mid (.obj sh vs)) β a w:=by
 have hlt:mid<H.length:=(List.getElem?_eq_some_iff.1 hm).1
 have get:∀ id:Nat,(H.set mid (.obj sh vs))[id]? = if mid=id then some (.obj sh vs) else H[id]? := by
  intro id
  rw [get_set]
  by_cases e:mid=id
  ·subst e; simp [hlt]
  ·simp [e]
 have own2:∀ b o,Own (H.set mid (.obj sh vs)) β b o→Own H β b o∨b=loc.block:=by
  rintro b o ⟨id,l,h1,h2,h3⟩
  by_cases e:mid=id
  ·subst e
   rw [hl] at h1
   cases h1
   exact .inr h2.symm
  ·refine .inl ⟨id,l,h1,h2,?_⟩
   simp only [get,e,if_false] at h3
   exact h3
 have st:Stab w (Xs E H β) w (Xs E (H.set mid (.obj sh vs)) β):=by
  refine ⟨fun b o v hx hv=>⟨fun h=>?_,hv⟩,fun b cs e h=>⟨cs,e,h⟩⟩
  rcases h with h | h
  ·exact hx (.inl h)
  ·rcases own2 b o h with h | h
   ·exact hx (.inr h)
   ·subst h
    rw [cell_special ho (hs.special hp)] at hv
    cases hv
 have hR:=hg.step.rel
 have up:∀ {v x},R w (Xs E H β) β v x→R w (Xs E (H.set mid (.obj sh vs)) β) β v x:=fun h=>h.stab st β (.refl _)
 refine ⟨⟨⟨by rw [List.length_set]; exact hR.len,fun id cs e l h1 h2=>?_,fun id m sz l h1 h2=>?_,fun id sh' vs' l h1 h2=>?_,fun i j l l' h1 h2 h3 h4 h5=>?_⟩,hg.step.os,hg.step.tape,hg.step.output,hg.step.size,hg.step.pres,
  fun b o h=>?_,hg.step.locs⟩,⟨hg.fr.size,fun d=>up (hg.fr.slot d)⟩,hg.defers⟩
 ·rw [get] at h1
  split at h1
  ·cases h1
  ·obtain ⟨a1,c,e',a2,a3,a4,a5⟩:=hR.cells id cs e l h1 h2
   exact ⟨a1,c,e',a2,a3,a4,fun k v hv=>let ⟨x,hx,hr⟩:=a5 k v hv; ⟨x,hx,up hr⟩⟩
 ·rw [get] at h1
  split at h1
  ·cases h1
  ·exact hR.tok id m sz l h1 h2
 ·rw [get] at h1
  split at h1
  ·rename_i e
   subst e
   cases h1
   rw [hl] at h2
   cases h2
   exact ⟨hk,hb,ob,xs,ho,hs,fun k v h=>let ⟨x,hx,hr⟩:=hv k v h; ⟨x,hx,up hr⟩⟩
  ·obtain ⟨a1,a2,ob',xs',a3,a4,a5⟩:=hR.objs id sh' vs' l h1 h2
   exact ⟨a1,a2,ob',xs',a3,a4,fun k v hv=>let ⟨x,hx,hr⟩:=a5 k v hv; ⟨x,hx,up hr⟩⟩
 ·have cl:∀ {i l},live (H.set mid (.obj sh vs)) i→β[i]? = some l→(i=mid∧l=loc)∨(i ≠ mid∧live H i∧l.block ≠ loc.block):=by
   rintro i l ⟨o,g1,g2⟩ g3
   by_cases e:mid=i
   ·subst e
    rw [hl] at g3
    cases g3
    exact .inl ⟨rfl,rfl⟩
   ·simp only [get,e,if_false] at g1
    refine .inr ⟨fun h=>e h.symm,⟨o,g1,g2⟩,fun he=>?_⟩
    obtain ⟨o',ho'⟩:=live_own ⟨o,g1,g2⟩ g3
    rw [he] at ho'
    exact hu o' ho'
  rcases cl h1 h3 with ⟨e1,e2⟩ | ⟨e1,e2,e3⟩ <;> rcases cl h2 h4 with ⟨f1,f2⟩ | ⟨f1,f2,f3⟩
  ·rw [e1,f1]
  ·rw [e2] at h5; exact absurd h5.symm f3
  ·rw [f2] at h5; exact absurd h5 e3
  ·exact hR.disj i j l l' e2 f2 h3 h4 h5
 ·rcases own2 b o h with h | h
  ·exact hg.step.own b o h
  ·subst h
   rcases hown with h | h
   ·exact .inr h
   ·exact .inl (h o)
def LeftOk (w:World) (X:Nat→Nat→Prop) (β:List Loc) (es:Array MapEntry) (seen:Array Nat) (left:List (Int × V)):Prop:=
 ∃ l:List MapEntry,l.Perm (leftOf es seen).toList∧l.map (·.key)=left.map (fun p=>Value.int .u64 p.1) ∧ ∀ (k:Nat) p e,left[k]? = some p→l[k]? = some e→R w X β p.2 e.val
theorem LeftOk.stab {X X' : Nat→Nat→Prop} {es:Array MapEntry} {seen:Array Nat} {left:List (Int × V)} (h:LeftOk w X β es seen left) (s:Stab w X w' X') (hl:LocLe β β'):LeftOk w' X' β' es seen left:=by
 obtain ⟨l,h1,h2,h3⟩:=h
 exact ⟨l,h1,h2,fun k p e a b=>(h3 k p e a b).stab s β' hl⟩
theorem filter_drop {e:MapEntry}:∀ {l1 l2:List MapEntry},((l1++e :: l2).map (·.born)).Nodup→(l1++e :: l2).filter (fun x=>!(x.born == e.born))=l1++l2:=by
 intro l1 l2 h
 simp only [List.map_append,List.map_cons] at h
 obtain ⟨h1,h2,h3⟩:=List.nodup_append.1 h
 obtain ⟨h4,h5⟩:=List.nodup_cons.1 h2
 rw [List.filter_append,List.filter_cons]
 have e1:l1.filter (fun x=>!(x.born == e.born))=l1:=List.filter_eq_self.2 fun x hx=>by
  have:=h3 x.born (List.mem_map_of_mem hx) e.born List.mem_cons_self
  simpa using this
 have e2:l2.filter (fun x=>!(x.born == e.born))=l2:=List.filter_eq_self.2 fun x hx=>by
  have:x.born ≠ e.born:=fun he=>h4 (he ▸ List.mem_map_of_mem hx)
  simpa using this
 rw [e1,e2]
 simp
theorem LeftOk.take {X:Nat→Nat→Prop} {es:Array MapEntry} {clock:Nat} {seen:Array Nat} {left:List (Int × V)} (hs:Go.MapKept.Stamped es clock) (h:LeftOk w X β es seen left) {e:MapEntry} (he:e ∈ (leftOf es seen).toList) :
  ∃ A p B,left=A++p :: B∧e.key = .int .u64 p.1∧R w X β p.2 e.val∧LeftOk w X β es (seen.push e.born) (A++B):=by
 obtain ⟨l,h1,h2,h3⟩:=h
 have hm:e ∈ l:=h1.mem_iff.2 he
 obtain ⟨l1,l2,rfl⟩:=List.append_of_mem hm
 have hlen:left.length=(l1++e :: l2).length:=by
  have:=congrArg List.length h2
  simpa using this.symm
 have hlt:l1.length<left.length:=by rw [hlen]; simp
 refine ⟨left.take l1.length,left[l1.length],left.drop (l1.length+1),?_,?_,?_,l1++l2,?_,?_,?_⟩
 ·rw [← List.drop_eq_getElem_cons hlt,List.take_append_drop]
 ·have:=congrArg (fun x=>x[l1.length]?) h2
  simp only [List.getElem?_map] at this
  rw [List.getElem?_append_right (Nat.le_refl _),Nat.sub_self,List.getElem?_eq_getElem hlt] at this
  simpa using this
 ·refine h3 l1.length _ _ (List.getElem?_eq_getElem hlt) ?_
  rw [List.getElem?_append_right (Nat.le_refl _),Nat.sub_self]
  rfl
 ·have hn:((l1++e :: l2).map (·.born)).Nodup:=by
   have:=(h1.map (·.born)).nodup_iff.2 ?_
   ·exact this
   ·unfold leftOf
    rw [Array.toList_filter]
    exact (List.filter_sublist.map _).nodup hs.2.1
  rw [← filter_drop hn]
  refine (h1.filter _).trans ?_
  have:(leftOf es (seen.push e.born)).toList=(leftOf es seen).toList.filter (fun x=>!(x.born == e.born)):=by
   unfold leftOf
   rw [Array.toList_filter,Array.toList_filter,List.filter_filter]
   congr 1
   funext x
   rw [Array.contains_push]
   cases seen.contains x.born <;> cases x.born == e.born <;> rfl
  rw [this]
 ·have e1:=congrArg (List.take l1.length) h2
  have e2:=congrArg (List.drop (l1.length+1)) h2
  simp only [List.map_append,List.map_cons] at e1 e2
  rw [List.take_left' (by simp)] at e1
  have e2' : (l1.map (·.key)++e.key :: l2.map (·.key)).drop (l1.length+1)=l2.map (·.key):=by
   rw [show l1.length+1=(l1.map (·.key)).length+1 by simp,← List.drop_drop,List.drop_left]
   rfl
  rw [e2'] at e2
  rw [List.map_append,List.map_append,e1,e2,List.map_take,List.map_drop]
 ·intro k p e' hp he'
  by_cases hk:k<l1.length
  ·rw [List.getElem?_append_left (by rw [List.length_take]; omega),List.getElem?_take,if_pos hk] at hp
   rw [List.getElem?_append_left hk] at he'
   exact h3 k p e' hp (by rw [List.getElem?_append_left hk]; exact he')
  ·have hmin:(left.take l1.length).length=l1.length:=by rw [List.length_take]; omega
   rw [List.getElem?_append_right (by omega),List.getElem?_drop,hmin] at hp
   rw [List.getElem?_append_right (by omega)] at he'
   refine h3 (l1.length+1+(k - l1.length)) p e' hp ?_
   rw [List.getElem?_append_right (by omega),show l1.length+1+(k - l1.length) - l1.length=(k - l1.length)+1 by omega,List.getElem?_cons_succ]
   exact he'
theorem LeftOk.none {X:Nat→Nat→Prop} {es:Array MapEntry} {seen:Array Nat} {left:List (Int × V)} (h:LeftOk w X β es seen left) (h0:(leftOf es seen).size=0):left=[]:=by
 obtain ⟨l,h1,h2,_⟩:=h
 have:l.length=0:=by rw [h1.length_eq]; simpa using h0
 have e:=congrArg List.length h2
 simp only [List.length_map] at e
 exact List.length_eq_zero_iff.1 (by omega)
end
end Go.Ab

namespace Go.Ab
open Go.ChangeMaps (setBlock)
section
variable {P:Program} {n:Nat} {t:T} {H:List O}
theorem runs_cont {cx:Cx} (hT:CxOk cx) {ops:Array Oper} {E H0 β0 w0 D} (hs:StartOk cx.P E H0 β0 w0) {Q:AEx→T→List O→Prop} {K:Exit→Act→World→Prop} {l2:List Oper} (hnone:∀ v t H,¬ Q (.panic v) t H) :
  ∀ (l:List Oper) (k:Nat) (t:T) (H:List O) (β:List Loc) (a:Act) (w:World),ops.toList.drop k=l++l2→(druns cx ops l t H).all (fun s=>Q s.1 s.2.1 s.2.2) →
   (∀ t H β a w,Q .normal t H→Good E H0 β0 w0 cx.n D t H β a w→wpOps cx.P ops K (List.range' (k+l.length) l2.length) a w)→Good E H0 β0 w0 cx.n D t H β a w→wpOps cx.P ops K (List.range' k (l.length+l2.length)) a w
 | [],k,t,H,β,a,w,_,h,hk,hg=>by
  have:=hk (keep cx.keeps t) H β a w h ⟨hg.step,hg.fr.keep _,hg.defers⟩
  simpa using this
 | o :: r,k,t,H,β,a,w,hl,h,hcont,hg=>by
  have hk:ops.toList[k]? = some o:=by
   have:=congrArg (fun l=>l[0]?) hl
   simpa using this
  have hk' : ops[k]? = some o:=by simpa using hk
  have hr:ops.toList.drop (k+1)=r++l2:=by
   have:=congrArg List.tail hl
   simpa [List.tail_drop] using this
  have hcont' : ∀ t H β a w,Q .normal t H→Good E H0 β0 w0 cx.n D t H β a w→wpOps cx.P ops K (List.range' (k+1+r.length) l2.length) a w:=by
   intro t H β a w h1 h2
   have:=hcont t H β a w h1 h2
   rw [List.length_cons] at this
   rw [show k+1+r.length=k+(r.length+1) by omega]
   exact this
  have ih:=fun t H β a w h1 h2=>runs_cont hT hs (ops:=ops) (Q:=Q) (D:=D) (K:=K) hnone r (k+1) t H β a w hr h1 hcont' h2
  rw [show (o :: r).length+l2.length=(r.length+l2.length)+1 by rw [List.length_cons]; omega]
  simp only [List.range'_succ,wpOps,hk']
  have put:∀ v x t H β a w,(dputs cx o v t H (druns cx ops r)).all (fun s=>Q s.1 s.2.1 s.2.2)→R w (Xs E H β) β v x→Good E H0 β0 w0 cx.n D t H β a w →
    wpOps cx.P ops K (List.range' (k+1) (r.length+l2.length)) (a.put o.dst x) w:=by
   intro v x t H β a w hp hv hg
   unfold dputs putO at hp
   cases hd:o.dst with
   | none =>
    simp only [hd] at hp
    simp only [Act.put]
    exact ih t H β a w hp hg
   | some d =>
    simp only [hd] at hp
    cases hb:Nat.blt d cx.n
    ·simp [hb,Tree.all] at hp
    ·simp only [hb,cond_true] at hp
     have hlt:d<cx.n:=by simpa [Nat.blt_eq] using hb
     exact ih _ H β _ w hp ⟨hg.step,hg.fr.put hlt hv,hg.defers⟩
  have run:∀ t,FR w (Xs E H β) β cx.n t a→((dop cx t H o).bind (dres cx o t (druns cx ops r))).all (fun s=>Q s.1 s.2.1 s.2.2) →
    o.wp cx.P a w (wpOps cx.P ops K (List.range' (k+1) (r.length+l2.length))) K:=by
   intro t hfr hall
   obtain ⟨s,hs1,hs2⟩:=Tree.all_run hall
   obtain ⟨res,hres,hd⟩:=bind_run hs1
   refine dop_sound hT (hs.now hg.step) hg.step.rel hfr hres ?_
   cases res with
   | ok v H' =>
    intro x w' β' st hv
    exact put v x t H' β' a w' (Tree.run_all hd hs2) hv ⟨hg.step.trans st,hfr.step st,hg.defers⟩
   | pan v H' =>
    intro x w' β' st hv
    simp only [dres,Tree.run,Option.some.injEq] at hd
    subst hd
    exact absurd hs2 (hnone _ _ _)
  unfold druns dstep at h
  split at h
  ·rename_i hgd
   have hw:Region.wanted o (yielded ops a.tmps)=true:=by simp [Region.wanted,hgd]
   simp only [hw,if_true]
   exact .inl (run t hg.fr h)
  ·rename_i j want hgd
   split at h
   rotate_left
   ·exact h.elim
   rename_i d hd
   have hslot:=hg.fr.slot d
   have hyield:∀ b,a.tmps.getD d undef = .bool b→yielded ops a.tmps j=some b:=by
    intro b hb
    unfold yielded
    rw [hd]
    simp only [Option.bind_some]
    rw [Array.getD_eq_getD_getElem?] at hb
    cases hq:a.tmps[d]? with
    | none=>rw [hq] at hb; simp [undef] at hb
    | some q=>rw [hq] at hb; simp at hb; subst hb; rfl
   split at h
   ·rename_i b hb
    rw [hb] at hslot
    generalize hv:a.tmps.getD d undef=v at hslot
    cases hslot
    have hy:=hyield b hv
    have hfr' := put_true hg.fr hb
    cases b
    ·have h:=h.2 rfl
     cases want
     ·have hw:Region.wanted o (yielded ops a.tmps)=true:=by simp [Region.wanted,hgd,hy]
      simp only [hw,if_true]
      exact .inl (run _ hfr' h)
     ·have hw:Region.wanted o (yielded ops a.tmps)=false:=by simp [Region.wanted,hgd,hy]
      simp only [hw,Bool.false_eq_true,if_false]
      exact put vundef undef _ H β a w h (.val _ _) ⟨hg.step,hfr',hg.defers⟩
    ·have h:=h.1 rfl
     cases want
     ·have hw:Region.wanted o (yielded ops a.tmps)=false:=by simp [Region.wanted,hgd,hy]
      simp only [hw,Bool.false_eq_true,if_false]
      exact put vundef undef _ H β a w h (.val _ _) ⟨hg.step,hfr',hg.defers⟩
     ·have hw:Region.wanted o (yielded ops a.tmps)=true:=by simp [Region.wanted,hgd,hy]
      simp only [hw,if_true]
      exact .inl (run _ hfr' h)
   ·rename_i vs hb
    rw [hb] at hslot
    generalize hv:a.tmps.getD d undef=v at hslot
    cases hslot
    have hy:yielded ops a.tmps j=none:=by
     unfold yielded
     rw [hd]
     simp only [Option.bind_some]
     rw [Array.getD_eq_getD_getElem?] at hv
     cases hq:a.tmps[d]? with
     | none=>rfl
     | some q=>rw [hq] at hv; simp at hv; subst hv; rfl
    have hw:Region.wanted o (yielded ops a.tmps)=false:=by simp [Region.wanted,hgd,hy]
    simp only [hw,Bool.false_eq_true,if_false]
    exact put vundef undef t H β a w h (.val _ _) hg
   ·exact h.elim
end
def itV (r:Nat):V:=.val (.pointer (some ⟨r,0,none⟩))
section
variable {cx:Cx} {n:Nat} {E:Nat→Nat→Prop} {H0:List O} {β0:List Loc} {w0:World} {D:List Deferred}
variable {ops3 ops4:Array Oper} {post4:List Oper} {rest:Code} {o3a o3b o4:Oper} {i3 i0 i1 i4 d18 d19 d20 d21:Nat}
structure ForMap (cx:Cx) (ops3 ops4:Array Oper) (post4:List Oper) (o3a o3b o4:Oper) (d18 d19 d20 d21:Nat):Prop where
 ops3:ops3 = #[o3a,o3b]
 ops4:ops4.toList=o4 :: post4
 next:o3a.op = .next (.tmp d18) false
 ok:o3b.op = .extract (.tmp d19) 0
 entry:o4.op = .entry (.tmp d18)
 g3a:o3a.guard=none
 g3b:o3b.guard=none
 g4:o4.guard=none
 t3a:o3a.dst=some d19
 t3b:o3b.dst=some d20
 t4:o4.dst=some d21
 l19:Nat.blt d19 cx.n=true
 l20:Nat.blt d20 cx.n=true
 l21:Nat.blt d21 cx.n=true
 n1:Nat.beq d18 d19=false
 n2:Nat.beq d18 d20=false
theorem eval_of_val {β:List Loc} {w:World} {X:Nat→Nat→Prop} {a:Act} {t:T} {d r:Nat} (h:FR w X β n t a) (hd:get d t=itV r):a.eval (.tmp d) = .pointer (some ⟨r,0,none⟩):=by
 have:=rd_R h (.tmp d)
 simp only [rd,hd,itV] at this
 generalize a.eval (.tmp d)=y at this
 cases this
 rfl
theorem getD_set {a:Act} {d:Nat} {x:Value} (h:d<a.tmps.size):Act.eval { a with tmps:=a.tmps.setIfInBounds d x } (.tmp d)=x:=by
 simp [Act.eval,Array.getD_eq_getD_getElem?,h]
theorem forMapW_rounds (hT:CxOk cx) (hs:StartOk cx.P E H0 β0 w0) (F:ForMap cx ops3 ops4 post4 o3a o3b o4 d18 d19 d20 d21) {r bm:Nat} {es:Array MapEntry} {clock:Nat} (hr0:w0.heap.size≤r) (hst:Go.MapKept.Stamped es clock)
  {Inv:List (Int × V)→T→List O→Prop} (hInv:∀ left t H,Inv left t H→get d18 t=itV r)
  (round:∀ A p B t H,Inv (A++p :: B) t H → ∃ t1 H1,(druns cx ops4 post4 (put d21 (.tup [.int .u64 p.1,p.2]) (put d20 (.bool true) (put d19 .any t))) H).run=some (.normal,t1,H1)∧AWP cx.P cx.n rest (fun e t'' H'' => (e = .normal∨e = .exit i1) ∧ ∃ t2,TLe t'' t2∧Inv (A++B) t2 H'') t1 H1)
  {K:Exit→Act→World→Prop} {J:List O→List Loc→World→Prop} (hJ:∀ {H β w H' β' w'},J H β w→Stab w (Xs E H β) w' (Xs E H' β')→LocLe β β' → J H' β' w')
  (done:∀ t H β a w,J H β w→Inv [] t H→Good E H0 β0 w0 cx.n D (put d20 (.bool false) (put d19 .any t)) H β a w→w.heap[bm]? = some (.map es clock)→(∀ o,¬ Own H β bm o)→K (.exit i0) a w) :
  ∀ (m:Nat) (left:List (Int × V)) (t:T) (H:List O) (β:List Loc) (a:Act) (w:World) (seen:Array Nat),left.length=m→J H β w→Inv left t H→Good E H0 β0 w0 cx.n D t H β a w →
   w.heap[r]? = some (.mapIter (some bm) clock seen clock)→w.heap[bm]? = some (.map es clock)→(∀ o,¬ Own H β r o)→(∀ o,¬ Own H β bm o)→LeftOk w (Xs E H β) β es seen left →
   Code.rounds cx.P (.seq (.region i3 ops3 false) (.seq (.cond (.tmp d20) .skip (.exit i0)) (.block i1 (.seq (.region i4 ops4 false) rest)))) K (m+1) a w:=by
 intro m
 induction m using Nat.strongRecOn with
 | _ m ih =>
 intro left t H β a w seen hlen hj hI hg hr hb hur hub hleft
 rw [rounds_succ]
 have hit:=eval_of_val hg.fr (hInv _ _ _ hI)
 have hrlt:r<w.heap.size:=heap_lt hr
 have hblt:bm<w.heap.size:=heap_lt hb
 have hold:∀ x ∈ es.toList,x.born<clock:=hst.1
 have l19:d19<cx.n:=by simpa [Nat.blt_eq] using F.l19
 have l20:d20<cx.n:=by simpa [Nat.blt_eq] using F.l20
 have l21:d21<cx.n:=by simpa [Nat.blt_eq] using F.l21
 have region3:∀ (w' : World) (b:Bool) (vs:Array Value) (K' : Exit→Act→World→Prop),(Instr.next (.pointer (some ⟨r,0,none⟩)) false o3a.type).run cx.P w = .ok (.tuple vs) w' → vs[0]? = some (.bool b) →
   K' .normal ((a.put (some d19) (.tuple vs)).put (some d20) (.bool b)) w' → (Code.region i3 ops3 false).wp cx.P K' a w:=by
  intro w' b vs K' hn hv hk
  refine wp_region ?_
  have h3:=F.ops3
  subst h3
  show wpOps cx.P #[o3a,o3b] K' [0,1] a w
  have w1:Region.wanted o3a (yielded #[o3a,o3b] a.tmps)=true:=by simp [Region.wanted,F.g3a]
  have w2:Region.wanted o3b (yielded #[o3a,o3b] (a.put (some d19) (.tuple vs)).tmps)=true:=by simp [Region.wanted,F.g3b]
  have e1:(a.put (some d19) (.tuple vs)).eval (.tmp d19) = .tuple vs:=getD_set (by rw [hg.fr.size]; exact l19)
  have i0:(#[o3a,o3b]:Array Oper)[0]? = some o3a:=rfl
  have i1:(#[o3a,o3b]:Array Oper)[1]? = some o3b:=rfl
  simp only [wpOps,i0,i1,w1,if_true]
  refine .inl (wp_sem (s:=Instr.next (.pointer (some ⟨r,0,none⟩)) false o3a.type) (by simp only [execOp,F.next,hit]) hn ?_)
  rw [F.t3a]
  simp only [w2,if_true]
  refine .inl (wp_sem (s:=Instr.extract (.tuple vs) 0) (w' := w') (x:=.bool b) (by simp only [execOp,F.ok,e1]) (by simp [Instr.extract,hv]) ?_)
  rw [F.t3b]
  exact hk
 rcases run_next_at (P:=cx.P) w o3a.type r bm clock clock seen es clock hr hb hold (Nat.le_refl _) with ⟨h0,hrun⟩ | ⟨e,he,w1,hw1,hrun⟩
 ·-- nothing is left
  have hl:=hleft.none h0
  subst hl
  refine wp_seq (region3 w false _ _ hrun rfl ?_)
  have hfr:FR w (Xs E H β) β cx.n (put d20 (.bool false) (put d19 .any t)) ((a.put (some d19) (.tuple #[.bool false])).put (some d20) (.bool false)):=(hg.fr.put l19 (.any _ _)).put l20 (.bool _ _)
  refine wp_seq ?_
  have hc:((a.put (some d19) (.tuple #[.bool false])).put (some d20) (.bool false)).eval (.tmp d20) = .bool false:=getD_set (Nat.lt_of_lt_of_eq l20 ((hg.fr.put (v:=.any) (x:=.tuple #[.bool false]) l19 (.any _ _)).size).symm)
  refine wp_cond hc ?_
  exact wp_exit (done _ _ _ _ _ hj hI ⟨hg.step,hfr,hg.defers⟩ hb hub)
 ·obtain ⟨A,p,B,rfl,hkey,hval,hleft'⟩:=hleft.take hst he
  have hpar:(setBlock w1 r (.mapIter (some bm) clock (seen.push e.born) clock)).heap=w.heap.setIfInBounds r (.mapIter (some bm) clock (seen.push e.born) clock):=by
   rcases hw1 with rfl | rfl <;> rfl
  generalize hw2:setBlock w1 r (.mapIter (some bm) clock (seen.push e.born) clock)=w2 at hrun hpar
  have hpos:w2.os=w.os∧w2.tape=w.tape∧w2.output=w.output:=by
   subst hw2
   rcases hw1 with rfl | rfl <;> exact ⟨rfl,rfl,rfl⟩
  obtain ⟨hsame,hne⟩:=Go.MapKept.heap_set (o' := .mapIter (some bm) clock (seen.push e.born) clock) hr
  have sd:Side H β r w w2:=⟨fun b hb=>by rw [hpar]; exact hne b hb,by rw [hpar]; simp,fun x hx=>by rw [hr] at hx; cases hx; rfl,hur,hpos.1,hpos.2.1,hpos.2.2⟩
  have hg2:=hg.side sd hr0
  have hr2:w2.heap[r]? = some (.mapIter (some bm) clock (seen.push e.born) clock):=by rw [hpar]; exact hsame
  have hrb:bm ≠ r:=fun h=>by rw [h] at hb; rw [hr] at hb; cases hb
  have hb2:w2.heap[bm]? = some (.map es clock):=by rw [hpar,hne bm hrb]; exact hb
  refine wp_seq (region3 w2 true _ _ hrun rfl ?_)
  generalize ha2:(a.put (some d19) (.tuple #[.bool true,e.key,e.val])).put (some d20) (.bool true)=a2
  have hfr:FR w2 (Xs E H β) β cx.n (put d20 (.bool true) (put d19 .any t)) a2:=by
   rw [← ha2]
   exact (hg2.fr.put l19 (.any _ _)).put l20 (.bool _ _)
  refine wp_seq ?_
  have hc:a2.eval (.tmp d20) = .bool true:=by
   rw [← ha2]
   exact getD_set (Nat.lt_of_lt_of_eq l20 ((hg2.fr.put (v:=.any) (x:=.tuple #[.bool true,e.key,e.val]) l19 (.any _ _)).size).symm)
  refine wp_cond hc ?_
  refine wp_skip ?_
  refine wp_block ?_
  have hdef:a2.defers=D:=by rw [← ha2]; exact hg.defers
  have gself:Good E H β w2 cx.n D (put d20 (.bool true) (put d19 .any t)) H β a2 w2:=⟨Step.refl hg2.step.rel,hfr,hdef⟩
  have hit2:a2.eval (.tmp d18) = .pointer (some ⟨r,0,none⟩):=by
   refine eval_of_val hfr ?_
   have n1:d18 ≠ d19:=fun h=>by have:=F.n1; rw [h] at this; simp at this
   have n2:d18 ≠ d20:=fun h=>by have:=F.n2; rw [h] at this; simp at this
   rw [get_put,if_neg n2,get_put,if_neg n1]
   exact hInv _ _ _ hI
  have hent:=run_entry_at (P:=cx.P) w2 r bm clock seen es clock e hr2 hb2 (by
   have:=he
   unfold leftOf at this
   simp only [Array.toList_filter,List.mem_filter] at this
   exact this.1) hst.2.1
  obtain ⟨t1,H1,hs1,hrest⟩:=round A p B t H hI
  refine wp_seq (wp_region ?_)
  have hsz4:List.range ops4.size=0 :: List.range' 1 post4.length:=by
   have:ops4.size=post4.length+1:=by
    have:=congrArg List.length F.ops4
    simpa using this
   rw [this,List.range_eq_range',List.range'_succ]
  rw [hsz4]
  have h40:ops4[0]? = some o4:=by
   have:=congrArg (fun l=>l[0]?) F.ops4
   simpa using this
  have w4:Region.wanted o4 (yielded ops4 a2.tmps)=true:=by simp [Region.wanted,F.g4]
  simp only [wpOps,h40,w4,if_true]
  refine .inl (wp_sem (s:=Instr.entry (.pointer (some ⟨r,0,none⟩))) (by simp only [execOp,F.entry,hit2]) hent ?_)
  rw [F.t4]
  have gent:Good E H β w2 cx.n D (put d21 (.tup [.int .u64 p.1,p.2]) (put d20 (.bool true) (put d19 .any t))) H β (a2.put (some d21) (.tuple #[e.key,e.val])) w2:=by
   refine ⟨gself.step,hfr.put l21 ?_,hdef⟩
   refine .tup _ _ [e.key,e.val] rfl fun k v x h1 h2=>?_
   match k,h1,h2 with
   | 0,h1,h2=>cases h1; cases h2; rw [hkey]; exact .int _ _ _
   | 1,h1,h2=>cases h1; cases h2; exact hval.stab sd.stab β (.refl _)
   | k+2,h1,h2=>simp at h1
  have hs' : StartOk cx.P E H β w2:=hs.now hg2.step
  show wpOps cx.P ops4 _ (List.range' 1 (post4.length+([]:List Oper).length)) _ _
  refine runs_cont hT hs' (ops:=ops4) (D:=D) (l2:=[]) (Q:=fun e t' H' => e = .normal∧t' = t1∧H' = H1) (fun v t H h=>by cases h.1) post4 1 _ _ _ _ _ (by rw [F.ops4,List.append_nil]; rfl) (Tree.run_all hs1 ⟨rfl,rfl,rfl⟩) ?_ gent
  ·rintro t' H' β3 a3 w3 ⟨_,rfl,rfl⟩ g3
   show Exit.then _ _ .normal a3 w3
   have hcode:=hrest E H β w2 D β3 a3 w3 hs' g3
   refine wp_mono hcode fun ex a4 w4 hp=>?_
   have fin:∀ t4 H4 β4,(∃ t2,TLe t4 t2∧Inv (A++B) t2 H4)→Good E H β w2 cx.n D t4 H4 β4 a4 w4 →
     Code.rounds cx.P (.seq (.region i3 ops3 false) (.seq (.cond (.tmp d20) .skip (.exit i0)) (.block i1 (.seq (.region i4 ops4 false) rest)))) K m a4 w4:=by
    rintro t4 H4 β4 ⟨t5,hle,hI5⟩ g4
    have hm:m=(A++B).length+1:=by rw [← hlen]; simp; omega
    rw [hm]
    have st:=g4.step
    have hrl:r<w2.heap.size:=heap_lt hr2
    have hbl:bm<w2.heap.size:=heap_lt hb2
    refine ih (A++B).length (by omega) (A++B) t5 H4 β4 a4 w4 (seen.push e.born) rfl (hJ (hJ hj sd.stab (.refl _)) st.stab st.locs) hI5 ⟨hg2.step.trans st,g4.fr.le hle,g4.defers⟩ ?_ ?_ (st.notOwn hur hrl) (st.notOwn hub hbl) ?_
    ·rw [st.same hur hrl]; exact hr2
    ·rw [st.same hub hbl]; exact hb2
    ·exact (hleft'.stab sd.stab (.refl _)).stab st.stab st.locs
   cases ex with
   | normal=>obtain ⟨t4,H4,β4,⟨_,h2⟩,g4⟩:=hp; exact fin t4 H4 β4 h2 g4
   | exit id =>
    obtain ⟨t4,H4,β4,⟨h1,h2⟩,g4⟩:=hp
    have:id=i1:=by rcases h1 with h | h <;> cases h; rfl
    subst this
    show (if id=id then _ else _)
    rw [if_pos rfl]
    exact fin t4 H4 β4 h2 g4
   | ret=>obtain ⟨t4,H4,β4,⟨h1,h2⟩,g4⟩:=hp; rcases h1 with h | h <;> cases h
   | panic ch=>obtain ⟨t4,H4,β4,v,x,⟨h1,h2⟩,g4⟩:=hp; rcases h1 with h | h <;> cases h
   | goto l=>exact hp.elim
   | outgrown=>exact hp.elim
theorem AWP_forMapW {P:Program} {Q:AEx→T→List O→Prop} (hP:cx.P=P) (hn:cx.n=n) (hT:CxOk cx) (F:ForMap cx ops3 ops4 post4 o3a o3b o4 d18 d19 d20 d21)
  {ops2:Array Oper} {o2:Oper} {pre:List Oper} {mt kt et:TypeId} {mop:Operand} {i2:Nat} (h2:ops2.toList=pre++[o2]) (hop:o2.op = .range mt mop) (hg2:o2.guard=none) (hd2:o2.dst=some d18) (h18:Nat.blt d18 cx.n=true)
  (hmt:cx.P.underlying mt=some (.map kt et)) {t t1:T} {H:List O} {mid:Nat} {keys:List Int} {vs:List V} (ks:List Nat)
  (hpre:(druns { cx with keeps:=ks } ops2 pre t H).run=some (.normal,t1,H)) (hm:rd t1 mop = .mp mid) (hH:H[mid]? = some (.obj (.map keys) vs)) (hlen:vs.length=keys.length)
  (Inv:Nat→List (Int × V)→T→List O→Prop) (start:∀ r,∃ t2,TLe (put d18 (itV r) t1) t2∧Inv r (keys.zip vs) t2 (H.set mid .dead))
  (hdead:∀ r left t H,Inv r left t H→H[mid]? = some .dead) (hit:∀ r left t H,Inv r left t H→get d18 t=itV r)
  (round:∀ r A p B t H,Inv r (A++p :: B) t H → ∃ t1 H1,(druns cx ops4 post4 (put d21 (.tup [.int .u64 p.1,p.2]) (put d20 (.bool true) (put d19 .any t))) H).run=some (.normal,t1,H1)∧AWP cx.P cx.n rest (fun e t'' H'' => (e = .normal∨e = .exit i1) ∧ ∃ t2,TLe t'' t2∧Inv r (A++B) t2 H'') t1 H1)
  (done:∀ r t H',Inv r [] t H' → Q .normal (put d20 (.bool false) (put d19 .any t)) (H'.set mid (.obj (.map keys) vs))) :
  AWP P n (.seq (.region i2 ops2 false) (.block i0 (.loop (.seq (.region i3 ops3 false) (.seq (.cond (.tmp d20) .skip (.exit i0)) (.block i1 (.seq (.region i4 ops4 false) rest))))))) Q t H:=by
 subst hP
 subst hn
 intro E H0 β0 w0 D β a w hs hg
 refine wp_seq (wp_region ?_)
 have hsz:List.range ops2.size=List.range' 0 (pre.length+[o2].length):=by
  have:ops2.size=pre.length+1:=by
   have:=congrArg List.length h2
   simpa using this
  rw [this,List.range_eq_range']
  rfl
 rw [hsz]
 have h20:ops2[pre.length]? = some o2:=by
  have:=congrArg (fun l=>l[pre.length]?) h2
  simpa using this
 refine runs_cont (cx:={ cx with keeps:=ks }) hT hs (ops:=ops2) (D:=D) (l2:=[o2]) (Q:=fun e t' H' => e = .normal∧t' = t1∧H' = H) (fun v t H h=>by cases h.1) pre 0 _ _ _ _ _ (by rw [h2]; rfl) (Tree.run_all hpre ⟨rfl,rfl,rfl⟩) ?_ hg
 rintro t' H' β a w ⟨_,rfl,rfl⟩ hg
 rw [Nat.zero_add]
 have wd:Region.wanted o2 (yielded ops2 a.tmps)=true:=by simp [Region.wanted,hg2]
 show wpOps cx.P ops2 _ [pre.length] a w
 simp only [wpOps,h20,wd,if_true]
 have hmR:=rd_R hg.fr mop
 rw [hm] at hmR
 generalize hmv:a.eval mop=mv at hmR
 cases hmR with
 | mp _ _ loc hid hk =>
 obtain ⟨_,hb0,ob,xs,hob,⟨arr,clock,l,rfl,hst,hpw,hperm,hkeys,hvals⟩,hvR⟩:=hg.step.rel.objs mid _ _ loc hH hid
 refine .inl (wp_sem (s:=Instr.range mt (.map (some loc.block))) (by simp only [execOp,hop,hmv]) (run_range_map w mt kt et loc.block arr clock hmt hob) ?_)
 rw [hd2]
 have hblt:loc.block<w.heap.size:=heap_lt hob
 have l18:d18<cx.n:=by simpa [Nat.blt_eq] using h18
 have hown:w0.heap.size≤loc.block ∨ ∀ o,Own H0 β0 loc.block o:=by
  by_cases h:w0.heap.size≤loc.block
  ·exact .inl h
  ·refine .inr fun o=>?_
   rcases hg.step.own loc.block o ⟨mid,loc,hid,rfl,.inr (.inr ⟨_,_,hH⟩)⟩ with h' | h'
   ·exact h'
   ·exact absurd h' h
 have hlt:mid<H'.length:=(List.getElem?_eq_some_iff.1 hH).1
 have hdeadAt:(H'.set mid O.dead)[mid]? = some .dead:=by rw [get_set]; simp [hlt]
 have hub:∀ o,¬ Own (H'.set mid .dead) β loc.block o:=by
  rintro o ⟨id,l',h1,h2',h3⟩
  by_cases e:mid=id
  ·subst e
   rw [hdeadAt] at h3
   rcases h3 with ⟨_,_,h3⟩ | ⟨_,_,h3,_⟩ | ⟨_,_,h3⟩ <;> cases h3
  ·rw [List.getElem?_set_ne e] at h3
   refine e (hg.step.rel.disj mid id loc l' (live_obj hH) ?_ hid h1 h2'.symm)
   rcases h3 with ⟨_,_,h3⟩ | ⟨_,_,h3,_⟩ | ⟨_,_,h3⟩
   ·exact live_cells h3
   ·exact live_tok h3
   ·exact live_obj h3
 have hur:∀ o,¬ Own (H'.set mid .dead) β w.heap.size o:=by
  rintro o ⟨id,l',h1,h2',h3⟩
  have hl:live (H'.set mid .dead) id:=by
   rcases h3 with ⟨_,_,h3⟩ | ⟨_,_,h3,_⟩ | ⟨_,_,h3⟩
   ·exact live_cells h3
   ·exact live_tok h3
   ·exact live_obj h3
  have:=live_lt hg.hide.step.rel hl h1
  omega
 have sd:Side (H'.set mid .dead) β w.heap.size w (w.alloc (.mapIter (some loc.block) clock #[] clock)):=by
  refine ⟨fun b hb=>?_,by simp,fun x hx=>?_,hur,rfl,rfl,rfl⟩
  ·by_cases h:b<w.heap.size
   ·exact heap_alloc_old w _ h
   ·have h1:w.heap[b]? = none:=by simp; omega
    rw [h1]
    show (w.heap.push _)[b]? = none
    simp
    omega
  ·simp at hx
 have hg1:Good E H0 β0 w0 cx.n D t' (H'.set mid .dead) β a (w.alloc (.mapIter (some loc.block) clock #[] clock)):=(hg.hide).side sd hg.step.size
 obtain ⟨t2,hle,hI⟩:=start w.heap.size
 have hg2' : Good E H0 β0 w0 cx.n D t2 (H'.set mid .dead) β (a.put (some d18) (.pointer (some ⟨w.heap.size,0,none⟩))) (w.alloc (.mapIter (some loc.block) clock #[] clock)):=
  ⟨hg1.step,(hg1.fr.put (v:=itV w.heap.size) l18 (.val _ _)).le hle,hg1.defers⟩
 show (Code.block i0 _).wp cx.P _ _ _
 refine wp_block (wp_loop_rounds ((keys.zip vs).length+1) ?_)
 have hvals' : ∀ (k:Nat) v x,vs[k]? = some v→xs[k]? = some x→R w (Xs E H' β) β v x:=by
  intro k v x h1 h2
  obtain ⟨x',h3,h4⟩:=hvR k v h1
  rw [h2] at h3
  cases h3
  exact h4
 have hxl:xs.length=keys.length:=by
  rw [← hvals,List.length_map]
  have:=congrArg List.length hkeys
  simpa using this
 have hXd:∀ b o,Xs E (H'.set mid .dead) β b o→Xs E H' β b o:=fun b o h=>h.imp id own_dead
 let J:List O→List Loc→World→Prop:=fun H β w=>β[mid]? = some loc ∧ ∀ (k:Nat) v x,vs[k]? = some v→xs[k]? = some x→R w (Xs E H β) β v x
 refine forMapW_rounds (cx:=cx) hT hs F (r:=w.heap.size) (bm:=loc.block) (es:=arr) (clock:=clock) (Inv:=Inv w.heap.size) (J:=J) hg.step.size hst (hit _) (round _) ?_ ?_ _ (keys.zip vs) t2 (H'.set mid .dead) β _ _ #[] rfl ⟨hid,fun k v x h1 h2=>((hvals' k v x h1 h2).weak hXd).stab sd.stab β (.refl _)⟩ hI hg2'
  (heap_alloc_new _ _) ((heap_alloc_old _ _ hblt).trans hob) hur hub ?_
 ·rintro H1 β1 w1 H2 β2 w2 ⟨h1,h2⟩ st hl
  refine ⟨?_,fun k v x a b=>(h2 k v x a b).stab st β2 hl⟩
  obtain ⟨loc',g1,g2⟩:=hl mid loc h1
  rcases g2 with rfl | ⟨g2,_⟩
  ·exact g1
  ·rw [hk] at g2; cases g2
 ·rintro t3 H3 β3 a3 w3 ⟨h1,h2⟩ hI3 hg3 hb3 hu3
  show (if i0=i0 then _ else _)
  rw [if_pos rfl]
  refine ⟨_,_,β3,done _ _ _ hI3,hg3.show (hdead _ _ _ _ hI3) h1 hk hb0 hb3 ⟨arr,clock,l,rfl,hst,hpw,hperm,hkeys,hvals⟩ (fun k v hv=>?_) hu3 hown⟩
  have hk' : k<xs.length:=by rw [hxl,← hlen]; exact (List.getElem?_eq_some_iff.1 hv).1
  exact ⟨xs[k],by simp [hk'],h2 k v _ hv (by simp [hk'])⟩
 ·refine ⟨l,?_,?_,fun k p e hp he=>?_⟩
  ·have:leftOf arr #[]=arr:=by
    unfold leftOf
    exact Array.filter_eq_self.2 fun x _=>by simp
   rw [this]
   exact hperm
  ·rw [hkeys]
   have:keys=(keys.zip vs).map (·.1):=by rw [List.map_fst_zip]; omega
   conv=>lhs; rw [this]
   rw [List.map_map]
   rfl
  ·have hkv:vs[k]? = some p.2:=by
    have:=List.getElem?_zip_eq_some.1 hp
    exact this.2
   have hx:xs[k]? = some e.val:=by rw [← hvals,List.getElem?_map,he]; rfl
   exact ((hvals' k _ _ hkv hx).weak hXd).stab sd.stab β (.refl _)
end
end Go.Ab

namespace Go.Ab
def rngH (A:List O) (pre:List V) (v:V) (post:List V) (e:TypeId) (B:List O):List O:=A ++ .cells (pre++v :: post) e :: B
section
variable {P:Program} {E:Nat→Nat→Prop} {β:List Loc} {w:World} {X:Nat→Nat→Prop} {A B:List O} {pre post:List V} {e:TypeId} {u v:V}
theorem rngH_get (id:Nat) (ob:O) (h:(rngH A pre u post e B)[id]? = some ob):(id=A.length∧ob = .cells (pre++u :: post) e∧(rngH A pre v post e B)[id]? = some (.cells (pre++v :: post) e))∨(id ≠ A.length∧(rngH A pre v post e B)[id]? = some ob):=by
 unfold rngH at h ⊢
 by_cases h1:id<A.length
 ·rw [List.getElem?_append_left h1] at h ⊢
  exact .inr ⟨by omega,h⟩
 ·rw [List.getElem?_append_right (by omega)] at h ⊢
  cases hk:id - A.length with
  | zero =>
   rw [hk] at h
   simp only [List.getElem?_cons_zero,Option.some.injEq] at h ⊢
   exact .inl ⟨by omega,h.symm,trivial⟩
  | succ m =>
   rw [hk] at h
   simp only [List.getElem?_cons_succ] at h ⊢
   exact .inr ⟨by omega,h⟩
theorem rngH_own (b o:Nat) (h:Own (rngH A pre u post e B) β b o):Own (rngH A pre v post e B) β b o:=by
 obtain ⟨id,loc,h1,h2,h3⟩:=h
 refine ⟨id,loc,h1,h2,?_⟩
 rcases h3 with ⟨cs,e',h3⟩ | ⟨n,sz,h3,h4⟩ | ⟨sh,vs,h3⟩
 ·rcases rngH_get (v:=v) id _ h3 with ⟨_,_,g⟩ | ⟨_,g⟩
  ·exact .inl ⟨_,_,g⟩
  ·exact .inl ⟨_,_,g⟩
 ·rcases rngH_get (v:=v) id _ h3 with ⟨_,g,_⟩ | ⟨_,g⟩
  ·cases g
  ·exact .inr (.inl ⟨_,_,g,h4⟩)
 ·rcases rngH_get (v:=v) id _ h3 with ⟨_,g,_⟩ | ⟨_,g⟩
  ·cases g
  ·exact .inr (.inr ⟨_,_,g⟩)
theorem rngH_X:Xs E (rngH A pre u post e B) β=Xs E (rngH A pre v post e B) β:=by
 funext b o
 exact propext ⟨fun h=>h.imp id (rngH_own b o),fun h=>h.imp id (rngH_own b o)⟩
theorem rngH_live {i:Nat} (h:live (rngH A pre u post e B) i):live (rngH A pre v post e B) i:=by
 obtain ⟨o,h1,h2⟩:=h
 rcases rngH_get (v:=v) i _ h1 with ⟨_,_,g⟩ | ⟨_,g⟩
 ·exact ⟨_,g,by simp⟩
 ·exact ⟨o,g,h2⟩
theorem rngH_rel (hR:Rel w X (rngH A pre u post e B) β) (hv:∀ loc c e',β[A.length]? = some loc→w.heap[loc.block]? = some (.cells c e' (0,0)) → ∀ x,c[loc.base+pre.length]? = some x→R w X β u x→R w X β v x):Rel w X (rngH A pre v post e B) β:=by
 have hlen:(rngH A pre v post e B).length=(rngH A pre u post e B).length:=by unfold rngH; simp
 refine ⟨hlen.trans hR.len,fun id cs e1 loc h1 h2=>?_,fun id n sz loc h1 h2=>?_,fun id sh vs loc h1 h2=>?_,fun i j l l' h1 h2 h3 h4 h5=>hR.disj i j l l' (rngH_live h1) (rngH_live h2) h3 h4 h5⟩
 ·rcases rngH_get (v:=u) id _ h1 with ⟨g1,g2,g3⟩ | ⟨_,g⟩
  ·simp only [O.cells.injEq] at g2
   obtain ⟨rfl,rfl⟩:=g2
   obtain ⟨a1,c,e',a2,a3,a4,a5⟩:=hR.cells id _ _ loc g3 h2
   refine ⟨a1,c,e',a2,a3,?_,fun k y hy=>?_⟩
   ·simpa using a4
   ·by_cases hk:k=pre.length
    ·subst hk
     rw [List.getElem?_append_right (Nat.le_refl _),Nat.sub_self] at hy
     cases hy
     obtain ⟨x,hx,hr⟩:=a5 pre.length u (by rw [List.getElem?_append_right (Nat.le_refl _),Nat.sub_self]; rfl)
     exact ⟨x,hx,hv loc c e' (by rw [← g1]; exact h2) a2 x hx hr⟩
    ·refine a5 k y ?_
     by_cases hlt:k<pre.length
     ·rw [List.getElem?_append_left hlt] at hy ⊢; exact hy
     ·rw [List.getElem?_append_right (by omega)] at hy ⊢
      obtain ⟨m,hm⟩:∃ m,k - pre.length=m+1:=⟨k - pre.length - 1,by omega⟩
      rw [hm,List.getElem?_cons_succ] at hy ⊢
      exact hy
  ·exact hR.cells id cs e1 loc g h2
 ·rcases rngH_get (v:=u) id _ h1 with ⟨_,g,_⟩ | ⟨_,g⟩
  ·cases g
  ·exact hR.tok id n sz loc g h2
 ·rcases rngH_get (v:=u) id _ h1 with ⟨_,g,_⟩ | ⟨_,g⟩
  ·cases g
  ·exact hR.objs id sh vs loc g h2
end
theorem mcall_rng {P:Program} {f:Nat} {args:List V} {A B:List O} {pre post:List V} {e:TypeId} {k:IntKind} {lo hi:Int} {v:V} (hlt:lo<hi)
  (h:∀ n,lo≤n→n<hi → ∃ n',lo≤n' ∧ n' < hi∧MCall P f args (rngH A pre (.int k n) post e B) (.ok v (rngH A pre (.int k n') post e B))) :
  MCall P f args (rngH A pre (.rng k lo hi) post e B) (.ok v (rngH A pre (.rng k lo hi) post e B)):=by
 refine ⟨(h lo (Int.le_refl _) hlt).choose_spec.2.2.1,fun w E β rargs hE hR hl hv=>?_⟩
 have hid:(rngH A pre (.rng k lo hi) post e B)[A.length]? = some (.cells (pre ++ .rng k lo hi :: post) e):=by
  unfold rngH
  rw [List.getElem?_append_right (Nat.le_refl _),Nat.sub_self]
  rfl
 obtain ⟨loc,hloc⟩:∃ loc,β[A.length]? = some loc:=by
  have:A.length<β.length:=by rw [← hR.len]; exact (List.getElem?_eq_some_iff.1 hid).1
  exact ⟨β[A.length],by simp [this]⟩
 obtain ⟨_,c,e',a2,_,_,a5⟩:=hR.cells _ _ _ loc hid hloc
 obtain ⟨x,hx,hr⟩:=a5 pre.length (.rng k lo hi) (by rw [List.getElem?_append_right (Nat.le_refl _),Nat.sub_self]; rfl)
 cases hr with
 | rng _ _ _ _ n hn =>
 obtain ⟨n',g1,g2,_,hc⟩:=h n hn.1 hn.2
 have eX:∀ (u u' : V) (β:List Loc),Xs E (rngH A pre u post e B) β=Xs E (rngH A pre u' post e B) β:=fun _ _ _=>rngH_X
 have hR' : Rel w (Xs E (rngH A pre (.int k n) post e B) β) (rngH A pre (.int k n) post e B) β:=by
  rw [eX _ (.rng k lo hi)]
  refine rngH_rel hR fun loc2 c2 e2 q1 q2 y q3 q4=>?_
  rw [hloc] at q1
  cases q1
  rw [a2] at q2
  cases q2
  rw [hx] at q3
  cases q3
  exact .int _ _ _
 refine (hc w E β rargs ⟨fun b o hb=>⟨(hE.1 b o hb).1,fun ho=>(hE.1 b o hb).2 (rngH_own b o ho)⟩,by rw [eX _ (.rng k lo hi)]; exact hE.2⟩ hR' hl (by rw [eX _ (.rng k lo hi)]; exact hv)).mono ?_
 rintro ev w' ⟨y,β',rfl,st,hr⟩
 rw [eX _ (.rng k lo hi)] at hr
 refine ⟨y,β',rfl,⟨?_,st.os,st.tape,st.output,st.size,fun b hb=>?_,fun b o ho=>?_,st.locs⟩,hr⟩
 ·have:=st.rel
  rw [eX _ (.rng k lo hi)] at this
  refine rngH_rel this fun loc2 c2 e2 q1 q2 y q3 q4=>?_
  cases q4
  exact .rng _ _ _ _ _ ⟨g1,g2⟩
 ·rcases st.pres b hb with g | ⟨⟨o,g⟩,c1,c2,e3,q1,q2,q3,q4⟩ | ⟨⟨o,g⟩,q⟩
  ·exact .inl g
  ·exact .inr (.inl ⟨⟨o,rngH_own b o g⟩,c1,c2,e3,q1,q2,q3,fun o ho=>q4 o fun h=>ho (rngH_own b o h)⟩)
  ·exact .inr (.inr ⟨⟨o,rngH_own b o g⟩,q⟩)
 ·exact (st.own b o (rngH_own b o ho)).imp (rngH_own b o) id
end Go.Ab
