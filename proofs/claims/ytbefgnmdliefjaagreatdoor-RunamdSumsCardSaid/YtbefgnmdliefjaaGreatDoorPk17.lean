/-
  The engine, part Yh: a region that draws its order; what may be turned is not tried twice. Conditions: none.
-/
import Derived.Test.YtbefgnmdliefjaaGreatDoorPk16
import Derived.Maps.RangeRun
set_option linter.unusedVariables false
set_option linter.unusedSimpArgs false
namespace Go.Ab
def firmB (cx:Cx) (ops:Array Oper) (ah:List (List Nat)) (listed:Array Bool) (i:Nat):Bool:=
 (List.range ops.size).all fun j=>listed.getD j false || (Nat.beq j i || (hasN i (ah.getD j []) || (match ops[i]?,ops[j]? with
  | some x,some y=>x.apart ops y && mayTurn cx x y
  | _,_=>true)))
def ordsP (cx:Cx) (ops:Array Oper) (ah:List (List Nat)):Nat→Array Bool→T × List O→Option (List (T × List O))
 | 0,listed,p=>cond (Region.ready .any ops listed).isEmpty (some [p]) none
 | fuel+1,listed,p=>match (Region.ready .any ops listed).find? (firmB cx ops ah listed) with
  | some i=>match ops[i]? with
   | some o=>match step1 cx ops o p with
    | some q=>ordsP cx ops ah fuel (listed.setIfInBounds i true) q
    | none=>none
   | none=>none
  | none=>cond (Region.ready .any ops listed).isEmpty none
   ((Region.ready .any ops listed).foldr (fun i acc=>match acc,ops[i]? with
    | some l,some o=>match step1 cx ops o p with
     | some q=>match ordsP cx ops ah fuel (listed.setIfInBounds i true) q with
      | some m=>some (m++l)
      | none=>none
     | none=>none
    | _,_=>none) (some []))
inductive Compl (ops:Array Oper):Array Bool→List Nat→Prop
 | nil {listed:Array Bool}:Region.ready .any ops listed=[]→Compl ops listed []
 | cons {listed:Array Bool} {i:Nat} {l:List Nat}:i ∈ Region.ready .any ops listed→Compl ops (listed.setIfInBounds i true) l→Compl ops listed (i :: l)
section
variable {cx:Cx} {ops:Array Oper}
def isIn (listed:Array Bool):Nat→Bool:=fun j=>listed.getD j false
theorem isIn_set {listed:Array Bool} {i:Nat} (hi:i<listed.size):isIn (listed.setIfInBounds i true)=with1 (isIn listed) i:=by
 funext j
 unfold with1 isIn
 by_cases hj:j=i
 ·subst hj
  simp [Array.getD_eq_getD_getElem?,hi]
 ·have hji:(j == i)=false:=by simpa using hj
  rw [getD_set_ne false (fun e=>hj e.symm),hji,Bool.or_false]
theorem ready_lt {listed:Array Bool} {i:Nat} (h:i ∈ Region.ready .any ops listed):i<ops.size:=by
 obtain ⟨_,o,ho,_⟩:=mem_ready.1 h
 exact (Array.getElem?_eq_some_iff.1 ho).1
theorem ready_out {listed:Array Bool} {i:Nat} (hs:listed.size=ops.size) (h:i ∈ Region.ready .any ops listed):isIn listed i=false:=by
 have hlt:=ready_lt h
 obtain ⟨h1,_⟩:=mem_ready.1 h
 unfold isIn
 rw [Array.getD_eq_getD_getElem?] at h1 ⊢
 have:i<listed.size:=by omega
 simp [this] at h1 ⊢
 exact h1
theorem closed_set {listed:Array Bool} {i:Nat} (hs:listed.size=ops.size) (hc:Closed ops (isIn listed)) (h:i ∈ Region.ready .any ops listed):Closed ops (isIn (listed.setIfInBounds i true)):=by
 rw [isIn_set (by rw [hs]; exact ready_lt h)]
 obtain ⟨_,o,ho,h3⟩:=mem_ready.1 h
 exact closed_with hc fun o' ho' e he hb=>by
  rw [ho] at ho'
  simp only [Option.some.injEq] at ho'
  subst ho'
  exact h3 e he hb
theorem ready_stays {listed:Array Bool} {i j:Nat} (h:i ∈ Region.ready .any ops listed) (hj:j ≠ i):i ∈ Region.ready .any ops (listed.setIfInBounds j true):=by
 obtain ⟨h1,o,ho,h3⟩:=mem_ready.1 h
 exact mem_ready.2 ⟨by rw [getD_set_ne true hj]; exact h1,o,ho,fun e he hb=>getD_set_true (h3 e he hb)⟩
theorem ready_not {listed:Array Bool} {i j:Nat} (hs:listed.size=ops.size) (hc:Closed ops (isIn listed)) (hi:i ∈ Region.ready .any ops listed) (hj:j ∈ Region.ready .any ops listed) (hne:j ≠ i):¬ Anc ops i j:=by
 intro ha
 have:=ha _ (closed_set hs hc hj) (by rw [isIn_set (by rw [hs]; exact ready_lt hj)]; simp [with1])
 rw [isIn_set (by rw [hs]; exact ready_lt hj)] at this
 unfold with1 at this
 rw [ready_out hs hi,Bool.false_or] at this
 exact hne (by simpa using this:i=j).symm
theorem compl_split {listed:Array Bool} {l:List Nat} (h:Compl ops listed l):∀ {i:Nat},listed.size=ops.size→Closed ops (isIn listed)→i ∈ Region.ready .any ops listed →
  ∃ A B,l=A++i :: B∧Compl ops (listed.setIfInBounds i true) (A++B) ∧ ∀ j ∈ A,j ≠ i∧j<ops.size∧isIn listed j=false∧¬ Anc ops i j:=by
 induction h with
 | nil h0 =>
  intro i _ _ hi
  rw [h0] at hi; cases hi
 | @cons listed j l hj hc ih =>
  intro i hs hcl hi
  by_cases hji:j=i
  ·subst hji
   exact ⟨[],l,rfl,hc,fun j hj=>by cases hj⟩
  ·obtain ⟨A,B,rfl,h2,h3⟩:=ih (i:=i) (by simpa using hs) (closed_set hs hcl hj) (ready_stays hi hji)
   refine ⟨j :: A,B,rfl,.cons (ready_stays hj (fun e=>hji e.symm)) ?_,fun k hk=>?_⟩
   ·rw [Array.setIfInBounds_comm _ _ (fun e=>hji e.symm)]
    exact h2
   ·rcases List.mem_cons.1 hk with rfl | hk
    ·exact ⟨hji,ready_lt hj,ready_out hs hj,ready_not hs hcl hi hj hji⟩
    ·obtain ⟨g1,g2,g3,g4⟩:=h3 k hk
     refine ⟨g1,g2,?_,g4⟩
     rw [isIn_set (by rw [hs]; exact ready_lt hj)] at g3
     unfold with1 at g3
     exact (Bool.or_eq_false_iff.1 g3).1
theorem firm_turns {ah:List (List Nat)} {listed:Array Bool} {i:Nat} (hah:∀ (j:Nat) a,ah[j]? = some a → ∀ k ∈ a,Anc ops k j) (h:firmB cx ops ah listed i=true) {j:Nat} (hj:j<ops.size) (hne:j ≠ i)
  (ho:isIn listed j=false) (hn:¬ Anc ops i j):Turns cx ops (fun _=>True) i j:=by
 intro x y hx hy
 have:=List.all_eq_true.1 h j (List.mem_range.2 hj)
 rw [hx,hy] at this
 have h1:listed.getD j false=false:=ho
 have h2:Nat.beq j i=false:=by
  cases hb:Nat.beq j i
  ·rfl
  ·exact absurd (Nat.eq_of_beq_eq_true hb) hne
 have h3:hasN i (ah.getD j [])=false:=by
  cases hb:hasN i (ah.getD j [])
  ·rfl
  ·have hm:=hasN_mem hb
   rw [List.getD_eq_getElem?_getD] at hm
   cases ha:ah[j]? with
   | none=>rw [ha] at hm; cases hm
   | some a=>rw [ha] at hm; exact absurd (hah j a ha i hm) hn
 rw [h1,h2,h3,Bool.false_or,Bool.false_or,Bool.false_or,Bool.and_eq_true] at this
 exact ⟨this.1,.inl this.2⟩
theorem keeps_true:Keeps cx ops (fun _=>True):=fun _ _ _ _ _ _ _=>trivial
theorem ordsP_step {ah:List (List Nat)} {fuel:Nat} {listed:Array Bool} {p:T × List O}:∀ (is:List Nat) (l:List (T × List O)),
  is.foldr (fun i acc=>match acc,ops[i]? with
   | some l,some o=>match step1 cx ops o p with
    | some q=>match ordsP cx ops ah fuel (listed.setIfInBounds i true) q with
     | some m=>some (m++l)
     | none=>none
    | none=>none
   | _,_=>none) (some [])=some l →
  ∀ i ∈ is,∃ o q m,ops[i]? = some o∧step1 cx ops o p=some q∧ordsP cx ops ah fuel (listed.setIfInBounds i true) q=some m ∧ ∀ s ∈ m,s ∈ l
 | [],_,_,i,hi=>by cases hi
 | j :: is,l,h,i,hi=>by
  rw [List.foldr_cons] at h
  split at h
  rotate_left
  ·cases h
  rename_i l' o h1 h2
  split at h
  rotate_left
  ·cases h
  rename_i q hq
  split at h
  rotate_left
  ·cases h
  rename_i m hm
  simp only [Option.some.injEq] at h
  subst h
  rcases List.mem_cons.1 hi with rfl | hi
  ·exact ⟨o,q,m,h2,hq,hm,fun s hs=>List.mem_append_left _ hs⟩
  ·obtain ⟨o',q',m',g1,g2,g3,g4⟩:=ordsP_step is l' h1 i hi
   exact ⟨o',q',m',g1,g2,g3,fun s hs=>List.mem_append_right _ (g4 s hs)⟩
theorem runI_cons {i:Nat} {o:Oper} (ho:ops[i]? = some o) {p q:T × List O} (h:step1 cx ops o p=some q) (l:List Nat):runI cx ops (i :: l) p=runI cx ops l q:=by
 simp only [runI,ho,h]
theorem ordsP_all {ah:List (List Nat)} (hah:∀ (j:Nat) a,ah[j]? = some a → ∀ k ∈ a,Anc ops k j):∀ (fuel:Nat) (listed:Array Bool) (p:T × List O) (L:List (T × List O)),ordsP cx ops ah fuel listed p=some L→listed.size=ops.size→Closed ops (isIn listed) →
  ∀ l,Compl ops listed l → ∃ r,runI cx ops l p=some r ∧ ∃ s ∈ L,Like s r
 | 0,listed,p,L,h,hs,hc,l,hl=>by
  unfold ordsP at h
  cases hr:(Region.ready .any ops listed).isEmpty
  ·rw [hr] at h; cases h
  rw [hr] at h
  simp only [cond_true,Option.some.injEq] at h
  subst h
  cases hl with
  | nil _=>exact ⟨p,rfl,p,List.mem_cons_self,.refl p⟩
  | cons hi _ =>
   rw [List.isEmpty_iff.1 hr] at hi; cases hi
 | fuel+1,listed,p,L,h,hs,hc,l,hl=>by
  unfold ordsP at h
  split at h
  ·rename_i i hf
   have hfirm:=List.find?_some hf
   have hi:=List.mem_of_find?_eq_some hf
   split at h
   rotate_left
   ·cases h
   rename_i o ho
   split at h
   rotate_left
   ·cases h
   rename_i q hq
   obtain ⟨A,B,rfl,h2,h3⟩:=compl_split hl hs hc hi
   obtain ⟨r,hr,s,hsL,hlk⟩:=ordsP_all hah fuel _ q L h (by simpa using hs) (closed_set hs hc hi) _ h2
   have hr' : runI cx ops ((i :: A)++B) p=some r:=by rw [List.cons_append,runI_cons ho hq]; exact hr
   rw [runI_append] at hr'
   obtain ⟨m,hm,hB⟩:=Option.bind_eq_some_iff.1 hr'
   obtain ⟨m',hm',hlm⟩:=move_end (I:=fun _=>True) keeps_true A trivial (fun j hj=>by
    obtain ⟨g1,g2,g3,g4⟩:=h3 j hj
    exact firm_turns hah hfirm g2 g1 g3 g4) hm
   obtain ⟨r',hr2,hlr⟩:=runI_like B hlm hB
   refine ⟨r',?_,s,hsL,hlk.trans hlr⟩
   rw [show A++i :: B=(A++[i])++B from by simp,runI_append,hm']
   exact hr2
  ·cases hr:(Region.ready .any ops listed).isEmpty
   rotate_left
   ·rw [hr] at h; cases h
   rw [hr,cond_false] at h
   cases hl with
   | nil h0=>rw [h0] at hr; cases hr
   | @cons _ i l hi hl =>
    obtain ⟨o,q,m,g1,g2,g3,g4⟩:=ordsP_step _ L h i hi
    obtain ⟨r,h1,s,h2,h4⟩:=ordsP_all hah fuel _ q m g3 (by simpa using hs) (closed_set hs hc hi) l hl
    exact ⟨r,by rw [runI_cons g1 g2]; exact h1,s,g4 s h2,h4⟩
theorem ready_some (hb:∀ (j:Nat) o,ops[j]? = some o → ∀ e ∈ o.after,Region.binds .any e=true→e.on<j) {listed:Array Bool} (hs:listed.size=ops.size) (h:0<missing ops.size (isIn listed)):∃ i,i ∈ Region.ready .any ops listed:=by
 obtain ⟨i,h1,h2,h3⟩:=first_missing h
 obtain ⟨o,ho⟩:∃ o,ops[i]? = some o:=⟨ops[i],by simp [h1]⟩
 refine ⟨i,mem_ready.2 ⟨?_,o,ho,fun e he hbb=>h3 _ (hb i o ho e he hbb)⟩⟩
 unfold isIn at h2
 rw [Array.getD_eq_getD_getElem?] at h2 ⊢
 have:i<listed.size:=by omega
 simp [this] at h2 ⊢
 exact h2
theorem ready_none {listed:Array Bool} (hs:listed.size=ops.size) (h:missing ops.size (isIn listed)=0):Region.ready .any ops listed=[]:=by
 apply List.eq_nil_iff_forall_not_mem.2
 intro i hi
 have h1:=ready_out hs hi
 have hin:i ∈ (List.range ops.size).filter fun i=>!(isIn listed i):=List.mem_filter.2 ⟨List.mem_range.2 (ready_lt hi),by simp [h1]⟩
 have h0:=List.length_eq_zero_iff.1 h
 rw [h0] at hin; cases hin
theorem compl_some (hb:∀ (j:Nat) o,ops[j]? = some o → ∀ e ∈ o.after,Region.binds .any e=true→e.on<j):∀ (fuel:Nat) (listed:Array Bool),listed.size=ops.size→missing ops.size (isIn listed)=fuel → ∃ l,Compl ops listed l
 | 0,listed,hs,hm=>⟨[],.nil (ready_none hs hm)⟩
 | fuel+1,listed,hs,hm=>by
  obtain ⟨i,hi⟩:=ready_some hb hs (by omega)
  have:=missing_with (S:=isIn listed) (ready_lt hi) (ready_out hs hi)
  obtain ⟨l,hl⟩:=compl_some hb fuel (listed.setIfInBounds i true) (by simpa using hs) (by rw [isIn_set (by rw [hs]; exact ready_lt hi)]; omega)
  exact ⟨i :: l,.cons hi hl⟩
theorem compl_sound (hT:CxOk cx) {E H0 β0 w0 D} (hs0:StartOk cx.P E H0 β0 w0) (hb:∀ (j:Nat) o,ops[j]? = some o → ∀ e ∈ o.after,Region.binds .any e=true→e.on<j) {Q:AEx→T→List O→Prop} :
  ∀ (fuel:Nat) (listed:Array Bool) (p:T × List O) (β:List Loc) (a:Act) (w:World),listed.size=ops.size→missing ops.size (isIn listed)=fuel →
   (∀ l,Compl ops listed l → ∃ r,runI cx ops l p=some r ∧ ∃ s:T × List O,Q .normal s.1 s.2∧Like s r)→Good E H0 β0 w0 cx.n D p.1 p.2 β a w →
   wpAny cx.P .any ops (Post E H0 β0 w0 cx.n D Q) fuel listed a w
 | 0,listed,p,β,a,w,hs,hm,h,hg=>by
  have hr:=ready_none hs hm
  obtain ⟨r,h1,s,h2,h3⟩:=h [] (.nil hr)
  simp only [runI,Option.some.injEq] at h1
  subst h1
  refine ⟨hr,s.1,s.2,β,h2,?_⟩
  have:=hg.like h3.1
  rw [h3.2]
  exact this
 | fuel+1,listed,p,β,a,w,hs,hm,h,hg=>by
  refine ⟨fun hr=>?_,fun i hi=>?_⟩
  ·obtain ⟨i,hi⟩:=ready_some hb hs (by omega)
   rw [hr] at hi; cases hi
  ·obtain ⟨_,o,ho,_⟩:=mem_ready.1 hi
   have hmw:=missing_with (S:=isIn listed) (ready_lt hi) (ready_out hs hi)
   have hm' : missing ops.size (isIn (listed.setIfInBounds i true))=fuel:=by rw [isIn_set (by rw [hs]; exact ready_lt hi)]; omega
   obtain ⟨l,hl⟩:=compl_some hb fuel (listed.setIfInBounds i true) (by simpa using hs) hm'
   obtain ⟨r,h1,_⟩:=h (i :: l) (.cons hi hl)
   cases hst:step1 cx ops o p with
   | none=>simp only [runI,ho,hst] at h1; cases h1
   | some q =>
    refine step1_sound hT hs0 ho (t:=p.1) (H:=p.2) hg hst ?_
    intro β' a' w' hg'
    refine compl_sound hT hs0 hb fuel _ q β' a' w' (by simpa using hs) hm' (fun l hl=>?_) hg'
    obtain ⟨r,h1,h2⟩:=h (i :: l) (.cons hi hl)
    rw [runI_cons ho hst] at h1
    exact ⟨r,h1,h2⟩
end
section
variable {P:Program} {n:Nat} {Q:AEx→T→List O→Prop} {t:T} {H:List O} {cx:Cx} {ops:Array Oper}
def nothing (ops:Array Oper):Array Bool:=Array.replicate ops.size false
def allOrds (cx:Cx) (ops:Array Oper) (p:T × List O):Option (List (T × List O)):=
 cond (cx.P.follows .mixedOrders && backs 0 ops.toList) (ordsP cx ops (aheads ops.toList []) ops.size (nothing ops) p) none
theorem AWP_ordersP (hP:cx.P=P) (hn:cx.n=n) (hT:CxOk cx) {id:Nat} {l:List (T × List O)}
  (h:allOrds cx ops (t,H)=some l) (hq:∀ s ∈ l,Q .normal s.1 s.2):AWP P n (.region id ops true) Q t H:=by
 subst hP
 subst hn
 unfold allOrds at h
 cases hf:(cx.P.follows .mixedOrders && backs 0 ops.toList)
 ·rw [hf] at h; cases h
 rw [hf,cond_true] at h
 obtain ⟨hm,hb⟩:=Bool.and_eq_true_iff.1 hf
 intro E H0 β0 w0 D β a w hs hg
 refine wp_region_any hm ?_
 have st:=Step.heap_same (w' := { w with drawn:=w.drawn+1 }) hg.step.rel rfl rfl rfl rfl
 have hsz:(nothing ops).size=ops.size:=by simp [nothing]
 have hno:isIn (nothing ops)=fun _=>false:=by
  funext j
  unfold isIn nothing
  simp only [Array.getD_eq_getD_getElem?,Array.getElem?_replicate]
  split <;> rfl
 have hcl:Closed ops (isIn (nothing ops)):=by rw [hno]; intro j o ho hj; cases hj
 refine compl_sound hT hs (backs_spec hb) ops.size (nothing ops) (t,H) β a _ hsz ?_ (fun l' hl' => ?_) ⟨hg.step.trans st,hg.fr.step st,hg.defers⟩
 ·rw [hno]
  unfold missing
  have e:(List.range ops.size).filter (fun i=>!(fun _=>false) i)=List.range ops.size:=List.filter_eq_self.2 fun _ _=>rfl
  rw [e,List.length_range]
 ·obtain ⟨r,h1,s,h2,h3⟩:=ordsP_all (aheads_ok (ops:=ops) ops.toList 0 [] rfl rfl (fun j a h=>by simp at h)) _ _ _ _ h hsz hcl l' hl'
  exact ⟨r,h1,s,hq s h2,h3⟩
theorem AWP.keepQ (l:List Nat) {c:Code} (h:AWP P n c (fun e t H=>Q e (keep l t) H) t H):AWP P n c Q t H:=by
 intro E H0 β0 w0 D β a w hs hg
 refine wp_mono (h E H0 β0 w0 D β a w hs hg) fun e a w hp=>?_
 have le:∀ {t H β a w},Good E H0 β0 w0 n D t H β a w→Good E H0 β0 w0 n D (keep l t) H β a w:=fun hg=>⟨hg.step,hg.fr.le (TLe.keep l _),hg.defers⟩
 cases e with
 | normal=>obtain ⟨t,H,β,h1,h2⟩:=hp; exact ⟨_,H,β,h1,le h2⟩
 | exit id=>obtain ⟨t,H,β,h1,h2⟩:=hp; exact ⟨_,H,β,h1,le h2⟩
 | ret=>obtain ⟨t,H,β,h1,h2⟩:=hp; exact ⟨_,H,β,h1,le h2⟩
 | panic ch=>obtain ⟨t,H,β,v,x,h1,h2,h3,h4⟩:=hp; exact ⟨_,H,β,v,x,h1,le h2,h3,h4⟩
 | goto l=>exact hp.elim
 | outgrown=>exact hp.elim
theorem AWP_ordersPK (ks keeps:List Nat) (k:Nat) (hP:cx.P=P) (hn:cx.n=n) (hT:CxOk cx) {id:Nat} {t' : T} {H' : List O}
  (h:(allOrds cx ops (t,H)).map (fun l=>l.map fun s=>(dropS H.length (ordK ks s.1) (.normal,keep keeps s.1,s.2)))=some (List.replicate k (some (.normal,t',H'))))
  (hq:Q .normal t' H'):AWP P n (.region id ops true) Q t H:=by
 obtain ⟨l,hl,h2⟩:=Option.map_eq_some_iff.1 h
 refine AWP_scope (AWP.keepQ keeps (AWP_ordersP hP hn hT hl fun s hs=>⟨ordK ks s.1,(.normal,t',H'),?_,hq⟩))
 have:dropS H.length (ordK ks s.1) (.normal,keep keeps s.1,s.2) ∈ List.replicate k (some ((.normal,t',H'):St)):=by rw [← h2]; exact List.mem_map_of_mem hs
 exact (List.mem_replicate.1 this).2
end
end Go.Ab

namespace Go.Ab
def quietC (cx:Cx):Code→Bool
 | .skip=>true
 | .region _ ops _=>ops.toList.all (quiet cx)
 | .seq a b=>quietC cx a && quietC cx b
 | .cond _ a b=>quietC cx a && quietC cx b
 | .block _ c=>quietC cx c
 | .exit _=>true
 | .ret=>true
 | .loop c=>quietC cx c
 | _=>false
def SameH (H:List O) (s:St):Prop:=(∃ v,s.1 = .panic v)∨s.2.2=H
section
variable {cx:Cx}
theorem br_cases {α:Type} {c:Bool} {x y:Tree α} {r:α} (h:(Tree.br c x y).run=some r):x.run=some r∨y.run=some r:=by
 rw [br_run] at h
 cases c
 ·exact .inr h
 ·exact .inl h
theorem druns_same {ops:Array Oper}:∀ (l:List Oper) (t:T) (H:List O) (s:St),l.all (quiet cx)=true→(druns cx ops l t H).run=some s→SameH H s
 | [],t,H,s,_,h=>by
  simp only [druns,Tree.run,Option.some.injEq] at h
  subst h
  exact .inr rfl
 | o :: r,t,H,s,hq,h=>by
  obtain ⟨hq1,hq2⟩:=Bool.and_eq_true_iff.1 (by simpa using hq:(quiet cx o && r.all (quiet cx))=true)
  have put:∀ {v t},(dputs cx o v t H (druns cx ops r)).run=some s→SameH H s:=by
   intro v t h
   unfold dputs at h
   split at h
   ·exact druns_same r _ H s hq2 h
   ·cases h
  have op:∀ {t},((dop cx t H o).bind (dres cx o t (druns cx ops r))).run=some s→SameH H s:=by
   intro t h
   obtain ⟨res,h1,h2⟩:=bind_run h
   cases res with
   | ok v H1 =>
    have:=quiet_spec hq1 h1
    subst this
    exact put h2
   | pan v H1 =>
    simp only [dres,Tree.run,Option.some.injEq] at h2
    subst h2
    exact .inl ⟨v,rfl⟩
  unfold druns dstep at h
  split at h
  ·exact op h
  ·rename_i j want hg
   split at h
   ·split at h
    ·rename_i b hb
     rcases br_cases h with h | h
     ·cases want
      ·exact put h
      ·exact op h
     ·cases want
      ·exact op h
      ·exact put h
    ·exact put h
    ·cases h
   ·cases h
theorem dloop_same {f:T→List O→Tree St} {H:List O} (hf:∀ t s,(f t H).run=some s→SameH H s):∀ (n:Nat) (t:T) (s:St),(dloop f n t H).run=some s→SameH H s
 | 0,_,_,h=>by cases h
 | n+1,t,s,h=>by
  obtain ⟨s1,h1,h2⟩:=bind_run h
  have g:=hf t s1 h1
  obtain ⟨e,t1,H1⟩:=s1
  cases e
  ·rcases g with ⟨v,hv⟩ | g
   ·cases hv
   ·cases g
    exact dloop_same hf n t1 s h2
  all_goals (simp only [dseq,Tree.run,Option.some.injEq] at h2; subst h2; exact g)
theorem dcode_same:∀ (c:Code) (t:T) (H:List O) (s:St),quietC cx c=true→(dcode cx c t H).run=some s→SameH H s
 | .skip,t,H,s,_,h=>by
  simp only [dcode,Tree.run,Option.some.injEq] at h
  subst h
  exact .inr rfl
 | .region id ops draw,t,H,s,hq,h=>by
  unfold dcode at h
  cases draw
  ·exact druns_same _ _ _ _ hq h
  ·simp only [cond_true] at h
   cases hd:(drawOk cx ops || drawOkT cx ops t H)
   ·rw [hd] at h; cases h
   ·rw [hd] at h
    obtain ⟨s1,h1,h2⟩:=bind_run h
    have g:=druns_same _ _ _ _ hq h1
    obtain ⟨e,t1,H1⟩:=s1
    cases e
    ·simp only [dnorm,Tree.run,Option.some.injEq] at h2
     subst h2
     exact g
    ·cases h2
    ·cases h2
    ·simp only [dnorm] at h2
     cases hp:pansOk cx ops
     ·rw [hp] at h2; cases h2
     ·rw [hp,cond_true] at h2
      simp only [Tree.run,Option.some.injEq] at h2
      subst h2
      exact .inl ⟨_,rfl⟩
 | .seq a b,t,H,s,hq,h=>by
  obtain ⟨q1,q2⟩:=Bool.and_eq_true_iff.1 hq
  unfold dcode at h
  obtain ⟨s1,h1,h2⟩:=bind_run h
  have g:=dcode_same a t H s1 q1 h1
  obtain ⟨e,t1,H1⟩:=s1
  cases e
  ·rcases g with ⟨v,hv⟩ | g
   ·cases hv
   ·cases g
    exact dcode_same b t1 _ s q2 h2
  all_goals (simp only [dseq,Tree.run,Option.some.injEq] at h2; subst h2; exact g)
 | .cond c a b,t,H,s,hq,h=>by
  obtain ⟨q1,q2⟩:=Bool.and_eq_true_iff.1 hq
  unfold dcode at h
  split at h
  ·split at h
   ·rcases br_cases h with h | h
    ·exact dcode_same a _ H s q1 h
    ·exact dcode_same b _ H s q2 h
   ·cases h
  ·split at h
   ·rcases br_cases h with h | h
    ·exact dcode_same a _ H s q1 h
    ·exact dcode_same b _ H s q2 h
   ·cases h
 | .block id c,t,H,s,hq,h=>by
  unfold dcode at h
  obtain ⟨s1,h1,h2⟩:=bind_run h
  have g:=dcode_same c t H s1 hq h1
  obtain ⟨e,t1,H1⟩:=s1
  cases e
  all_goals (simp only [dblock,Tree.run,Option.some.injEq] at h2; subst h2)
  ·exact g
  ·rcases g with ⟨v,hv⟩ | g
   ·cases hv
   ·exact .inr g
  all_goals exact g
 | .exit _,t,H,s,_,h=>by
  simp only [dcode,Tree.run,Option.some.injEq] at h
  subst h
  exact .inr rfl
 | .ret,t,H,s,_,h=>by
  simp only [dcode,Tree.run,Option.some.injEq] at h
  subst h
  exact .inr rfl
 | .loop c,t,H,s,hq,h=>by
  unfold dcode at h
  exact dloop_same (fun t s h=>dcode_same c t H s hq h) _ _ _ h
 | .goto _,_,_,_,hq,_=>by cases hq
def qfun (cx:Cx) (fn:Func) (args:List V) (H:List O):Tree V:=
 .req (Nat.ble args.length fn.ntmps) ((mfun cx fn args H).bind fun r=>match r with
  | .ok v _=>.leaf v
  | .pan _ _=>.fail)
theorem qfun_ok {cx : Cx} {f : Nat} {fn : Func} (hT : CxOk cx) (hf : cx.P.funcs[f]? = some fn) (hname : (fn.name == "runtime.NumGoroutine") = false)
  (hq:quietC { cx with n:=fn.ntmps } (bodyOf fn)=true) (hb:fn.body=some (bodyOf fn)):RSound cx.P f (qfun cx fn):=by
 intro args H v h
 obtain ⟨h1,h2⟩:=req_run h
 obtain ⟨r,h3,h4⟩:=bind_run h2
 cases r with
 | pan _ _=>cases h4
 | ok u H1 =>
  cases h4
  have e:H1=H:=by
   unfold mfun at h3
   rw [hb] at h3
   simp only at h3
   obtain ⟨s,g1,g2⟩:=bind_run h3
   have g:=dcode_same _ _ _ _ hq g1
   obtain ⟨ex,t,H2⟩:=s
   unfold answerM at g2
   split at g2
   ·rename_i heq
    cases heq
    split at g2
    ·cases g2
     rcases g with ⟨v,hv⟩ | g
     ·cases hv
     ·exact g
    ·cases g2
   ·rename_i heq
    cases heq
    split at g2
    ·cases g2
     rcases g with ⟨v,hv⟩ | g
     ·cases hv
     ·exact g
    ·cases g2
   ·cases g2
   ·cases g2
  subst e
  exact msound_fun hT hf hname _ _ _ (by
   show (Tree.req _ _).run=_
   unfold Tree.req
   rw [br_run,h1]
   exact h3)
end
end Go.Ab

namespace Go.Ab
def dropR (n:Nat) (κ:List Nat):Res→Tree Res
 | .ok v H=>cond (noDup (List.range n++κ)) (match pickO H (List.range n++κ) with
  | some os=>match rensO (fun i=>place i (List.range n++κ)) os,V.ren? (fun i=>place i (List.range n++κ)) v with
   | some Hs,some v=>.leaf (.ok v Hs)
   | _,_=>.fail
  | none=>.fail) .fail
 | .pan _ _=>.fail
theorem mcall_drop {P:Program} {f:Nat} {args:List V} {H:List O} {r r' : Res} {κ:List Nat} (h:MCall P f args H r) (hd:(dropR H.length κ r).run=some r'):MCall P f args H r' := by
 cases r with
 | pan _ _=>cases hd
 | ok v H1 =>
  unfold dropR at hd
  cases hσ:noDup (List.range H.length++κ)
  ·rw [hσ] at hd; cases hd
  rw [hσ] at hd
  simp only [cond_true] at hd
  split at hd
  rotate_left
  ·cases hd
  rename_i os hos
  split at hd
  rotate_left
  ·cases hd
  rename_i Hs v' hHs hv'
  cases hd
  obtain ⟨hnorm,hc⟩:=h
  refine ⟨hnorm,fun w E β rargs hE hR hl hv=>(hc w E β rargs hE hR hl hv).mono ?_⟩
  rintro ev w' ⟨y,β',rfl,st,hr⟩
  let a:Act:=⟨#[],[]⟩
  have hg:Good E H β w a.tmps.size a.defers [] H1 β' a w' := ⟨st,⟨rfl,fun d=>.any _ _⟩,rfl⟩
  have hlen:β.length=H.length:=hR.len.symm
  obtain ⟨g1,g2⟩:=hg.drop hσ hos hHs (fun i hi=>by
   have hi' : i<(List.range H.length).length:=by rw [List.length_range]; omega
   rw [List.getElem?_append_left hi',List.getElem?_eq_getElem hi',List.getElem_range])
  exact ⟨y,_,rfl,g1.step,g2 _ _ _ hr hv'⟩
def mfunR (cx:Cx) (fn:Func) (κ:List Nat) (args:List V) (H:List O):Tree Res:=
 .req (Nat.ble args.length fn.ntmps) ((mfun cx fn args H).bind (dropR H.length κ))
end Go.Ab

namespace Go.Ab
open Go.ChangeMaps (setBlock)
section
variable {E:Nat→Nat→Prop} {H0 H H' : List O} {β0 β β' : List Loc} {w0 w w' : World} {n:Nat} {D:List Deferred} {t:T} {a:Act}
theorem Step.same {b:Nat} (s:Step E H β w H' β' w') (hu:∀ o,¬ Own H β b o) (hb:b<w.heap.size):w'.heap[b]? = w.heap[b]? := by
 rcases s.pres b hb with h | ⟨⟨o,h⟩,_⟩ | ⟨⟨o,h⟩,_⟩
 ·exact h
 ·exact absurd h (hu o)
 ·exact absurd h (hu o)
theorem Step.notOwn {b:Nat} (s:Step E H β w H' β' w') (hu:∀ o,¬ Own H β b o) (hb:b<w.heap.size):∀ o,¬ Own H' β' b o:=by
 intro o h
 rcases s.own b o h with h | h
 ·exact hu o h
 ·omega
structure Side (H:List O) (β:List Loc) (r:Nat) (w w' : World):Prop where
 other:∀ b,b ≠ r→w'.heap[b]? = w.heap[b]?
 size:w.heap.size≤w'.heap.size
 spec:∀ x,w.heap[r]? = some x→special x=true
 unowned:∀ o,¬ Own H β r o
 os:w'.os=w.os
 tape:w'.tape=w.tape
 output:w'.output=w.output
theorem Side.stab {r:Nat} {X:Nat→Nat→Prop} (h:Side H β r w w'):Stab w X w' X:=by
 refine ⟨fun b o v hx hv=>⟨hx,?_⟩,fun b cs e hb=>?_⟩
 ·by_cases hb:b=r
  ·subst hb
   exfalso
   cases hc:w.heap[b]? with
   | none =>
    have:=cell_lt hv
    simp only [Array.getElem?_eq_none_iff] at hc
    omega
   | some x=>rw [cell_special hc (h.spec x hc)] at hv; cases hv
  ·rw [cell_heap (h.other b hb)]; exact hv
 ·have hne:b ≠ r:=fun e' => by
   subst e'
   have:=h.spec _ hb
   cases this
  exact ⟨cs,e,by rw [h.other b hne]; exact hb⟩
theorem Side.rel {r:Nat} (h:Side H β r w w') (hR:Rel w (Xs E H β) H β):Rel w' (Xs E H β) H β:=by
 have ne:∀ {id loc},live H id→β[id]? = some loc→loc.block ≠ r:=by
  intro id loc h1 h2 e
  obtain ⟨o,ho⟩:=live_own h1 h2
  rw [e] at ho
  exact h.unowned o ho
 refine ⟨hR.len,fun id cs e loc h1 h2=>?_,fun id m sz loc h1 h2=>?_,fun id sh vs loc h1 h2=>?_,hR.disj⟩
 ·obtain ⟨a1,c,e',a2,a3,a4,a5⟩:=hR.cells id cs e loc h1 h2
  exact ⟨a1,c,e',by rw [h.other _ (ne (live_cells h1) h2)]; exact a2,a3,a4,fun k v hv=>let ⟨x,hx,hr⟩:=a5 k v hv; ⟨x,hx,hr.stab h.stab β (.refl _)⟩⟩
 ·obtain ⟨a1,a2,c,e',a3,a4⟩:=hR.tok id m sz loc h1 h2
  exact ⟨a1,a2,c,e',by rw [h.other _ (ne (live_tok h1) h2)]; exact a3,a4⟩
 ·obtain ⟨a1,a2,ob,xs,a3,a4,a5⟩:=hR.objs id sh vs loc h1 h2
  exact ⟨a1,a2,ob,xs,by rw [h.other _ (ne (live_obj h1) h2)]; exact a3,a4,fun k v hv=>let ⟨x,hx,hr⟩:=a5 k v hv; ⟨x,hx,hr.stab h.stab β (.refl _)⟩⟩
theorem Good.side {r:Nat} (h:Side H β r w w') (hr:w0.heap.size≤r) (hg:Good E H0 β0 w0 n D t H β a w):Good E H0 β0 w0 n D t H β a w' := by
 refine ⟨⟨h.rel hg.step.rel,h.os.trans hg.step.os,h.tape.trans hg.step.tape,h.output.trans hg.step.output,Nat.le_trans hg.step.size h.size,fun b hb=>?_,hg.step.own,hg.step.locs⟩,
  ⟨hg.fr.size,fun d=>(hg.fr.slot d).stab h.stab β (.refl _)⟩,hg.defers⟩
 have e:=h.other b (by omega)
 rcases hg.step.pres b hb with g | ⟨g1,c,c',e',g2,g3,g4⟩ | ⟨g1,x,y,g2,g3,g4⟩
 ·exact .inl (e.trans g)
 ·exact .inr (.inl ⟨g1,c,c',e',g2,e.trans g3,g4⟩)
 ·exact .inr (.inr ⟨g1,x,y,g2,e.trans g3,g4⟩)
theorem own_dead {mid b o:Nat} (h:Own (H.set mid .dead) β b o):Own H β b o:=by
 obtain ⟨id,loc,h1,h2,h3⟩:=h
 refine ⟨id,loc,h1,h2,?_⟩
 by_cases e:mid=id
 ·subst e
  rcases h3 with ⟨cs,e,h3⟩ | ⟨m,sz,h3,_⟩ | ⟨sh,vs,h3⟩
  all_goals (rw [get_set] at h3; split at h3 <;> simp_all)
 ·rw [List.getElem?_set_ne e] at h3
  exact h3
theorem Good.hide {mid:Nat} (hg:Good E H0 β0 w0 n D t H β a w):Good E H0 β0 w0 n D t (H.set mid .dead) β a w:=by
 have hX:∀ b o,Xs E (H.set mid .dead) β b o→Xs E H β b o:=fun b o h=>h.imp id own_dead
 have get:∀ {id:Nat} {ob:O},(H.set mid .dead)[id]? = some ob→ob ≠ O.dead→H[id]? = some ob:=by
  intro id ob h1 h2
  by_cases e:mid=id
  ·subst e
   rw [get_set] at h1
   split at h1 <;> simp_all
  ·rw [List.getElem?_set_ne e] at h1; exact h1
 have hR:=hg.step.rel
 refine ⟨⟨⟨by rw [List.length_set]; exact hR.len,fun id cs e loc h1 h2=>?_,fun id m sz loc h1 h2=>hR.tok id m sz loc (get h1 (by simp)) h2,fun id sh vs loc h1 h2=>?_,fun i j l l' h1 h2 h3 h4 h5=>?_⟩,hg.step.os,hg.step.tape,hg.step.output,hg.step.size,hg.step.pres,
  fun b o h=>hg.step.own b o (own_dead h),hg.step.locs⟩,⟨hg.fr.size,fun d=>(hg.fr.slot d).weak hX⟩,hg.defers⟩
 ·obtain ⟨a1,c,e',a2,a3,a4,a5⟩:=hR.cells id cs e loc (get h1 (by simp)) h2
  exact ⟨a1,c,e',a2,a3,a4,fun k v hv=>let ⟨x,hx,hr⟩:=a5 k v hv; ⟨x,hx,hr.weak hX⟩⟩
 ·obtain ⟨a1,a2,ob,xs,a3,a4,a5⟩:=hR.objs id sh vs loc (get h1 (by simp)) h2
  exact ⟨a1,a2,ob,xs,a3,a4,fun k v hv=>let ⟨x,hx,hr⟩:=a5 k v hv; ⟨x,hx,hr.weak hX⟩⟩
 ·obtain ⟨o1,g1,g2⟩:=h1
  obtain ⟨o2,g3,g4⟩:=h2
  exact hR.disj i j l l' ⟨o1,get g1 g2,g2⟩ ⟨o2,get g3 g4,g4⟩ h3 h4 h5
theorem Good.show {mid:Nat} {sh:Shape} {vs:List V} {loc:Loc} {ob:Obj} {xs:List Value} (hg:Good E H0 β0 w0 n D t H β a w) (hm:H[mid]? = some .dead) (hl:β[mid]? = some loc)
  (hk:loc.kind=false) (hb:loc.base=0) (ho:w.heap[loc.block]? = some ob) (hs:Shp sh ob xs) (hv:∀ (k:Nat) v,vs[k]? = some v → ∃ x,xs[k]? = some x∧R w (Xs E H β) β v x)
  (hu:∀ o,¬ Own H β loc.block o) (hown:w0.heap.size≤loc.block ∨ ∀ o,Own H0 β0 loc.block o) (hp:sh.isPage=false:=by rfl):Good E H0 β0 w0 n D t (H.set mid (.obj sh vs)) β a w:=by
 have hlt:mid<H.length:=(List.getElem?_eq_some_iff.1 hm).1
 have get:∀ id:Nat,(H.set mid (.obj sh vs))[id]? = if mid=id then some (.obj sh vs) else H[id]? := by
  intro id
  rw [get_set]
  by_cases e:mid=id
  ·subst e; simp [hlt]
  ·simp [e]
 have own2:∀ b o,Own (H.set mid (.obj sh vs)) β b o→Own H β b o∨b=loc.block:=by
  rintro b o ⟨id,l,h1,h2,h3⟩
  by_cases e:mid=id
  ·subst e
   rw [hl] at h1
   cases h1
   exact .inr h2.symm
  ·refine .inl ⟨id,l,h1,h2,?_⟩
   simp only [get,e,if_false] at h3
   exact h3
 have st:Stab w (Xs E H β) w (Xs E (H.set mid (.obj sh vs)) β):=by
  refine ⟨fun b o v hx hv=>⟨fun h=>?_,hv⟩,fun b cs e h=>⟨cs,e,h⟩⟩
  rcases h with h | h
  ·exact hx (.inl h)
  ·rcases own2 b o h with h | h
   ·exact hx (.inr h)
   ·subst h
    rw [cell_special ho (hs.special hp)] at hv
    cases hv
 have hR:=hg.step.rel
 have up:∀ {v x},R w (Xs E H β) β v x→R w (Xs E (H.set mid (.obj sh vs)) β) β v x:=fun h=>h.stab st β (.refl _)
 refine ⟨⟨⟨by rw [List.length_set]; exact hR.len,fun id cs e l h1 h2=>?_,fun id m sz l h1 h2=>?_,fun id sh' vs' l h1 h2=>?_,fun i j l l' h1 h2 h3 h4 h5=>?_⟩,hg.step.os,hg.step.tape,hg.step.output,hg.step.size,hg.step.pres,
  fun b o h=>?_,hg.step.locs⟩,⟨hg.fr.size,fun d=>up (hg.fr.slot d)⟩,hg.defers⟩
 ·rw [get] at h1
  split at h1
  ·cases h1
  ·obtain ⟨a1,c,e',a2,a3,a4,a5⟩:=hR.cells id cs e l h1 h2
   exact ⟨a1,c,e',a2,a3,a4,fun k v hv=>let ⟨x,hx,hr⟩:=a5 k v hv; ⟨x,hx,up hr⟩⟩
 ·rw [get] at h1
  split at h1
  ·cases h1
  ·exact hR.tok id m sz l h1 h2
 ·rw [get] at h1
  split at h1
  ·rename_i e
   subst e
   cases h1
   rw [hl] at h2
   cases h2
   exact ⟨hk,hb,ob,xs,ho,hs,fun k v h=>let ⟨x,hx,hr⟩:=hv k v h; ⟨x,hx,up hr⟩⟩
  ·obtain ⟨a1,a2,ob',xs',a3,a4,a5⟩:=hR.objs id sh' vs' l h1 h2
   exact ⟨a1,a2,ob',xs',a3,a4,fun k v hv=>let ⟨x,hx,hr⟩:=a5 k v hv; ⟨x,hx,up hr⟩⟩
 ·have cl:∀ {i l},live (H.set mid (.obj sh vs)) i→β[i]? = some l→(i=mid∧l=loc)∨(i ≠ mid∧live H i∧l.block ≠ loc.block):=by
   rintro i l ⟨o,g1,g2⟩ g3
   by_cases e:mid=i
   ·subst e
    rw [hl] at g3
    cases g3
    exact .inl ⟨rfl,rfl⟩
   ·simp only [get,e,if_false] at g1
    refine .inr ⟨fun h=>e h.symm,⟨o,g1,g2⟩,fun he=>?_⟩
    obtain ⟨o',ho'⟩:=live_own ⟨o,g1,g2⟩ g3
    rw [he] at ho'
    exact hu o' ho'
  rcases cl h1 h3 with ⟨e1,e2⟩ | ⟨e1,e2,e3⟩ <;> rcases cl h2 h4 with ⟨f1,f2⟩ | ⟨f1,f2,f3⟩
  ·rw [e1,f1]
  ·rw [e2] at h5; exact absurd h5.symm f3
  ·rw [f2] at h5; exact absurd h5 e3
  ·exact hR.disj i j l l' e2 f2 h3 h4 h5
 ·rcases own2 b o h with h | h
  ·exact hg.step.own b o h
  ·subst h
   rcases hown with h | h
   ·exact .inr h
   ·exact .inl (h o)
def LeftOk (w:World) (X:Nat→Nat→Prop) (β:List Loc) (es:Array MapEntry) (seen:Array Nat) (left:List (Int × V)):Prop:=
 ∃ l:List MapEntry,l.Perm (leftOf es seen).toList∧l.map (·.key)=left.map (fun p=>Value.int .u64 p.1) ∧ ∀ (k:Nat) p e,left[k]? = some p→l[k]? = some e→R w X β p.2 e.val
theorem LeftOk.stab {X X' : Nat→Nat→Prop} {es:Array MapEntry} {seen:Array Nat} {left:List (Int × V)} (h:LeftOk w X β es seen left) (s:Stab w X w' X') (hl:LocLe β β'):LeftOk w' X' β' es seen left:=by
 obtain ⟨l,h1,h2,h3⟩:=h
 exact ⟨l,h1,h2,fun k p e a b=>(h3 k p e a b).stab s β' hl⟩
theorem filter_drop {e:MapEntry}:∀ {l1 l2:List MapEntry},((l1++e :: l2).map (·.born)).Nodup→(l1++e :: l2).filter (fun x=>!(x.born == e.born))=l1++l2:=by
 intro l1 l2 h
 simp only [List.map_append,List.map_cons] at h
 obtain ⟨h1,h2,h3⟩:=List.nodup_append.1 h
 obtain ⟨h4,h5⟩:=List.nodup_cons.1 h2
 rw [List.filter_append,List.filter_cons]
 have e1:l1.filter (fun x=>!(x.born == e.born))=l1:=List.filter_eq_self.2 fun x hx=>by
  have:=h3 x.born (List.mem_map_of_mem hx) e.born List.mem_cons_self
  simpa using this
 have e2:l2.filter (fun x=>!(x.born == e.born))=l2:=List.filter_eq_self.2 fun x hx=>by
  have:x.born ≠ e.born:=fun he=>h4 (he ▸ List.mem_map_of_mem hx)
  simpa using this
 rw [e1,e2]
 simp
theorem LeftOk.take {X:Nat→Nat→Prop} {es:Array MapEntry} {clock:Nat} {seen:Array Nat} {left:List (Int × V)} (hs:Go.MapKept.Stamped es clock) (h:LeftOk w X β es seen left) {e:MapEntry} (he:e ∈ (leftOf es seen).toList) :
  ∃ A p B,left=A++p :: B∧e.key = .int .u64 p.1∧R w X β p.2 e.val∧LeftOk w X β es (seen.push e.born) (A++B):=by
 obtain ⟨l,h1,h2,h3⟩:=h
 have hm:e ∈ l:=h1.mem_iff.2 he
 obtain ⟨l1,l2,rfl⟩:=List.append_of_mem hm
 have hlen:left.length=(l1++e :: l2).length:=by
  have:=congrArg List.length h2
  simpa using this.symm
 have hlt:l1.length<left.length:=by rw [hlen]; simp
 refine ⟨left.take l1.length,left[l1.length],left.drop (l1.length+1),?_,?_,?_,l1++l2,?_,?_,?_⟩
 ·rw [← List.drop_eq_getElem_cons hlt,List.take_append_drop]
 ·have:=congrArg (fun x=>x[l1.length]?) h2
  simp only [List.getElem?_map] at this
  rw [List.getElem?_append_right (Nat.le_refl _),Nat.sub_self,List.getElem?_eq_getElem hlt] at this
  simpa using this
 ·refine h3 l1.length _ _ (List.getElem?_eq_getElem hlt) ?_
  rw [List.getElem?_append_right (Nat.le_refl _),Nat.sub_self]
  rfl
 ·have hn:((l1++e :: l2).map (·.born)).Nodup:=by
   have:=(h1.map (·.born)).nodup_iff.2 ?_
   ·exact this
   ·unfold leftOf
    rw [Array.toList_filter]
    exact (List.filter_sublist.map _).nodup hs.2.1
  rw [← filter_drop hn]
  refine (h1.filter _).trans ?_
  have:(leftOf es (seen.push e.born)).toList=(leftOf es seen).toList.filter (fun x=>!(x.born == e.born)):=by
   unfold leftOf
   rw [Array.toList_filter,Array.toList_filter,List.filter_filter]
   congr 1
   funext x
   rw [Array.contains_push]
   cases seen.contains x.born <;> cases x.born == e.born <;> rfl
  rw [this]
 ·have e1:=congrArg (List.take l1.length) h2
  have e2:=congrArg (List.drop (l1.length+1)) h2
  simp only [List.map_append,List.map_cons] at e1 e2
  rw [List.take_left' (by simp)] at e1
  have e2' : (l1.map (·.key)++e.key :: l2.map (·.key)).drop (l1.length+1)=l2.map (·.key):=by
   rw [show l1.length+1=(l1.map (·.key)).length+1 by simp,← List.drop_drop,List.drop_left]
   rfl
  rw [e2'] at e2
  rw [List.map_append,List.map_append,e1,e2,List.map_take,List.map_drop]
 ·intro k p e' hp he'
  by_cases hk:k<l1.length
  ·rw [List.getElem?_append_left (by rw [List.length_take]; omega),List.getElem?_take,if_pos hk] at hp
   rw [List.getElem?_append_left hk] at he'
   exact h3 k p e' hp (by rw [List.getElem?_append_left hk]; exact he')
  ·have hmin:(left.take l1.length).length=l1.length:=by rw [List.length_take]; omega
   rw [List.getElem?_append_right (by omega),List.getElem?_drop,hmin] at hp
   rw [List.getElem?_append_right (by omega)] at he'
   refine h3 (l1.length+1+(k - l1.length)) p e' hp ?_
   rw [List.getElem?_append_right (by omega),show l1.length+1+(k - l1.length) - l1.length=(k - l1.length)+1 by omega,List.getElem?_cons_succ]
   exact he'
theorem LeftOk.none {X:Nat→Nat→Prop} {es:Array MapEntry} {seen:Array Nat} {left:List (Int × V)} (h:LeftOk w X β es seen left) (h0:(leftOf es seen).size=0):left=[]:=by
 obtain ⟨l,h1,h2,_⟩:=h
 have:l.length=0:=by rw [h1.length_eq]; simpa using h0
 have e:=congrArg List.length h2
 simp only [List.length_map] at e
 exact List.length_eq_zero_iff.1 (by omega)
end
end Go.Ab
