/-
  The engine, part U: any order of a region comes to what the text's order comes to. Conditions: none.
-/
import Derived.Test.YtbefgnmdliefjaaGreatDoorBbT
set_option linter.unusedVariables false
set_option linter.unusedSimpArgs false
namespace Go.Ab
section
variable {cx:Cx} {ops:Array Oper} {I:T × List O→Prop}
def runI (cx:Cx) (ops:Array Oper):List Nat→T × List O→Option (T × List O)
 | [],p=>some p
 | i :: r,p=>match ops[i]? with
  | none=>runI cx ops r p
  | some o=>match step1 cx ops o p with
   | some q=>runI cx ops r q
   | none=>none
theorem runI_append (l m:List Nat) (p:T × List O):runI cx ops (l++m) p=(runI cx ops l p).bind (runI cx ops m):=by
 induction l generalizing p with
 | nil=>rfl
 | cons i r ih =>
  simp only [List.cons_append,runI]
  split
  ·exact ih p
  ·split
   ·exact ih _
   ·rfl
theorem runI_like:∀ (l:List Nat) {p q r:T × List O},Like p q→runI cx ops l p=some r → ∃ r',runI cx ops l q=some r' ∧ Like r r'
 | [],p,q,r,h,hp=>by simp only [runI,Option.some.injEq] at hp; subst hp; exact ⟨q,rfl,h⟩
 | i :: l,p,q,r,h,hp=>by
  simp only [runI] at hp ⊢
  cases ho:ops[i]? with
  | none=>rw [ho] at hp; exact runI_like l h hp
  | some o =>
   rw [ho] at hp
   simp only at hp ⊢
   cases h1:step1 cx ops o p with
   | none=>rw [h1] at hp; cases hp
   | some p1 =>
    rw [h1] at hp
    obtain ⟨q1,hq1,hl⟩:=step1_like h h1
    rw [hq1]
    exact runI_like l hl hp
def Turns (cx:Cx) (ops:Array Oper) (I:T × List O→Prop) (i j:Nat):Prop:=
 ∀ x y,ops[i]? = some x→ops[j]? = some y→x.apart ops y=true∧(mayTurn cx x y=true ∨ ∀ p,I p→SepAt x y p.1)
def Keeps (cx:Cx) (ops:Array Oper) (I:T × List O→Prop):Prop:=∀ (i:Nat) o p q,ops[i]? = some o→I p→step1 cx ops o p=some q→I q
theorem runI_keeps (hK:Keeps cx ops I):∀ (l:List Nat) {p q:T × List O},I p→runI cx ops l p=some q→I q
 | [],p,q,h,hp=>by simp only [runI,Option.some.injEq] at hp; subst hp; exact h
 | i :: l,p,q,h,hp=>by
  simp only [runI] at hp
  cases ho:ops[i]? with
  | none=>rw [ho] at hp; exact runI_keeps hK l h hp
  | some o =>
   rw [ho] at hp
   simp only at hp
   cases h1:step1 cx ops o p with
   | none=>rw [h1] at hp; cases hp
   | some p1=>rw [h1] at hp; exact runI_keeps hK l (hK i o p p1 ho h h1) hp
theorem move_end (hK:Keeps cx ops I) {i:Nat}:∀ (B:List Nat) {p r:T × List O},I p→(∀ j ∈ B,Turns cx ops I i j)→runI cx ops (i :: B) p=some r → ∃ r',runI cx ops (B++[i]) p=some r' ∧ Like r r'
 | [],p,r,_,_,h=>⟨r,h,.refl r⟩
 | j :: B,p,r,hI,hB,h=>by
  cases hi:ops[i]? with
  | none =>
   have e:∀ l p,runI cx ops (i :: l) p=runI cx ops l p:=fun l p=>by simp [runI,hi]
   refine ⟨r,?_,.refl r⟩
   rw [e] at h
   rw [runI_append,h]
   simp [runI,hi]
  | some x =>
   cases hj:ops[j]? with
   | none =>
    have e:∀ l p,runI cx ops (j :: l) p=runI cx ops l p:=fun l p=>by simp [runI,hj]
    have h' : runI cx ops (i :: B) p=some r:=by
     simp only [runI,hi,hj] at h ⊢
     exact h
    obtain ⟨r',h1,h2⟩:=move_end hK B hI (fun k hk=>hB k (List.mem_cons_of_mem _ hk)) h'
    exact ⟨r',by rw [List.cons_append,e]; exact h1,h2⟩
   | some y =>
    simp only [runI,hi,hj] at h
    cases h1:step1 cx ops x p with
    | none=>rw [h1] at h; cases h
    | some q =>
     rw [h1] at h
     simp only at h
     cases h2:step1 cx ops y q with
     | none=>rw [h2] at h; cases h
     | some q2 =>
      rw [h2] at h
      simp only at h
      obtain ⟨ha,hm⟩:=hB j List.mem_cons_self x y hi hj
      obtain ⟨q',r1,g1,g2,g3⟩:=turn ha (hm.imp id (fun hs=>.inl (hs p hI))) h1 h2
      obtain ⟨r2,k1,k2⟩:=runI_like B g3 h
      have h3:runI cx ops (i :: B) q' = some r2:=by simp only [runI,hi,g2]; exact k1
      obtain ⟨r3,m1,m2⟩:=move_end hK B (hK j y p q' hj hI g1) (fun k hk=>hB k (List.mem_cons_of_mem _ hk)) h3
      refine ⟨r3,?_,k2.trans m2⟩
      simp only [List.cons_append,runI,hj,g1]
      exact m1
def TurnsAt (cx:Cx) (ops:Array Oper) (i j:Nat) (p:T × List O):Prop:=
 ∀ x y,ops[i]? = some x→ops[j]? = some y→x.apart ops y=true∧(mayTurn cx x y=true∨SepAt x y p.1∨(CallSep cx x y p∨CallSep cx y x p))
theorem move_endA {i:Nat}:∀ (B:List Nat) {p r:T × List O},(∀ B1 j B2,B=B1++j :: B2 → ∀ q,runI cx ops B1 p=some q→TurnsAt cx ops i j q)→runI cx ops (i :: B) p=some r → ∃ r',runI cx ops (B++[i]) p=some r' ∧ Like r r'
 | [],p,r,_,h=>⟨r,h,.refl r⟩
 | j :: B,p,r,hB,h=>by
  cases hi:ops[i]? with
  | none =>
   have e:∀ l p,runI cx ops (i :: l) p=runI cx ops l p:=fun l p=>by simp [runI,hi]
   refine ⟨r,?_,.refl r⟩
   rw [e] at h
   rw [runI_append,h]
   simp [runI,hi]
  | some x =>
   cases hj:ops[j]? with
   | none =>
    have e:∀ l p,runI cx ops (j :: l) p=runI cx ops l p:=fun l p=>by simp [runI,hj]
    have h' : runI cx ops (i :: B) p=some r:=by
     simp only [runI,hi,hj] at h ⊢
     exact h
    obtain ⟨r',h1,h2⟩:=move_endA B (fun B1 k B2 hB12 q hq=>hB (j :: B1) k B2 (by rw [hB12]; rfl) q (by rw [e]; exact hq)) h'
    exact ⟨r',by rw [List.cons_append,e]; exact h1,h2⟩
   | some y =>
    simp only [runI,hi,hj] at h
    cases h1:step1 cx ops x p with
    | none=>rw [h1] at h; cases h
    | some q =>
     rw [h1] at h
     simp only at h
     cases h2:step1 cx ops y q with
     | none=>rw [h2] at h; cases h
     | some q2 =>
      rw [h2] at h
      simp only at h
      obtain ⟨ha,hm⟩:=hB [] j B rfl p rfl x y hi hj
      obtain ⟨q',r1,g1,g2,g3⟩:=turn ha hm h1 h2
      obtain ⟨r2,k1,k2⟩:=runI_like B g3 h
      have h3:runI cx ops (i :: B) q' = some r2:=by simp only [runI,hi,g2]; exact k1
      obtain ⟨r3,m1,m2⟩:=move_endA B (fun B1 k B2 hB12 q hq=>hB (j :: B1) k B2 (by rw [hB12]; rfl) q (by simp only [runI,hj,g1]; exact hq)) h3
      refine ⟨r3,?_,k2.trans m2⟩
      simp only [List.cons_append,runI,hj,g1]
      exact m1
def Closed (ops:Array Oper) (S:Nat→Bool):Prop:=∀ (j:Nat) o,ops[j]? = some o→S j=true → ∀ e ∈ o.after,Region.binds .any e=true→S e.on=true
def Anc (ops:Array Oper) (i j:Nat):Prop:=∀ S,Closed ops S→S j=true→S i=true
structure DrawOk (cx:Cx) (ops:Array Oper) (p0:T × List O):Prop where
 back:∀ (j:Nat) o,ops[j]? = some o → ∀ e ∈ o.after,Region.binds .any e=true→e.on<j
 pairs:∀ i j,i<j→j<ops.size→Anc ops i j ∨ ∀ l p,(∀ k ∈ l,k<j∧k ≠ i)→runI cx ops l p0=some p→TurnsAt cx ops i j p
def stateOf (cx:Cx) (ops:Array Oper) (S:Nat→Bool) (p:T × List O):Option (T × List O):=runI cx ops ((List.range ops.size).filter S) p
def with1 (S:Nat→Bool) (i:Nat):Nat→Bool:=fun j=>S j || j == i
theorem range_parts {n i:Nat} (h:i<n):List.range n=List.range i++i :: List.range' (i+1) (n - i - 1):=by
 have h1:List.range n=List.range' 0 i++List.range' i (n - i):=by
  have:=List.range'_append (s:=0) (m:=i) (n:=n - i) (step:=1)
  rw [List.range_eq_range']
  simp only [Nat.one_mul,Nat.zero_add] at this
  rw [this]; congr 1; omega
 rw [h1,← List.range_eq_range']
 congr 1
 rw [show n - i=(n - i - 1)+1 from by omega,List.range'_succ]
 simp
theorem filter_with {n i:Nat} {S:Nat→Bool} (h:i<n) (hS:S i=false) :
  ∃ A B,(List.range n).filter (with1 S i)=A++i :: B∧(List.range n).filter S=A++B∧(∀ j ∈ B,i<j∧j<n∧S j=true)∧(∀ j ∈ A,j<i)∧B.Pairwise (· < ·):=by
 refine ⟨(List.range i).filter S,(List.range' (i+1) (n - i - 1)).filter S,?_,?_,?_,fun j hj=>List.mem_range.1 (List.mem_filter.1 hj).1,(List.pairwise_lt_range' (s:=i+1) (n:=n - i - 1) 1 (by decide)).filter _⟩
 ·rw [range_parts h,List.filter_append,List.filter_cons]
  have e1:(List.range i).filter (with1 S i)=(List.range i).filter S:=by
   apply List.filter_congr
   intro j hj
   have:=List.mem_range.1 hj
   simp [with1]; omega
  have e2:(List.range' (i+1) (n - i - 1)).filter (with1 S i)=(List.range' (i+1) (n - i - 1)).filter S:=by
   apply List.filter_congr
   intro j hj
   have:=List.mem_range'_1.1 hj
   simp [with1]; omega
  rw [e1,e2]
  simp [with1]
 ·rw [range_parts h,List.filter_append,List.filter_cons]
  simp [hS]
 ·intro j hj
  obtain ⟨h1,h2⟩:=List.mem_filter.1 hj
  have:=List.mem_range'_1.1 h1
  exact ⟨by omega,by omega,h2⟩
theorem step_to {p0 r:T × List O} (hd:DrawOk cx ops p0) {S:Nat→Bool} {i:Nat} (hc:Closed ops S) (hi:i<ops.size) (hS:S i=false) (h:stateOf cx ops (with1 S i) p0=some r) :
  ∃ p r',stateOf cx ops S p0=some p∧(∀ o,ops[i]? = some o→step1 cx ops o p=some r')∧Like r r' := by
 obtain ⟨A,B,e1,e2,e3,e4,e5⟩:=filter_with hi hS
 unfold stateOf at h ⊢
 rw [e1,runI_append] at h
 rw [e2,runI_append]
 obtain ⟨q,hq,h⟩:=Option.bind_eq_some_iff.1 h
 have hB:∀ B1 j B2,B=B1++j :: B2 → ∀ q',runI cx ops B1 q=some q' → TurnsAt cx ops i j q' := by
  intro B1 j B2 hB12 q' hq'
  obtain ⟨h1,h2,h3⟩:=e3 j (by rw [hB12]; simp)
  rcases hd.pairs i j h1 h2 with h | h
  ·have:=h S hc h3
   rw [hS] at this; cases this
  ·refine h (A++B1) q' (fun k hk=>?_) (by rw [runI_append,hq]; exact hq')
   rcases List.mem_append.1 hk with hk | hk
   ·have:=e4 k hk; omega
   ·have g1:=(e3 k (by rw [hB12]; exact List.mem_append_left _ hk)).1
    rw [hB12] at e5
    have g2:=(List.pairwise_append.1 e5).2.2 k hk j List.mem_cons_self
    omega
 obtain ⟨r',h1,h2⟩:=move_endA B hB h
 rw [runI_append] at h1
 obtain ⟨p,hp,h1⟩:=Option.bind_eq_some_iff.1 h1
 refine ⟨p,r',by rw [hq]; exact hp,fun o ho=>?_,h2⟩
 simp only [runI,ho] at h1
 cases hs:step1 cx ops o p with
 | none=>rw [hs] at h1; cases h1
 | some q2=>rw [hs] at h1; exact h1
theorem closed_with {S:Nat→Bool} {i:Nat} (hc:Closed ops S) (h:∀ o,ops[i]? = some o → ∀ e ∈ o.after,Region.binds .any e=true→S e.on=true):Closed ops (with1 S i):=by
 intro j o ho hj e he hb
 unfold with1 at hj ⊢
 rcases Bool.or_eq_true_iff.1 hj with hj | hj
 ·rw [hc j o ho hj e he hb]; rfl
 ·have:j=i:=by simpa using hj
  subst this
  rw [h o ho e he hb]; rfl
def missing (n:Nat) (S:Nat→Bool):Nat:=((List.range n).filter fun i=>!S i).length
theorem missing_with {n i:Nat} {S:Nat→Bool} (hi:i<n) (hS:S i=false):missing n S=missing n (with1 S i)+1:=by
 unfold missing
 have hS' : (fun j=>!(with1 S i) j) i=false:=by simp [with1]
 obtain ⟨A,B,e1,e2,_,_,_⟩:=filter_with (S:=fun j=>!(with1 S i) j) hi hS'
 have:with1 (fun j=>!(with1 S i) j) i=fun j=>!S j:=by
  funext j
  by_cases hj:j=i
  ·subst hj; simp [with1,hS]
  ·have hji:(j == i)=false:=by simpa using hj
   simp [with1,hji]
 rw [this] at e1
 rw [e1,e2]
 simp; omega
theorem first_missing {n:Nat} {S:Nat→Bool} (h:0<missing n S):∃ i,i<n∧S i=false ∧ ∀ j,j<i→S j=true:=by
 unfold missing at h
 induction n with
 | zero=>simp at h
 | succ n ih =>
  by_cases hn:0<((List.range n).filter fun i=>!S i).length
  ·obtain ⟨i,h1,h2,h3⟩:=ih hn
   exact ⟨i,by omega,h2,h3⟩
  ·rw [List.range_succ,List.filter_append] at h
   have h0:(List.range n).filter (fun i=>!S i)=[]:=List.length_eq_zero_iff.1 (by omega)
   rw [h0] at h
   have hnn:S n=false:=by
    cases hs:S n
    ·rfl
    ·simp [hs] at h
   refine ⟨n,by omega,hnn,fun j hj=>?_⟩
   cases hs:S j
   ·have:j ∈ (List.range n).filter fun i=>!S i:=List.mem_filter.2 ⟨List.mem_range.2 hj,by simp [hs]⟩
    rw [h0] at this; cases this
   ·rfl
theorem stateOf_full {S:Nat→Bool} (h:missing ops.size S=0) (p:T × List O):stateOf cx ops S p=runI cx ops (List.range ops.size) p:=by
 unfold stateOf
 congr 1
 rw [List.filter_eq_self]
 intro i hi
 cases hs:S i
 ·have:i ∈ (List.range ops.size).filter fun i=>!S i:=List.mem_filter.2 ⟨hi,by simp [hs]⟩
  have h0:=List.length_eq_zero_iff.1 h
  rw [h0] at this; cases this
 ·rfl
theorem closed_some {p0 r0:T × List O} (hd:DrawOk cx ops p0) (h:runI cx ops (List.range ops.size) p0=some r0) :
  ∀ (m:Nat) (S:Nat→Bool),missing ops.size S=m→Closed ops S → ∃ p,stateOf cx ops S p0=some p
 | 0,S,hm,_=>⟨r0,by rw [stateOf_full hm]; exact h⟩
 | m+1,S,hm,hc=>by
  obtain ⟨i,hi,hS,hlt⟩:=first_missing (S:=S) (n:=ops.size) (by omega)
  have hm' := missing_with hi hS
  obtain ⟨r,hr⟩:=closed_some hd h m (with1 S i) (by omega) (closed_with hc fun o ho e he hb=>hlt _ (hd.back i o ho e he hb))
  obtain ⟨p,_,hp,_⟩:=step_to hd hc hi hS hr
  exact ⟨p,hp⟩
end
end Go.Ab
