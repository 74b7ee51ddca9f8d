/-
  The engine, part X: objects that are done with are dropped. Conditions: none.
-/
import Derived.Test.YtnickegmpffneaaGreatDoorPk09
import Derived.Recover
import Derived.Laws.Externs
import Derived.Lib.Bytealg
set_option linter.unusedVariables false
set_option linter.unusedSimpArgs false
namespace Go.Ab
def dropT (σ:List Nat):T→T
 | []=>[]
 | (d,v) :: r=>(d,(V.ren? (fun i=>place i σ) v).getD .any) :: dropT σ r
def dropE (σ:List Nat):AEx→Option AEx
 | .panic v=>(V.ren? (fun i=>place i σ) v).map .panic
 | e=>some e
def dropS (n:Nat) (κ:List Nat):St→Option St
 | (e,t,H) =>
  let σ:=List.range n++κ
  cond (noDup σ) (match pickO H σ with
  | some os=>match rensO (fun i=>place i σ) os,dropE σ e with
   | some Hs,some e=>some (e,dropT σ t,Hs)
   | _,_=>none
  | none=>none) none
section
variable {P:Program} {n:Nat} {Q:AEx→T→List O→Prop} {t:T} {H:List O} {β:List Loc} {w:World} {E:Nat→Nat→Prop}
theorem get_dropT (σ:List Nat) (d:Nat):∀ t:T,get d (dropT σ t)=(V.ren? (fun i=>place i σ) (get d t)).getD .any
 | []=>rfl
 | (e,v) :: r=>by
  simp only [dropT,get]
  cases Nat.beq d e
  ·simpa using get_dropT σ d r
  ·rfl
theorem sub_own {σ:List Nat} {os Hs:List O} (hR:Rel w (Xs E H β) H β) (hσ:noDup σ=true) (hp:pickO H σ=some os)
  (hr:rensO (fun i=>place i σ) os=some Hs):Rel w (Xs E Hs (pickL β σ)) Hs (pickL β σ)∧(∀ b o,Own Hs (pickL β σ) b o→Own H β b o)∧Turned (fun i=>place i σ) β (pickL β σ):=by
 have hR0:Rel w (Xs (fun _ _=>False) H β) H β:=by
  have hX:∀ b o,Xs (fun _ _=>False) H β b o→Xs E H β b o:=fun b o h=>by rcases h with h | h; exact h.elim; exact .inr h
  refine ⟨hR.len,fun id cs e loc h1 h2=>?_,hR.tok,fun id sh vs loc h1 h2=>?_,hR.disj⟩
  ·obtain ⟨a1,c,e',a2,a3,a4,a5⟩:=hR.cells id cs e loc h1 h2
   exact ⟨a1,c,e',a2,a3,a4,fun k v hv=>let ⟨x,hx,hr⟩:=a5 k v hv; ⟨x,hx,hr.weak hX⟩⟩
  ·obtain ⟨a1,ab,ob,xs,a2,a3,a5⟩:=hR.objs id sh vs loc h1 h2
   exact ⟨a1,ab,ob,xs,a2,a3,fun k v hv=>let ⟨x,hx,hr⟩:=a5 k v hv; ⟨x,hx,hr.weak hX⟩⟩
 obtain ⟨hi,hturn⟩:=into (fun b o h=>h.elim) hR0 hσ hp hr
 refine ⟨?_,hi.sub,hturn⟩
 have hX:∀ b o,Xs E Hs (pickL β σ) b o→Xs E H β b o:=fun b o h=>by rcases h with h | h; exact .inl h; exact .inr (hi.sub b o h)
 obtain ⟨p1,p2⟩:=pickO_get hp
 obtain ⟨r1,r2⟩:=rensO_get hr
 refine ⟨hi.rel.len,fun k cs e loc h1 h2=>?_,hi.rel.tok,fun k sh vs loc h1 h2=>?_,hi.rel.disj⟩
 ·obtain ⟨a1,c,e',a2,a3,a4,_⟩:=hi.rel.cells k cs e loc h1 h2
  refine ⟨a1,c,e',a2,a3,a4,fun m v hv=>?_⟩
  obtain ⟨u,hu,hu'⟩:=r2 k _ h1
  have hk:k<σ.length:=by rw [← p1]; exact (List.getElem?_eq_some_iff.1 hu).1
  obtain ⟨g1,g2,_⟩:=hi.get k σ[k] (by simp [hk])
  obtain ⟨cs',rfl,hren⟩:=oren_cells hu'
  obtain ⟨q1,q2⟩:=rens_get hren
  obtain ⟨v',hv',hvr⟩:=q2 m v hv
  have hH:H[σ[k]]? = some (.cells cs' e):=by rw [← (p2 k σ[k] (by simp [hk])).2,hu]
  obtain ⟨_,c2,e2,b2,_,_,b5⟩:=hR.cells σ[k] cs' e loc hH (by rw [← g2,h2])
  rw [a2] at b2
  simp only [Option.some.injEq,Obj.cells.injEq,and_true] at b2
  obtain ⟨rfl,rfl⟩:=b2
  obtain ⟨x,hx,hr⟩:=b5 m v' hv'
  exact ⟨x,hx,(ren_R hturn hr v hvr).weak hX⟩
 ·obtain ⟨u,hu,hu'⟩:=r2 k _ h1
  have hk:k<σ.length:=by rw [← p1]; exact (List.getElem?_eq_some_iff.1 hu).1
  obtain ⟨g1,g2,_⟩:=hi.get k σ[k] (by simp [hk])
  obtain ⟨vs',rfl,hren⟩:=oren_obj hu'
  obtain ⟨q1,q2⟩:=rens_get hren
  have hH:H[σ[k]]? = some (.obj sh vs'):=by rw [← (p2 k σ[k] (by simp [hk])).2,hu]
  obtain ⟨a1,ab,ob,xs,a2,a3,a5⟩:=hR.objs σ[k] sh vs' loc hH (by rw [← g2,h2])
  refine ⟨a1,ab,ob,xs,a2,a3,fun m v hv=>?_⟩
  obtain ⟨v',hv',hvr⟩:=q2 m v hv
  obtain ⟨x,hx,hr⟩:=a5 m v' hv'
  exact ⟨x,hx,(ren_R hturn hr v hvr).weak hX⟩
theorem Good.drop {E H0 β0 w0 D a} {σ:List Nat} {os Hs:List O} (hg:Good E H0 β0 w0 n D t H β a w) (hσ:noDup σ=true) (hp:pickO H σ=some os)
  (hr:rensO (fun i=>place i σ) os=some Hs) (h0:∀ i,i<β0.length→σ[i]? = some i) :
  Good E H0 β0 w0 n D (dropT σ t) Hs (pickL β σ) a w ∧ ∀ v v' x,R w (Xs E H β) β v x→V.ren? (fun i=>place i σ) v=some v' → R w (Xs E Hs (pickL β σ)) (pickL β σ) v' x:=by
 obtain ⟨s1,s2,s3⟩:=sub_own hg.step.rel hσ hp hr
 have hX:∀ b o,Xs E Hs (pickL β σ) b o→Xs E H β b o:=fun b o h=>by rcases h with h | h; exact .inl h; exact .inr (s2 b o h)
 have hv:∀ v v' x,R w (Xs E H β) β v x→V.ren? (fun i=>place i σ) v=some v' → R w (Xs E Hs (pickL β σ)) (pickL β σ) v' x:=fun v v' x h1 h2=>(ren_R s3 h1 v' h2).weak hX
 have hlt:∀ i ∈ σ,i<β.length:=fun i hi=>by
  obtain ⟨k,hk⟩:=List.getElem?_of_mem hi
  rw [← hg.step.rel.len]; exact ((pickO_get hp).2 k i hk).1
 refine ⟨⟨⟨s1,hg.step.os,hg.step.tape,hg.step.output,hg.step.size,hg.step.pres,fun b o h=>hg.step.own b o (s2 b o h),?_⟩,⟨hg.fr.size,fun d=>?_⟩,hg.defers⟩,hv⟩
 ·intro i loc h
  obtain ⟨loc',g1,g2⟩:=hg.step.locs i loc h
  refine ⟨loc',?_,g2⟩
  rw [(pickL_get hlt).2 i i (h0 i (List.getElem?_eq_some_iff.1 h).1),g1]
 ·rw [get_dropT]
  cases hc:V.ren? (fun i=>place i σ) (get d t) with
  | none=>exact .any _ _
  | some v=>exact hv _ v _ (hg.fr.slot d) hc
theorem LocLe.len {a b:List Loc} (h:LocLe a b):a.length≤b.length:=by
 rcases Nat.lt_or_ge b.length a.length with hl | hl
 ·obtain ⟨l,e,_⟩:=h b.length a[b.length] (by simp [hl])
  simp at e
 ·exact hl
theorem AWP_scope {c:Code} (h:AWP P n c (fun e t' H' => ∃ κ s,dropS H.length κ (e,t',H')=some s∧Q s.1 s.2.1 s.2.2) t H):AWP P n c Q t H:=by
 intro E H0 β0 w0 D β a w hs hg
 have hlen:β0.length≤H.length:=by rw [hg.step.rel.len]; exact hg.step.locs.len
 refine wp_mono (h E H0 β0 w0 D β a w hs hg) ?_
 intro e a' w' hp
 have fin:∀ ex t' H' β',(∃ κ s,dropS H.length κ (ex,t',H')=some s∧Q s.1 s.2.1 s.2.2)→Good E H0 β0 w0 n D t' H' β' a' w' →
   ∃ ex' t2 H2 β2 σ,dropE σ ex=some ex' ∧ Q ex' t2 H2∧Good E H0 β0 w0 n D t2 H2 β2 a' w' ∧ ∀ v v' x,R w' (Xs E H' β') β' v x→V.ren? (fun i=>place i σ) v=some v' → R w' (Xs E H2 β2) β2 v' x:=by
  rintro ex t' H' β' ⟨κ,s,h1,h2⟩ hg'
  unfold dropS at h1
  simp only at h1
  cases hd:noDup (List.range H.length++κ)
  ·simp [hd] at h1
  simp only [hd,cond_true] at h1
  split at h1
  rotate_left
  ·cases h1
  rename_i os hos
  split at h1
  rotate_left
  ·cases h1
  rename_i Hs ex' e1 e2
  simp only [Option.some.injEq] at h1
  subst h1
  obtain ⟨g1,g2⟩:=hg'.drop hd hos e1 (fun i hi=>by
   have hi' : i<(List.range H.length).length:=by rw [List.length_range]; omega
   rw [List.getElem?_append_left hi',List.getElem?_eq_getElem hi',List.getElem_range])
  exact ⟨ex',_,_,_,_,e2,h2,g1,g2⟩
 cases e with
 | normal =>
  obtain ⟨t',H',β',h1,h2⟩:=hp
  obtain ⟨ex',t2,H2,β2,σ,g1,g2,g3,_⟩:=fin _ _ _ _ h1 h2
  cases g1
  exact ⟨t2,H2,β2,g2,g3⟩
 | exit id =>
  obtain ⟨t',H',β',h1,h2⟩:=hp
  obtain ⟨ex',t2,H2,β2,σ,g1,g2,g3,_⟩:=fin _ _ _ _ h1 h2
  cases g1
  exact ⟨t2,H2,β2,g2,g3⟩
 | ret =>
  obtain ⟨t',H',β',h1,h2⟩:=hp
  obtain ⟨ex',t2,H2,β2,σ,g1,g2,g3,_⟩:=fin _ _ _ _ h1 h2
  cases g1
  exact ⟨t2,H2,β2,g2,g3⟩
 | panic ch =>
  obtain ⟨t',H',β',v,x,h1,h2,h3,h4⟩:=hp
  obtain ⟨ex',t2,H2,β2,σ,g1,g2,g3,g4⟩:=fin _ _ _ _ h1 h2
  simp only [dropE] at g1
  obtain ⟨v',hv',rfl⟩:=Option.map_eq_some_iff.1 g1
  exact ⟨t2,H2,β2,v',x,g2,g3,g4 v v' x h3 hv',h4⟩
 | goto l=>exact hp.elim
 | outgrown=>exact hp.elim
theorem Tree.all_mono {γ:Type} {Q Q' : γ→Prop} {x:Tree γ} (h:x.all Q) (hq:∀ s,Q s→Q' s):x.all Q' := by
 induction x with
 | leaf b=>exact hq b h
 | fail=>exact h.elim
 | br c x y ihx ihy=>exact ⟨fun hc=>ihx (h.1 hc),fun hc=>ihy (h.2 hc)⟩
def Round {α:Type} (st:α→T × List O) (μ:α→Nat) (Q:AEx→T→List O→Prop) (i:α) (s:St):Prop:=
 ∃ κ s',dropS (st i).2.length κ s=some s' ∧ (match s'.1 with | .normal=>∃ j,μ j<μ i∧TLe s'.2.1 (st j).1∧s'.2.2=(st j).2 | e=>Q e s'.2.1 s'.2.2)
theorem AWP_rounds {cx:Cx} {α:Type} (hP:cx.P=P) (hn:cx.n=n) (hT:CxOk cx) (st:α→T × List O) (μ:α→Nat) {body:Code}
  (h:∀ i,(dcode cx body (st i).1 (st i).2).all (Round st μ Q i)) (i:α):AWP P n (.loop body) Q (st i).1 (st i).2:=by
 refine AWP_loop st μ (fun i=>?_) i
 refine AWP_scope (AWP_code hP hn hT body _ _ _ ?_)
 refine Tree.all_mono (h i) ?_
 rintro s ⟨κ,s',h1,h2⟩
 exact ⟨κ,s',h1,h2⟩
end
end Go.Ab
namespace Go.Ab
def c1:Code→Code
 | .seq a _=>a
 | c=>c
def c2:Code→Code
 | .seq _ b=>b
 | c=>c
def cin:Code→Code
 | .block _ c=>c
 | .loop c=>c
 | c=>c
def bodyOf (fn:Func):Code:=fn.body.getD .skip
end Go.Ab

namespace Go.Ab
abbrev strEq (a b:List UInt8):Bool:=a == b
abbrev tI (x:Int):Int:=x
abbrev tS (x:List UInt8):List UInt8:=x
abbrev tB (x:Bool):Bool:=x
def Fits (t:T):T→Prop
 | []=>True
 | (d,v) :: r=>get d t=v∧Fits t r
theorem Fits.tle {t:T}:∀ {s:T},Fits t s→TLe t s
 | [],_,d=>.inr rfl
 | (e,v) :: r,h,d=>by
  simp only [get]
  cases hb:Nat.beq d e
  ·simpa using Fits.tle h.2 d
  ·have:=Nat.eq_of_beq_eq_true hb
   subst this
   exact .inl h.1.symm
theorem wrap_i64 {n:Int} (h0 : -9223372036854775808≤n) (h1:n<9223372036854775808):IntKind.wrap .i64 n=n:=by
 have h:IntKind.wrap .i64 n=if n % 18446744073709551616 ≥ 9223372036854775808 then n % 18446744073709551616 - 18446744073709551616 else n % 18446744073709551616:=by
  simp [IntKind.wrap,IntKind.bits,IntKind.signed]
 rw [h]
 split <;> omega
theorem inside_of {i:Int} {n:Nat} (h0:0≤i) (h1:i<n):inside i n=true:=by
 simp [inside,h0,h1]
def Tree.out {α:Type}:Tree α→Option α
 | .leaf b=>some b
 | .fail=>none
 | .br c x y=>cond c x.out y.out
theorem Tree.out_run {α:Type}:∀ x:Tree α,x.out=x.run
 | .leaf _=>rfl
 | .fail=>rfl
 | .br c x y=>by cases c <;> simp only [Tree.out,Tree.run,cond_true,cond_false,Tree.out_run x,Tree.out_run y]
theorem br_run {α:Type} (c:Bool) (x y:Tree α):(Tree.br c x y).run=cond c x.run y.run:=by cases c <;> rfl
theorem fold7 (k:IntKind) (b1 b2 b3 b4 b5 b6 b7:Bool) (x1 x2 x3 x4 x5 x6 x7 x8:Int) :
  (Tree.br b1 (.leaf (V.int k x1)) (.br b2 (.leaf (.int k x2)) (.br b3 (.leaf (.int k x3)) (.br b4 (.leaf (.int k x4)) (.br b5 (.leaf (.int k x5)) (.br b6 (.leaf (.int k x6)) (.br b7 (.leaf (.int k x7)) (.leaf (.int k x8))))))))).run =
   some (.int k (cond b1 x1 (cond b2 x2 (cond b3 x3 (cond b4 x4 (cond b5 x5 (cond b6 x6 (cond b7 x7 x8)))))))):=by
 cases b1
 rotate_left
 ·rfl
 cases b2
 rotate_left
 ·rfl
 cases b3
 rotate_left
 ·rfl
 cases b4
 rotate_left
 ·rfl
 cases b5
 rotate_left
 ·rfl
 cases b6
 rotate_left
 ·rfl
 cases b7 <;> rfl
theorem Tree.all_run_eq {α:Type} {x y:Tree α} {Q:α→Prop} (e:x.run=y.run) (h:y.all Q):x.all Q:=by
 obtain ⟨b,h1,h2⟩:=Tree.all_run h
 exact Tree.run_all (e.trans h1) h2
theorem getD_lt {α:Type} {l:List α} {i:Nat} {d:α} (hi:i<l.length):l.getD i d=l[i]:=by simp [List.getD,hi]
theorem take_none {α:Type} {p:α→Bool} {l:List α} {i:Nat} {d:α} (hi:i<l.length) (h:(l.take i).find? p=none) (hp:p (l.getD i d)=false):(l.take (i+1)).find? p=none:=by
 rw [getD_lt hi] at hp
 rw [List.take_add_one,List.find?_append,h]
 simp [List.getElem?_eq_getElem hi,hp]
theorem take_some {α:Type} {p:α→Bool} {l:List α} {i:Nat} {d:α} (hi:i<l.length) (h:(l.take i).find? p=none) (hp:p (l.getD i d)=true):l.find? p=some (l.getD i d):=by
 rw [getD_lt hi] at hp ⊢
 have e:l.find? p=(l.take i++l[i] :: l.drop (i+1)).find? p:=by rw [← List.drop_eq_getElem_cons hi,List.take_append_drop]
 rw [e,List.find?_append,h,List.find?_cons,hp]
 rfl
variable {P:Program} {H:List O}
theorem mcall_of' {f : Nat} {fn : Func} {c : Code} {args : List V} {r : Res} (hf : P.funcs[f]? = some fn) (hb : fn.body = some c) (hname : (fn.name == "runtime.NumGoroutine") = false)
  (hn:Nat.ble args.length fn.ntmps=true) (h:AWP P fn.ntmps c (MPost P fn r) (initT 0 args) H):MCall P f args H r:=
 mcall_of hf hb (by intro e; rw [e] at hname; simp at hname) (Nat.le_of_ble_eq_true hn) h
theorem pcall_of' {f : Nat} {fn : Func} {c : Code} {args : List V} {out : V} (hf : P.funcs[f]? = some fn) (hb : fn.body = some c) (hname : (fn.name == "runtime.NumGoroutine") = false)
  (hn:Nat.ble args.length fn.ntmps=true) (h:AWP P fn.ntmps c (fun e t H=>(e = .ret∨e = .normal)∧answerV P fn.results.toList H t=some out) (initT 0 args) []):PCall P f args out:=
 pcall_of hf hb (by intro e; rw [e] at hname; simp at hname) (Nat.le_of_ble_eq_true hn) h
theorem pcall_fun' {cx:Cx} {f:Nat} {fn:Func} {args:List V} {out:V} (hT:CxOk cx) (hf:cx.P.funcs[f]? = some fn)
  (hname : (fn.name == "runtime.NumGoroutine") = false) (hn : Nat.ble args.length fn.ntmps = true) (h : (dfun cx fn args).run = some out) : PCall cx.P f args out := by
 cases hb:fn.body with
 | none=>simp [dfun,hb,Tree.run] at h
 | some c=>exact pcall_fun rfl hT hf hb (by intro e; rw [e] at hname; simp at hname) hn h
theorem mcall_fun' {cx:Cx} {f:Nat} {fn:Func} {args:List V} {r:Res} (hT:CxOk cx) (hf:cx.P.funcs[f]? = some fn)
  (hname : (fn.name == "runtime.NumGoroutine") = false) (hn : Nat.ble args.length fn.ntmps = true) (h : (mfun cx fn args H).run = some r) : MCall cx.P f args H r := by
 cases hb:fn.body with
 | none=>simp [mfun,hb,Tree.run] at h
 | some c=>exact mcall_fun rfl hT hf hb (by intro e; rw [e] at hname; simp at hname) hn h
theorem sound_fun {cx : Cx} {f : Nat} {fn : Func} (hT : CxOk cx) (hf : cx.P.funcs[f]? = some fn) (hname : (fn.name == "runtime.NumGoroutine") = false) :
  Sound cx.P f (fun args=>.req (Nat.ble args.length fn.ntmps) (dfun cx fn args)):=by
 intro args out h
 obtain ⟨h1,h2⟩:=req_run h
 exact pcall_fun' hT hf hname h1 h2
theorem msound_fun {cx : Cx} {f : Nat} {fn : Func} (hT : CxOk cx) (hf : cx.P.funcs[f]? = some fn) (hname : (fn.name == "runtime.NumGoroutine") = false) :
  MSound cx.P f (fun args H=>.req (Nat.ble args.length fn.ntmps) (mfun cx fn args H)):=by
 intro args H out h
 obtain ⟨h1,h2⟩:=req_run h
 cases hb:fn.body with
 | none=>simp [mfun,hb,Tree.run] at h2
 | some c=>exact mcall_fun rfl hT hf hb (by intro e; rw [e] at hname; simp at hname) h1 h2
end Go.Ab

namespace Go.Ab
def headN:Nat→Code→Code
 | 0,c=>c1 c
 | k+1,c=>.seq (c1 c) (headN k (c2 c))
def tailN:Nat→Code→Code
 | 0,c=>c2 c
 | k+1,c=>tailN k (c2 c)
def isSeq:Code→Bool
 | .seq _ _=>true
 | _=>false
def rowN:Nat→Code→Bool
 | 0,c=>isSeq c
 | k+1,c=>cond (isSeq c) (rowN k (c2 c)) false
theorem Tree.all_bind {α β:Type} {x:Tree α} {f:α→Tree β} {Q:β→Prop} (h:(x.bind f).all Q):x.all (fun s=>(f s).all Q):=by
 induction x with
 | leaf b=>exact h
 | fail=>exact h
 | br c x y ih1 ih2=>exact ⟨fun hc=>ih1 (h.1 hc),fun hc=>ih2 (h.2 hc)⟩
theorem isSeq_eq {c:Code} (h:isSeq c=true):c = .seq (c1 c) (c2 c):=by
 cases c <;> first | rfl | cases h
section
variable {P:Program} {n:Nat} {cx:Cx}
theorem AWP_head (hP:cx.P=P) (hn:cx.n=n) (hT:CxOk cx):∀ (k:Nat) (c:Code) (Q:AEx→T→List O→Prop) (t:T) (H:List O),rowN k c=true →
  (dcode cx (headN k c) t H).all (fun s=>seqQ (AWP P n (tailN k c) Q) Q s.1 s.2.1 s.2.2)→AWP P n c Q t H
 | 0,c,Q,t,H,hr,h=>by
  rw [isSeq_eq hr]
  exact AWP_seq (AWP_code hP hn hT _ _ _ _ h)
 | k+1,c,Q,t,H,hr,h=>by
  have hs:isSeq c=true:=by
   cases hs:isSeq c
   ·simp [rowN,hs] at hr
   ·rfl
  have hr' : rowN k (c2 c)=true:=by simpa [rowN,hs] using hr
  rw [isSeq_eq hs]
  refine AWP_seq (AWP_code hP hn hT _ _ _ _ ?_)
  have h:=Tree.all_bind (h:((dcode cx (c1 c) t H).bind (dseq (dcode cx (headN k (c2 c))))).all _)
  refine Tree.all_mono h ?_
  rintro ⟨e,t',H'⟩ hq
  cases e with
  | normal=>exact AWP_head hP hn hT k (c2 c) Q t' H' hr' hq
  | exit id=>exact hq
  | ret=>exact hq
  | panic v=>exact hq
theorem AWP_headE (hP:cx.P=P) (hn:cx.n=n) (hT:CxOk cx) (k:Nat) {c:Code} {Q:AEx→T→List O→Prop} {t:T} {H:List O} {x:Tree St} (hr:rowN k c=true)
  (e:(dcode cx (headN k c) t H).run=x.run) (h:x.all (fun s=>seqQ (AWP P n (tailN k c) Q) Q s.1 s.2.1 s.2.2)):AWP P n c Q t H:=
 AWP_head hP hn hT k c Q t H hr (Tree.all_run_eq e h)
end
end Go.Ab

namespace Go.Ab
def mfunD (cx:Cx) (fn:Func) (args:List V) (H:List O) (κ:List Nat):Option (V × List O):=
 match (dcode { cx with n:=fn.ntmps } (bodyOf fn) (initT 0 args) H).run with
 | some s=>match dropS H.length κ s with
  | some (.ret,t,H') | some (.normal,t,H')=>(answerI cx.P fn.results.toList H' t).map fun v=>(v,H')
  | _=>none
 | none=>none
theorem mcall_funD {cx:Cx} {f:Nat} {fn:Func} {args:List V} {H H' : List O} {v:V} (κ:List Nat) (hT:CxOk cx) (hf:cx.P.funcs[f]? = some fn) (hb:fn.body=some (bodyOf fn))
  (hname : (fn.name == "runtime.NumGoroutine") = false) (hn : Nat.ble args.length fn.ntmps = true) (h : mfunD cx fn args H κ = some (v, H')) : MCall cx.P f args H (.ok v H') := by
 refine mcall_of' hf hb hname hn ?_
 unfold mfunD at h
 split at h
 rotate_left
 ·cases h
 rename_i s hs
 refine AWP_scope (AWP_run (cx:={ cx with n:=fn.ntmps }) rfl rfl hT hs ?_)
 split at h
 ·rename_i t H2 hd
  obtain ⟨u,hu,e⟩:=Option.map_eq_some_iff.1 h
  cases e
  exact ⟨κ,_,hd,.inl rfl,rfl,hu⟩
 ·rename_i t H2 hd
  obtain ⟨u,hu,e⟩:=Option.map_eq_some_iff.1 h
  cases e
  exact ⟨κ,_,hd,.inr rfl,rfl,hu⟩
 ·cases h
theorem AWP_headK {P:Program} {n:Nat} {cx:Cx} (hP:cx.P=P) (hn:cx.n=n) (hT:CxOk cx) (k:Nat) (ks:List Nat) {c:Code} {Q:AEx→T→List O→Prop} {t t' : T} {H H' : List O} (hr:rowN k c=true)
  (h:(dcode cx (headN k c) t H).run.map (fun s=>(s.1,keep ks s.2.1,s.2.2))=some (.normal,t',H')) (hq:AWP P n (tailN k c) Q t' H'):AWP P n c Q t H:=by
 obtain ⟨⟨e,t2,H2⟩,h1,h2⟩:=Option.map_eq_some_iff.1 h
 simp only [Prod.mk.injEq] at h2
 obtain ⟨rfl,rfl,rfl⟩:=h2
 exact AWP_head hP hn hT k c Q t H hr (Tree.run_all h1 (AWP.less (TLe.keep ks t2) hq))
end Go.Ab

namespace Go.Ab
def ordK (ks:List Nat) (t:T):List Nat:=ks.map fun d=>match get d t with
 | .ptr i _=>i
 | _=>0
section
variable {P:Program} {n:Nat} {Q:AEx→T→List O→Prop} {t:T} {H:List O} {cx:Cx} {ops:Array Oper}
def regOps:Code→Array Oper
 | .region _ ops _=>ops
 | _=>#[]
end
end Go.Ab

namespace Go.Ab
theorem xcall_of {P : Program} {f : Nat} {fn : Func} {e : Array Value → Sem Value} {args : List V} {out : V} (hf : P.funcs[f]? = some fn) (hname : (fn.name == "runtime.NumGoroutine") = false)
  (hb:fn.body.isNone=true) (hn:Extern.findNext fn=none) (he:Extern.find fn=some e)
  (h:∀ (w:World) (X:Nat→Nat→Prop) (β:List Loc) (rargs:List Value),rargs.length=args.length →
   (∀ (k:Nat) (v:V) (x:Value),args[k]? = some v→rargs[k]? = some x→R w X β v x) → ∃ y,(e rargs.toArray).run P w = .ok y w∧R w X β out y):XCall P f args out:=by
 intro w X β rargs hl hr
 obtain ⟨y,h1,h2⟩:=h w X β rargs hl hr
 refine ⟨y,?_,h2⟩
 rw [run_callFunc_extern hf hname hb hn he,h1]
 rfl
def idxB (s:List UInt8) (c:UInt8):Int:=Lib.indexByte s c
def idxByteS:Spec:=fun args=>match args with
 | [.str s,.int .u8 c]=>.leaf (.int .i64 (idxB s c.toNat.toUInt8))
 | _=>.fail
theorem idxByteS_ok {P : Program} {f : Nat} {fn : Func} (hf : P.funcs[f]? = some fn) (hname : (fn.name == "runtime.NumGoroutine") = false) (hb : fn.body.isNone = true) (hn : Extern.findNext fn = none)
  (he:Extern.find fn=some Extern.BytealgIndexByte.indexByte):XSound P f idxByteS:=by
 intro args out h
 unfold idxByteS at h
 split at h
 rotate_left
 ·cases h
 rename_i s c
 cases h
 refine xcall_of hf hname hb hn he fun w X β rargs hl hr=>?_
 match rargs,hl with
 | [x,y],_ =>
  have h1:=hr 0 _ x rfl rfl
  have h2:=hr 1 _ y rfl rfl
  cases h1
  cases h2
  refine ⟨_,run_indexByte_string _ _ _,?_⟩
  rw [Lib.firstIdx_eq]
  exact .int _ _ _
end Go.Ab

namespace Go.Ab
structure Fi where
 f:Nat
 fn:Func
 keeps:List Nat
 refs:List Nat:=[]
 fuel:Nat:=0
 lz:List Nat:=[]
structure Tabs where
 tab:List (Nat × Spec):=[]
 mtab:List (Nat × MSpec):=[]
 rtab:List (Nat × RSpec):=[]
 globs:List (Nat × List V):=[]
 nums:List Nat:=[]
def Tabs.Ok (P:Program) (T:Tabs):Prop:=TabOk P T.tab∧MTabOk P T.mtab∧RTabOk P T.rtab ∧ ∀ p ∈ T.globs,p ∈ globsOf P
def Fi.cx (P:Program) (T:Tabs) (i:Fi):Cx:={ P:=P,n:=i.fn.ntmps,tab:=T.tab,mtab:=T.mtab,refs:=i.refs,keeps:=i.keeps,fuel:=i.fuel,rtab:=T.rtab,globs:=T.globs,lz:=i.lz,nums:=T.nums }
def Fi.spec (P:Program) (T:Tabs) (i:Fi):Nat × Spec:=(i.f,fun args=>.req (Nat.ble args.length i.fn.ntmps) (dfun (i.cx P T) i.fn args))
def Fi.mspec (P:Program) (T:Tabs) (i:Fi):Nat × MSpec:=(i.f,fun args H=>.req (Nat.ble args.length i.fn.ntmps) (mfun (i.cx P T) i.fn args H))
def deep (P:Program) (T:Tabs) (ps ms:List Fi):Nat→Tabs
 | 0=>T
 | d+1=>{ tab:=ps.map (Fi.spec P (deep P T ps ms d))++T.tab,mtab:=ms.map (Fi.mspec P (deep P T ps ms d))++T.mtab,rtab:=T.rtab,globs:=T.globs,nums:=T.nums }
def FisOk (P:Program):List Fi→Prop
 | []=>True
 | i :: r => (P.funcs[i.f]? = some i.fn ∧ (i.fn.name == "runtime.NumGoroutine") = false) ∧ FisOk P r
theorem FisOk.get {P : Program} : ∀ {l : List Fi}, FisOk P l → ∀ i ∈ l, P.funcs[i.f]? = some i.fn ∧ (i.fn.name == "runtime.NumGoroutine") = false
 | [],_,i,h=>by cases h
 | j :: r,h,i,hi=>by
  rcases List.mem_cons.1 hi with rfl | hi
  ·exact h.1
  ·exact FisOk.get h.2 i hi
theorem deep_ok {P:Program} {T:Tabs} {ps ms:List Fi} (hT:T.Ok P) (hps:FisOk P ps) (hms:FisOk P ms):∀ d,(deep P T ps ms d).Ok P
 | 0=>hT
 | d+1=>by
  have ih:=deep_ok hT hps hms d
  refine ⟨fun p hp=>?_,fun p hp=>?_,hT.2.2⟩
  ·rcases List.mem_append.1 hp with hp | hp
   ·obtain ⟨i,hi,rfl⟩:=List.mem_map.1 hp
    obtain ⟨h1,h2⟩:=hps.get i hi
    exact .inl (sound_fun (cx:=i.cx P (deep P T ps ms d)) ih h1 h2)
   ·exact hT.1 p hp
  ·rcases List.mem_append.1 hp with hp | hp
   ·obtain ⟨i,hi,rfl⟩:=List.mem_map.1 hp
    obtain ⟨h1,h2⟩:=hms.get i hi
    exact msound_fun (cx:=i.cx P (deep P T ps ms d)) ih h1 h2
   ·exact hT.2.1 p hp
theorem pcall_freeze {P:Program} {f:Nat} {args:List V} {l:List (List UInt8)} {e:TypeId} (h:MCall P f args [] (.ok (.ref 0 1 0 l.length) [.cells (l.map .str) e])):PCall P f args (.sl .str l [] .ro):=by
 obtain ⟨hnorm,hc⟩:=h
 refine ⟨hnorm,fun w E rargs hE hlen hargs=>?_⟩
 have hX:∀ v x,R w E [] v x→R w (Xs E [] []) [] v x:=fun v x h=>h.stab ⟨fun b o v h1 h2=>⟨fun h=>h.elim h1 (own_nil b o),h2⟩,fun b cs e h=>⟨cs,e,h⟩⟩ [] (.refl _)
 refine (hc w E [] rargs ⟨fun b o hb=>⟨hE.1 b o hb,own_nil b o⟩,fun p hp=>hX _ _ (hE.2 p hp)⟩ (rel_nil _ _) hlen fun k v x h1 h2=>hX v x (hargs k v x h1 h2)).mono ?_
 rintro ev w' ⟨y,β',rfl,st,hr⟩
 refine ⟨y,rfl,?_,?_⟩
 ·exact ⟨rel_nil _ _,st.os,st.tape,st.output,st.size,fun b hb=>by
   rcases st.pres b hb with h | ⟨⟨o,h⟩,_⟩ | ⟨⟨o,h⟩,_⟩
   ·exact .inl h
   ·exact absurd h (own_nil b o)
   ·exact absurd h (own_nil b o),fun b o h=>absurd h (own_nil b o),.nil _⟩
 ·cases hr with
  | ref _ _ _ _ _ loc b o cap hid hk hl ha hcap =>
   obtain ⟨_,arr,e',harr,hsz,-,hvals⟩:=st.rel.cells 0 _ _ loc rfl hid
   have hblock:w.heap.size≤loc.block:=by
    rcases st.own loc.block 0 ⟨0,loc,hid,rfl,.inl ⟨_,_,rfl⟩⟩ with h | h
    ·exact absurd h (own_nil _ _)
    ·exact h
   refine .sl [] .str l [] .ro b o cap (fun i _=>Value.string ⟨List.toArray (l.getD i [])⟩) (show l.length+0≤cap from hl) (fun h=>by cases h) (fun h=>by cases h) (fun i k hi hk=>?_) (fun i x k v hx hv=>?_)
   ·have hi:i<l.length:=hi
    have hk:k=0:=by
     have:EC.str.size=1:=rfl
     omega
    subst hk
    obtain ⟨rfl,rfl⟩:=ha (by omega)
    have h1:EC.str.size=1:=rfl
    refine ⟨fun hE' => absurd (hE.1 _ _ hE') (Nat.not_lt.2 hblock),?_⟩
    rw [cell_of_row w' _ _ arr e' (0,0) harr]
    obtain ⟨x,hx,hrx⟩:=hvals i (.str l[i]) (by simp [hi])
    cases hrx
    have e0:loc.base+0+i*EC.str.size+0=loc.base+i:=by rw [h1]; omega
    show arr[loc.base+0+i*EC.str.size+0]? = _
    rw [e0,hx,getD_lt hi]
   ·have hx:l[i]? = some x:=by
     have e:(l++[])[i]? = some x:=hx
     rw [List.append_nil] at e
     exact e
    have hv:([V.str x]:List V)[k]? = some v:=hv
    cases k with
    | succ k=>simp at hv
    | zero =>
     simp only [List.getElem?_cons_zero,Option.some.injEq] at hv
     subst hv
     have:l.getD i []=x:=by
      rw [List.getD_eq_getElem?_getD]
      exact congrArg (·.getD []) hx
     rw [this]
     exact .str _ _
end Go.Ab

namespace Go.Ab
open Go
noncomputable def Tree.fin {α:Type} (t:Tree α):Option α:=
 Tree.rec (motive:=fun _=>Option α) (fun b=>some b) none (fun c _ _ x y=>Bool.rec (motive:=fun _=>Option α) y x c) t
theorem Tree.fin_run {α:Type}:∀ t:Tree α,t.fin=t.run
 | .leaf _=>rfl
 | .fail=>rfl
 | .br true x _=>Tree.fin_run x
 | .br false _ y=>Tree.fin_run y
end Go.Ab

namespace Go.Ab
open Go
def rnd (n:Nat) (κ ks:List Nat) (s:St):Tree St:=match dropS n κ s with
 | some (e,t,H)=>.leaf (e,keep ks t,H)
 | none=>.fail
def RoundK {α:Type} (st:α→T × List O) (μ:α→Nat) (ks:List Nat) (Q:AEx→T→List O→Prop) (i:α) (s:St):Prop:=
 match s.1 with
 | .normal=>∃ j,μ j<μ i∧TLe s.2.1 (st j).1∧s.2.2=(st j).2
 | e=>∀ t,s.2.1=keep ks t→Q e t s.2.2
section
variable {P:Program} {n:Nat} {cx:Cx} {Q:AEx→T→List O→Prop}
theorem rnd_spec {m:Nat} {κ ks:List Nat} {s:St} {R:St→Prop} (h:(rnd m κ ks s).all R):∃ s',dropS m κ s=some s' ∧ R (s'.1,keep ks s'.2.1,s'.2.2):=by
 unfold rnd at h
 split at h
 ·rename_i e t H hd
  exact ⟨_,hd,h⟩
 ·exact h.elim
theorem AWP_roundsK {α:Type} (hP:cx.P=P) (hn:cx.n=n) (hT:CxOk cx) (st:α→T × List O) (μ:α→Nat) (κ ks:List Nat) {body:Code}
  (h:∀ i,((dcode cx body (st i).1 (st i).2).bind (rnd (st i).2.length κ ks)).all (RoundK st μ ks Q i)) (i:α):AWP P n (.loop body) Q (st i).1 (st i).2:=by
 refine AWP_rounds hP hn hT st μ (fun i=>?_) i
 refine Tree.all_mono (Tree.all_bind (h i)) fun s hs=>?_
 obtain ⟨s',h1,h2⟩:=rnd_spec hs
 refine ⟨κ,s',h1,?_⟩
 obtain ⟨e,t,H⟩:=s'
 unfold RoundK at h2
 cases e with
 | normal =>
  obtain ⟨j,a,b,c⟩:=h2
  refine ⟨j,a,fun d=>?_,c⟩
  rcases b d with g | g
  ·rcases TLe.keep ks t d with k | k
   ·exact .inl (g.trans k)
   ·rw [k] at g; exact .inr g
  ·exact .inr g
 | exit id=>exact h2 t rfl
 | ret=>exact h2 t rfl
 | panic v=>exact h2 t rfl
end
end Go.Ab

namespace Go.Ab
def firmB (cx:Cx) (ops:Array Oper) (ah:List (List Nat)) (listed:Array Bool) (i:Nat):Bool:=
 (List.range ops.size).all fun j=>listed.getD j false || (Nat.beq j i || (hasN i (ah.getD j []) || (match ops[i]?,ops[j]? with
  | some x,some y=>x.apart ops y && mayTurn cx x y
  | _,_=>true)))
def ordsP (cx:Cx) (ops:Array Oper) (ah:List (List Nat)):Nat→Array Bool→T × List O→Option (List (T × List O))
 | 0,listed,p=>cond (Region.ready .any ops listed).isEmpty (some [p]) none
 | fuel+1,listed,p=>match (Region.ready .any ops listed).find? (firmB cx ops ah listed) with
  | some i=>match ops[i]? with
   | some o=>match step1 cx ops o p with
    | some q=>ordsP cx ops ah fuel (listed.setIfInBounds i true) q
    | none=>none
   | none=>none
  | none=>cond (Region.ready .any ops listed).isEmpty none
   ((Region.ready .any ops listed).foldr (fun i acc=>match acc,ops[i]? with
    | some l,some o=>match step1 cx ops o p with
     | some q=>match ordsP cx ops ah fuel (listed.setIfInBounds i true) q with
      | some m=>some (m++l)
      | none=>none
     | none=>none
    | _,_=>none) (some []))
inductive Compl (ops:Array Oper):Array Bool→List Nat→Prop
 | nil {listed:Array Bool}:Region.ready .any ops listed=[]→Compl ops listed []
 | cons {listed:Array Bool} {i:Nat} {l:List Nat}:i ∈ Region.ready .any ops listed→Compl ops (listed.setIfInBounds i true) l→Compl ops listed (i :: l)
section
variable {cx:Cx} {ops:Array Oper}
def isIn (listed:Array Bool):Nat→Bool:=fun j=>listed.getD j false
theorem isIn_set {listed:Array Bool} {i:Nat} (hi:i<listed.size):isIn (listed.setIfInBounds i true)=with1 (isIn listed) i:=by
 funext j
 unfold with1 isIn
 by_cases hj:j=i
 ·subst hj
  simp [Array.getD_eq_getD_getElem?,hi]
 ·have hji:(j == i)=false:=by simpa using hj
  rw [getD_set_ne false (fun e=>hj e.symm),hji,Bool.or_false]
theorem ready_lt {listed:Array Bool} {i:Nat} (h:i ∈ Region.ready .any ops listed):i<ops.size:=by
 obtain ⟨_,o,ho,_⟩:=mem_ready.1 h
 exact (Array.getElem?_eq_some_iff.1 ho).1
theorem ready_out {listed:Array Bool} {i:Nat} (hs:listed.size=ops.size) (h:i ∈ Region.ready .any ops listed):isIn listed i=false:=by
 have hlt:=ready_lt h
 obtain ⟨h1,_⟩:=mem_ready.1 h
 unfold isIn
 rw [Array.getD_eq_getD_getElem?] at h1 ⊢
 have:i<listed.size:=by omega
 simp [this] at h1 ⊢
 exact h1
theorem closed_set {listed:Array Bool} {i:Nat} (hs:listed.size=ops.size) (hc:Closed ops (isIn listed)) (h:i ∈ Region.ready .any ops listed):Closed ops (isIn (listed.setIfInBounds i true)):=by
 rw [isIn_set (by rw [hs]; exact ready_lt h)]
 obtain ⟨_,o,ho,h3⟩:=mem_ready.1 h
 exact closed_with hc fun o' ho' e he hb=>by
  rw [ho] at ho'
  simp only [Option.some.injEq] at ho'
  subst ho'
  exact h3 e he hb
theorem ready_stays {listed:Array Bool} {i j:Nat} (h:i ∈ Region.ready .any ops listed) (hj:j ≠ i):i ∈ Region.ready .any ops (listed.setIfInBounds j true):=by
 obtain ⟨h1,o,ho,h3⟩:=mem_ready.1 h
 exact mem_ready.2 ⟨by rw [getD_set_ne true hj]; exact h1,o,ho,fun e he hb=>getD_set_true (h3 e he hb)⟩
theorem ready_not {listed:Array Bool} {i j:Nat} (hs:listed.size=ops.size) (hc:Closed ops (isIn listed)) (hi:i ∈ Region.ready .any ops listed) (hj:j ∈ Region.ready .any ops listed) (hne:j ≠ i):¬ Anc ops i j:=by
 intro ha
 have:=ha _ (closed_set hs hc hj) (by rw [isIn_set (by rw [hs]; exact ready_lt hj)]; simp [with1])
 rw [isIn_set (by rw [hs]; exact ready_lt hj)] at this
 unfold with1 at this
 rw [ready_out hs hi,Bool.false_or] at this
 exact hne (by simpa using this:i=j).symm
theorem compl_split {listed:Array Bool} {l:List Nat} (h:Compl ops listed l):∀ {i:Nat},listed.size=ops.size→Closed ops (isIn listed)→i ∈ Region.ready .any ops listed →
  ∃ A B,l=A++i :: B∧Compl ops (listed.setIfInBounds i true) (A++B) ∧ ∀ j ∈ A,j ≠ i∧j<ops.size∧isIn listed j=false∧¬ Anc ops i j:=by
 induction h with
 | nil h0 =>
  intro i _ _ hi
  rw [h0] at hi; cases hi
 | @cons listed j l hj hc ih =>
  intro i hs hcl hi
  by_cases hji:j=i
  ·subst hji
   exact ⟨[],l,rfl,hc,fun j hj=>by cases hj⟩
  ·obtain ⟨A,B,rfl,h2,h3⟩:=ih (i:=i) (by simpa using hs) (closed_set hs hcl hj) (ready_stays hi hji)
   refine ⟨j :: A,B,rfl,.cons (ready_stays hj (fun e=>hji e.symm)) ?_,fun k hk=>?_⟩
   ·rw [Array.setIfInBounds_comm _ _ (fun e=>hji e.symm)]
    exact h2
   ·rcases List.mem_cons.1 hk with rfl | hk
    ·exact ⟨hji,ready_lt hj,ready_out hs hj,ready_not hs hcl hi hj hji⟩
    ·obtain ⟨g1,g2,g3,g4⟩:=h3 k hk
     refine ⟨g1,g2,?_,g4⟩
     rw [isIn_set (by rw [hs]; exact ready_lt hj)] at g3
     unfold with1 at g3
     exact (Bool.or_eq_false_iff.1 g3).1
theorem firm_turns {ah:List (List Nat)} {listed:Array Bool} {i:Nat} (hah:∀ (j:Nat) a,ah[j]? = some a → ∀ k ∈ a,Anc ops k j) (h:firmB cx ops ah listed i=true) {j:Nat} (hj:j<ops.size) (hne:j ≠ i)
  (ho:isIn listed j=false) (hn:¬ Anc ops i j):Turns cx ops (fun _=>True) i j:=by
 intro x y hx hy
 have:=List.all_eq_true.1 h j (List.mem_range.2 hj)
 rw [hx,hy] at this
 have h1:listed.getD j false=false:=ho
 have h2:Nat.beq j i=false:=by
  cases hb:Nat.beq j i
  ·rfl
  ·exact absurd (Nat.eq_of_beq_eq_true hb) hne
 have h3:hasN i (ah.getD j [])=false:=by
  cases hb:hasN i (ah.getD j [])
  ·rfl
  ·have hm:=hasN_mem hb
   rw [List.getD_eq_getElem?_getD] at hm
   cases ha:ah[j]? with
   | none=>rw [ha] at hm; cases hm
   | some a=>rw [ha] at hm; exact absurd (hah j a ha i hm) hn
 rw [h1,h2,h3,Bool.false_or,Bool.false_or,Bool.false_or,Bool.and_eq_true] at this
 exact ⟨this.1,.inl this.2⟩
theorem keeps_true:Keeps cx ops (fun _=>True):=fun _ _ _ _ _ _ _=>trivial
theorem ordsP_step {ah:List (List Nat)} {fuel:Nat} {listed:Array Bool} {p:T × List O}:∀ (is:List Nat) (l:List (T × List O)),
  is.foldr (fun i acc=>match acc,ops[i]? with
   | some l,some o=>match step1 cx ops o p with
    | some q=>match ordsP cx ops ah fuel (listed.setIfInBounds i true) q with
     | some m=>some (m++l)
     | none=>none
    | none=>none
   | _,_=>none) (some [])=some l →
  ∀ i ∈ is,∃ o q m,ops[i]? = some o∧step1 cx ops o p=some q∧ordsP cx ops ah fuel (listed.setIfInBounds i true) q=some m ∧ ∀ s ∈ m,s ∈ l
 | [],_,_,i,hi=>by cases hi
 | j :: is,l,h,i,hi=>by
  rw [List.foldr_cons] at h
  split at h
  rotate_left
  ·cases h
  rename_i l' o h1 h2
  split at h
  rotate_left
  ·cases h
  rename_i q hq
  split at h
  rotate_left
  ·cases h
  rename_i m hm
  simp only [Option.some.injEq] at h
  subst h
  rcases List.mem_cons.1 hi with rfl | hi
  ·exact ⟨o,q,m,h2,hq,hm,fun s hs=>List.mem_append_left _ hs⟩
  ·obtain ⟨o',q',m',g1,g2,g3,g4⟩:=ordsP_step is l' h1 i hi
   exact ⟨o',q',m',g1,g2,g3,fun s hs=>List.mem_append_right _ (g4 s hs)⟩
theorem runI_cons {i:Nat} {o:Oper} (ho:ops[i]? = some o) {p q:T × List O} (h:step1 cx ops o p=some q) (l:List Nat):runI cx ops (i :: l) p=runI cx ops l q:=by
 simp only [runI,ho,h]
theorem ordsP_all {ah:List (List Nat)} (hah:∀ (j:Nat) a,ah[j]? = some a → ∀ k ∈ a,Anc ops k j):∀ (fuel:Nat) (listed:Array Bool) (p:T × List O) (L:List (T × List O)),ordsP cx ops ah fuel listed p=some L→listed.size=ops.size→Closed ops (isIn listed) →
  ∀ l,Compl ops listed l → ∃ r,runI cx ops l p=some r ∧ ∃ s ∈ L,Like s r
 | 0,listed,p,L,h,hs,hc,l,hl=>by
  unfold ordsP at h
  cases hr:(Region.ready .any ops listed).isEmpty
  ·rw [hr] at h; cases h
  rw [hr] at h
  simp only [cond_true,Option.some.injEq] at h
  subst h
  cases hl with
  | nil _=>exact ⟨p,rfl,p,List.mem_cons_self,.refl p⟩
  | cons hi _ =>
   rw [List.isEmpty_iff.1 hr] at hi; cases hi
 | fuel+1,listed,p,L,h,hs,hc,l,hl=>by
  unfold ordsP at h
  split at h
  ·rename_i i hf
   have hfirm:=List.find?_some hf
   have hi:=List.mem_of_find?_eq_some hf
   split at h
   rotate_left
   ·cases h
   rename_i o ho
   split at h
   rotate_left
   ·cases h
   rename_i q hq
   obtain ⟨A,B,rfl,h2,h3⟩:=compl_split hl hs hc hi
   obtain ⟨r,hr,s,hsL,hlk⟩:=ordsP_all hah fuel _ q L h (by simpa using hs) (closed_set hs hc hi) _ h2
   have hr' : runI cx ops ((i :: A)++B) p=some r:=by rw [List.cons_append,runI_cons ho hq]; exact hr
   rw [runI_append] at hr'
   obtain ⟨m,hm,hB⟩:=Option.bind_eq_some_iff.1 hr'
   obtain ⟨m',hm',hlm⟩:=move_end (I:=fun _=>True) keeps_true A trivial (fun j hj=>by
    obtain ⟨g1,g2,g3,g4⟩:=h3 j hj
    exact firm_turns hah hfirm g2 g1 g3 g4) hm
   obtain ⟨r',hr2,hlr⟩:=runI_like B hlm hB
   refine ⟨r',?_,s,hsL,hlk.trans hlr⟩
   rw [show A++i :: B=(A++[i])++B from by simp,runI_append,hm']
   exact hr2
  ·cases hr:(Region.ready .any ops listed).isEmpty
   rotate_left
   ·rw [hr] at h; cases h
   rw [hr,cond_false] at h
   cases hl with
   | nil h0=>rw [h0] at hr; cases hr
   | @cons _ i l hi hl =>
    obtain ⟨o,q,m,g1,g2,g3,g4⟩:=ordsP_step _ L h i hi
    obtain ⟨r,h1,s,h2,h4⟩:=ordsP_all hah fuel _ q m g3 (by simpa using hs) (closed_set hs hc hi) l hl
    exact ⟨r,by rw [runI_cons g1 g2]; exact h1,s,g4 s h2,h4⟩
theorem ready_some (hb:∀ (j:Nat) o,ops[j]? = some o → ∀ e ∈ o.after,Region.binds .any e=true→e.on<j) {listed:Array Bool} (hs:listed.size=ops.size) (h:0<missing ops.size (isIn listed)):∃ i,i ∈ Region.ready .any ops listed:=by
 obtain ⟨i,h1,h2,h3⟩:=first_missing h
 obtain ⟨o,ho⟩:∃ o,ops[i]? = some o:=⟨ops[i],by simp [h1]⟩
 refine ⟨i,mem_ready.2 ⟨?_,o,ho,fun e he hbb=>h3 _ (hb i o ho e he hbb)⟩⟩
 unfold isIn at h2
 rw [Array.getD_eq_getD_getElem?] at h2 ⊢
 have:i<listed.size:=by omega
 simp [this] at h2 ⊢
 exact h2
theorem ready_none {listed:Array Bool} (hs:listed.size=ops.size) (h:missing ops.size (isIn listed)=0):Region.ready .any ops listed=[]:=by
 apply List.eq_nil_iff_forall_not_mem.2
 intro i hi
 have h1:=ready_out hs hi
 have hin:i ∈ (List.range ops.size).filter fun i=>!(isIn listed i):=List.mem_filter.2 ⟨List.mem_range.2 (ready_lt hi),by simp [h1]⟩
 have h0:=List.length_eq_zero_iff.1 h
 rw [h0] at hin; cases hin
theorem compl_some (hb:∀ (j:Nat) o,ops[j]? = some o → ∀ e ∈ o.after,Region.binds .any e=true→e.on<j):∀ (fuel:Nat) (listed:Array Bool),listed.size=ops.size→missing ops.size (isIn listed)=fuel → ∃ l,Compl ops listed l
 | 0,listed,hs,hm=>⟨[],.nil (ready_none hs hm)⟩
 | fuel+1,listed,hs,hm=>by
  obtain ⟨i,hi⟩:=ready_some hb hs (by omega)
  have:=missing_with (S:=isIn listed) (ready_lt hi) (ready_out hs hi)
  obtain ⟨l,hl⟩:=compl_some hb fuel (listed.setIfInBounds i true) (by simpa using hs) (by rw [isIn_set (by rw [hs]; exact ready_lt hi)]; omega)
  exact ⟨i :: l,.cons hi hl⟩
theorem compl_sound (hT:CxOk cx) {E H0 β0 w0 D} (hs0:StartOk cx.P E H0 β0 w0) (hb:∀ (j:Nat) o,ops[j]? = some o → ∀ e ∈ o.after,Region.binds .any e=true→e.on<j) {Q:AEx→T→List O→Prop} :
  ∀ (fuel:Nat) (listed:Array Bool) (p:T × List O) (β:List Loc) (a:Act) (w:World),listed.size=ops.size→missing ops.size (isIn listed)=fuel →
   (∀ l,Compl ops listed l → ∃ r,runI cx ops l p=some r ∧ ∃ s:T × List O,Q .normal s.1 s.2∧Like s r)→Good E H0 β0 w0 cx.n D p.1 p.2 β a w →
   wpAny cx.P .any ops (Post E H0 β0 w0 cx.n D Q) fuel listed a w
 | 0,listed,p,β,a,w,hs,hm,h,hg=>by
  have hr:=ready_none hs hm
  obtain ⟨r,h1,s,h2,h3⟩:=h [] (.nil hr)
  simp only [runI,Option.some.injEq] at h1
  subst h1
  refine ⟨hr,s.1,s.2,β,h2,?_⟩
  have:=hg.like h3.1
  rw [h3.2]
  exact this
 | fuel+1,listed,p,β,a,w,hs,hm,h,hg=>by
  refine ⟨fun hr=>?_,fun i hi=>?_⟩
  ·obtain ⟨i,hi⟩:=ready_some hb hs (by omega)
   rw [hr] at hi; cases hi
  ·obtain ⟨_,o,ho,_⟩:=mem_ready.1 hi
   have hmw:=missing_with (S:=isIn listed) (ready_lt hi) (ready_out hs hi)
   have hm' : missing ops.size (isIn (listed.setIfInBounds i true))=fuel:=by rw [isIn_set (by rw [hs]; exact ready_lt hi)]; omega
   obtain ⟨l,hl⟩:=compl_some hb fuel (listed.setIfInBounds i true) (by simpa using hs) hm'
   obtain ⟨r,h1,_⟩:=h (i :: l) (.cons hi hl)
   cases hst:step1 cx ops o p with
   | none=>simp only [runI,ho,hst] at h1; cases h1
   | some q =>
    refine step1_sound hT hs0 ho (t:=p.1) (H:=p.2) hg hst ?_
    intro β' a' w' hg'
    refine compl_sound hT hs0 hb fuel _ q β' a' w' (by simpa using hs) hm' (fun l hl=>?_) hg'
    obtain ⟨r,h1,h2⟩:=h (i :: l) (.cons hi hl)
    rw [runI_cons ho hst] at h1
    exact ⟨r,h1,h2⟩
end
section
variable {P:Program} {n:Nat} {Q:AEx→T→List O→Prop} {t:T} {H:List O} {cx:Cx} {ops:Array Oper}
def nothing (ops:Array Oper):Array Bool:=Array.replicate ops.size false
def allOrds (cx:Cx) (ops:Array Oper) (p:T × List O):Option (List (T × List O)):=
 cond (cx.P.follows .mixedOrders && backs 0 ops.toList) (ordsP cx ops (aheads ops.toList []) ops.size (nothing ops) p) none
theorem AWP_ordersP (hP:cx.P=P) (hn:cx.n=n) (hT:CxOk cx) {id:Nat} {l:List (T × List O)}
  (h:allOrds cx ops (t,H)=some l) (hq:∀ s ∈ l,Q .normal s.1 s.2):AWP P n (.region id ops true) Q t H:=by
 subst hP
 subst hn
 unfold allOrds at h
 cases hf:(cx.P.follows .mixedOrders && backs 0 ops.toList)
 ·rw [hf] at h; cases h
 rw [hf,cond_true] at h
 obtain ⟨hm,hb⟩:=Bool.and_eq_true_iff.1 hf
 intro E H0 β0 w0 D β a w hs hg
 refine wp_region_any hm ?_
 have st:=Step.heap_same (w' := { w with drawn:=w.drawn+1 }) hg.step.rel rfl rfl rfl rfl
 have hsz:(nothing ops).size=ops.size:=by simp [nothing]
 have hno:isIn (nothing ops)=fun _=>false:=by
  funext j
  unfold isIn nothing
  simp only [Array.getD_eq_getD_getElem?,Array.getElem?_replicate]
  split <;> rfl
 have hcl:Closed ops (isIn (nothing ops)):=by rw [hno]; intro j o ho hj; cases hj
 refine compl_sound hT hs (backs_spec hb) ops.size (nothing ops) (t,H) β a _ hsz ?_ (fun l' hl' => ?_) ⟨hg.step.trans st,hg.fr.step st,hg.defers⟩
 ·rw [hno]
  unfold missing
  have e:(List.range ops.size).filter (fun i=>!(fun _=>false) i)=List.range ops.size:=List.filter_eq_self.2 fun _ _=>rfl
  rw [e,List.length_range]
 ·obtain ⟨r,h1,s,h2,h3⟩:=ordsP_all (aheads_ok (ops:=ops) ops.toList 0 [] rfl rfl (fun j a h=>by simp at h)) _ _ _ _ h hsz hcl l' hl'
  exact ⟨r,h1,s,hq s h2,h3⟩
theorem AWP.keepQ (l:List Nat) {c:Code} (h:AWP P n c (fun e t H=>Q e (keep l t) H) t H):AWP P n c Q t H:=by
 intro E H0 β0 w0 D β a w hs hg
 refine wp_mono (h E H0 β0 w0 D β a w hs hg) fun e a w hp=>?_
 have le:∀ {t H β a w},Good E H0 β0 w0 n D t H β a w→Good E H0 β0 w0 n D (keep l t) H β a w:=fun hg=>⟨hg.step,hg.fr.le (TLe.keep l _),hg.defers⟩
 cases e with
 | normal=>obtain ⟨t,H,β,h1,h2⟩:=hp; exact ⟨_,H,β,h1,le h2⟩
 | exit id=>obtain ⟨t,H,β,h1,h2⟩:=hp; exact ⟨_,H,β,h1,le h2⟩
 | ret=>obtain ⟨t,H,β,h1,h2⟩:=hp; exact ⟨_,H,β,h1,le h2⟩
 | panic ch=>obtain ⟨t,H,β,v,x,h1,h2,h3,h4⟩:=hp; exact ⟨_,H,β,v,x,h1,le h2,h3,h4⟩
 | goto l=>exact hp.elim
 | outgrown=>exact hp.elim
theorem AWP_ordersPK (ks keeps:List Nat) (k:Nat) (hP:cx.P=P) (hn:cx.n=n) (hT:CxOk cx) {id:Nat} {t' : T} {H' : List O}
  (h:(allOrds cx ops (t,H)).map (fun l=>l.map fun s=>(dropS H.length (ordK ks s.1) (.normal,keep keeps s.1,s.2)))=some (List.replicate k (some (.normal,t',H'))))
  (hq:Q .normal t' H'):AWP P n (.region id ops true) Q t H:=by
 obtain ⟨l,hl,h2⟩:=Option.map_eq_some_iff.1 h
 refine AWP_scope (AWP.keepQ keeps (AWP_ordersP hP hn hT hl fun s hs=>⟨ordK ks s.1,(.normal,t',H'),?_,hq⟩))
 have:dropS H.length (ordK ks s.1) (.normal,keep keeps s.1,s.2) ∈ List.replicate k (some ((.normal,t',H'):St)):=by rw [← h2]; exact List.mem_map_of_mem hs
 exact (List.mem_replicate.1 this).2
end
end Go.Ab

namespace Go.Ab
def quietC (cx:Cx):Code→Bool
 | .skip=>true
 | .region _ ops _=>ops.toList.all (quiet cx)
 | .seq a b=>quietC cx a && quietC cx b
 | .cond _ a b=>quietC cx a && quietC cx b
 | .block _ c=>quietC cx c
 | .exit _=>true
 | .ret=>true
 | .loop c=>quietC cx c
 | _=>false
def SameH (H:List O) (s:St):Prop:=(∃ v,s.1 = .panic v)∨s.2.2=H
section
variable {cx:Cx}
theorem br_cases {α:Type} {c:Bool} {x y:Tree α} {r:α} (h:(Tree.br c x y).run=some r):x.run=some r∨y.run=some r:=by
 rw [br_run] at h
 cases c
 ·exact .inr h
 ·exact .inl h
theorem druns_same {ops:Array Oper}:∀ (l:List Oper) (t:T) (H:List O) (s:St),l.all (quiet cx)=true→(druns cx ops l t H).run=some s→SameH H s
 | [],t,H,s,_,h=>by
  simp only [druns,Tree.run,Option.some.injEq] at h
  subst h
  exact .inr rfl
 | o :: r,t,H,s,hq,h=>by
  obtain ⟨hq1,hq2⟩:=Bool.and_eq_true_iff.1 (by simpa using hq:(quiet cx o && r.all (quiet cx))=true)
  have put:∀ {v t},(dputs cx o v t H (druns cx ops r)).run=some s→SameH H s:=by
   intro v t h
   unfold dputs at h
   split at h
   ·exact druns_same r _ H s hq2 h
   ·cases h
  have op:∀ {t},((dop cx t H o).bind (dres cx o t (druns cx ops r))).run=some s→SameH H s:=by
   intro t h
   obtain ⟨res,h1,h2⟩:=bind_run h
   cases res with
   | ok v H1 =>
    have:=quiet_spec hq1 h1
    subst this
    exact put h2
   | pan v H1 =>
    simp only [dres,Tree.run,Option.some.injEq] at h2
    subst h2
    exact .inl ⟨v,rfl⟩
  unfold druns dstep at h
  split at h
  ·exact op h
  ·rename_i j want hg
   split at h
   ·split at h
    ·rename_i b hb
     rcases br_cases h with h | h
     ·cases want
      ·exact put h
      ·exact op h
     ·cases want
      ·exact op h
      ·exact put h
    ·exact put h
    ·cases h
   ·cases h
theorem dloop_same {f:T→List O→Tree St} {H:List O} (hf:∀ t s,(f t H).run=some s→SameH H s):∀ (n:Nat) (t:T) (s:St),(dloop f n t H).run=some s→SameH H s
 | 0,_,_,h=>by cases h
 | n+1,t,s,h=>by
  obtain ⟨s1,h1,h2⟩:=bind_run h
  have g:=hf t s1 h1
  obtain ⟨e,t1,H1⟩:=s1
  cases e
  ·rcases g with ⟨v,hv⟩ | g
   ·cases hv
   ·cases g
    exact dloop_same hf n t1 s h2
  all_goals (simp only [dseq,Tree.run,Option.some.injEq] at h2; subst h2; exact g)
theorem dcode_same:∀ (c:Code) (t:T) (H:List O) (s:St),quietC cx c=true→(dcode cx c t H).run=some s→SameH H s
 | .skip,t,H,s,_,h=>by
  simp only [dcode,Tree.run,Option.some.injEq] at h
  subst h
  exact .inr rfl
 | .region id ops draw,t,H,s,hq,h=>by
  unfold dcode at h
  cases draw
  ·exact druns_same _ _ _ _ hq h
  ·simp only [cond_true] at h
   cases hd:(drawOk cx ops || drawOkT cx ops t H)
   ·rw [hd] at h; cases h
   ·rw [hd] at h
    obtain ⟨s1,h1,h2⟩:=bind_run h
    have g:=druns_same _ _ _ _ hq h1
    obtain ⟨e,t1,H1⟩:=s1
    cases e
    ·simp only [dnorm,Tree.run,Option.some.injEq] at h2
     subst h2
     exact g
    all_goals (cases h2)
 | .seq a b,t,H,s,hq,h=>by
  obtain ⟨q1,q2⟩:=Bool.and_eq_true_iff.1 hq
  unfold dcode at h
  obtain ⟨s1,h1,h2⟩:=bind_run h
  have g:=dcode_same a t H s1 q1 h1
  obtain ⟨e,t1,H1⟩:=s1
  cases e
  ·rcases g with ⟨v,hv⟩ | g
   ·cases hv
   ·cases g
    exact dcode_same b t1 _ s q2 h2
  all_goals (simp only [dseq,Tree.run,Option.some.injEq] at h2; subst h2; exact g)
 | .cond c a b,t,H,s,hq,h=>by
  obtain ⟨q1,q2⟩:=Bool.and_eq_true_iff.1 hq
  unfold dcode at h
  split at h
  ·split at h
   ·rcases br_cases h with h | h
    ·exact dcode_same a _ H s q1 h
    ·exact dcode_same b _ H s q2 h
   ·cases h
  ·split at h
   ·rcases br_cases h with h | h
    ·exact dcode_same a _ H s q1 h
    ·exact dcode_same b _ H s q2 h
   ·cases h
 | .block id c,t,H,s,hq,h=>by
  unfold dcode at h
  obtain ⟨s1,h1,h2⟩:=bind_run h
  have g:=dcode_same c t H s1 hq h1
  obtain ⟨e,t1,H1⟩:=s1
  cases e
  all_goals (simp only [dblock,Tree.run,Option.some.injEq] at h2; subst h2)
  ·exact g
  ·rcases g with ⟨v,hv⟩ | g
   ·cases hv
   ·exact .inr g
  all_goals exact g
 | .exit _,t,H,s,_,h=>by
  simp only [dcode,Tree.run,Option.some.injEq] at h
  subst h
  exact .inr rfl
 | .ret,t,H,s,_,h=>by
  simp only [dcode,Tree.run,Option.some.injEq] at h
  subst h
  exact .inr rfl
 | .loop c,t,H,s,hq,h=>by
  unfold dcode at h
  exact dloop_same (fun t s h=>dcode_same c t H s hq h) _ _ _ h
 | .goto _,_,_,_,hq,_=>by cases hq
def qfun (cx:Cx) (fn:Func) (args:List V) (H:List O):Tree V:=
 .req (Nat.ble args.length fn.ntmps) ((mfun cx fn args H).bind fun r=>match r with
  | .ok v _=>.leaf v
  | .pan _ _=>.fail)
theorem qfun_ok {cx : Cx} {f : Nat} {fn : Func} (hT : CxOk cx) (hf : cx.P.funcs[f]? = some fn) (hname : (fn.name == "runtime.NumGoroutine") = false)
  (hq:quietC { cx with n:=fn.ntmps } (bodyOf fn)=true) (hb:fn.body=some (bodyOf fn)):RSound cx.P f (qfun cx fn):=by
 intro args H v h
 obtain ⟨h1,h2⟩:=req_run h
 obtain ⟨r,h3,h4⟩:=bind_run h2
 cases r with
 | pan _ _=>cases h4
 | ok u H1 =>
  cases h4
  have e:H1=H:=by
   unfold mfun at h3
   rw [hb] at h3
   simp only at h3
   obtain ⟨s,g1,g2⟩:=bind_run h3
   have g:=dcode_same _ _ _ _ hq g1
   obtain ⟨ex,t,H2⟩:=s
   unfold answerM at g2
   split at g2
   ·rename_i heq
    cases heq
    split at g2
    ·cases g2
     rcases g with ⟨v,hv⟩ | g
     ·cases hv
     ·exact g
    ·cases g2
   ·rename_i heq
    cases heq
    split at g2
    ·cases g2
     rcases g with ⟨v,hv⟩ | g
     ·cases hv
     ·exact g
    ·cases g2
   ·cases g2
   ·cases g2
  subst e
  exact msound_fun hT hf hname _ _ _ (by
   show (Tree.req _ _).run=_
   unfold Tree.req
   rw [br_run,h1]
   exact h3)
end
end Go.Ab

namespace Go.Ab
def dropR (n:Nat) (κ:List Nat):Res→Tree Res
 | .ok v H=>cond (noDup (List.range n++κ)) (match pickO H (List.range n++κ) with
  | some os=>match rensO (fun i=>place i (List.range n++κ)) os,V.ren? (fun i=>place i (List.range n++κ)) v with
   | some Hs,some v=>.leaf (.ok v Hs)
   | _,_=>.fail
  | none=>.fail) .fail
 | .pan _ _=>.fail
theorem mcall_drop {P:Program} {f:Nat} {args:List V} {H:List O} {r r' : Res} {κ:List Nat} (h:MCall P f args H r) (hd:(dropR H.length κ r).run=some r'):MCall P f args H r' := by
 cases r with
 | pan _ _=>cases hd
 | ok v H1 =>
  unfold dropR at hd
  cases hσ:noDup (List.range H.length++κ)
  ·rw [hσ] at hd; cases hd
  rw [hσ] at hd
  simp only [cond_true] at hd
  split at hd
  rotate_left
  ·cases hd
  rename_i os hos
  split at hd
  rotate_left
  ·cases hd
  rename_i Hs v' hHs hv'
  cases hd
  obtain ⟨hnorm,hc⟩:=h
  refine ⟨hnorm,fun w E β rargs hE hR hl hv=>(hc w E β rargs hE hR hl hv).mono ?_⟩
  rintro ev w' ⟨y,β',rfl,st,hr⟩
  let a:Act:=⟨#[],[]⟩
  have hg:Good E H β w a.tmps.size a.defers [] H1 β' a w' := ⟨st,⟨rfl,fun d=>.any _ _⟩,rfl⟩
  have hlen:β.length=H.length:=hR.len.symm
  obtain ⟨g1,g2⟩:=hg.drop hσ hos hHs (fun i hi=>by
   have hi' : i<(List.range H.length).length:=by rw [List.length_range]; omega
   rw [List.getElem?_append_left hi',List.getElem?_eq_getElem hi',List.getElem_range])
  exact ⟨y,_,rfl,g1.step,g2 _ _ _ hr hv'⟩
def mfunR (cx:Cx) (fn:Func) (κ:List Nat) (args:List V) (H:List O):Tree Res:=
 .req (Nat.ble args.length fn.ntmps) ((mfun cx fn args H).bind (dropR H.length κ))
theorem mfunR_ok {cx : Cx} {f : Nat} {fn : Func} (κ : List Nat) (hT : CxOk cx) (hf : cx.P.funcs[f]? = some fn) (hname : (fn.name == "runtime.NumGoroutine") = false) : MSound cx.P f (mfunR cx fn κ) := by
 intro args H r h
 obtain ⟨h1,h2⟩:=req_run h
 obtain ⟨r0,h3,h4⟩:=bind_run h2
 refine mcall_drop (msound_fun hT hf hname args H r0 ?_) h4
 show (Tree.req _ _).run=_
 unfold Tree.req
 rw [br_run,h1]
 exact h3
end Go.Ab
