/-
  The engine, part Yl: a loop over a map, as code. Conditions: none.
-/
import Derived.Test.YtbefgnmdliefjaaGreatDoorPk17
import Derived.LoopN
import Derived.Test.YtbefgnmdliefjaaGreatDoorPk16
set_option linter.unusedVariables false
set_option linter.unusedSimpArgs false
namespace Go.Ab
open Go.ChangeMaps (setBlock)
section
variable {P:Program} {n:Nat} {t:T} {H:List O}
theorem runs_cont {cx:Cx} (hT:CxOk cx) {ops:Array Oper} {E H0 β0 w0 D} (hs:StartOk cx.P E H0 β0 w0) {Q:AEx→T→List O→Prop} {K:Exit→Act→World→Prop} {l2:List Oper} (hnone:∀ v t H,¬ Q (.panic v) t H) :
  ∀ (l:List Oper) (k:Nat) (t:T) (H:List O) (β:List Loc) (a:Act) (w:World),ops.toList.drop k=l++l2→(druns cx ops l t H).all (fun s=>Q s.1 s.2.1 s.2.2) →
   (∀ t H β a w,Q .normal t H→Good E H0 β0 w0 cx.n D t H β a w→wpOps cx.P ops K (List.range' (k+l.length) l2.length) a w)→Good E H0 β0 w0 cx.n D t H β a w→wpOps cx.P ops K (List.range' k (l.length+l2.length)) a w
 | [],k,t,H,β,a,w,_,h,hk,hg=>by
  have:=hk (keep cx.keeps t) H β a w h ⟨hg.step,hg.fr.keep _,hg.defers⟩
  simpa using this
 | o :: r,k,t,H,β,a,w,hl,h,hcont,hg=>by
  have hk:ops.toList[k]? = some o:=by
   have:=congrArg (fun l=>l[0]?) hl
   simpa using this
  have hk' : ops[k]? = some o:=by simpa using hk
  have hr:ops.toList.drop (k+1)=r++l2:=by
   have:=congrArg List.tail hl
   simpa [List.tail_drop] using this
  have hcont' : ∀ t H β a w,Q .normal t H→Good E H0 β0 w0 cx.n D t H β a w→wpOps cx.P ops K (List.range' (k+1+r.length) l2.length) a w:=by
   intro t H β a w h1 h2
   have:=hcont t H β a w h1 h2
   rw [List.length_cons] at this
   rw [show k+1+r.length=k+(r.length+1) by omega]
   exact this
  have ih:=fun t H β a w h1 h2=>runs_cont hT hs (ops:=ops) (Q:=Q) (D:=D) (K:=K) hnone r (k+1) t H β a w hr h1 hcont' h2
  rw [show (o :: r).length+l2.length=(r.length+l2.length)+1 by rw [List.length_cons]; omega]
  simp only [List.range'_succ,wpOps,hk']
  have put:∀ v x t H β a w,(dputs cx o v t H (druns cx ops r)).all (fun s=>Q s.1 s.2.1 s.2.2)→R w (Xs E H β) β v x→Good E H0 β0 w0 cx.n D t H β a w →
    wpOps cx.P ops K (List.range' (k+1) (r.length+l2.length)) (a.put o.dst x) w:=by
   intro v x t H β a w hp hv hg
   unfold dputs putO at hp
   cases hd:o.dst with
   | none =>
    simp only [hd] at hp
    simp only [Act.put]
    exact ih t H β a w hp hg
   | some d =>
    simp only [hd] at hp
    cases hb:Nat.blt d cx.n
    ·simp [hb,Tree.all] at hp
    ·simp only [hb,cond_true] at hp
     have hlt:d<cx.n:=by simpa [Nat.blt_eq] using hb
     exact ih _ H β _ w hp ⟨hg.step,hg.fr.put hlt hv,hg.defers⟩
  have run:∀ t,FR w (Xs E H β) β cx.n t a→((dop cx t H o).bind (dres cx o t (druns cx ops r))).all (fun s=>Q s.1 s.2.1 s.2.2) →
    o.wp cx.P a w (wpOps cx.P ops K (List.range' (k+1) (r.length+l2.length))) K:=by
   intro t hfr hall
   obtain ⟨s,hs1,hs2⟩:=Tree.all_run hall
   obtain ⟨res,hres,hd⟩:=bind_run hs1
   refine dop_sound hT (hs.now hg.step) hg.step.rel hfr hres ?_
   cases res with
   | ok v H' =>
    intro x w' β' st hv
    exact put v x t H' β' a w' (Tree.run_all hd hs2) hv ⟨hg.step.trans st,hfr.step st,hg.defers⟩
   | pan v H' =>
    intro x w' β' st hv
    simp only [dres,Tree.run,Option.some.injEq] at hd
    subst hd
    exact absurd hs2 (hnone _ _ _)
  unfold druns dstep at h
  split at h
  ·rename_i hgd
   have hw:Region.wanted o (yielded ops a.tmps)=true:=by simp [Region.wanted,hgd]
   simp only [hw,if_true]
   exact .inl (run t hg.fr h)
  ·rename_i j want hgd
   split at h
   rotate_left
   ·exact h.elim
   rename_i d hd
   have hslot:=hg.fr.slot d
   have hyield:∀ b,a.tmps.getD d undef = .bool b→yielded ops a.tmps j=some b:=by
    intro b hb
    unfold yielded
    rw [hd]
    simp only [Option.bind_some]
    rw [Array.getD_eq_getD_getElem?] at hb
    cases hq:a.tmps[d]? with
    | none=>rw [hq] at hb; simp [undef] at hb
    | some q=>rw [hq] at hb; simp at hb; subst hb; rfl
   split at h
   ·rename_i b hb
    rw [hb] at hslot
    generalize hv:a.tmps.getD d undef=v at hslot
    cases hslot
    have hy:=hyield b hv
    have hfr' := put_true hg.fr hb
    cases b
    ·have h:=h.2 rfl
     cases want
     ·have hw:Region.wanted o (yielded ops a.tmps)=true:=by simp [Region.wanted,hgd,hy]
      simp only [hw,if_true]
      exact .inl (run _ hfr' h)
     ·have hw:Region.wanted o (yielded ops a.tmps)=false:=by simp [Region.wanted,hgd,hy]
      simp only [hw,Bool.false_eq_true,if_false]
      exact put vundef undef _ H β a w h (.val _ _) ⟨hg.step,hfr',hg.defers⟩
    ·have h:=h.1 rfl
     cases want
     ·have hw:Region.wanted o (yielded ops a.tmps)=false:=by simp [Region.wanted,hgd,hy]
      simp only [hw,Bool.false_eq_true,if_false]
      exact put vundef undef _ H β a w h (.val _ _) ⟨hg.step,hfr',hg.defers⟩
     ·have hw:Region.wanted o (yielded ops a.tmps)=true:=by simp [Region.wanted,hgd,hy]
      simp only [hw,if_true]
      exact .inl (run _ hfr' h)
   ·rename_i vs hb
    rw [hb] at hslot
    generalize hv:a.tmps.getD d undef=v at hslot
    cases hslot
    have hy:yielded ops a.tmps j=none:=by
     unfold yielded
     rw [hd]
     simp only [Option.bind_some]
     rw [Array.getD_eq_getD_getElem?] at hv
     cases hq:a.tmps[d]? with
     | none=>rfl
     | some q=>rw [hq] at hv; simp at hv; subst hv; rfl
    have hw:Region.wanted o (yielded ops a.tmps)=false:=by simp [Region.wanted,hgd,hy]
    simp only [hw,Bool.false_eq_true,if_false]
    exact put vundef undef t H β a w h (.val _ _) hg
   ·exact h.elim
end
def itV (r:Nat):V:=.val (.pointer (some ⟨r,0,none⟩))
section
variable {cx:Cx} {n:Nat} {E:Nat→Nat→Prop} {H0:List O} {β0:List Loc} {w0:World} {D:List Deferred}
variable {ops3 ops4:Array Oper} {post4:List Oper} {rest:Code} {o3a o3b o4:Oper} {i3 i0 i1 i4 d18 d19 d20 d21:Nat}
structure ForMap (cx:Cx) (ops3 ops4:Array Oper) (post4:List Oper) (o3a o3b o4:Oper) (d18 d19 d20 d21:Nat):Prop where
 ops3:ops3 = #[o3a,o3b]
 ops4:ops4.toList=o4 :: post4
 next:o3a.op = .next (.tmp d18) false
 ok:o3b.op = .extract (.tmp d19) 0
 entry:o4.op = .entry (.tmp d18)
 g3a:o3a.guard=none
 g3b:o3b.guard=none
 g4:o4.guard=none
 t3a:o3a.dst=some d19
 t3b:o3b.dst=some d20
 t4:o4.dst=some d21
 l19:Nat.blt d19 cx.n=true
 l20:Nat.blt d20 cx.n=true
 l21:Nat.blt d21 cx.n=true
 n1:Nat.beq d18 d19=false
 n2:Nat.beq d18 d20=false
theorem eval_of_val {β:List Loc} {w:World} {X:Nat→Nat→Prop} {a:Act} {t:T} {d r:Nat} (h:FR w X β n t a) (hd:get d t=itV r):a.eval (.tmp d) = .pointer (some ⟨r,0,none⟩):=by
 have:=rd_R h (.tmp d)
 simp only [rd,hd,itV] at this
 generalize a.eval (.tmp d)=y at this
 cases this
 rfl
theorem getD_set {a:Act} {d:Nat} {x:Value} (h:d<a.tmps.size):Act.eval { a with tmps:=a.tmps.setIfInBounds d x } (.tmp d)=x:=by
 simp [Act.eval,Array.getD_eq_getD_getElem?,h]
theorem forMapW_rounds (hT:CxOk cx) (hs:StartOk cx.P E H0 β0 w0) (F:ForMap cx ops3 ops4 post4 o3a o3b o4 d18 d19 d20 d21) {r bm:Nat} {es:Array MapEntry} {clock:Nat} (hr0:w0.heap.size≤r) (hst:Go.MapKept.Stamped es clock)
  {Inv:List (Int × V)→T→List O→Prop} (hInv:∀ left t H,Inv left t H→get d18 t=itV r)
  (round:∀ A p B t H,Inv (A++p :: B) t H → ∃ t1 H1,(druns cx ops4 post4 (put d21 (.tup [.int .u64 p.1,p.2]) (put d20 (.bool true) (put d19 .any t))) H).run=some (.normal,t1,H1)∧AWP cx.P cx.n rest (fun e t'' H'' => (e = .normal∨e = .exit i1) ∧ ∃ t2,TLe t'' t2∧Inv (A++B) t2 H'') t1 H1)
  {K:Exit→Act→World→Prop} {J:List O→List Loc→World→Prop} (hJ:∀ {H β w H' β' w'},J H β w→Stab w (Xs E H β) w' (Xs E H' β')→LocLe β β' → J H' β' w')
  (done:∀ t H β a w,J H β w→Inv [] t H→Good E H0 β0 w0 cx.n D (put d20 (.bool false) (put d19 .any t)) H β a w→w.heap[bm]? = some (.map es clock)→(∀ o,¬ Own H β bm o)→K (.exit i0) a w) :
  ∀ (m:Nat) (left:List (Int × V)) (t:T) (H:List O) (β:List Loc) (a:Act) (w:World) (seen:Array Nat),left.length=m→J H β w→Inv left t H→Good E H0 β0 w0 cx.n D t H β a w →
   w.heap[r]? = some (.mapIter (some bm) clock seen clock)→w.heap[bm]? = some (.map es clock)→(∀ o,¬ Own H β r o)→(∀ o,¬ Own H β bm o)→LeftOk w (Xs E H β) β es seen left →
   Code.rounds cx.P (.seq (.region i3 ops3 false) (.seq (.cond (.tmp d20) .skip (.exit i0)) (.block i1 (.seq (.region i4 ops4 false) rest)))) K (m+1) a w:=by
 intro m
 induction m using Nat.strongRecOn with
 | _ m ih =>
 intro left t H β a w seen hlen hj hI hg hr hb hur hub hleft
 rw [rounds_succ]
 have hit:=eval_of_val hg.fr (hInv _ _ _ hI)
 have hrlt:r<w.heap.size:=heap_lt hr
 have hblt:bm<w.heap.size:=heap_lt hb
 have hold:∀ x ∈ es.toList,x.born<clock:=hst.1
 have l19:d19<cx.n:=by simpa [Nat.blt_eq] using F.l19
 have l20:d20<cx.n:=by simpa [Nat.blt_eq] using F.l20
 have l21:d21<cx.n:=by simpa [Nat.blt_eq] using F.l21
 have region3:∀ (w' : World) (b:Bool) (vs:Array Value) (K' : Exit→Act→World→Prop),(Instr.next (.pointer (some ⟨r,0,none⟩)) false o3a.type).run cx.P w = .ok (.tuple vs) w' → vs[0]? = some (.bool b) →
   K' .normal ((a.put (some d19) (.tuple vs)).put (some d20) (.bool b)) w' → (Code.region i3 ops3 false).wp cx.P K' a w:=by
  intro w' b vs K' hn hv hk
  refine wp_region ?_
  have h3:=F.ops3
  subst h3
  show wpOps cx.P #[o3a,o3b] K' [0,1] a w
  have w1:Region.wanted o3a (yielded #[o3a,o3b] a.tmps)=true:=by simp [Region.wanted,F.g3a]
  have w2:Region.wanted o3b (yielded #[o3a,o3b] (a.put (some d19) (.tuple vs)).tmps)=true:=by simp [Region.wanted,F.g3b]
  have e1:(a.put (some d19) (.tuple vs)).eval (.tmp d19) = .tuple vs:=getD_set (by rw [hg.fr.size]; exact l19)
  have i0:(#[o3a,o3b]:Array Oper)[0]? = some o3a:=rfl
  have i1:(#[o3a,o3b]:Array Oper)[1]? = some o3b:=rfl
  simp only [wpOps,i0,i1,w1,if_true]
  refine .inl (wp_sem (s:=Instr.next (.pointer (some ⟨r,0,none⟩)) false o3a.type) (by simp only [execOp,F.next,hit]) hn ?_)
  rw [F.t3a]
  simp only [w2,if_true]
  refine .inl (wp_sem (s:=Instr.extract (.tuple vs) 0) (w' := w') (x:=.bool b) (by simp only [execOp,F.ok,e1]) (by simp [Instr.extract,hv]) ?_)
  rw [F.t3b]
  exact hk
 rcases run_next_at (P:=cx.P) w o3a.type r bm clock clock seen es clock hr hb hold (Nat.le_refl _) with ⟨h0,hrun⟩ | ⟨e,he,w1,hw1,hrun⟩
 ·-- nothing is left
  have hl:=hleft.none h0
  subst hl
  refine wp_seq (region3 w false _ _ hrun rfl ?_)
  have hfr:FR w (Xs E H β) β cx.n (put d20 (.bool false) (put d19 .any t)) ((a.put (some d19) (.tuple #[.bool false])).put (some d20) (.bool false)):=(hg.fr.put l19 (.any _ _)).put l20 (.bool _ _)
  refine wp_seq ?_
  have hc:((a.put (some d19) (.tuple #[.bool false])).put (some d20) (.bool false)).eval (.tmp d20) = .bool false:=getD_set (Nat.lt_of_lt_of_eq l20 ((hg.fr.put (v:=.any) (x:=.tuple #[.bool false]) l19 (.any _ _)).size).symm)
  refine wp_cond hc ?_
  exact wp_exit (done _ _ _ _ _ hj hI ⟨hg.step,hfr,hg.defers⟩ hb hub)
 ·obtain ⟨A,p,B,rfl,hkey,hval,hleft'⟩:=hleft.take hst he
  have hpar:(setBlock w1 r (.mapIter (some bm) clock (seen.push e.born) clock)).heap=w.heap.setIfInBounds r (.mapIter (some bm) clock (seen.push e.born) clock):=by
   rcases hw1 with rfl | rfl <;> rfl
  generalize hw2:setBlock w1 r (.mapIter (some bm) clock (seen.push e.born) clock)=w2 at hrun hpar
  have hpos:w2.os=w.os∧w2.tape=w.tape∧w2.output=w.output:=by
   subst hw2
   rcases hw1 with rfl | rfl <;> exact ⟨rfl,rfl,rfl⟩
  obtain ⟨hsame,hne⟩:=Go.MapKept.heap_set (o' := .mapIter (some bm) clock (seen.push e.born) clock) hr
  have sd:Side H β r w w2:=⟨fun b hb=>by rw [hpar]; exact hne b hb,by rw [hpar]; simp,fun x hx=>by rw [hr] at hx; cases hx; rfl,hur,hpos.1,hpos.2.1,hpos.2.2⟩
  have hg2:=hg.side sd hr0
  have hr2:w2.heap[r]? = some (.mapIter (some bm) clock (seen.push e.born) clock):=by rw [hpar]; exact hsame
  have hrb:bm ≠ r:=fun h=>by rw [h] at hb; rw [hr] at hb; cases hb
  have hb2:w2.heap[bm]? = some (.map es clock):=by rw [hpar,hne bm hrb]; exact hb
  refine wp_seq (region3 w2 true _ _ hrun rfl ?_)
  generalize ha2:(a.put (some d19) (.tuple #[.bool true,e.key,e.val])).put (some d20) (.bool true)=a2
  have hfr:FR w2 (Xs E H β) β cx.n (put d20 (.bool true) (put d19 .any t)) a2:=by
   rw [← ha2]
   exact (hg2.fr.put l19 (.any _ _)).put l20 (.bool _ _)
  refine wp_seq ?_
  have hc:a2.eval (.tmp d20) = .bool true:=by
   rw [← ha2]
   exact getD_set (Nat.lt_of_lt_of_eq l20 ((hg2.fr.put (v:=.any) (x:=.tuple #[.bool true,e.key,e.val]) l19 (.any _ _)).size).symm)
  refine wp_cond hc ?_
  refine wp_skip ?_
  refine wp_block ?_
  have hdef:a2.defers=D:=by rw [← ha2]; exact hg.defers
  have gself:Good E H β w2 cx.n D (put d20 (.bool true) (put d19 .any t)) H β a2 w2:=⟨Step.refl hg2.step.rel,hfr,hdef⟩
  have hit2:a2.eval (.tmp d18) = .pointer (some ⟨r,0,none⟩):=by
   refine eval_of_val hfr ?_
   have n1:d18 ≠ d19:=fun h=>by have:=F.n1; rw [h] at this; simp at this
   have n2:d18 ≠ d20:=fun h=>by have:=F.n2; rw [h] at this; simp at this
   rw [get_put,if_neg n2,get_put,if_neg n1]
   exact hInv _ _ _ hI
  have hent:=run_entry_at (P:=cx.P) w2 r bm clock seen es clock e hr2 hb2 (by
   have:=he
   unfold leftOf at this
   simp only [Array.toList_filter,List.mem_filter] at this
   exact this.1) hst.2.1
  obtain ⟨t1,H1,hs1,hrest⟩:=round A p B t H hI
  refine wp_seq (wp_region ?_)
  have hsz4:List.range ops4.size=0 :: List.range' 1 post4.length:=by
   have:ops4.size=post4.length+1:=by
    have:=congrArg List.length F.ops4
    simpa using this
   rw [this,List.range_eq_range',List.range'_succ]
  rw [hsz4]
  have h40:ops4[0]? = some o4:=by
   have:=congrArg (fun l=>l[0]?) F.ops4
   simpa using this
  have w4:Region.wanted o4 (yielded ops4 a2.tmps)=true:=by simp [Region.wanted,F.g4]
  simp only [wpOps,h40,w4,if_true]
  refine .inl (wp_sem (s:=Instr.entry (.pointer (some ⟨r,0,none⟩))) (by simp only [execOp,F.entry,hit2]) hent ?_)
  rw [F.t4]
  have gent:Good E H β w2 cx.n D (put d21 (.tup [.int .u64 p.1,p.2]) (put d20 (.bool true) (put d19 .any t))) H β (a2.put (some d21) (.tuple #[e.key,e.val])) w2:=by
   refine ⟨gself.step,hfr.put l21 ?_,hdef⟩
   refine .tup _ _ [e.key,e.val] rfl fun k v x h1 h2=>?_
   match k,h1,h2 with
   | 0,h1,h2=>cases h1; cases h2; rw [hkey]; exact .int _ _ _
   | 1,h1,h2=>cases h1; cases h2; exact hval.stab sd.stab β (.refl _)
   | k+2,h1,h2=>simp at h1
  have hs' : StartOk cx.P E H β w2:=hs.now hg2.step
  show wpOps cx.P ops4 _ (List.range' 1 (post4.length+([]:List Oper).length)) _ _
  refine runs_cont hT hs' (ops:=ops4) (D:=D) (l2:=[]) (Q:=fun e t' H' => e = .normal∧t' = t1∧H' = H1) (fun v t H h=>by cases h.1) post4 1 _ _ _ _ _ (by rw [F.ops4,List.append_nil]; rfl) (Tree.run_all hs1 ⟨rfl,rfl,rfl⟩) ?_ gent
  ·rintro t' H' β3 a3 w3 ⟨_,rfl,rfl⟩ g3
   show Exit.then _ _ .normal a3 w3
   have hcode:=hrest E H β w2 D β3 a3 w3 hs' g3
   refine wp_mono hcode fun ex a4 w4 hp=>?_
   have fin:∀ t4 H4 β4,(∃ t2,TLe t4 t2∧Inv (A++B) t2 H4)→Good E H β w2 cx.n D t4 H4 β4 a4 w4 →
     Code.rounds cx.P (.seq (.region i3 ops3 false) (.seq (.cond (.tmp d20) .skip (.exit i0)) (.block i1 (.seq (.region i4 ops4 false) rest)))) K m a4 w4:=by
    rintro t4 H4 β4 ⟨t5,hle,hI5⟩ g4
    have hm:m=(A++B).length+1:=by rw [← hlen]; simp; omega
    rw [hm]
    have st:=g4.step
    have hrl:r<w2.heap.size:=heap_lt hr2
    have hbl:bm<w2.heap.size:=heap_lt hb2
    refine ih (A++B).length (by omega) (A++B) t5 H4 β4 a4 w4 (seen.push e.born) rfl (hJ (hJ hj sd.stab (.refl _)) st.stab st.locs) hI5 ⟨hg2.step.trans st,g4.fr.le hle,g4.defers⟩ ?_ ?_ (st.notOwn hur hrl) (st.notOwn hub hbl) ?_
    ·rw [st.same hur hrl]; exact hr2
    ·rw [st.same hub hbl]; exact hb2
    ·exact (hleft'.stab sd.stab (.refl _)).stab st.stab st.locs
   cases ex with
   | normal=>obtain ⟨t4,H4,β4,⟨_,h2⟩,g4⟩:=hp; exact fin t4 H4 β4 h2 g4
   | exit id =>
    obtain ⟨t4,H4,β4,⟨h1,h2⟩,g4⟩:=hp
    have:id=i1:=by rcases h1 with h | h <;> cases h; rfl
    subst this
    show (if id=id then _ else _)
    rw [if_pos rfl]
    exact fin t4 H4 β4 h2 g4
   | ret=>obtain ⟨t4,H4,β4,⟨h1,h2⟩,g4⟩:=hp; rcases h1 with h | h <;> cases h
   | panic ch=>obtain ⟨t4,H4,β4,v,x,⟨h1,h2⟩,g4⟩:=hp; rcases h1 with h | h <;> cases h
   | goto l=>exact hp.elim
   | outgrown=>exact hp.elim
theorem AWP_forMapW {P:Program} {Q:AEx→T→List O→Prop} (hP:cx.P=P) (hn:cx.n=n) (hT:CxOk cx) (F:ForMap cx ops3 ops4 post4 o3a o3b o4 d18 d19 d20 d21)
  {ops2:Array Oper} {o2:Oper} {pre:List Oper} {mt kt et:TypeId} {mop:Operand} {i2:Nat} (h2:ops2.toList=pre++[o2]) (hop:o2.op = .range mt mop) (hg2:o2.guard=none) (hd2:o2.dst=some d18) (h18:Nat.blt d18 cx.n=true)
  (hmt:cx.P.underlying mt=some (.map kt et)) {t t1:T} {H:List O} {mid:Nat} {keys:List Int} {vs:List V} (ks:List Nat)
  (hpre:(druns { cx with keeps:=ks } ops2 pre t H).run=some (.normal,t1,H)) (hm:rd t1 mop = .mp mid) (hH:H[mid]? = some (.obj (.map keys) vs)) (hlen:vs.length=keys.length)
  (Inv:Nat→List (Int × V)→T→List O→Prop) (start:∀ r,∃ t2,TLe (put d18 (itV r) t1) t2∧Inv r (keys.zip vs) t2 (H.set mid .dead))
  (hdead:∀ r left t H,Inv r left t H→H[mid]? = some .dead) (hit:∀ r left t H,Inv r left t H→get d18 t=itV r)
  (round:∀ r A p B t H,Inv r (A++p :: B) t H → ∃ t1 H1,(druns cx ops4 post4 (put d21 (.tup [.int .u64 p.1,p.2]) (put d20 (.bool true) (put d19 .any t))) H).run=some (.normal,t1,H1)∧AWP cx.P cx.n rest (fun e t'' H'' => (e = .normal∨e = .exit i1) ∧ ∃ t2,TLe t'' t2∧Inv r (A++B) t2 H'') t1 H1)
  (done:∀ r t H',Inv r [] t H' → Q .normal (put d20 (.bool false) (put d19 .any t)) (H'.set mid (.obj (.map keys) vs))) :
  AWP P n (.seq (.region i2 ops2 false) (.block i0 (.loop (.seq (.region i3 ops3 false) (.seq (.cond (.tmp d20) .skip (.exit i0)) (.block i1 (.seq (.region i4 ops4 false) rest))))))) Q t H:=by
 subst hP
 subst hn
 intro E H0 β0 w0 D β a w hs hg
 refine wp_seq (wp_region ?_)
 have hsz:List.range ops2.size=List.range' 0 (pre.length+[o2].length):=by
  have:ops2.size=pre.length+1:=by
   have:=congrArg List.length h2
   simpa using this
  rw [this,List.range_eq_range']
  rfl
 rw [hsz]
 have h20:ops2[pre.length]? = some o2:=by
  have:=congrArg (fun l=>l[pre.length]?) h2
  simpa using this
 refine runs_cont (cx:={ cx with keeps:=ks }) hT hs (ops:=ops2) (D:=D) (l2:=[o2]) (Q:=fun e t' H' => e = .normal∧t' = t1∧H' = H) (fun v t H h=>by cases h.1) pre 0 _ _ _ _ _ (by rw [h2]; rfl) (Tree.run_all hpre ⟨rfl,rfl,rfl⟩) ?_ hg
 rintro t' H' β a w ⟨_,rfl,rfl⟩ hg
 rw [Nat.zero_add]
 have wd:Region.wanted o2 (yielded ops2 a.tmps)=true:=by simp [Region.wanted,hg2]
 show wpOps cx.P ops2 _ [pre.length] a w
 simp only [wpOps,h20,wd,if_true]
 have hmR:=rd_R hg.fr mop
 rw [hm] at hmR
 generalize hmv:a.eval mop=mv at hmR
 cases hmR with
 | mp _ _ loc hid hk =>
 obtain ⟨_,hb0,ob,xs,hob,⟨arr,clock,l,rfl,hst,hpw,hperm,hkeys,hvals⟩,hvR⟩:=hg.step.rel.objs mid _ _ loc hH hid
 refine .inl (wp_sem (s:=Instr.range mt (.map (some loc.block))) (by simp only [execOp,hop,hmv]) (run_range_map w mt kt et loc.block arr clock hmt hob) ?_)
 rw [hd2]
 have hblt:loc.block<w.heap.size:=heap_lt hob
 have l18:d18<cx.n:=by simpa [Nat.blt_eq] using h18
 have hown:w0.heap.size≤loc.block ∨ ∀ o,Own H0 β0 loc.block o:=by
  by_cases h:w0.heap.size≤loc.block
  ·exact .inl h
  ·refine .inr fun o=>?_
   rcases hg.step.own loc.block o ⟨mid,loc,hid,rfl,.inr (.inr ⟨_,_,hH⟩)⟩ with h' | h'
   ·exact h'
   ·exact absurd h' h
 have hlt:mid<H'.length:=(List.getElem?_eq_some_iff.1 hH).1
 have hdeadAt:(H'.set mid O.dead)[mid]? = some .dead:=by rw [get_set]; simp [hlt]
 have hub:∀ o,¬ Own (H'.set mid .dead) β loc.block o:=by
  rintro o ⟨id,l',h1,h2',h3⟩
  by_cases e:mid=id
  ·subst e
   rw [hdeadAt] at h3
   rcases h3 with ⟨_,_,h3⟩ | ⟨_,_,h3,_⟩ | ⟨_,_,h3⟩ <;> cases h3
  ·rw [List.getElem?_set_ne e] at h3
   refine e (hg.step.rel.disj mid id loc l' (live_obj hH) ?_ hid h1 h2'.symm)
   rcases h3 with ⟨_,_,h3⟩ | ⟨_,_,h3,_⟩ | ⟨_,_,h3⟩
   ·exact live_cells h3
   ·exact live_tok h3
   ·exact live_obj h3
 have hur:∀ o,¬ Own (H'.set mid .dead) β w.heap.size o:=by
  rintro o ⟨id,l',h1,h2',h3⟩
  have hl:live (H'.set mid .dead) id:=by
   rcases h3 with ⟨_,_,h3⟩ | ⟨_,_,h3,_⟩ | ⟨_,_,h3⟩
   ·exact live_cells h3
   ·exact live_tok h3
   ·exact live_obj h3
  have:=live_lt hg.hide.step.rel hl h1
  omega
 have sd:Side (H'.set mid .dead) β w.heap.size w (w.alloc (.mapIter (some loc.block) clock #[] clock)):=by
  refine ⟨fun b hb=>?_,by simp,fun x hx=>?_,hur,rfl,rfl,rfl⟩
  ·by_cases h:b<w.heap.size
   ·exact heap_alloc_old w _ h
   ·have h1:w.heap[b]? = none:=by simp; omega
    rw [h1]
    show (w.heap.push _)[b]? = none
    simp
    omega
  ·simp at hx
 have hg1:Good E H0 β0 w0 cx.n D t' (H'.set mid .dead) β a (w.alloc (.mapIter (some loc.block) clock #[] clock)):=(hg.hide).side sd hg.step.size
 obtain ⟨t2,hle,hI⟩:=start w.heap.size
 have hg2' : Good E H0 β0 w0 cx.n D t2 (H'.set mid .dead) β (a.put (some d18) (.pointer (some ⟨w.heap.size,0,none⟩))) (w.alloc (.mapIter (some loc.block) clock #[] clock)):=
  ⟨hg1.step,(hg1.fr.put (v:=itV w.heap.size) l18 (.val _ _)).le hle,hg1.defers⟩
 show (Code.block i0 _).wp cx.P _ _ _
 refine wp_block (wp_loop_rounds ((keys.zip vs).length+1) ?_)
 have hvals' : ∀ (k:Nat) v x,vs[k]? = some v→xs[k]? = some x→R w (Xs E H' β) β v x:=by
  intro k v x h1 h2
  obtain ⟨x',h3,h4⟩:=hvR k v h1
  rw [h2] at h3
  cases h3
  exact h4
 have hxl:xs.length=keys.length:=by
  rw [← hvals,List.length_map]
  have:=congrArg List.length hkeys
  simpa using this
 have hXd:∀ b o,Xs E (H'.set mid .dead) β b o→Xs E H' β b o:=fun b o h=>h.imp id own_dead
 let J:List O→List Loc→World→Prop:=fun H β w=>β[mid]? = some loc ∧ ∀ (k:Nat) v x,vs[k]? = some v→xs[k]? = some x→R w (Xs E H β) β v x
 refine forMapW_rounds (cx:=cx) hT hs F (r:=w.heap.size) (bm:=loc.block) (es:=arr) (clock:=clock) (Inv:=Inv w.heap.size) (J:=J) hg.step.size hst (hit _) (round _) ?_ ?_ _ (keys.zip vs) t2 (H'.set mid .dead) β _ _ #[] rfl ⟨hid,fun k v x h1 h2=>((hvals' k v x h1 h2).weak hXd).stab sd.stab β (.refl _)⟩ hI hg2'
  (heap_alloc_new _ _) ((heap_alloc_old _ _ hblt).trans hob) hur hub ?_
 ·rintro H1 β1 w1 H2 β2 w2 ⟨h1,h2⟩ st hl
  refine ⟨?_,fun k v x a b=>(h2 k v x a b).stab st β2 hl⟩
  obtain ⟨loc',g1,g2⟩:=hl mid loc h1
  rcases g2 with rfl | ⟨g2,_⟩
  ·exact g1
  ·rw [hk] at g2; cases g2
 ·rintro t3 H3 β3 a3 w3 ⟨h1,h2⟩ hI3 hg3 hb3 hu3
  show (if i0=i0 then _ else _)
  rw [if_pos rfl]
  refine ⟨_,_,β3,done _ _ _ hI3,hg3.show (hdead _ _ _ _ hI3) h1 hk hb0 hb3 ⟨arr,clock,l,rfl,hst,hpw,hperm,hkeys,hvals⟩ (fun k v hv=>?_) hu3 hown⟩
  have hk' : k<xs.length:=by rw [hxl,← hlen]; exact (List.getElem?_eq_some_iff.1 hv).1
  exact ⟨xs[k],by simp [hk'],h2 k v _ hv (by simp [hk'])⟩
 ·refine ⟨l,?_,?_,fun k p e hp he=>?_⟩
  ·have:leftOf arr #[]=arr:=by
    unfold leftOf
    exact Array.filter_eq_self.2 fun x _=>by simp
   rw [this]
   exact hperm
  ·rw [hkeys]
   have:keys=(keys.zip vs).map (·.1):=by rw [List.map_fst_zip]; omega
   conv=>lhs; rw [this]
   rw [List.map_map]
   rfl
  ·have hkv:vs[k]? = some p.2:=by
    have:=List.getElem?_zip_eq_some.1 hp
    exact this.2
   have hx:xs[k]? = some e.val:=by rw [← hvals,List.getElem?_map,he]; rfl
   exact ((hvals' k _ _ hkv hx).weak hXd).stab sd.stab β (.refl _)
end
end Go.Ab

namespace Go.Ab
def rngH (A:List O) (pre:List V) (v:V) (post:List V) (e:TypeId) (B:List O):List O:=A ++ .cells (pre++v :: post) e :: B
section
variable {P:Program} {E:Nat→Nat→Prop} {β:List Loc} {w:World} {X:Nat→Nat→Prop} {A B:List O} {pre post:List V} {e:TypeId} {u v:V}
theorem rngH_get (id:Nat) (ob:O) (h:(rngH A pre u post e B)[id]? = some ob):(id=A.length∧ob = .cells (pre++u :: post) e∧(rngH A pre v post e B)[id]? = some (.cells (pre++v :: post) e))∨(id ≠ A.length∧(rngH A pre v post e B)[id]? = some ob):=by
 unfold rngH at h ⊢
 by_cases h1:id<A.length
 ·rw [List.getElem?_append_left h1] at h ⊢
  exact .inr ⟨by omega,h⟩
 ·rw [List.getElem?_append_right (by omega)] at h ⊢
  cases hk:id - A.length with
  | zero =>
   rw [hk] at h
   simp only [List.getElem?_cons_zero,Option.some.injEq] at h ⊢
   exact .inl ⟨by omega,h.symm,trivial⟩
  | succ m =>
   rw [hk] at h
   simp only [List.getElem?_cons_succ] at h ⊢
   exact .inr ⟨by omega,h⟩
theorem rngH_own (b o:Nat) (h:Own (rngH A pre u post e B) β b o):Own (rngH A pre v post e B) β b o:=by
 obtain ⟨id,loc,h1,h2,h3⟩:=h
 refine ⟨id,loc,h1,h2,?_⟩
 rcases h3 with ⟨cs,e',h3⟩ | ⟨n,sz,h3,h4⟩ | ⟨sh,vs,h3⟩
 ·rcases rngH_get (v:=v) id _ h3 with ⟨_,_,g⟩ | ⟨_,g⟩
  ·exact .inl ⟨_,_,g⟩
  ·exact .inl ⟨_,_,g⟩
 ·rcases rngH_get (v:=v) id _ h3 with ⟨_,g,_⟩ | ⟨_,g⟩
  ·cases g
  ·exact .inr (.inl ⟨_,_,g,h4⟩)
 ·rcases rngH_get (v:=v) id _ h3 with ⟨_,g,_⟩ | ⟨_,g⟩
  ·cases g
  ·exact .inr (.inr ⟨_,_,g⟩)
theorem rngH_X:Xs E (rngH A pre u post e B) β=Xs E (rngH A pre v post e B) β:=by
 funext b o
 exact propext ⟨fun h=>h.imp id (rngH_own b o),fun h=>h.imp id (rngH_own b o)⟩
theorem rngH_live {i:Nat} (h:live (rngH A pre u post e B) i):live (rngH A pre v post e B) i:=by
 obtain ⟨o,h1,h2⟩:=h
 rcases rngH_get (v:=v) i _ h1 with ⟨_,_,g⟩ | ⟨_,g⟩
 ·exact ⟨_,g,by simp⟩
 ·exact ⟨o,g,h2⟩
theorem rngH_rel (hR:Rel w X (rngH A pre u post e B) β) (hv:∀ loc c e',β[A.length]? = some loc→w.heap[loc.block]? = some (.cells c e' (0,0)) → ∀ x,c[loc.base+pre.length]? = some x→R w X β u x→R w X β v x):Rel w X (rngH A pre v post e B) β:=by
 have hlen:(rngH A pre v post e B).length=(rngH A pre u post e B).length:=by unfold rngH; simp
 refine ⟨hlen.trans hR.len,fun id cs e1 loc h1 h2=>?_,fun id n sz loc h1 h2=>?_,fun id sh vs loc h1 h2=>?_,fun i j l l' h1 h2 h3 h4 h5=>hR.disj i j l l' (rngH_live h1) (rngH_live h2) h3 h4 h5⟩
 ·rcases rngH_get (v:=u) id _ h1 with ⟨g1,g2,g3⟩ | ⟨_,g⟩
  ·simp only [O.cells.injEq] at g2
   obtain ⟨rfl,rfl⟩:=g2
   obtain ⟨a1,c,e',a2,a3,a4,a5⟩:=hR.cells id _ _ loc g3 h2
   refine ⟨a1,c,e',a2,a3,?_,fun k y hy=>?_⟩
   ·simpa using a4
   ·by_cases hk:k=pre.length
    ·subst hk
     rw [List.getElem?_append_right (Nat.le_refl _),Nat.sub_self] at hy
     cases hy
     obtain ⟨x,hx,hr⟩:=a5 pre.length u (by rw [List.getElem?_append_right (Nat.le_refl _),Nat.sub_self]; rfl)
     exact ⟨x,hx,hv loc c e' (by rw [← g1]; exact h2) a2 x hx hr⟩
    ·refine a5 k y ?_
     by_cases hlt:k<pre.length
     ·rw [List.getElem?_append_left hlt] at hy ⊢; exact hy
     ·rw [List.getElem?_append_right (by omega)] at hy ⊢
      obtain ⟨m,hm⟩:∃ m,k - pre.length=m+1:=⟨k - pre.length - 1,by omega⟩
      rw [hm,List.getElem?_cons_succ] at hy ⊢
      exact hy
  ·exact hR.cells id cs e1 loc g h2
 ·rcases rngH_get (v:=u) id _ h1 with ⟨_,g,_⟩ | ⟨_,g⟩
  ·cases g
  ·exact hR.tok id n sz loc g h2
 ·rcases rngH_get (v:=u) id _ h1 with ⟨_,g,_⟩ | ⟨_,g⟩
  ·cases g
  ·exact hR.objs id sh vs loc g h2
end
theorem mcall_rng {P:Program} {f:Nat} {args:List V} {A B:List O} {pre post:List V} {e:TypeId} {k:IntKind} {lo hi:Int} {v:V} (hlt:lo<hi)
  (h:∀ n,lo≤n→n<hi → ∃ n',lo≤n' ∧ n' < hi∧MCall P f args (rngH A pre (.int k n) post e B) (.ok v (rngH A pre (.int k n') post e B))) :
  MCall P f args (rngH A pre (.rng k lo hi) post e B) (.ok v (rngH A pre (.rng k lo hi) post e B)):=by
 refine ⟨(h lo (Int.le_refl _) hlt).choose_spec.2.2.1,fun w E β rargs hE hR hl hv=>?_⟩
 have hid:(rngH A pre (.rng k lo hi) post e B)[A.length]? = some (.cells (pre ++ .rng k lo hi :: post) e):=by
  unfold rngH
  rw [List.getElem?_append_right (Nat.le_refl _),Nat.sub_self]
  rfl
 obtain ⟨loc,hloc⟩:∃ loc,β[A.length]? = some loc:=by
  have:A.length<β.length:=by rw [← hR.len]; exact (List.getElem?_eq_some_iff.1 hid).1
  exact ⟨β[A.length],by simp [this]⟩
 obtain ⟨_,c,e',a2,_,_,a5⟩:=hR.cells _ _ _ loc hid hloc
 obtain ⟨x,hx,hr⟩:=a5 pre.length (.rng k lo hi) (by rw [List.getElem?_append_right (Nat.le_refl _),Nat.sub_self]; rfl)
 cases hr with
 | rng _ _ _ _ n hn =>
 obtain ⟨n',g1,g2,_,hc⟩:=h n hn.1 hn.2
 have eX:∀ (u u' : V) (β:List Loc),Xs E (rngH A pre u post e B) β=Xs E (rngH A pre u' post e B) β:=fun _ _ _=>rngH_X
 have hR' : Rel w (Xs E (rngH A pre (.int k n) post e B) β) (rngH A pre (.int k n) post e B) β:=by
  rw [eX _ (.rng k lo hi)]
  refine rngH_rel hR fun loc2 c2 e2 q1 q2 y q3 q4=>?_
  rw [hloc] at q1
  cases q1
  rw [a2] at q2
  cases q2
  rw [hx] at q3
  cases q3
  exact .int _ _ _
 refine (hc w E β rargs ⟨fun b o hb=>⟨(hE.1 b o hb).1,fun ho=>(hE.1 b o hb).2 (rngH_own b o ho)⟩,by rw [eX _ (.rng k lo hi)]; exact hE.2⟩ hR' hl (by rw [eX _ (.rng k lo hi)]; exact hv)).mono ?_
 rintro ev w' ⟨y,β',rfl,st,hr⟩
 rw [eX _ (.rng k lo hi)] at hr
 refine ⟨y,β',rfl,⟨?_,st.os,st.tape,st.output,st.size,fun b hb=>?_,fun b o ho=>?_,st.locs⟩,hr⟩
 ·have:=st.rel
  rw [eX _ (.rng k lo hi)] at this
  refine rngH_rel this fun loc2 c2 e2 q1 q2 y q3 q4=>?_
  cases q4
  exact .rng _ _ _ _ _ ⟨g1,g2⟩
 ·rcases st.pres b hb with g | ⟨⟨o,g⟩,c1,c2,e3,q1,q2,q3,q4⟩ | ⟨⟨o,g⟩,q⟩
  ·exact .inl g
  ·exact .inr (.inl ⟨⟨o,rngH_own b o g⟩,c1,c2,e3,q1,q2,q3,fun o ho=>q4 o fun h=>ho (rngH_own b o h)⟩)
  ·exact .inr (.inr ⟨⟨o,rngH_own b o g⟩,q⟩)
 ·exact (st.own b o (rngH_own b o ho)).imp (rngH_own b o) id
end Go.Ab

namespace Go.Ab
theorem setC_out {k:IntKind} {o j:Nat} {x:Int} (h:j ≠ o) (v:V):setC k o x j v=v:=by
 have hb:Nat.beq j o=false:=by
  cases hb:Nat.beq j o
  ·rfl
  ·exact absurd (Nat.eq_of_beq_eq_true hb) h
 cases v with
 | int l n =>
  show cond (decide (l=k)) (V.int k (cond (Nat.beq j o) x n)) (V.int l n)=V.int l n
  rw [hb,cond_false]
  by_cases hl:l=k
  ·rw [decide_eq_true hl,cond_true,hl]
  ·rw [decide_eq_false hl,cond_false]
 | _=>rfl
theorem setI_out {k:IntKind} {o:Nat} {x:Int}:∀ (l:List V) (j:Nat),(o<j∨j+l.length≤o)→setI k o x j l=l
 | [],_,_=>rfl
 | v :: r,j,h=>by
  simp only [List.length_cons] at h
  show setC k o x j v :: setI k o x (j+1) r=v :: r
  rw [setC_out (by omega),setI_out r (j+1) (by omega)]
theorem setI_append {k:IntKind} {o:Nat} {x:Int}:∀ (l m:List V) (j:Nat),setI k o x j (l++m)=setI k o x j l++setI k o x (j+l.length) m
 | [],_,_=>rfl
 | v :: r,m,j=>by
  show setC k o x j v :: setI k o x (j+1) (r++m)=setC k o x j v :: (setI k o x (j+1) r++_)
  rw [setI_append r m (j+1),List.length_cons,show j+1+r.length=j+(r.length+1) by omega]
theorem setI_in {k:IntKind} {o:Nat} {x:Int}:∀ (l:List Int) (j:Nat),j≤o→o<j+l.length→setI k o x j (l.map (V.int k))=(l.set (o - j) x).map (V.int k)
 | [],j,h1,h2=>by
  simp only [List.length_nil] at h2
  omega
 | n :: r,j,h1,h2=>by
  simp only [List.length_cons] at h2
  show setC k o x j (.int k n) :: setI k o x (j+1) (r.map (V.int k))=_
  by_cases h:j=o
  ·subst h
   rw [setI_out _ _ (by omega),Nat.sub_self]
   show cond (decide (k=k)) (V.int k (cond (Nat.beq j j) x n)) (V.int k n) :: _=_
   rw [decide_eq_true rfl,Nat.beq_refl]
   rfl
  ·rw [setC_out h,setI_in r (j+1) (by omega) (by omega)]
   obtain ⟨d,hd⟩:∃ d,o - j=d+1:=⟨o - j - 1,by omega⟩
   rw [hd,show o - (j+1)=d by omega]
   rfl
theorem intAt_append {l m:List V}:∀ {o:Nat},l.length≤o→intAt (l++m) o=intAt m (o - l.length):=by
 induction l with
 | nil=>intro o _; rfl
 | cons v r ih =>
  intro o h
  simp only [List.length_cons] at h
  obtain ⟨d,rfl⟩:∃ d,o=d+1:=⟨o - 1,by omega⟩
  rw [List.length_cons,show d+1 - (r.length+1)=d - r.length by omega]
  exact ih (by omega)
theorem intAt_front {l m:List V}:∀ {o:Nat},o<l.length→intAt (l++m) o=intAt l o:=by
 induction l with
 | nil=>intro o h; exact absurd h (Nat.not_lt_zero _)
 | cons v r ih =>
  intro o h
  simp only [List.length_cons] at h
  cases o with
  | zero=>rfl
  | succ d=>exact ih (by omega)
theorem intAt_map {k:IntKind}:∀ {l:List Int} {o:Nat},intAt (l.map (V.int k)) o=l.getD o 0
 | [],_=>rfl
 | _ :: _,0=>rfl
 | _ :: r,d+1=>by
  show intAt (r.map (V.int k)) d=_
  rw [intAt_map]
  rfl
theorem isIntAt_row {k:IntKind} {l m:List V} {xs:List Int} {o:Nat} (h1:l.length≤o) (h2:o<l.length+xs.length):isIntAt k (l++(xs.map (V.int k)++m)) o=true:=by
 unfold isIntAt
 rw [List.getElem?_append_right h1,List.getElem?_append_left (by rw [List.length_map]; omega),List.getElem?_map,List.getElem?_eq_getElem (by omega)]
 exact decide_eq_true rfl
end Go.Ab

namespace Go.Ab
theorem mcall_in {P:Program} {f:Nat} {args:List V} {A B:List O} {pre post:List V} {e:TypeId} {k:IntKind} {lo hi m:Int} {v:V} {H' : List O} (h1:lo≤m) (h2:m<hi)
  (h:MCall P f args (rngH A pre (.rng k lo hi) post e B) (.ok v H')):MCall P f args (rngH A pre (.int k m) post e B) (.ok v H'):=by
 obtain ⟨hn,hc⟩:=h
 refine ⟨hn,fun w E β rargs hE hR hl hv=>?_⟩
 have eX:Xs E (rngH A pre (.int k m) post e B) β=Xs E (rngH A pre (.rng k lo hi) post e B) β:=rngH_X
 have hR' : Rel w (Xs E (rngH A pre (.rng k lo hi) post e B) β) (rngH A pre (.rng k lo hi) post e B) β:=by
  rw [← eX]
  refine rngH_rel hR fun loc c e' _ _ x _ hx=>?_
  cases hx
  exact .rng _ _ _ _ _ ⟨h1,h2⟩
 refine (hc w E β rargs ⟨fun b o hb=>⟨(hE.1 b o hb).1,fun ho=>(hE.1 b o hb).2 (rngH_own b o ho)⟩,by rw [← eX]; exact hE.2⟩ hR' hl (by rw [← eX]; exact hv)).mono ?_
 rintro ev w' ⟨y,β',rfl,st,hr⟩
 refine ⟨y,β',rfl,⟨st.rel,st.os,st.tape,st.output,st.size,fun b hb=>?_,fun b o ho=>?_,st.locs⟩,hr⟩
 ·rcases st.pres b hb with g | ⟨⟨o,g⟩,c1,c2,e3,q1,q2,q3,q4⟩ | ⟨⟨o,g⟩,q⟩
  ·exact .inl g
  ·exact .inr (.inl ⟨⟨o,rngH_own b o g⟩,c1,c2,e3,q1,q2,q3,fun o ho=>q4 o fun h=>ho (rngH_own b o h)⟩)
  ·exact .inr (.inr ⟨⟨o,rngH_own b o g⟩,q⟩)
 ·exact (st.own b o ho).imp (rngH_own b o) id
end Go.Ab

namespace Go.Ab
def GrowH (H:List O) (s:St):Prop:=(∃ v,s.1 = .panic v) ∨ ∃ N,s.2.2=H++N
theorem GrowH.trans {H N:List O} {s:St} (h:GrowH (H++N) s):GrowH H s:=by
 rcases h with h | ⟨M,h⟩
 ·exact .inl h
 ·exact .inr ⟨N++M,by rw [h,List.append_assoc]⟩
mutual
theorem ren_id {ρ:Nat→Option Nat} (h:∀ i j,ρ i=some j→j=i):∀ (v u:V),V.ren? ρ v=some u→u=v
 | .int _ _,u,e=>by simp only [V.ren?,Option.some.injEq] at e; subst e; rfl
 | .bool _,u,e=>by simp only [V.ren?,Option.some.injEq] at e; subst e; rfl
 | .str _,u,e=>by simp only [V.ren?,Option.some.injEq] at e; subst e; rfl
 | .val _,u,e=>by simp only [V.ren?,Option.some.injEq] at e; subst e; rfl
 | .pin _,u,e=>by simp only [V.ren?,Option.some.injEq] at e; subst e; rfl
 | .sl _ _ _ _,u,e=>by simp only [V.ren?,Option.some.injEq] at e; subst e; rfl
 | .any,u,e=>by simp only [V.ren?,Option.some.injEq] at e; subst e; rfl
 | .rng _ _ _,u,e=>by simp only [V.ren?,Option.some.injEq] at e; subst e; rfl
 | .gro id c l,u,e=>by
  unfold V.ren? at e
  split at e
  ·rename_i j hj; simp only [Option.some.injEq] at e; subst e; rw [h _ _ hj]
  ·cases e
 | .ptr id off,u,e=>by
  unfold V.ren? at e
  split at e
  ·rename_i j hj; simp only [Option.some.injEq] at e; subst e; rw [h _ _ hj]
  ·cases e
 | .ref id sz off len,u,e=>by
  unfold V.ren? at e
  split at e
  ·rename_i j hj; simp only [Option.some.injEq] at e; subst e; rw [h _ _ hj]
  ·cases e
 | .mp id,u,e=>by
  unfold V.ren? at e
  split at e
  ·rename_i j hj; simp only [Option.some.injEq] at e; subst e; rw [h _ _ hj]
  ·cases e
 | .agg cs,u,e=>by
  unfold V.ren? at e
  split at e
  ·rename_i ds hd; simp only [Option.some.injEq] at e; subst e; rw [rens_id h cs ds hd]
  ·cases e
 | .tup cs,u,e=>by
  unfold V.ren? at e
  split at e
  ·rename_i ds hd; simp only [Option.some.injEq] at e; subst e; rw [rens_id h cs ds hd]
  ·cases e
 | .ifc t v,u,e=>by
  unfold V.ren? at e
  split at e
  ·rename_i d hd; simp only [Option.some.injEq] at e; subst e; rw [ren_id h v d hd]
  ·cases e
 | .clo g a b,u,e=>by
  unfold V.ren? at e
  split at e
  ·rename_i d f hd hf; simp only [Option.some.injEq] at e; subst e; rw [rens_id h a d hd,rens_id h b f hf]
  ·cases e
theorem rens_id {ρ:Nat→Option Nat} (h:∀ i j,ρ i=some j→j=i):∀ (l m:List V),V.rens? ρ l=some m→m=l
 | [],m,e=>by simp only [V.rens?,Option.some.injEq] at e; subst e; rfl
 | v :: r,m,e=>by
  unfold V.rens? at e
  split at e
  ·rename_i d f hd hf; simp only [Option.some.injEq] at e; subst e; rw [ren_id h v d hd,rens_id h r f hf]
  ·cases e
end
section
variable {cx:Cx}
def qfunG (cx:Cx) (fn:Func) (args:List V) (H:List O):Tree V:=
 .req (Nat.ble args.length fn.ntmps) (.req ((rensO (fun i=>place i (List.range H.length++[])) H).isSome && noDup (List.range H.length++[])) ((mfun cx fn args H).bind fun r=>match r with
  | .ok (.int k n) _=>.leaf (.int k n)
  | _=>.fail))
end
end Go.Ab
