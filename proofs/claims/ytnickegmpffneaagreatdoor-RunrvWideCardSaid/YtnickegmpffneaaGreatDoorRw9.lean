/-
  runrv: the law Wide. Conditions: none.
-/
import Derived.Test.YtnickegmpffneaaGreatDoorRw8
import Derived.Test.YtnickegmpffneaaGreatDoorPk49
set_option linter.unusedVariables false
set_option linter.unusedSimpArgs false
namespace Go.Ra
open Go Go.Ab Go.Proofs
def encY:Ab.Spec:=fun args=>match args with
 | [.agg [.str nm,.int .i64 a,.int .i64 b,.int .i64 c,.int .i64 d,.int .i64 n]]=>.req (Cmp.encE (nm,a,b,c,d,n) == 0) (.leaf (.tup [.sl (.int .u8) (Cmp.encL (nm,a,b,c,d,n)) [] .full,.int .i64 0]))
 | _=>.fail
def wideY:Ab.Spec:=fun args=>match args with
 | [.agg [.str nm,.int .i64 a,.int .i64 b,.int .i64 c,.int .i64 d,.int .i64 n]]=>.req (Cmp.encE (nm,a,b,c,d,n) == 0) (.leaf (.tup [Rj.insV (Cmp.wideA (nm,a,b,c,d,n)),.int .i64 0]))
 | _=>.fail
def encN:Ab.Spec:=fun args=>match args with
 | [.agg [.str nm,.int .i64 a,.int .i64 b,.int .i64 c,.int .i64 d,.int .i64 n]]=>.req (!(Cmp.encE (nm,a,b,c,d,n) == 0)) (.leaf (.tup [.val (.slice none 0 0),.int .i64 (Cmp.encE (nm,a,b,c,d,n))]))
 | _=>.fail
theorem encY_ok:Sound Tryz.prog 16 encY:=by
 intro args out h
 unfold encY at h
 split at h
 rotate_left
 ·cases h
 obtain ⟨h1,h⟩:=req_run h
 refine Cmp.encodeS_ok _ _ ?_
 rw [← h]
 show (Tree.br _ _ _).run=_
 rw [h1]
 rfl
theorem encN_ok:Sound Tryz.prog 16 encN:=by
 intro args out h
 unfold encN at h
 split at h
 rotate_left
 ·cases h
 obtain ⟨h1,h⟩:=req_run h
 refine Cmp.encodeS_ok _ _ ?_
 rw [← h]
 show (Tree.br _ _ _).run=_
 rw [(Bool.not_eq_true' _).mp h1]
 rfl
theorem wideY_ok:Sound Tryz.prog 17 wideY:=by
 intro args out h
 unfold wideY at h
 split at h
 rotate_left
 ·cases h
 obtain ⟨h1,h⟩:=req_run h
 refine Cmp.wideAS_ok _ _ ?_
 rw [← h]
 show some (V.tup [_,.int .i64 (Cmp.encE _)])=_
 rw [eq_of_beq h1]
 rfl
noncomputable abbrev Bwy:Code:=bodyOf Tryz.f5
noncomputable def cxWn:Cx:={ P:=Tryz.prog,n:=Tryz.f5.ntmps,tab:=[(8,begunS),(16,encN),(17,Cmp.wideAS)],mtab:=[],refs:=[],keeps:=[0,1,2,3,4,6,7,8,9,10,11,12,13,15,16,17,18,19,20,21,22,24,27,30,47,91,98,133] }
noncomputable def cxWy (g:StFn) (f:OutFn):Cx:={ P:=Tryz.prog,n:=Tryz.f5.ntmps,tab:=[(8,begunS),(16,encY),(17,wideY)],mtab:=[(13,stpS g),(10,runS f),(11,worldD),(18,bytesM),(19,countM)],refs:=[],keeps:=[0,1,2,3,4,6,7,8,9,10,11,12,13,15,16,17,18,19,20,21,22,24,27,30,47,91,98,133],fuel:=6 }
def insO (i:InsR):O:=.cells [.str i.1,.int .i64 i.2.1,.int .i64 i.2.2.1,.int .i64 i.2.2.2.1,.int .i64 i.2.2.2.2.1,.int .i64 i.2.2.2.2.2] 35
abbrev wyA (s:CpuT) (i:InsR) (m:List Int):T:=initT 0 [.agg (tabS s).l,Rj.insV i,.sl (.int .u8) m [] .may]
def wnX (s:CpuT) (i:InsR) (m:List Int):Option St:=
 cond (decide (8192<((m.length:Nat):Int))) (some (.ret,[(6,.bool true)],[cpuO s,insO i])) (cond (!(Cmp.encE i == 0)) (cond (Cmp.encE i != Cmp.encE i) (some (.ret,[(6,.bool (Cmp.encE i == Cmp.encE i))],[cpuO s,insO i,insO (Cmp.wideA i)]))
  (cond (Cmp.encE i != 0) (some (.ret,[(6,.bool (Cmp.encE i == Cmp.encE i))],[cpuO s,insO i,insO (Cmp.wideA i)])) (some (.normal,[(6,.bool false)],[cpuO s,insO i,insO (Cmp.wideA i)])))) none)
theorem wn_head (s:CpuT) (i:InsR) (m:List Int):((dcode cxWn (headN 5 Bwy) (wyA s i m) []).bind (cutK [6])).fin=wnX s i m:=by kernel_rfl
def wyX (s:CpuT) (i:InsR) (m:List Int):Option St:=
 cond (decide (8192<((m.length:Nat):Int))) (some (.ret,[(2,.sl (.int .u8) m [] .may),(3,.ptr 0 0)],[cpuO s,insO i])) (cond (Cmp.encE i == 0) (cond (Cmp.encE i == 0)
  (some (.normal,[(2,.sl (.int .u8) m [] .may),(3,.ptr 0 0),(7,.sl (.int .u8) (Cmp.encL i) [] .full),(9,.ptr 2 0)],[cpuO s,insO i,insO (Cmp.wideA i)])) none) none)
theorem wy_head (g:StFn) (f:OutFn) (s:CpuT) (i:InsR) (m:List Int):((dcode (cxWy g f) (headN 5 Bwy) (wyA s i m) []).bind (cutK [2,3,7,9])).fin=wyX s i m:=by kernel_rfl
theorem wy_ret0 (g:StFn) (f:OutFn) (s:CpuT) (i:InsR) (m:List Int):((dcode (cxWy g f) (headN 5 Bwy) (wyA s i m) []).bind (cutK [6])).fin =
  cond (decide (8192<((m.length:Nat):Int))) (some (.ret,[(6,.bool true)],[cpuO s,insO i])) (cond (Cmp.encE i == 0) (cond (Cmp.encE i == 0) (some (.normal,[(6,.bool false)],[cpuO s,insO i,insO (Cmp.wideA i)])) none) none):=by kernel_rfl
theorem wy_ret (g:StFn) (f:OutFn) (s:CpuT) (i:InsR) (m:List Int) (h:decide (8192<((m.length:Nat):Int))=true) :
  (dcode (cxWy g f) (headN 5 Bwy) (wyA s i m) []).run.map (fun s=>(s.1,keep [6] s.2.1,s.2.2))=some (.ret,[(6,.bool true)],[cpuO s,insO i]):=by
 rw [← cutK_run,← Tree.fin_run,wy_ret0,h]
 rfl
def bothAt (k:Nat) (A B C D E:List Int):List O:=[.cells [.bool true,.mp (k+1)] 64,.obj (.map [1,2,16,17,32]) [.ptr (k+2) 0,.ptr (k+3) 0,.ptr (k+4) 0,.ptr (k+5) 0,.ptr (k+6) 0],wdPg 5 A,wdPg 5 B,wdPg 6 C,wdPg 6 D,wdPg 4 E,
 .cells [.ref (k+8) 3 0 5,lastV] 52,.cells (wRow 1 5 (k+9)++(wRow 2 5 (k+10)++(wRow 16 6 (k+11)++(wRow 17 6 (k+12)++wRow 32 4 (k+13))))) 0,newPg A,newPg B,newPg C,newPg D,newPg E]
def pcO (s:CpuT):O:=.cells (CpuT.l ⟨4096,(tabS s).x,s.z,s.n,s.c,s.v,s.th⟩) 26
def wwX (s:CpuT) (i:InsR) (l m:List Int):Option St:=
 cond (setB l && setB m) (cond (setB l && setB m) (some (.normal,[(3,.ptr 0 0),(9,.ptr 2 0),(11,.ptr 3 0),(12,.ptr 10 0),(13,.ptr 17 0)],[pcO s,insO i,insO (Cmp.wideA i)]++(bothAt 3 (wdK 1 l m zeros) (wdK 2 l m zeros) (wdK 16 l m zeros) (wdK 17 l m zeros) (wdK 32 l m zeros) ++
  bothAt 17 (wdK 1 l m zeros) (wdK 2 l m zeros) (wdK 16 l m zeros) (wdK 17 l m zeros) (wdK 32 l m zeros)))) none) none
theorem ww_head (g:StFn) (f:OutFn) (s:CpuT) (i:InsR) (l m:List Int):((dcode (cxWy g f) (headN 2 (tailN 5 Bwy)) [(2,.sl (.int .u8) m [] .may),(3,.ptr 0 0),(7,.sl (.int .u8) l [] .full),(9,.ptr 2 0)] [cpuO s,insO i,insO (Cmp.wideA i)]).bind (cutK [3,9,11,12,13])).fin=wwX s i l m:=by kernel_rfl
def pgOk2 (L K:Bool) (A B:List Int) (r:Option V):Option V:=
 cond (true && L) (cond (true && K) (cond (true && (true && Nat.ble 4096 A.length)) (cond (true && (true && Nat.ble 4096 B.length)) (cond (!(strEq (strP A) (strP B))) (some (.bool false)) r) none) none) none) none
def wpS (s:CpuT):CpuT:=⟨4096,(tabS s).x,s.z,s.n,s.c,s.v,s.th⟩
def wzX (g:StFn) (f:OutFn) (s:CpuT) (w:InsR) (A B C D E:List Int):Option V:=
 let o:=g (wpS s) A B C D E
 let u:=runI f w 2 (wpS s) A B C D E
 let L:=lens5 o.A o.B o.C o.D o.E
 let K:=lens5 u.A u.B u.C u.D u.E
 cond (true && lens5 A B C D E) (cond (fineB (wpS s)) (cond (true && lens5 A B C D E) (cond (fineB (wpS s)) (cond (!(eqS (tabS o.s) (tabS u.s))) (some (.bool false)) (cond (o.ev != u.ev) (some (.bool false)) (cond (o.err != u.err) (some (.bool false))
  (pgOk2 L K o.A u.A (pgOk2 L K o.B u.B (pgOk2 L K o.C u.C (pgOk2 L K o.D u.D (pgOk2 L K o.E u.E (cond (true && L) (cond (true && K) (some (.bool true)) none) none)))))))))
  none) none) none) none
noncomputable def wzE (g:StFn) (f:OutFn) (s:CpuT) (i w:InsR) (A B C D E:List Int):Option V:=
 ((dcode (cxWy g f) (tailN 2 (tailN 5 Bwy)) [(3,.ptr 0 0),(9,.ptr 2 0),(11,.ptr 3 0),(12,.ptr 10 0),(13,.ptr 17 0)] ([pcO s,insO i,insO w]++(bothAt 3 A B C D E++bothAt 17 A B C D E))).bind (answer Tryz.prog Tryz.f5.results.toList)).fin
theorem wz_eq (g:StFn) (f:OutFn) (s:CpuT) (i w:InsR) (A B C D E:List Int):wzE g f s i w A B C D E=wzX g f s w A B C D E:=by kernel_rfl
theorem pgOk2_true {A:List Int} (hA:A.length=4096) (r:Option V):pgOk2 true true A A r=r:=by
 unfold pgOk2
 have e:strEq (strP A) (strP A)=true:=beq_self_eq_true _
 rw [e,hA]
 rfl
theorem wpS_fine {s:CpuT} (h:Fine s):Fine (wpS s):=by
 have hts:tabS s=s:=cpu_tab h.len
 unfold wpS
 rw [hts]
 exact ⟨h.len,h.rng,rfl⟩
theorem wzX_true {g:StFn} {f:OutFn} (hg:GOk g) {s:CpuT} {w:InsR} {A B C D E:List Int} (hs:Fine s) (hl:lens5 A B C D E=true) (he:g (wpS s) A B C D E=runI f w 2 (wpS s) A B C D E):wzX g f s w A B C D E=some (.bool true):=by
 have hp:=wpS_fine hs
 obtain ⟨f1,f2⟩:=hg (wpS s) A B C D E hp hl
 unfold wzX
 dsimp only
 rw [← he,hl,fineB_of hp]
 generalize g (wpS s) A B C D E=o at f1 f2
 obtain ⟨l1,l2,l3,l4,l5⟩:=lens5_spec f2
 rw [f2,eqS_self,bne_self_eq_false,bne_self_eq_false,pgOk2_true l1,pgOk2_true l2,pgOk2_true l3,pgOk2_true l4,pgOk2_true l5]
 rfl
theorem cxWn_ok:CxOk cxWn:=⟨.cons begunS_ok (.cons encN_ok (ok1 Cmp.wideAS_ok)),(fun p h=>by cases h),.nil _,fun p h=>by cases h⟩
theorem cxWy_ok {g:StFn} {f:OutFn} (h1:MSound Tryz.prog 13 (stpS g)) (h2:MSound Tryz.prog 10 (runS f)):CxOk (cxWy g f):=
 ⟨.cons begunS_ok (.cons encY_ok (ok1 wideY_ok)),.cons h1 (.cons h2 (.cons worldD_ok (.cons bytesM_ok (.cons countM_ok (.nil _))))),.nil _,fun p h=>by cases h⟩
abbrev wPost (e:AEx) (t:T) (H:List O):Prop:=(e = .ret∨e = .normal)∧answerV Tryz.prog Tryz.f5.results.toList H t=some (.bool true)
theorem ret_post {P:Program} {n:Nat} {c:Code} {s:St} {H:List O} (h:(s.1,keep [6] s.2.1,s.2.2)=(AEx.ret,[(6,V.bool true)],H)):seqQ (AWP P n c wPost) wPost s.1 s.2.1 s.2.2:=by
 obtain ⟨e,t,H'⟩:=s
 simp only [Prod.mk.injEq] at h
 obtain ⟨rfl,h2,rfl⟩:=h
 refine ⟨.inl rfl,?_⟩
 have h6:get 6 t = .bool true:=by
  have h3:get 6 (keep [6] t) = .bool true:=by rw [h2]; rfl
  rcases get_keep [6] 6 t with h | h
  ·rw [← h,h3]
  ·rw [h3] at h
   cases h
 show (match ((some (get 6 t :: [])).bind V.pures?) with | some [v]=>some v | some vs=>some (.tup vs) | none=>none)=_
 rw [h6]
 rfl
set_option maxRecDepth 8000 in
theorem wide_law {f:OutFn} (hf:FOk f) (h2:MSound Tryz.prog 10 (runS f)) {s:CpuT} (hs:Fine s) (i:InsR) {m:List Int} (h4:m.all byteB=true) :
  PCall Tryz.prog 5 [.agg s.l,Rj.insV i,.sl (.int .u8) m [] .may] (.bool true):=by
 have hts:tabS s=s:=cpu_tab hs.len
 rw [← hts]
 refine pcall_of' (c:=Bwy) (fn:=Tryz.f5) (by kernel_rfl) (by kernel_rfl) (by kernel_rfl) (by kernel_rfl) ?_
 show AWP Tryz.prog 139 Bwy wPost _ _
 cases hE:Cmp.encE i == 0
 ·have hh:=wn_head s i m
  unfold wnX at hh
  rw [hE,beq_self_eq_true,bne_self_eq_false,show (Cmp.encE i != 0)=true by rw [bne,hE]; rfl] at hh
  simp only [Bool.not_false,cond_true,cond_false] at hh
  rw [Tree.fin_run,cutK_run] at hh
  have key:∃ s' : St,(dcode cxWn (headN 5 Bwy) (wyA s i m) []).run=some s' ∧ ∃ H,(s'.1,keep [6] s'.2.1,s'.2.2)=(AEx.ret,[(6,V.bool true)],H):=by
   cases hm:decide (8192<((m.length:Nat):Int))
   ·rw [hm,cond_false] at hh
    obtain ⟨s',q1,q2⟩:=Option.map_eq_some_iff.1 hh
    exact ⟨s',q1,_,q2⟩
   ·rw [hm,cond_true] at hh
    obtain ⟨s',q1,q2⟩:=Option.map_eq_some_iff.1 hh
    exact ⟨s',q1,_,q2⟩
  obtain ⟨s',q1,H,q2⟩:=key
  exact AWP_head (cx:=cxWn) rfl rfl cxWn_ok 5 Bwy wPost _ _ (by kernel_rfl) (Tree.run_all q1 (ret_post q2))
 have hg:=stG_ok hf
 have hok:=cxWy_ok (stpS_ok h2) h2
 have hh:=wy_head (stG f) f s i m
 unfold wyX at hh
 rw [hE,Tree.fin_run,cutK_run] at hh
 simp only [cond_true] at hh
 cases hm:decide (8192<((m.length:Nat):Int))
 rotate_left
 ·rw [hm,cond_true] at hh
  have hn:(dcode cxWn (headN 5 Bwy) (wyA s i m) []).run=(dcode cxWn (headN 5 Bwy) (wyA s i m) []).run:=rfl
  clear hn
  obtain ⟨s',q1,q2⟩:=Option.map_eq_some_iff.1 hh
  refine AWP_head (cx:=cxWy (stG f) f) rfl rfl hok 5 Bwy wPost _ _ (by kernel_rfl) (Tree.run_all q1 ?_)
  have h6:=wy_ret (stG f) f s i m hm
  rw [q1] at h6
  exact ret_post (Option.some.inj h6)
 rw [hm,cond_false] at hh
 have hx:=of_decide_eq_false hm
 obtain ⟨s',q1,q2⟩:=Option.map_eq_some_iff.1 hh
 refine AWP_head (cx:=cxWy (stG f) f) rfl rfl hok 5 Bwy wPost _ _ (by kernel_rfl) (Tree.run_all q1 ?_)
 obtain ⟨e,t,H⟩:=s'
 simp only [Prod.mk.injEq] at q2
 obtain ⟨rfl,q2,rfl⟩:=q2
 show AWP _ _ _ _ _ _
 refine AWP.less (s:=[(2,.sl (.int .u8) m [] .may),(3,.ptr 0 0),(7,.sl (.int .u8) (Cmp.encL i) [] .full),(9,.ptr 2 0)]) (q2 ▸ TLe.keep _ _) ?_
 have b1:setB (Cmp.encL i)=true:=setB_enc
 have b2:setB m=true:=by
  unfold setB
  rw [h4,decide_eq_true (by omega)]
  rfl
 have hw:=ww_head (stG f) f s i (Cmp.encL i) m
 unfold wwX at hw
 rw [b1,b2,Bool.and_self,cond_true,cond_true,Tree.fin_run,cutK_run] at hw
 obtain ⟨s',q1,q2⟩:=Option.map_eq_some_iff.1 hw
 refine AWP_head (cx:=cxWy (stG f) f) rfl rfl hok 2 (tailN 5 Bwy) wPost _ _ (by kernel_rfl) (Tree.run_all q1 ?_)
 obtain ⟨e,t,H⟩:=s'
 simp only [Prod.mk.injEq] at q2
 obtain ⟨rfl,q2,rfl⟩:=q2
 show AWP _ _ _ _ _ _
 refine AWP.less (s:=[(3,.ptr 0 0),(9,.ptr 2 0),(11,.ptr 3 0),(12,.ptr 10 0),(13,.ptr 17 0)]) (q2 ▸ TLe.keep _ _) ?_
 have hl:=lens5_wd b1 b2 lens_zeros
 have hp1:wdK 1 (Cmp.encL i) m zeros=(zeros.set 0 ((Cmp.encL i).getD 0 0)).set 1 ((Cmp.encL i).getD 1 0):=page1 _ _ (by omega)
 have hst:stG f (wpS s) (wdK 1 (Cmp.encL i) m zeros) (wdK 2 (Cmp.encL i) m zeros) (wdK 16 (Cmp.encL i) m zeros) (wdK 17 (Cmp.encL i) m zeros) (wdK 32 (Cmp.encL i) m zeros) =
   runI f (Cmp.wideA i) 2 (wpS s) (wdK 1 (Cmp.encL i) m zeros) (wdK 2 (Cmp.encL i) m zeros) (wdK 16 (Cmp.encL i) m zeros) (wdK 17 (Cmp.encL i) m zeros) (wdK 32 (Cmp.encL i) m zeros):=by
  have e1:fetL (wdK 1 (Cmp.encL i) m zeros) (wdK 2 (Cmp.encL i) m zeros) (wdK 16 (Cmp.encL i) m zeros) (wdK 17 (Cmp.encL i) m zeros) (wdK 32 (Cmp.encL i) m zeros) 4096=Cmp.encL i++[0,0]:=by
   rw [hp1,fet_code]
   rfl
  unfold stG
  show cond (Nat.beq (fetN 4096) 0) _ (stL f (fetL _ _ _ _ _ 4096) _ _ _ _ _ _)=_
  rw [e1,stL_code hE]
  rfl
 generalize wdK 1 (Cmp.encL i) m zeros=A at hl hst
 generalize wdK 2 (Cmp.encL i) m zeros=B at hl hst
 generalize wdK 16 (Cmp.encL i) m zeros=C at hl hst
 generalize wdK 17 (Cmp.encL i) m zeros=D at hl hst
 generalize wdK 32 (Cmp.encL i) m zeros=E at hl hst
 have he:=(wz_eq (stG f) f s i (Cmp.wideA i) A B C D E).trans (wzX_true hg hs hl hst)
 unfold wzE at he
 rw [Tree.fin_run] at he
 obtain ⟨r,q1,q2⟩:=bind_run he
 exact AWP_run (cx:=cxWy (stG f) f) rfl rfl hok q1 (answer_post q2)
theorem argW (x:EC.tys [cpuE,insE,.sl (.int .u8)]):argVs [cpuE,insE,.sl (.int .u8)] x=[.agg (cpuA x.1).l,Rj.insV x.2.1,.sl (.int .u8) (x.2.2.getD []) [] .may]:=by kernel_rfl
theorem wide_call (x:EC.tys [cpuE,insE,.sl (.int .u8)]) (h:okEs [cpuE,insE,.sl (.int .u8)] x):PCall Tryz.prog 5 (argVs [cpuE,insE,.sl (.int .u8)] x) (.bool true):=by
 rw [argW]
 exact wide_law outA_ok runA_ok (cpuA_fine h.1) _ (ok_bytes h.2.2)
end Go.Ra
