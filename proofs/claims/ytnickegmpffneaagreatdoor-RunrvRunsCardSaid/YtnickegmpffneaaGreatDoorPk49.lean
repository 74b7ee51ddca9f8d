/-
  runrv: Run of the program and of the document: one answer, told by both specs. Conditions: none.
-/
import Derived.Test.YtnickegmpffneaaGreatDoorPk41
import Derived.Test.YtnickegmpffneaaGreatDoorPk48
import Derived.Test.YtnickegmpffneaaGreatDoorPk47
import Derived.Test.YtnickegmpffneaaGreatDoorPk12
import Derived.Test.YtnickegmpffneaaGreatDoorPk44
import Derived.Test.YtnickegmpffneaaGreatDoorPk35
import Derived.Test.YtnickegmpffneaaGreatDoorPk23
set_option linter.unusedVariables false
set_option linter.unusedSimpArgs false
namespace Go.Ra
open Go Go.Ab Go.Proofs Go.Rj
def IsOut (s:CpuT) (r g:Option Res) (o:Out):Prop:=Fine o.s∧lens5 o.A o.B o.C o.D o.E=true∧(o.err ≠ 0→o.s=s∧o.ev=0) ∧
 r=some (.ok (.tup [.agg o.s.l,.int .i64 o.ev,.int .i64 o.err]) (memO o.A o.B o.C o.D o.E))∧g=some (.ok (.tup [.agg o.s.l,.int .i64 o.ev,.int .i64 o.err]) (refO o.A o.B o.C o.D o.E))
noncomputable def runP (nm:List UInt8):RunTy:=cond (fok nm) (runE mbF nm) (runNE mbF nm)
noncomputable def refP (ck:InsR→Int) (wd:Int→Int→Int × Int) (nm:List UInt8):RunTy:=cond (fok nm) (runR ck wd nm) (runRN ck wd nm)
noncomputable def outF (ck:InsR→Int) (wd:Int→Int→Int × Int):OutFn:=fun nm s a b c d m sz A B C D E =>
 Classical.epsilon (IsOut s (runP nm s a b c d m sz A B C D E) (refP ck wd nm s a b c d m sz A B C D E))
theorem names_in:rowsL.all (fun r=>rowsR.any fun x=>strEq x.1 r.1)=true:=by kernel_rfl
theorem rowsR_mem {nm:List UInt8} (h:fok nm=true):∃ x ∈ rowsR,x.1=nm:=by
 unfold fok findL at h
 obtain ⟨r,hr⟩:=Option.isSome_iff_exists.1 h
 have h1:=List.find?_some hr
 have e:r.1=nm:=eq_of_beq h1
 obtain ⟨x,hx,h2⟩:=List.any_eq_true.1 (List.all_eq_true.1 names_in _ (List.mem_of_find?_eq_some hr))
 exact ⟨x,hx,(eq_of_beq h2).trans e⟩
theorem encE_no {nm:List UInt8} (h:fok nm=false) (a b c d m:Int):encE (nm,a,b,c,d,m)=7:=by
 unfold encE
 simp only [h]
 rfl
theorem out_is {ck:InsR→Int} {wd:Int→Int→Int × Int} (hck:∀ i,ck i=encE i) (hw:WdOk wd) (nm:List UInt8) {s:CpuT} (hs:Fine s) (a b c d m sz:Int) {A B C D E:List Int} (hl:lens5 A B C D E=true) :
  IsOut s (runP nm s a b c d m sz A B C D E) (refP ck wd nm s a b c d m sz A B C D E) (outF ck wd nm s a b c d m sz A B C D E):=by
 refine Classical.epsilon_spec (p:=IsOut s (runP nm s a b c d m sz A B C D E) (refP ck wd nm s a b c d m sz A B C D E)) ?_
 have key:Both s (runP nm s a b c d m sz A B C D E) (refP ck wd nm s a b c d m sz A B C D E):=by
  unfold runP refP
  cases hf:fok nm
  ·rw [cond_false,cond_false,W_of (runN_eq mbF nm) hs.len,W_of (refN_eq ck wd nm) hs.len]
   unfold topN topGN topN1 topGN1
   have e7:=encE_no hf a b c d m
   have e1:mbF (nm,a,b,c,d,m)=false:=by
    unfold mbF
    rw [e7]
    rfl
   have e2:(ck (nm,a,b,c,d,m) == 7)=true:=by
    rw [hck,e7]
    rfl
   rw [e1,e2]
   cases sz != 2
   ·exact both_err hs 22 hl
   cases sz != 4
   ·exact both_err hs 22 hl
   ·exact both_err hs 1 hl
  ·obtain ⟨x,hx,rfl⟩:=rowsR_mem hf
   rw [cond_true,cond_true,W_of (run_all mbF x hx) hs.len]
   obtain ⟨y,hy,e,h⟩:=top_alike mbF ck wd (fun _=>rfl) (fun i=>by rw [hck]; rfl) hw x hx
   rw [e,W_of (ref_all ck wd y hy) hs.len,← e]
   have h:=h s a b c d m sz A B C D E hs hl
   rw [← e] at h
   exact h
 obtain ⟨s',ev,err,A',B',C',D',E',h1,h2,h3,h4,h5⟩:=key
 exact ⟨⟨s',ev,err,A',B',C',D',E'⟩,h1,h2,h3,h4,h5⟩
def runS (f:OutFn):MSpec:=fun args H=>match args with
 | [.agg cs,.agg [.str nm,.int .i64 a,.int .i64 b,.int .i64 c,.int .i64 d,.int .i64 m],.int .i64 sz,.ptr 0 0]=>match cpuOf cs with
  | some s=>memM (fun A B C D E=>.req (fineB s) (.leaf (.ok (outV (f nm s a b c d m sz A B C D E)) (memO (f nm s a b c d m sz A B C D E).A (f nm s a b c d m sz A B C D E).B (f nm s a b c d m sz A B C D E).C (f nm s a b c d m sz A B C D E).D (f nm s a b c d m sz A B C D E).E)))) H
  | none=>.fail
 | _=>.fail
def refS (f:OutFn):MSpec:=fun args H=>match args with
 | [.agg cs,.agg [.str nm,.int .i64 a,.int .i64 b,.int .i64 c,.int .i64 d,.int .i64 m],.int .i64 sz,.ptr 0 0]=>match cpuOf cs with
  | some s=>refM (fun A B C D E=>.req (fineB s) (.leaf (.ok (outV (f nm s a b c d m sz A B C D E)) (refO (f nm s a b c d m sz A B C D E).A (f nm s a b c d m sz A B C D E).B (f nm s a b c d m sz A B C D E).C (f nm s a b c d m sz A B C D E).D (f nm s a b c d m sz A B C D E).E)))) H
  | none=>.fail
 | _=>.fail
theorem cxRunN_ok:CxOk (cxRunN mbF):=⟨.cons mayN_ok (ruT_ok mayP_ok 4).1,(ruT_ok mayP_ok 4).2⟩
theorem cxRgN_ok {ck:InsR→Int} {wd:Int→Int→Int × Int} (hc:Sound Tryz.prog 41 (ckP ck)) (hw:Sound Tryz.prog 159 (wdP wd)) (hn:Sound Tryz.prog 41 (ckN ck)):CxOk (cxRgN ck wd):=
 ⟨.cons hn (rgT_ok hc hw 3).1,(rgT_ok hc hw 3).2⟩
theorem ckN_ok {ck:InsR→Int} (hc:Sound Tryz.prog 41 (ckP ck)):Sound Tryz.prog 41 (ckN ck):=by
 intro args out h
 unfold ckN at h
 split at h
 rotate_left
 ·cases h
 obtain ⟨h1,h2⟩:=req_run h
 refine hc _ _ ?_
 rw [← h2]
 show some (V.int .i64 (ck _))=_
 rw [beq_iff_eq.1 h1]
 rfl
section
variable {ck:InsR→Int} {wd:Int→Int→Int × Int} (hck:∀ i,ck i=encE i) (hw:WdOk wd)
include hck hw
theorem runS_ok:MSound Tryz.prog 10 (runS (outF ck wd)):=by
 intro args H out h
 unfold runS at h
 split at h
 rotate_left
 ·cases h
 rename_i cs nm a b c d m sz
 split at h
 rotate_left
 ·cases h
 rename_i s hs
 obtain ⟨A,B,C,D,E,rfl,hl,h⟩:=memM_run h
 obtain ⟨hf,h⟩:=req_run h
 cases h
 obtain ⟨rfl,e2⟩:=cpuOf_spec hs
 have hF:=fine_of e2 hf
 obtain ⟨o1,_,_,o4,_⟩:=out_is hck hw nm hF a b c d m sz hl
 have et:tabS (outF ck wd nm s a b c d m sz A B C D E).s=(outF ck wd nm s a b c d m sz A B C D E).s:=cpu_tab o1.len
 unfold outV
 rw [et]
 unfold runP at o4
 cases hk:fok nm
 ·rw [hk,cond_false] at o4
  refine mfunR_ok (cx:=cxRunN mbF) (fn:=Tryz.f10) [] (cxRunN_ok) (by kernel_rfl) (by kernel_rfl) _ _ _ ?_
  rw [← Tree.fin_run]
  exact o4
 ·rw [hk,cond_true] at o4
  refine runG_ok mayP_ok _ _ _ ?_
  rw [← Tree.fin_run]
  exact o4
theorem refS_ok (hc' : Sound Tryz.prog 41 (ckP ck)) (hw' : Sound Tryz.prog 159 (wdP wd)) (hn:Sound Tryz.prog 41 (ckN ck)):MSound Tryz.prog 20 (refS (outF ck wd)):=by
 intro args H out h
 unfold refS at h
 split at h
 rotate_left
 ·cases h
 rename_i cs nm a b c d m sz
 split at h
 rotate_left
 ·cases h
 rename_i s hs
 obtain ⟨A,B,C,D,E,rfl,hl,h⟩:=refM_run h
 obtain ⟨hf,h⟩:=req_run h
 cases h
 obtain ⟨rfl,e2⟩:=cpuOf_spec hs
 have hF:=fine_of e2 hf
 obtain ⟨o1,_,_,_,o4⟩:=out_is hck hw nm hF a b c d m sz hl
 have et:tabS (outF ck wd nm s a b c d m sz A B C D E).s=(outF ck wd nm s a b c d m sz A B C D E).s:=cpu_tab o1.len
 unfold outV
 rw [et]
 unfold refP at o4
 cases hk:fok nm
 ·rw [hk,cond_false] at o4
  refine mfunR_ok (cx:=cxRgN ck wd) (fn:=Tryz.f20) [] (cxRgN_ok hc' hw' hn) (by kernel_rfl) (by kernel_rfl) _ _ _ ?_
  rw [← Tree.fin_run]
  exact o4
 ·rw [hk,cond_true] at o4
  refine runR_ok hc' hw' _ _ _ ?_
  rw [← Tree.fin_run]
  exact o4
end
theorem ckX_ok:Sound Tryz.prog 41 (ckP checkX):=by
 intro args out h
 unfold ckP at h
 split at h
 rotate_left
 ·cases h
 exact checkS_ok _ _ h
noncomputable def outA:OutFn:=outF checkX wdF
theorem runA_ok:MSound Tryz.prog 10 (runS outA):=runS_ok check_eq wdF_wide
theorem refA_ok:MSound Tryz.prog 20 (refS outA):=refS_ok check_eq wdF_wide ckX_ok wdF_ok (ckN_ok ckX_ok)
theorem outA_is (nm:List UInt8) {s:CpuT} (hs:Fine s) (a b c d m sz:Int) {A B C D E:List Int} (hl:lens5 A B C D E=true) :
  IsOut s (runP nm s a b c d m sz A B C D E) (refP checkX wdF nm s a b c d m sz A B C D E) (outA nm s a b c d m sz A B C D E):=out_is check_eq wdF_wide nm hs a b c d m sz hl
end Go.Ra

namespace Go.Ra
open Go Go.Ab Go.Proofs
noncomputable def myB:Tabs:={ mtab:=[(19,countM),(47,rightsM),(18,bytesM)] }
theorem myB_ok:myB.Ok Tryz.prog:=⟨.nil _,.cons countM_ok (.cons rightsM_ok (.cons bytesM_ok fun p h=>by cases h)),.nil _,fun p h=>by cases h⟩
noncomputable def myT_ps:List Fi:=[]
theorem myT_ps_ok:FisOk Tryz.prog myT_ps:=trivial
noncomputable def myT_ms:List Fi:=[⟨21,Tryz.f21,[0,1,4,5,6,7,8,16,23,40,44,62],[],6,[]⟩]
theorem myT_ms_ok:FisOk Tryz.prog myT_ms:=⟨⟨by kernel_rfl,by kernel_rfl⟩,trivial⟩
noncomputable def myT (d:Nat):Tabs:=deep Tryz.prog myB myT_ps myT_ms d
theorem myT_ok (d:Nat):(myT d).Ok Tryz.prog:=deep_ok myB_ok myT_ps_ok myT_ms_ok d
def bothA (A B C D E:List Int):List O:=[.cells [.bool true,.mp 2] 64,.obj (.map [1,2,16,17,32]) [.ptr 3 0,.ptr 4 0,.ptr 5 0,.ptr 6 0,.ptr 7 0],wdPg 5 A,wdPg 5 B,wdPg 6 C,wdPg 6 D,wdPg 4 E,
 .cells [.ref 9 3 0 5,lastV] 52,.cells (wRow 1 5 10++(wRow 2 5 11++(wRow 16 6 12++(wRow 17 6 13++wRow 32 4 14)))) 0,newPg A,newPg B,newPg C,newPg D,newPg E]
def cpuO (s:CpuT):O:=.cells (tabS s).l 26
def rnH (s t:CpuT) (A B C D E:List Int):List O:=cpuO s :: (bothA A B C D E++[cpuO t])
noncomputable def cxRn (f:OutFn):Cx:={ P:=Tryz.prog,n:=Tryz.f6.ntmps,tab:=[(8,begunS)],mtab:=(10,runS f) :: (20,refS f) :: (11,worldD) :: (myT 1).mtab,rtab:=(myT 1).rtab,still:=[10,20],refs:=[],keeps:=[0,1,2,3,4,8,9,10,11,12,13,14,15,16,17,18,20,23,37,76] }
noncomputable abbrev Brn:Code:=bodyOf Tryz.f6
abbrev insE:EC:=.prod [.str,.int .i64,.int .i64,.int .i64,.int .i64,.int .i64]
abbrev insA (l:List insE.ty) (k:Int):insE.ty:=l.getD k.toNat insE.dflt
def rnT (l:List insE.ty) (n k:Int):T:=[(1,.sl insE l [] .may),(2,.int .i64 n),(4,.ptr 0 0),(9,.ptr 1 0),(10,.ptr 8 0),(11,.ptr 15 0),(12,.int .i64 k)]
def stopR (l:List insE.ty) (n k:Int) (s:CpuT) (o:Out):Tree St:=.leaf (.ret,rnT l n k,rnH s s o.A o.B o.C o.D o.E)
def rnRound (f:OutFn) (l:List insE.ty) (n k:Int) (s:CpuT) (A B C D E:List Int):Tree St:=
 .br (decide (k<(l.length:Nat))) (.br (decide (k<80)) (.br (inside k l.length) (.br (true && lens5 A B C D E) (.br (fineB (tabS s)) (.br (inside k l.length) (.br (true && (true && (true && lens5 A B C D E))) (.br (fineB (tabS s))
  (let o:=f (insA l k).1 (tabS s) (insA l k).2.1 (insA l k).2.2.1 (insA l k).2.2.2.1 (insA l k).2.2.2.2.1 (insA l k).2.2.2.2.2 n A B C D E
  .br (!(eqS (tabS o.s) (tabS o.s))) (stopR l n k s o) (.br (o.ev != o.ev) (stopR l n k s o) (.br (o.err != o.err) (stopR l n k s o) (.leaf (.normal,rnT l n (IntKind.wrap .i64 (k+1)),rnH o.s o.s o.A o.B o.C o.D o.E))))) .fail) .fail) .fail) .fail) .fail) .fail)
  (.leaf (.exit 0,rnT l n k,rnH s s A B C D E))) (.leaf (.exit 0,rnT l n k,rnH s s A B C D E))
theorem rnRound_eq (f:OutFn) (l:List insE.ty) (n k:Int) (s:CpuT) (A B C D E:List Int) :
  ((dcode (cxRn f) (cin (cin (c2 (c1 (tailN 4 Brn))))) (rnT l n k) (rnH s s A B C D E)).bind (rnd 16 [] [1,2,4,9,10,11,12])).run=(rnRound f l n k s A B C D E).run:=
 (show _=(rnRound f l n k s A B C D E).out by kernel_rfl).trans (Tree.out_run _)
def rnA (s:CpuT) (l:List insE.ty) (n:Int) (m:List Int) (t:T):T:=(0,.agg (tabS s).l) :: (1,.sl insE l [] .may) :: (2,.int .i64 n) :: (3,.sl (.int .u8) m [] .may) :: (4,.ptr 0 0) :: t
def rnHead (s:CpuT) (l:List insE.ty) (n:Int) (m:List Int):Tree St:=
 .br (decide (8192<((m.length:Nat):Int))) (.leaf (.ret,rnA s l n m [(8,.bool true),(20,.bool false),(23,.bool true)],[cpuO s])) (.br (true && setB m) (.leaf (.normal,rnA s l n m [(8,.bool false),(9,.ptr 1 0),(10,.ptr 8 0),(11,.ptr 15 0),(20,.bool false),(23,.bool false)],
  rnH s s (wdK 1 [] m zeros) (wdK 2 [] m zeros) (wdK 16 [] m zeros) (wdK 17 [] m zeros) (wdK 32 [] m zeros))) .fail)
theorem rn_head (f:OutFn) (s:CpuT) (l:List insE.ty) (n:Int) (m:List Int):(dcode (cxRn f) (headN 4 Brn) (initT 0 [.agg (tabS s).l,.sl insE l [] .may,.int .i64 n,.sl (.int .u8) m [] .may]) []).run=(rnHead s l n m).run:=
 (show _=(rnHead s l n m).out by kernel_rfl).trans (Tree.out_run _)
theorem rn_start (f:OutFn) (l:List insE.ty) (n:Int) (H:List O):((dcode (cxRn f) (c1 (c1 (tailN 4 Brn))) [(1,.sl insE l [] .may),(2,.int .i64 n),(4,.ptr 0 0),(9,.ptr 1 0),(10,.ptr 8 0),(11,.ptr 15 0)] H).bind (cutK [1,2,4,9,10,11,12])).run=some (.normal,rnT l n 0,H):=by kernel_rfl
noncomputable def rnEnd (f:OutFn) (s:CpuT) (A B C D E:List Int):Option V:=((dcode (cxRn f) (tailN 5 Brn) [(9,.ptr 1 0),(10,.ptr 8 0)] (rnH s s A B C D E)).bind (answer Tryz.prog Tryz.f6.results.toList)).fin
def strP (l:List Int):List UInt8:=(List.take 4096 (List.drop 0 l)).map fun n=>UInt8.ofNat n.toNat
def pgOk (L:Bool) (A:List Int) (r:Option V):Option V:=
 cond (true && L) (cond (true && L) (cond (true && (true && Nat.ble 4096 A.length)) (cond (true && (true && Nat.ble 4096 A.length)) (cond (!(strEq (strP A) (strP A))) (some (.bool false)) r) none) none) none) none
theorem rn_end (f:OutFn) (s:CpuT) (A B C D E:List Int):rnEnd f s A B C D E =
  cond (true && lens5 A B C D E) (pgOk (lens5 A B C D E) A (pgOk (lens5 A B C D E) B (pgOk (lens5 A B C D E) C (pgOk (lens5 A B C D E) D (pgOk (lens5 A B C D E) E (some (.bool true))))))) none:=by kernel_rfl
theorem answer_post {fn:Func} {s:St} {v:V} (h:(answer Tryz.prog fn.results.toList s).run=some v):(s.1 = .ret∨s.1 = .normal)∧answerV Tryz.prog fn.results.toList s.2.2 s.2.1=some v:=by
 obtain ⟨e,t,H⟩:=s
 unfold answer at h
 split at h
 ·rename_i heq
  cases heq
  split at h
  ·rename_i v hv
   cases h
   exact ⟨.inl rfl,hv⟩
  ·cases h
 ·rename_i heq
  cases heq
  split at h
  ·rename_i v hv
   cases h
   exact ⟨.inr rfl,hv⟩
  ·cases h
 ·cases h
def FOk (f:OutFn):Prop:=∀ nm s a b c d m sz A B C D E,Fine s→lens5 A B C D E=true →
 Fine (f nm s a b c d m sz A B C D E).s∧lens5 (f nm s a b c d m sz A B C D E).A (f nm s a b c d m sz A B C D E).B (f nm s a b c d m sz A B C D E).C (f nm s a b c d m sz A B C D E).D (f nm s a b c d m sz A B C D E).E=true
structure RnSt where
 k:Nat
 s:CpuT
 A:List Int
 B:List Int
 C:List Int
 D:List Int
 E:List Int
 hk:k≤80
 hs:Fine s
 hl:lens5 A B C D E=true
def rnSt (l:List insE.ty) (n:Int) (i:RnSt):T × List O:=(rnT l n i.k,rnH i.s i.s i.A i.B i.C i.D i.E)
theorem cxRn_ok {f:OutFn} (h1:MSound Tryz.prog 10 (runS f)) (h2:MSound Tryz.prog 20 (refS f)):CxOk (cxRn f):=
 ⟨.cons begunS_ok (.nil _),.cons h1 (.cons h2 (.cons worldD_ok (myT_ok 1).2.1)),(myT_ok 1).2.2⟩
theorem pgOk_true {A:List Int} (hA:A.length=4096) (r:Option V):pgOk true A r=r:=by
 unfold pgOk
 have e:strEq (strP A) (strP A)=true:=beq_self_eq_true _
 rw [e,hA]
 rfl
theorem myEnd {A B C D E:List Int} (hl:lens5 A B C D E=true):cond (true && lens5 A B C D E) (pgOk (lens5 A B C D E) A (pgOk (lens5 A B C D E) B (pgOk (lens5 A B C D E) C (pgOk (lens5 A B C D E) D (pgOk (lens5 A B C D E) E (some (.bool true))))))) none=some (V.bool true):=by
 obtain ⟨l1,l2,l3,l4,l5⟩:=lens5_spec hl
 rw [hl,pgOk_true l1,pgOk_true l2,pgOk_true l3,pgOk_true l4,pgOk_true l5]
 rfl
set_option maxRecDepth 8000 in
theorem runs_law {f:OutFn} (hf:FOk f) (h1:MSound Tryz.prog 10 (runS f)) (h2:MSound Tryz.prog 20 (refS f)) {s:CpuT} (hs:Fine s) (l:List insE.ty) (n:Int) (m:List Int) (hm:m.all byteB=true) :
  PCall Tryz.prog 6 [.agg s.l,.sl insE l [] .may,.int .i64 n,.sl (.int .u8) m [] .may] (.bool true):=by
 have hok:=cxRn_ok h1 h2
 have hts:tabS s=s:=cpu_tab hs.len
 rw [← hts]
 refine pcall_of' (c:=Brn) (fn:=Tryz.f6) (by kernel_rfl) (by kernel_rfl) (by kernel_rfl) (by kernel_rfl) ?_
 refine AWP_headE (cx:=cxRn f) rfl rfl hok 4 (by kernel_rfl) (rn_head f s l n m) ?_
 refine ⟨fun _=>⟨.inl rfl,by kernel_rfl⟩,fun hx=>?_⟩
 have hx:=of_decide_eq_false hx
 have hm:setB m=true:=by
  unfold setB
  rw [hm,decide_eq_true (by omega)]
  rfl
 refine all_t (by rw [Bool.true_and]; exact hm) ?_
 show AWP _ _ _ _ _ _
 refine AWP.less (s:=[(1,.sl insE l [] .may),(2,.int .i64 n),(4,.ptr 0 0),(9,.ptr 1 0),(10,.ptr 8 0),(11,.ptr 15 0)]) (Fits.tle ⟨rfl,rfl,rfl,rfl,rfl,rfl,trivial⟩) ?_
 have eb:tailN 4 Brn = .seq (.seq (c1 (c1 (tailN 4 Brn))) (.block 0 (.loop (cin (cin (c2 (c1 (tailN 4 Brn)))))))) (tailN 5 Brn):=by kernel_rfl
 rw [eb]
 have hl:=lens5_wd (l:=[]) rfl hm lens_zeros
 generalize wdK 1 [] m zeros=A at hl
 generalize wdK 2 [] m zeros=B at hl
 generalize wdK 16 [] m zeros=C at hl
 generalize wdK 17 [] m zeros=D at hl
 generalize wdK 32 [] m zeros=E at hl
 obtain ⟨r,g1,g2⟩:=Option.map_eq_some_iff.1 ((cutK_run _ _).symm.trans (rn_start f l n (rnH s s A B C D E)))
 refine AWP_seq (AWP_seq (AWP_run (cx:=cxRn f) rfl rfl hok g1 ?_))
 obtain ⟨ex,t,H⟩:=r
 simp only [Prod.mk.injEq] at g2
 obtain ⟨rfl,g2,rfl⟩:=g2
 refine AWP_block (AWP.less (s:=rnT l n 0) (g2 ▸ TLe.keep _ _) ?_)
 refine AWP_roundsK (cx:=cxRn f) (P:=Tryz.prog) (n:=82) rfl rfl hok (rnSt l n) (fun i=>80 - i.k) [] [1,2,4,9,10,11,12] ?_ ⟨0,s,A,B,C,D,E,by omega,hs,hl⟩
 rintro ⟨k,s,A,B,C,D,E,hk,hs,hl⟩
 refine Tree.all_run_eq (rnRound_eq f l n k s A B C D E) ?_
 have hts:tabS s=s:=cpu_tab hs.len
 have hfb:fineB (tabS s)=true:=by rw [hts]; exact fineB_of hs
 have hend:RoundK (rnSt l n) (fun i=>80 - i.k) [1,2,4,9,10,11,12] (blockQ 0 (seqQ (AWP Tryz.prog 82 (tailN 5 Brn) fun e t H=>(e = .ret∨e = .normal)∧answerV Tryz.prog Tryz.f6.results.toList H t=some (.bool true)) fun e t H=>(e = .ret∨e = .normal)∧answerV Tryz.prog Tryz.f6.results.toList H t=some (.bool true)))
   ⟨k,s,A,B,C,D,E,hk,hs,hl⟩ (.exit 0,rnT l n k,rnH s s A B C D E):=by
  intro t ht
  have ht:rnT l n k=keep [1,2,4,9,10,11,12] t:=ht
  show AWP _ _ _ _ _ _
  refine AWP.less (s:=rnT l n k) (ht ▸ TLe.keep _ _) ?_
  refine AWP.less (s:=[(9,.ptr 1 0),(10,.ptr 8 0)]) (Fits.tle ⟨rfl,rfl,trivial⟩) ?_
  have he:=(rn_end f s A B C D E).trans (myEnd hl)
  unfold rnEnd at he
  rw [Tree.fin_run] at he
  obtain ⟨r,q1,q2⟩:=bind_run he
  refine AWP_run (cx:=cxRn f) rfl rfl hok q1 ?_
  exact answer_post q2
 refine ⟨fun hlt=>⟨fun hlt2=>?_,fun _=>hend⟩,fun _=>hend⟩
 have hlt:=of_decide_eq_true hlt
 have hlt2:=of_decide_eq_true hlt2
 have hin:=inside_of (i:=(k:Int)) (n:=l.length) (by omega) hlt
 refine all_t hin (all_t (by rw [hl]; rfl) (all_t hfb (all_t hin (all_t (by rw [hl]; rfl) (all_t hfb ?_)))))
 refine all_f (by rw [eqS_self]; rfl) (all_f (bne_self_eq_false _) (all_f (bne_self_eq_false _) ?_))
 rw [hts]
 obtain ⟨f1,f2⟩:=hf (insA l k).1 s (insA l k).2.1 (insA l k).2.2.1 (insA l k).2.2.2.1 (insA l k).2.2.2.2.1 (insA l k).2.2.2.2.2 n A B C D E hs hl
 refine ⟨⟨k+1,_,_,_,_,_,_,by omega,f1,f2⟩,by show 80 - (k+1)<80 - k; omega,?_,rfl⟩
 rw [wrap_i64 (by omega) (by omega)]
 exact TLe.refl _
end Go.Ra

namespace Go.Ra
open Go Go.Ab Go.Proofs Go.Rj
theorem outA_ok:FOk outA:=fun nm s a b c d m sz A B C D E hs hl=>by
 obtain ⟨h1,h2,_⟩:=out_is check_eq wdF_wide nm hs a b c d m sz hl
 exact ⟨h1,h2⟩
theorem argR (x:EC.tys [cpuE,.sl insE,.int .i64,.sl (.int .u8)]):argVs [cpuE,.sl insE,.int .i64,.sl (.int .u8)] x=[.agg (cpuA x.1).l,.sl insE (x.2.1.getD []) [] .may,.int .i64 x.2.2.1,.sl (.int .u8) (x.2.2.2.getD []) [] .may]:=by kernel_rfl
theorem runs_call (x:EC.tys [cpuE,.sl insE,.int .i64,.sl (.int .u8)]) (h:okEs [cpuE,.sl insE,.int .i64,.sl (.int .u8)] x):PCall Tryz.prog 6 (argVs [cpuE,.sl insE,.int .i64,.sl (.int .u8)] x) (.bool true):=by
 rw [argR]
 exact runs_law outA_ok runA_ok refA_ok (cpuA_fine h.1) _ _ _ (ok_bytes h.2.2.2)
end Go.Ra

namespace Go.Ra
open Go Go.Ab Go.Proofs
def adv (x i:Int):Int:=IntKind.wrap .u64 (x+i)
noncomputable def cxPf:Cx:={ P:=Tryz.prog,n:=Tryz.f14.ntmps,tab:=[],mtab:=[(34,mayM),(35,getM)],refs:=[],keeps:=[0,1,2,6,7,8,9,15,17,18,19,33,45],fuel:=5 }
theorem cxPf_ok:CxOk cxPf:=cx1_ok (.nil _) (.cons mayM_ok (.cons getM_ok fun p h=>by cases h)) rfl rfl
noncomputable def pfE (a b c d e:List Int) (x:Int):Option Res:=(mfun cxPf Tryz.f14 [.ptr 0 0,.int .u64 x,.int .i64 4] (memO a b c d e)).fin
def pfAns (H:List O) (l:List Int):Option Res:=match l with
 | []=>some (.ok (.tup [.val (.slice none 0 0),.int .i64 21]) H)
 | _=>some (.ok (.tup [.gro 7 (.int .u8) l,.int .i64 0]) (H++[.tok l.length 1]))
def pfGo (a b c d e:List Int) (x:Int):Nat→Nat→List Int→Option Res
 | 0,_,l=>pfAns (memO a b c d e) l
 | m+1,i,l=>cond (decide (adv x (i:Int)<x)) (pfAns (memO a b c d e) l) (cond (true && lens5 a b c d e) (cond (rng64 (adv x (i:Int)) && true) (cond (!mayB (adv x (i:Int)) 1 1) (pfAns (memO a b c d e) l)
  (cond (true && lens5 a b c d e) (cond (rng64 (adv x (i:Int)) && isPg (pgF (adv x (i:Int)))) (pfGo a b c d e x m (i+1) (l++[byteF a b c d e (adv x (i:Int))])) none) none)) none) none)
theorem pf_eq (a b c d e:List Int) (x:Int):pfE a b c d e x=pfGo a b c d e x 4 0 []:=by kernel_rfl
noncomputable def rhB:Tabs:={ rtab:=[(69,findR),(71,canR),(163,getRf)] }
theorem rhB_ok:rhB.Ok Tryz.prog:=⟨.nil _,.nil _,.cons findR_ok (.cons canR_ok (.cons getRf_ok (.nil _))),fun p h=>by cases h⟩
noncomputable def rhT_ps:List Fi:=[]
theorem rhT_ps_ok:FisOk Tryz.prog rhT_ps:=trivial
noncomputable def rhT_ms:List Fi:=[⟨102,Tryz.f102,[0,1,2,6,7,8,11],[],9,[]⟩]
theorem rhT_ms_ok:FisOk Tryz.prog rhT_ms:=⟨⟨by kernel_rfl,by kernel_rfl⟩,trivial⟩
noncomputable def rhT (d:Nat):Tabs:=deep Tryz.prog rhB rhT_ps rhT_ms d
theorem rhT_ok (d:Nat):(rhT d).Ok Tryz.prog:=deep_ok rhB_ok rhT_ps_ok rhT_ms_ok d
noncomputable def cxRh:Cx:={ P:=Tryz.prog,n:=Tryz.f48.ntmps,tab:=(rhT 1).tab,mtab:=(rhT 1).mtab,rtab:=(rhT 1).rtab,refs:=[],keeps:=[0,1,2,6,7,8,14,24,28],fuel:=6 }
theorem cxRh_ok:CxOk cxRh:=rhT_ok 1
noncomputable def rhE (a b c d e:List Int) (x:Int):Option Res:=(mfun cxRh Tryz.f48 [.ptr 0 0,.int .u64 x,.int .i64 4] (refO a b c d e)).fin
def rhRead (a b c d e:List Int) (x:Int):Nat→Nat→List Int→Option Res
 | 0,_,l=>some (.ok (.tup [.gro 7 (.int .u8) l,.int .i64 0]) (refO a b c d e++[.tok l.length 1]))
 | m+1,i,l=>cond (true && (true && (true && lens5 a b c d e))) (cond (rng64 (adr x i) && isPg (pgF (adr x i))) (rhRead a b c d e x m (i+1) (l++[byteF a b c d e (adr x i)])) none) none
def rhStop (a b c d e:List Int) (x:Int) (k:Nat):Option Res:=cond (Nat.beq k 0) (some (.ok (.tup [.val (.slice none 0 0),.int .i64 21]) (refO a b c d e))) (rhRead a b c d e x k 0 [])
def rhGo (a b c d e:List Int) (x:Int):Nat→Nat→Option Res
 | 0,k=>rhStop a b c d e x k
 | m+1,k=>cond (true && (true && (true && lens5 a b c d e))) (cond (rng64 x && true) (cond (mayB x ((k+1:Nat):Int) 1) (rhGo a b c d e x m (k+1)) (rhStop a b c d e x k)) none) none
theorem rh_eq (a b c d e:List Int) (x:Int):rhE a b c d e x=rhGo a b c d e x 4 0:=by kernel_rfl
end Go.Ra

namespace Go.Ra
open Go Go.Ab Go.Proofs
def fetN (x:Int):Nat:=if 4096≤x∧x<12288 then min 4 (12288 - x).toNat else 0
def fetL (a b c d e:List Int) (x:Int):List Int:=(List.range (fetN x)).map fun (i:Nat)=>byteF a b c d e (x+(i:Int))
theorem fetN_le (x:Int):fetN x≤4:=by
 unfold fetN
 split <;> omega
theorem fetL_len (a b c d e:List Int) (x:Int):(fetL a b c d e x).length=fetN x:=by
 unfold fetL
 rw [List.length_map,List.length_range]
theorem okP1 (k:Int):okP 1 k=(k == 1 || k == 2):=by
 unfold okP pgR
 cases k == 1
 ·cases k == 2
  ·cases k == 16 <;> cases k == 17 <;> cases k == 32 <;> rfl
  ·rfl
 ·rfl
theorem mayB_exec {x n:Int} (hx:rng64 x=true) (h1:1≤n) (h2:n≤16):mayB x n 1=(decide (4096≤x) && decide (x+n≤12288)):=by
 have hy:=endF_rng x n
 have px:=pgF_eq hx
 have py:=pgF_eq hy
 have e:endF x n=((x+n % 18446744073709551616) % 18446744073709551616 - 1) % 18446744073709551616:=rfl
 unfold mayB
 rw [okP1,okP1,px,py,e,Bool.eq_iff_iff]
 simp only [rng64,Bool.and_eq_true,decide_eq_true_eq] at hx
 simp only [Bool.and_eq_true,Bool.or_eq_true,decide_eq_true_eq,beq_iff_eq]
 omega
theorem mayB_out {x n:Int} (hx:rng64 x=true) (h1:1≤n) (h2:n≤16) (h:¬ (4096≤x∧x+n≤12288)):mayB x n 1=false:=by
 rw [mayB_exec hx h1 h2]
 by_cases h3:4096≤x
 ·rw [decide_eq_false (show ¬ x+n≤12288 from fun h4=>h ⟨h3,h4⟩),Bool.and_false]
 ·rw [decide_eq_false h3]
  rfl
theorem mayB_in {x n:Int} (hx:rng64 x=true) (h1:1≤n) (h2:n≤16) (h3:4096≤x) (h4:x+n≤12288):mayB x n 1=true:=by
 rw [mayB_exec hx h1 h2,decide_eq_true h3,decide_eq_true h4]
 rfl
theorem usable_exec {x:Int} (h0:4096≤x) (h1:x<12288):(rng64 x && isPg (pgF x))=true:=by
 have hr:rng64 x=true:=rng_of (by omega) (by omega)
 have hp:=pgF_eq hr
 have:pgF x=1∨pgF x=2:=by omega
 rw [hr]
 rcases this with h | h <;> rw [h] <;> rfl
theorem adv_rng (x i:Int):rng64 (adv x i)=true:=by
 have e:adv x i=(x+i) % 18446744073709551616:=rfl
 rw [e]
 exact rng_of (by omega) (by omega)
theorem map_more {f:Nat→Int} (i:Nat):(List.range (i+1)).map f=(List.range i).map f++[f i]:=by
 rw [List.range_succ,List.map_append]
 rfl
theorem pfGo_eq {a b c d e:List Int} {x:Int} (hl:lens5 a b c d e=true) (hx:rng64 x=true):∀ (m i:Nat),i+m=4→i≤fetN x →
  pfGo a b c d e x m i ((List.range i).map fun (j:Nat)=>byteF a b c d e (x+(j:Int)))=pfAns (memO a b c d e) (fetL a b c d e x)
 | 0,i,hi,hf=>by
  have:i=fetN x:=by have:=fetN_le x; omega
  subst this
  rfl
 | m+1,i,hi,hf=>by
  have hr:=adv_rng x (i:Int)
  have e0:adv x (i:Int)=(x+(i:Int)) % 18446744073709551616:=rfl
  unfold pfGo
  rw [hl,hr,Bool.true_and,Bool.true_and]
  simp only [cond_true]
  simp only [rng64,Bool.and_eq_true,decide_eq_true_eq] at hx
  by_cases hlt:i<fetN x
  ·have hin:4096≤x∧x+i<12288:=by
    unfold fetN at hlt
    split at hlt <;> omega
   have ea:adv x (i:Int)=x+i:=by rw [e0]; omega
   rw [decide_eq_false (by omega),cond_false,ea,mayB_in (rng_of (by omega) (by omega)) (by omega) (by omega) (by omega) (by omega)]
   have hu:=usable_exec (x:=x+i) (by omega) hin.2
   rw [rng_of (x:=x+i) (by omega) (by omega),Bool.true_and] at hu
   rw [hu]
   simp only [Bool.not_true,cond_false,cond_true]
   rw [← map_more (f:=fun (j:Nat)=>byteF a b c d e (x+(j:Int))) i]
   exact pfGo_eq hl (rng_of hx.1 hx.2) m (i+1) (by omega) hlt
  ·have hif:i=fetN x:=by omega
   have hans:pfAns (memO a b c d e) ((List.range i).map fun (j:Nat)=>byteF a b c d e (x+(j:Int)))=pfAns (memO a b c d e) (fetL a b c d e x):=by
    rw [hif]
    rfl
   rw [hans]
   cases hov:decide (adv x (i:Int)<x)
   ·have hov:=of_decide_eq_false hov
    have ho:mayB (adv x (i:Int)) 1 1=false:=by
     refine mayB_out hr (by omega) (by omega) ?_
     unfold fetN at hif
     split at hif <;> omega
    rw [cond_false,ho]
    rfl
   ·rfl
theorem rhRead_eq {a b c d e:List Int} {x:Int} (hl:lens5 a b c d e=true) (hf:0<fetN x):∀ (m i:Nat),i+m=fetN x →
  rhRead a b c d e x m i ((List.range i).map fun (j:Nat)=>byteF a b c d e (x+(j:Int)))=some (.ok (.tup [.gro 7 (.int .u8) (fetL a b c d e x),.int .i64 0]) (refO a b c d e++[.tok (fetL a b c d e x).length 1]))
 | 0,i,hi=>by
  have:i=fetN x:=by omega
  subst this
  rfl
 | m+1,i,hi=>by
  have hin:4096≤x∧x+i<12288:=by
   unfold fetN at hi
   split at hi <;> omega
  have ea:adr x i=x+i:=adr_small (by omega) (by omega)
  unfold rhRead
  rw [hl,ea,usable_exec (by omega) hin.2]
  simp only [Bool.and_self,cond_true]
  rw [← map_more (f:=fun (j:Nat)=>byteF a b c d e (x+(j:Int))) i]
  exact rhRead_eq hl hf m (i+1) (by omega)
def rhAns (a b c d e:List Int) (x:Int):Option Res:=
 cond (Nat.beq (fetN x) 0) (some (.ok (.tup [.val (.slice none 0 0),.int .i64 21]) (refO a b c d e))) (some (.ok (.tup [.gro 7 (.int .u8) (fetL a b c d e x),.int .i64 0]) (refO a b c d e++[.tok (fetL a b c d e x).length 1])))
theorem rhGo_eq {a b c d e:List Int} {x:Int} (hl:lens5 a b c d e=true) (hx:rng64 x=true):∀ (m k:Nat),k+m=4→k≤fetN x→rhGo a b c d e x m k=rhAns a b c d e x:=by
 have stop:rhStop a b c d e x (fetN x)=rhAns a b c d e x:=by
  unfold rhStop rhAns
  cases h:Nat.beq (fetN x) 0
  ·have hp:0<fetN x:=by
    rcases Nat.eq_zero_or_pos (fetN x) with h0 | h0
    ·rw [h0] at h; cases h
    ·exact h0
   exact rhRead_eq hl hp (fetN x) 0 (by omega)
  ·rfl
 intro m
 induction m with
 | zero =>
  intro k hk hf
  have:k=fetN x:=by have:=fetN_le x; omega
  rw [this]
  exact stop
 | succ m ih =>
  intro k hk hf
  unfold rhGo
  rw [hl,hx]
  simp only [Bool.and_self,cond_true]
  have hx' := hx
  simp only [rng64,Bool.and_eq_true,decide_eq_true_eq] at hx'
  by_cases hlt:k<fetN x
  ·have hin:4096≤x∧x+k<12288:=by
    unfold fetN at hlt
    split at hlt <;> omega
   rw [mayB_in hx (by omega) (by omega) (by omega) (by omega),cond_true]
   exact ih (k+1) (by omega) hlt
  ·have hif:k=fetN x:=by omega
   rw [mayB_out hx (by omega) (by omega) (by
    unfold fetN at hif
    split at hif <;> omega),cond_false,hif]
   exact stop
theorem fetL_nil {a b c d e:List Int} {x:Int} (h:Nat.beq (fetN x) 0=true):fetL a b c d e x=[]:=by
 unfold fetL
 rw [Nat.eq_of_beq_eq_true h]
 rfl
theorem pfAns_eq (a b c d e:List Int) (x:Int):pfAns (memO a b c d e) (fetL a b c d e x) =
  cond (Nat.beq (fetN x) 0) (some (.ok (.tup [.val (.slice none 0 0),.int .i64 21]) (memO a b c d e))) (some (.ok (.tup [.gro 7 (.int .u8) (fetL a b c d e x),.int .i64 0]) (memO a b c d e++[.tok (fetL a b c d e x).length 1]))):=by
 cases h:Nat.beq (fetN x) 0
 ·have hlen:=fetL_len a b c d e x
  cases hL:fetL a b c d e x with
  | nil =>
   rw [hL] at hlen
   rw [← hlen] at h
   cases h
  | cons y r=>rfl
 ·rw [fetL_nil h]
  rfl
def fetchM:MSpec:=fun args H=>match args with
 | [.ptr 0 0,.int .u64 x,.int .i64 n]=>memM (fun a b c d e=>.req (rng64 x && n == 4) (.br (Nat.beq (fetN x) 0) (.leaf (.ok (.tup [.val (.slice none 0 0),.int .i64 21]) (memO a b c d e)))
   (.leaf (.ok (.tup [.gro 7 (.int .u8) (fetL a b c d e x),.int .i64 0]) (memO a b c d e++[.tok (fetL a b c d e x).length 1]))))) H
 | _=>.fail
def fetchRf:MSpec:=fun args H=>match args with
 | [.ptr 0 0,.int .u64 x,.int .i64 n]=>refM (fun a b c d e=>.req (rng64 x && n == 4) (.br (Nat.beq (fetN x) 0) (.leaf (.ok (.tup [.val (.slice none 0 0),.int .i64 21]) (refO a b c d e)))
   (.leaf (.ok (.tup [.gro 7 (.int .u8) (fetL a b c d e x),.int .i64 0]) (refO a b c d e++[.tok (fetL a b c d e x).length 1]))))) H
 | _=>.fail
theorem br_cond {α:Type} (c:Bool) (x y:Tree α):(Tree.br c x y).run=cond c x.run y.run:=by cases c <;> rfl
theorem fetchM_ok:MSound Tryz.prog 14 fetchM:=by
 intro args H out h
 unfold fetchM at h
 split at h
 rotate_left
 ·cases h
 rename_i x n
 obtain ⟨a,b,c,d,e,rfl,hl,h⟩:=memM_run h
 obtain ⟨h1,hres⟩:=req_run h
 clear h
 obtain ⟨hx,hn⟩:=Bool.and_eq_true_iff.1 h1
 have hn:n=4:=by simpa using hn
 subst hn
 refine msound_fun (cx:=cxPf) (fn:=Tryz.f14) cxPf_ok (by kernel_rfl) (by kernel_rfl) _ _ _ ?_
 refine run_req (by kernel_rfl) ?_
 rw [← Tree.fin_run]
 refine (pf_eq a b c d e x).trans ?_
 refine (pfGo_eq hl hx 4 0 rfl (Nat.zero_le _)).trans ?_
 rw [pfAns_eq,← hres,br_cond]
 rfl
theorem fetchRf_ok:MSound Tryz.prog 48 fetchRf:=by
 intro args H out h
 unfold fetchRf at h
 split at h
 rotate_left
 ·cases h
 rename_i x n
 obtain ⟨a,b,c,d,e,rfl,hl,h⟩:=refM_run h
 obtain ⟨h1,hres⟩:=req_run h
 clear h
 obtain ⟨hx,hn⟩:=Bool.and_eq_true_iff.1 h1
 have hn:n=4:=by simpa using hn
 subst hn
 refine msound_fun (cx:=cxRh) (fn:=Tryz.f48) cxRh_ok (by kernel_rfl) (by kernel_rfl) _ _ _ ?_
 refine run_req (by kernel_rfl) ?_
 rw [← Tree.fin_run]
 refine (rh_eq a b c d e x).trans ?_
 refine (rhGo_eq hl hx 4 0 rfl (Nat.zero_le _)).trans ?_
 unfold rhAns
 rw [← hres,br_cond]
 rfl
end Go.Ra

namespace Go.Ra
open Go Go.Ab Go.Proofs
noncomputable def dcB:Tabs:={ tab:=[(138,Rj.decodeS),(137,Cmp.decodeS)] }
theorem dcB_ok:dcB.Ok Tryz.prog:=⟨.cons Rj.decodeS_ok (ok1 Cmp.decodeS_ok),(fun p h=>by cases h),.nil _,fun p h=>by cases h⟩
noncomputable def dcT_ps:List Fi:=[⟨15,Tryz.f15,[0,1,2,6,7,8,9,10,17],[],0,[]⟩,⟨36,Tryz.f36,[0,2,3,4,5,8,11],[],0,[]⟩,⟨82,Tryz.f82,[0,1,4,5,6,7,17,24],[],0,[]⟩]
theorem dcT_ps_ok:FisOk Tryz.prog dcT_ps:=⟨⟨by kernel_rfl,by kernel_rfl⟩,⟨by kernel_rfl,by kernel_rfl⟩,⟨by kernel_rfl,by kernel_rfl⟩,trivial⟩
noncomputable def dcT_ms:List Fi:=[]
theorem dcT_ms_ok:FisOk Tryz.prog dcT_ms:=trivial
noncomputable def dcT (d:Nat):Tabs:=deep Tryz.prog dcB dcT_ps dcT_ms d
theorem dcT_ok (d:Nat):(dcT d).Ok Tryz.prog:=deep_ok dcB_ok dcT_ps_ok dcT_ms_ok d
noncomputable def cxIsa:Cx:={ P:=Tryz.prog,n:=Tryz.f15.ntmps,tab:=(dcT 2).tab,mtab:=[],refs:=[],keeps:=[0,1,2,6,7,8,9,10,17] }
noncomputable def isaE (l sp:List Int) (fl:Fl):Option V:=(dfun cxIsa Tryz.f15 [.int .i64 3,.sl (.int .u8) l sp fl,.int .i64 0]).fin
def c3 (l:List Int):Bool:=IntKind.wrap .u8 (((BitVec.ofInt 8 (l.getD 0 0) &&& BitVec.ofInt 8 3).toNat:Nat):Int) != 3
def m3 (l:List Int):Bool:=Int.tmod (l.getD 0 0) 4 != 3
def lenI (l:List Int):Int:=((l.length:Nat):Int)
def tV (i:InsR) (n e:Int):Option V:=some (.tup [Rj.insV i,.int .i64 n,.int .i64 e])
theorem isa_eq (l sp:List Int) (fl:Fl):isaE l sp fl=cond (decide (lenI l<0)) (tV Rj.zeroI 0 5) (cond (decide (wi (lenI l - 0)<2)) (tV Rj.zeroI 0 2) (cond (inside 0 l.length)
  (cond (c3 l) (cond (decide (l.length<1000000000)) (tV (Cmp.dI l 0) (Cmp.dN l 0) (Cmp.dE l 0)) none) (cond (decide (l.length<1000000000)) (tV (Rj.dI l 0) (Rj.dN l 0) (Rj.dE l 0)) none)) none)):=by kernel_rfl
def isV (l:List Int):InsR × Int × Int:=cond (decide (lenI l<2)) (Rj.zeroI,0,2) (cond (c3 l) (Cmp.dI l 0,Cmp.dN l 0,Cmp.dE l 0) (Rj.dI l 0,Rj.dN l 0,Rj.dE l 0))
def isaS:Ab.Spec:=fun args=>match args with
 | [.int .i64 k,.sl (.int .u8) l _ _,.int .i64 at_]=>.req (k == 3 && (at_ == 0 && decide (l.length<1000000000))) (.leaf (.tup [Rj.insV (isV l).1,.int .i64 (isV l).2.1,.int .i64 (isV l).2.2]))
 | _=>.fail
theorem isa_ans {l:List Int} (sp:List Int) (fl:Fl) (hlen:l.length<1000000000):isaE l sp fl=some (.tup [Rj.insV (isV l).1,.int .i64 (isV l).2.1,.int .i64 (isV l).2.2]):=by
 rw [isa_eq,decide_eq_true hlen]
 unfold isV
 have e0:decide (lenI l<0)=false:=decide_eq_false (by unfold lenI; omega)
 have e1:wi (lenI l - 0)=lenI l:=by
  rw [Int.sub_zero]
  unfold lenI
  exact wi_small (by omega) (by omega)
 rw [e0,e1,cond_false]
 by_cases h2:lenI l<2
 ·rw [decide_eq_true h2]
  rfl
 ·have hin:inside 0 l.length=true:=inside_of (by decide) (by unfold lenI at h2; omega)
  rw [decide_eq_false h2,hin]
  cases c3 l <;> rfl
theorem isaS_ok:Sound Tryz.prog 15 isaS:=by
 intro args out h
 unfold isaS at h
 split at h
 rotate_left
 ·cases h
 rename_i k l sp fl at_
 obtain ⟨h1,h⟩:=req_run h
 cases h
 obtain ⟨hk,h1⟩:=Bool.and_eq_true_iff.1 h1
 obtain ⟨ha,hl⟩:=Bool.and_eq_true_iff.1 h1
 have hk:k=3:=by simpa using hk
 have ha:at_=0:=by simpa using ha
 subst hk ha
 have hlen:=of_decide_eq_true hl
 exact pcall_fun' (cx:=cxIsa) (fn:=Tryz.f15) (dcT_ok 2) (by kernel_rfl) (by kernel_rfl) (by kernel_rfl) ((Tree.fin_run _).symm.trans (isa_ans sp fl hlen))
abbrev StFn:=CpuT→List Int→List Int→List Int→List Int→List Int→Out
def runI (f:OutFn) (i:InsR) (n:Int):StFn:=fun s A B C D E=>f i.1 s i.2.1 i.2.2.1 i.2.2.2.1 i.2.2.2.2.1 i.2.2.2.2.2 n A B C D E
def stL (f:OutFn) (L:List Int):StFn:=fun s A B C D E=>cond (decide (lenI L<2)) ⟨s,0,22,A,B,C,D,E⟩ (cond (c3 L) (cond (Cmp.dE L 0 != 0) ⟨s,0,22,A,B,C,D,E⟩ (runI f (Cmp.wideA (Cmp.dI L 0)) (Cmp.dN L 0) s A B C D E))
 (cond (Rj.dE L 0 != 0) ⟨s,0,22,A,B,C,D,E⟩ (runI f (Rj.dI L 0) (Rj.dN L 0) s A B C D E)))
def stG (f:OutFn):StFn:=fun s A B C D E=>cond (Nat.beq (fetN s.pc) 0) ⟨s,0,21,A,B,C,D,E⟩ (stL f (fetL A B C D E s.pc) s A B C D E)
def ansM (o:Out):Option Res:=some (.ok (outV o) (memO o.A o.B o.C o.D o.E))
def ansR (o:Out):Option Res:=some (.ok (outV o) (refO o.A o.B o.C o.D o.E))
noncomputable def cxSt (f:OutFn):Cx:={ P:=Tryz.prog,n:=Tryz.f13.ntmps,tab:=[(15,isaS),(17,Cmp.wideAS)],mtab:=[(14,fetchM),(10,runS f)],refs:=[],keeps:=[0,1,2,4,5,6,7,8,9,10,19,28,31] }
noncomputable def stpE (f:OutFn) (s:CpuT) (A B C D E:List Int):Option Res:=(mfunR (cxSt f) Tryz.f13 [] [.agg (tabS s).l,.ptr 0 0] (memO A B C D E)).fin
def rnM (f:OutFn) (i:InsR) (n:Int) (s:CpuT) (A B C D E:List Int):Option Res:=cond (lens5 A B C D E) (cond (fineB (tabS s)) (ansM (runI f i n (tabS s) A B C D E)) none) none
def stpX (f:OutFn) (s:CpuT) (A B C D E:List Int):Option Res:=
 cond (lens5 A B C D E) (cond (rng64 s.pc && true) (cond (Nat.beq (fetN s.pc) 0) (ansM ⟨s,0,21,A,B,C,D,E⟩) (cond (decide ((fetL A B C D E s.pc).length<1000000000)) (cond ((isV (fetL A B C D E s.pc)).2.2 != 0) (ansM ⟨s,0,22,A,B,C,D,E⟩)
  (cond ((isV (fetL A B C D E s.pc)).2.1 == 2) (rnM f (Cmp.wideA (isV (fetL A B C D E s.pc)).1) (isV (fetL A B C D E s.pc)).2.1 s A B C D E) (rnM f (isV (fetL A B C D E s.pc)).1 (isV (fetL A B C D E s.pc)).2.1 s A B C D E))) none)) none) none
theorem st_eq (f:OutFn) (s:CpuT) (A B C D E:List Int):stpE f s A B C D E=stpX f s A B C D E:=by kernel_rfl
noncomputable def cxSr (f:OutFn):Cx:={ P:=Tryz.prog,n:=Tryz.f22.ntmps,tab:=[(51,Rj.decXS),(49,Cmp.decXS),(50,Cmp.wideXS)],mtab:=[(48,fetchRf),(20,refS f)],refs:=[],keeps:=[0,1,2,4,5,6,7,8,9,10,11,12,14,15,24,29,35,43,65] }
noncomputable def srE (f:OutFn) (s:CpuT) (A B C D E:List Int):Option Res:=(mfunR (cxSr f) Tryz.f22 [] [.agg (tabS s).l,.ptr 0 0] (refO A B C D E)).fin
def rnR (f:OutFn) (i:InsR) (n:Int) (s:CpuT) (A B C D E:List Int):Option Res:=cond (lens5 A B C D E) (cond (fineB (tabS s)) (ansR (runI f i n (tabS s) A B C D E)) none) none
def srL (f:OutFn) (L:List Int) (s:CpuT) (A B C D E:List Int):Option Res:=
 cond (decide (lenI L<2)) (ansR ⟨s,0,22,A,B,C,D,E⟩) (cond (inside 0 L.length) (cond (m3 L)
  (cond (decide (L.length<1000000000)) (cond (Cmp.bytesB L) (cond (Cmp.dE L 0 != 0) (ansR ⟨s,0,22,A,B,C,D,E⟩) (rnR f (Cmp.wideA (Cmp.dI L 0)) (Cmp.dN L 0) s A B C D E)) none) none)
  (cond (decide (L.length<1000000000)) (cond (Rj.bytesB L) (cond (Rj.dE L 0 != 0) (ansR ⟨s,0,22,A,B,C,D,E⟩) (rnR f (Rj.dI L 0) (Rj.dN L 0) s A B C D E)) none) none)) none)
def srX (f:OutFn) (s:CpuT) (A B C D E:List Int):Option Res:=
 cond (lens5 A B C D E) (cond (rng64 s.pc && true) (cond (Nat.beq (fetN s.pc) 0) (ansR ⟨s,0,21,A,B,C,D,E⟩) (srL f (fetL A B C D E s.pc) s A B C D E)) none) none
theorem sr_eq (f:OutFn) (s:CpuT) (A B C D E:List Int):srE f s A B C D E=srX f s A B C D E:=by kernel_rfl
theorem byteF_byte {A B C D E:List Int} (hl:lens5 A B C D E=true) (x:Int):byteB (byteF A B C D E x)=true:=by
 unfold lens5 at hl
 simp only [Bool.and_eq_true] at hl
 obtain ⟨h1,h2,h3,h4,h5⟩:=hl
 have g:∀ {l:List Int},pgB l=true→byteB (l.getD (offF x) 0)=true:=fun h=>byte_getD (Bool.and_eq_true_iff.1 h).2 _
 unfold byteF selF
 cases pgF x == 1 <;> cases pgF x == 2 <;> cases pgF x == 16 <;> cases pgF x == 17 <;> first | exact g h1 | exact g h2 | exact g h3 | exact g h4 | exact g h5
theorem fetL_bytes {A B C D E:List Int} (hl:lens5 A B C D E=true) (x:Int):(fetL A B C D E x).all byteB=true:=by
 unfold fetL
 rw [List.all_eq_true]
 intro y hy
 obtain ⟨i,_,rfl⟩:=List.mem_map.1 hy
 exact byteF_byte hl _
theorem c3_low (x:Int):IntKind.wrap .u8 (((BitVec.ofInt 8 x &&& BitVec.ofInt 8 3).toNat:Nat):Int)=x % 4:=by
 have h1:=and_low x 8 2 (by decide)
 rw [show (2:Int) ^ 2 - 1=3 from rfl,show (2:Int) ^ 2=4 from rfl] at h1
 rw [h1,u8_def]
 omega
theorem c3_m3 {l:List Int} (h:l.all byteB=true):c3 l=m3 l:=by
 have hb:byteB (l.getD 0 0)=true:=by
  cases l with
  | nil=>rfl
  | cons a r=>exact List.all_eq_true.1 h a List.mem_cons_self
 simp only [byteB,Bool.and_eq_true,decide_eq_true_eq] at hb
 unfold c3 m3
 generalize l.getD 0 0=x at hb
 rw [c3_low,Int.tmod_eq_emod_of_nonneg hb.1]
theorem dN_c {l:List Int} (h:(Cmp.dE l 0 != 0)=false):Cmp.dN l 0=2:=by
 revert h
 unfold Cmp.dE Cmp.dN
 cases Cmp.outOf l 0 <;> cases Cmp.shortOf l 0 <;> cases Cmp.decOk (Cmp.w2 l 0) <;> simp
theorem dN_r {l:List Int} (h:(Rj.dE l 0 != 0)=false):Rj.dN l 0=4:=by
 revert h
 unfold Rj.dE Rj.dN
 cases Rj.outOf l 0 <;> cases Rj.shortOf l 0 <;> cases Rj.decOk (Rj.w4 l 0) <;> simp
theorem stpX_eq {f:OutFn} {s:CpuT} {A B C D E:List Int} (hs:Fine s) (hl:lens5 A B C D E=true):stpX f s A B C D E=ansM (stG f s A B C D E):=by
 have hts:tabS s=s:=cpu_tab hs.len
 have h4:decide ((fetL A B C D E s.pc).length<1000000000)=true:=decide_eq_true (by rw [fetL_len]; have:=fetN_le s.pc; omega)
 unfold stpX stG rnM
 rw [hts,hl,hs.pc,h4,fineB_of hs]
 simp only [Bool.and_self,cond_true]
 cases Nat.beq (fetN s.pc) 0
 rotate_left
 ·rfl
 simp only [cond_false]
 generalize fetL A B C D E s.pc=L
 unfold isV stL
 cases decide (lenI L<2)
 rotate_left
 ·rfl
 simp only [cond_false]
 cases c3 L
 ·simp only [cond_false]
  cases he:Rj.dE L 0 != 0
  ·have h2:(Rj.dN L 0 == 2)=false:=by rw [dN_r he]; rfl
   rw [h2]
   rfl
  ·rfl
 ·simp only [cond_true]
  cases he:Cmp.dE L 0 != 0
  ·have h2:(Cmp.dN L 0 == 2)=true:=by rw [dN_c he]; rfl
   rw [h2]
   rfl
  ·rfl
theorem srX_eq {f:OutFn} {s:CpuT} {A B C D E:List Int} (hs:Fine s) (hl:lens5 A B C D E=true):srX f s A B C D E=ansR (stG f s A B C D E):=by
 have hts:tabS s=s:=cpu_tab hs.len
 have h4:(fetL A B C D E s.pc).length<1000000000:=by rw [fetL_len]; have:=fetN_le s.pc; omega
 have hb:=fetL_bytes hl s.pc
 unfold srX stG
 rw [hl,hs.pc]
 simp only [Bool.and_self,cond_true]
 cases Nat.beq (fetN s.pc) 0
 rotate_left
 ·rfl
 simp only [cond_false]
 generalize fetL A B C D E s.pc=L at h4 hb
 unfold srL stL rnR
 rw [hts,hl,fineB_of hs,decide_eq_true h4,← c3_m3 hb]
 by_cases h2:lenI L<2
 ·rw [decide_eq_true h2]
  rfl
 have hin:inside 0 L.length=true:=inside_of (by decide) (by unfold lenI at h2; omega)
 have b1:Rj.bytesB L=true:=hb
 have b2:Cmp.bytesB L=true:=hb
 rw [decide_eq_false h2,hin,b1,b2]
 simp only [cond_true,cond_false]
 cases c3 L
 ·cases Rj.dE L 0 != 0 <;> rfl
 ·cases Cmp.dE L 0 != 0 <;> rfl
def stpS (g:StFn):MSpec:=fun args H=>match args with
 | [.agg cs,.ptr 0 0]=>match cpuOf cs with
  | some s=>memM (fun A B C D E=>.req (fineB s) (.leaf (.ok (outV (g s A B C D E)) (memO (g s A B C D E).A (g s A B C D E).B (g s A B C D E).C (g s A B C D E).D (g s A B C D E).E)))) H
  | none=>.fail
 | _=>.fail
def stpD (g:StFn):MSpec:=fun args H=>match args with
 | [.agg cs,.ptr 0 0]=>match cpuOf cs with
  | some s=>refM (fun A B C D E=>.req (fineB s) (.leaf (.ok (outV (g s A B C D E)) (refO (g s A B C D E).A (g s A B C D E).B (g s A B C D E).C (g s A B C D E).D (g s A B C D E).E)))) H
  | none=>.fail
 | _=>.fail
theorem cxSt_ok {f:OutFn} (h:MSound Tryz.prog 10 (runS f)):CxOk (cxSt f):=⟨.cons isaS_ok (ok1 Cmp.wideAS_ok),.cons fetchM_ok (.cons h (.nil _)),.nil _,fun p h=>by cases h⟩
theorem cxSr_ok {f:OutFn} (h:MSound Tryz.prog 20 (refS f)):CxOk (cxSr f):=⟨.cons Rj.decXS_ok (.cons Cmp.decXS_ok (ok1 Cmp.wideXS_ok)),.cons fetchRf_ok (.cons h (.nil _)),.nil _,fun p h=>by cases h⟩
theorem stpS_ok {f:OutFn} (hf:MSound Tryz.prog 10 (runS f)):MSound Tryz.prog 13 (stpS (stG f)):=by
 intro args H out h
 unfold stpS at h
 split at h
 rotate_left
 ·cases h
 rename_i cs
 split at h
 rotate_left
 ·cases h
 rename_i s hs
 obtain ⟨A,B,C,D,E,rfl,hl,h⟩:=memM_run h
 obtain ⟨hfb,h⟩:=req_run h
 cases h
 obtain ⟨rfl,e2⟩:=cpuOf_spec hs
 have hF:=fine_of e2 hfb
 refine mfunR_ok (cx:=cxSt f) (fn:=Tryz.f13) [] (cxSt_ok hf) (by kernel_rfl) (by kernel_rfl) _ _ _ ?_
 rw [← Tree.fin_run]
 have e:=(st_eq f s A B C D E).trans (stpX_eq hF hl)
 unfold stpE at e
 rw [show tabS s=s from cpu_tab e2] at e
 exact e
theorem stpD_ok {f:OutFn} (hf:MSound Tryz.prog 20 (refS f)):MSound Tryz.prog 22 (stpD (stG f)):=by
 intro args H out h
 unfold stpD at h
 split at h
 rotate_left
 ·cases h
 rename_i cs
 split at h
 rotate_left
 ·cases h
 rename_i s hs
 obtain ⟨A,B,C,D,E,rfl,hl,h⟩:=refM_run h
 obtain ⟨hfb,h⟩:=req_run h
 cases h
 obtain ⟨rfl,e2⟩:=cpuOf_spec hs
 have hF:=fine_of e2 hfb
 refine mfunR_ok (cx:=cxSr f) (fn:=Tryz.f22) [] (cxSr_ok hf) (by kernel_rfl) (by kernel_rfl) _ _ _ ?_
 rw [← Tree.fin_run]
 have e:=(sr_eq f s A B C D E).trans (srX_eq hF hl)
 unfold srE at e
 rw [show tabS s=s from cpu_tab e2] at e
 exact e
def GOk (g:StFn):Prop:=∀ s A B C D E,Fine s→lens5 A B C D E=true→Fine (g s A B C D E).s∧lens5 (g s A B C D E).A (g s A B C D E).B (g s A B C D E).C (g s A B C D E).D (g s A B C D E).E=true
theorem stG_ok {f:OutFn} (hf:FOk f):GOk (stG f):=by
 intro s A B C D E hs hl
 unfold stG stL runI
 cases Nat.beq (fetN s.pc) 0
 rotate_left
 ·exact ⟨hs,hl⟩
 cases decide (lenI (fetL A B C D E s.pc)<2)
 rotate_left
 ·exact ⟨hs,hl⟩
 cases c3 (fetL A B C D E s.pc)
 ·cases Rj.dE (fetL A B C D E s.pc) 0 != 0
  ·exact hf _ _ _ _ _ _ _ _ _ _ _ _ _ hs hl
  ·exact ⟨hs,hl⟩
 ·cases Cmp.dE (fetL A B C D E s.pc) 0 != 0
  ·exact hf _ _ _ _ _ _ _ _ _ _ _ _ _ hs hl
  ·exact ⟨hs,hl⟩
end Go.Ra

namespace Go.Ra
open Go Go.Ab Go.Proofs
noncomputable def cxSs (g:StFn):Cx:={ P:=Tryz.prog,n:=Tryz.f7.ntmps,tab:=[(8,begunS)],mtab:=(13,stpS g) :: (22,stpD g) :: (11,worldD) :: (myT 1).mtab,rtab:=(myT 1).rtab,still:=[13,22],refs:=[],keeps:=[0,1,2,3,6,7,8,9,10,11,12,13,14,15,16,18,26,35,64,66] }
noncomputable abbrev Bss:Code:=bodyOf Tryz.f7
def ssT (k:Int):T:=[(3,.ptr 0 0),(7,.ptr 1 0),(8,.ptr 8 0),(9,.ptr 15 0),(10,.int .i64 k)]
def ssStop (k:Int) (s:CpuT) (o:Out):Tree St:=.leaf (.ret,ssT k,rnH s s o.A o.B o.C o.D o.E)
def ssRound (g:StFn) (k:Int) (s:CpuT) (A B C D E:List Int):Tree St:=
 .br (decide (k<200)) (.br (true && lens5 A B C D E) (.br (fineB (tabS s)) (.br (true && (true && (true && lens5 A B C D E))) (.br (fineB (tabS s))
  (let o:=g (tabS s) A B C D E
  .br (!(eqS (tabS o.s) (tabS o.s))) (ssStop k s o) (.br (o.ev != o.ev) (ssStop k s o) (.br (o.err != o.err) (ssStop k s o) (.br (o.err != 0) (.leaf (.exit 0,ssT k,rnH s s o.A o.B o.C o.D o.E)) (.leaf (.normal,ssT (IntKind.wrap .i64 (k+1)),rnH o.s o.s o.A o.B o.C o.D o.E)))))) .fail) .fail) .fail) .fail)
  (.leaf (.exit 0,ssT k,rnH s s A B C D E))
theorem ssRound_eq (g:StFn) (k:Int) (s:CpuT) (A B C D E:List Int) :
  ((dcode (cxSs g) (cin (cin (c2 (c1 (tailN 4 Bss))))) (ssT k) (rnH s s A B C D E)).bind (rnd 16 [] [3,7,8,9,10])).run=(ssRound g k s A B C D E).run:=
 (show _=(ssRound g k s A B C D E).out by kernel_rfl).trans (Tree.out_run _)
def ssA (s:CpuT) (l m:List Int) (t:T):T:=(0,.agg (tabS s).l) :: (1,.sl (.int .u8) l [] .may) :: (2,.sl (.int .u8) m [] .may) :: (3,.ptr 0 0) :: t
def ssHead (s:CpuT) (l m:List Int):Tree St:=
 .br (decide (8192<((l.length:Nat):Int))) (.leaf (.ret,ssA s l m [(6,.bool true),(18,.bool false),(26,.bool true)],[cpuO s])) (.br (decide (8192<((m.length:Nat):Int))) (.leaf (.ret,ssA s l m [(6,.bool true),(18,.bool false),(26,.bool true)],[cpuO s]))
  (.br (setB l && setB m) (.leaf (.normal,ssA s l m [(6,.bool false),(7,.ptr 1 0),(8,.ptr 8 0),(9,.ptr 15 0),(18,.bool false),(26,.bool false)],
  rnH s s (wdK 1 l m zeros) (wdK 2 l m zeros) (wdK 16 l m zeros) (wdK 17 l m zeros) (wdK 32 l m zeros))) .fail))
theorem ss_head (g:StFn) (s:CpuT) (l m:List Int):(dcode (cxSs g) (headN 4 Bss) (initT 0 [.agg (tabS s).l,.sl (.int .u8) l [] .may,.sl (.int .u8) m [] .may]) []).run=(ssHead s l m).run:=
 (show _=(ssHead s l m).out by kernel_rfl).trans (Tree.out_run _)
theorem ss_start (g:StFn) (H:List O):((dcode (cxSs g) (c1 (c1 (tailN 4 Bss))) [(3,.ptr 0 0),(7,.ptr 1 0),(8,.ptr 8 0),(9,.ptr 15 0)] H).bind (cutK [3,7,8,9,10])).run=some (.normal,ssT 0,H):=by kernel_rfl
noncomputable def ssEnd (g:StFn) (s:CpuT) (A B C D E:List Int):Option V:=((dcode (cxSs g) (tailN 5 Bss) [(7,.ptr 1 0),(8,.ptr 8 0)] (rnH s s A B C D E)).bind (answer Tryz.prog Tryz.f7.results.toList)).fin
theorem ss_end (g:StFn) (s:CpuT) (A B C D E:List Int):ssEnd g s A B C D E =
  cond (true && lens5 A B C D E) (pgOk (lens5 A B C D E) A (pgOk (lens5 A B C D E) B (pgOk (lens5 A B C D E) C (pgOk (lens5 A B C D E) D (pgOk (lens5 A B C D E) E (some (.bool true))))))) none:=by kernel_rfl
structure SsSt where
 k:Nat
 s:CpuT
 A:List Int
 B:List Int
 C:List Int
 D:List Int
 E:List Int
 hk:k≤200
 hs:Fine s
 hl:lens5 A B C D E=true
def ssSt (i:SsSt):T × List O:=(ssT i.k,rnH i.s i.s i.A i.B i.C i.D i.E)
theorem cxSs_ok {g:StFn} (h1:MSound Tryz.prog 13 (stpS g)) (h2:MSound Tryz.prog 22 (stpD g)):CxOk (cxSs g):=
 ⟨.cons begunS_ok (.nil _),.cons h1 (.cons h2 (.cons worldD_ok (myT_ok 1).2.1)),(myT_ok 1).2.2⟩
set_option maxRecDepth 8000 in
theorem steps_law {g:StFn} (hg:GOk g) (h1:MSound Tryz.prog 13 (stpS g)) (h2:MSound Tryz.prog 22 (stpD g)) {s:CpuT} (hs:Fine s) {l m:List Int} (h3:l.all byteB=true) (h4:m.all byteB=true) :
  PCall Tryz.prog 7 [.agg s.l,.sl (.int .u8) l [] .may,.sl (.int .u8) m [] .may] (.bool true):=by
 have hok:=cxSs_ok h1 h2
 have hts:tabS s=s:=cpu_tab hs.len
 rw [← hts]
 refine pcall_of' (c:=Bss) (fn:=Tryz.f7) (by kernel_rfl) (by kernel_rfl) (by kernel_rfl) (by kernel_rfl) ?_
 refine AWP_headE (cx:=cxSs g) rfl rfl hok 4 (by kernel_rfl) (ss_head g s l m) ?_
 refine ⟨fun _=>⟨.inl rfl,by kernel_rfl⟩,fun hx=>⟨fun _=>⟨.inl rfl,by kernel_rfl⟩,fun hy=>?_⟩⟩
 have hx:=of_decide_eq_false hx
 have hy:=of_decide_eq_false hy
 have b1:setB l=true:=by
  unfold setB
  rw [h3,decide_eq_true (by omega)]
  rfl
 have b2:setB m=true:=by
  unfold setB
  rw [h4,decide_eq_true (by omega)]
  rfl
 refine all_t (by rw [b1,b2]; rfl) ?_
 show AWP _ _ _ _ _ _
 refine AWP.less (s:=[(3,.ptr 0 0),(7,.ptr 1 0),(8,.ptr 8 0),(9,.ptr 15 0)]) (Fits.tle ⟨rfl,rfl,rfl,rfl,trivial⟩) ?_
 have eb:tailN 4 Bss = .seq (.seq (c1 (c1 (tailN 4 Bss))) (.block 0 (.loop (cin (cin (c2 (c1 (tailN 4 Bss)))))))) (tailN 5 Bss):=by kernel_rfl
 rw [eb]
 have hl:=lens5_wd b1 b2 lens_zeros
 generalize wdK 1 l m zeros=A at hl
 generalize wdK 2 l m zeros=B at hl
 generalize wdK 16 l m zeros=C at hl
 generalize wdK 17 l m zeros=D at hl
 generalize wdK 32 l m zeros=E at hl
 obtain ⟨r,g1,g2⟩:=Option.map_eq_some_iff.1 ((cutK_run _ _).symm.trans (ss_start g (rnH s s A B C D E)))
 refine AWP_seq (AWP_seq (AWP_run (cx:=cxSs g) rfl rfl hok g1 ?_))
 obtain ⟨ex,t,H⟩:=r
 simp only [Prod.mk.injEq] at g2
 obtain ⟨rfl,g2,rfl⟩:=g2
 refine AWP_block (AWP.less (s:=ssT 0) (g2 ▸ TLe.keep _ _) ?_)
 refine AWP_roundsK (cx:=cxSs g) (P:=Tryz.prog) (n:=72) rfl rfl hok ssSt (fun i=>200 - i.k) [] [3,7,8,9,10] ?_ ⟨0,s,A,B,C,D,E,by omega,hs,hl⟩
 rintro ⟨k,s,A,B,C,D,E,hk,hs,hl⟩
 refine Tree.all_run_eq (ssRound_eq g k s A B C D E) ?_
 have hts:tabS s=s:=cpu_tab hs.len
 have hfb:fineB (tabS s)=true:=by rw [hts]; exact fineB_of hs
 have hend:∀ {A' B' C' D' E' : List Int},lens5 A' B' C' D' E' = true→RoundK ssSt (fun i=>200 - i.k) [3,7,8,9,10] (blockQ 0 (seqQ (AWP Tryz.prog 72 (tailN 5 Bss) fun e t H=>(e = .ret∨e = .normal)∧answerV Tryz.prog Tryz.f7.results.toList H t=some (.bool true)) fun e t H=>(e = .ret∨e = .normal)∧answerV Tryz.prog Tryz.f7.results.toList H t=some (.bool true)))
   ⟨k,s,A,B,C,D,E,hk,hs,hl⟩ (.exit 0,ssT k,rnH s s A' B' C' D' E'):=by
  intro A' B' C' D' E' hl' t ht
  have ht:ssT k=keep [3,7,8,9,10] t:=ht
  show AWP _ _ _ _ _ _
  refine AWP.less (s:=ssT k) (ht ▸ TLe.keep _ _) ?_
  refine AWP.less (s:=[(7,.ptr 1 0),(8,.ptr 8 0)]) (Fits.tle ⟨rfl,rfl,trivial⟩) ?_
  have he:=(ss_end g s A' B' C' D' E').trans (myEnd hl')
  unfold ssEnd at he
  rw [Tree.fin_run] at he
  obtain ⟨r,q1,q2⟩:=bind_run he
  refine AWP_run (cx:=cxSs g) rfl rfl hok q1 ?_
  exact answer_post q2
 refine ⟨fun hlt=>?_,fun _=>hend hl⟩
 have hlt:=of_decide_eq_true hlt
 refine all_t (by rw [hl]; rfl) (all_t hfb (all_t (by rw [hl]; rfl) (all_t hfb ?_)))
 refine all_f (by rw [eqS_self]; rfl) (all_f (bne_self_eq_false _) (all_f (bne_self_eq_false _) ?_))
 rw [hts]
 obtain ⟨f1,f2⟩:=hg s A B C D E hs hl
 refine ⟨fun _=>hend f2,fun _=>?_⟩
 refine ⟨⟨k+1,_,_,_,_,_,_,by omega,f1,f2⟩,by show 200 - (k+1)<200 - k; omega,?_,rfl⟩
 rw [wrap_i64 (by omega) (by omega)]
 exact TLe.refl _
theorem argS (x:EC.tys [cpuE,.sl (.int .u8),.sl (.int .u8)]):argVs [cpuE,.sl (.int .u8),.sl (.int .u8)] x=[.agg (cpuA x.1).l,.sl (.int .u8) (x.2.1.getD []) [] .may,.sl (.int .u8) (x.2.2.getD []) [] .may]:=by kernel_rfl
theorem steps_call (x:EC.tys [cpuE,.sl (.int .u8),.sl (.int .u8)]) (h:okEs [cpuE,.sl (.int .u8),.sl (.int .u8)] x):PCall Tryz.prog 7 (argVs [cpuE,.sl (.int .u8),.sl (.int .u8)] x) (.bool true):=by
 rw [argS]
 exact steps_law (stG_ok outA_ok) (stpS_ok runA_ok) (stpD_ok refA_ok) (cpuA_fine h.1) (ok_bytes h.2.1) (ok_bytes h.2.2)
end Go.Ra
