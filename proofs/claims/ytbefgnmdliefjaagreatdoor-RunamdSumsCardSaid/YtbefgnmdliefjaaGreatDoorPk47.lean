/-
  runamd: Run of the program and of the document: one answer, told by both specs. Conditions: none.
-/
import Derived.Test.YtbefgnmdliefjaaGreatDoorPk30
import Derived.Test.YtbefgnmdliefjaaGreatDoorPk29
import Derived.Test.YtbefgnmdliefjaaGreatDoorDy1
import Derived.Test.YtbefgnmdliefjaaGreatDoorDx1
import Derived.Test.YtbefgnmdliefjaaGreatDoorDy2
import Derived.Test.YtbefgnmdliefjaaGreatDoorDx2
import Derived.Test.YtbefgnmdliefjaaGreatDoorDy3
import Derived.Test.YtbefgnmdliefjaaGreatDoorDx3
import Derived.Test.YtbefgnmdliefjaaGreatDoorDy4
import Derived.Test.YtbefgnmdliefjaaGreatDoorDx4
import Derived.Test.YtbefgnmdliefjaaGreatDoorDy5
import Derived.Test.YtbefgnmdliefjaaGreatDoorDx5
import Derived.Test.YtbefgnmdliefjaaGreatDoorDy6
import Derived.Test.YtbefgnmdliefjaaGreatDoorDx6
import Derived.Test.YtbefgnmdliefjaaGreatDoorDy7
import Derived.Test.YtbefgnmdliefjaaGreatDoorDx7
import Derived.Test.YtbefgnmdliefjaaGreatDoorDy8
import Derived.Test.YtbefgnmdliefjaaGreatDoorDx8
import Derived.Test.YtbefgnmdliefjaaGreatDoorPk21
import Derived.Test.YtbefgnmdliefjaaGreatDoorPk18
import Derived.Test.YtbefgnmdliefjaaGreatDoorPk27
set_option linter.unusedVariables false
set_option linter.unusedSimpArgs false
namespace Go.Ra
open Go Go.Ab Go.Proofs Go.Amd
theorem frow_in {nm:List UInt8} (h:fok nm=true):frow nm ∈ rowsM∧(frow nm).1=nm:=by
 rw [rowsM_eq]
 unfold fok at h
 unfold frow
 cases hf:findL nm rowsL with
 | none=>rw [hf] at h; cases h
 | some r =>
  have h2:=List.find?_some (p:=fun r:RowT=>strEq r.1 nm) hf
  exact ⟨List.mem_of_find?_eq_some hf,eq_of_beq h2⟩
theorem top_alike {ck:InsR→Int} {wd:Int→Int→Int × Int} {lg:Int→Int→Int→Int × Int} (hck:∀ i:InsT,i64r i.2.2.2.2.2=true→ck i=encE i) (hw:WdOk wd) (hg:LgOk lg) {nm:List UInt8} (hn:fok nm=true) :
  ∃ x ∈ rowsR,∃ y ∈ rowsG wd lg,x.1=nm∧y.1=nm ∧ ∀ s a b c d m sz A B C D E,Fine s→lens5 A B C D E=true→i64r m=true →
   Both s (topK (fun i=>encE i == 0) x.1 x.2 s a b c d m sz A B C D E) (topD ck y.1 y.2 s a b c d m sz A B C D E):=by
 obtain ⟨hm,h1⟩:=frow_in hn
 obtain ⟨x,hx,y,hy,e1,e2,al⟩:=allA_get (all_alike hw hg) (by kernel_rfl) rfl _ hm
 have ex:x.1=nm:=e1.symm.trans h1
 refine ⟨x,hx,y,hy,ex,e2.symm.trans ex,fun s a b c d m sz A B C D E hs hl hm6=>?_⟩
 unfold topK topD
 cases decide (sz<1)
 rotate_left
 ·exact both_err hs 1 hl
 cases decide (16<sz)
 rotate_left
 ·exact both_err hs 1 hl
 simp only [cond_false]
 unfold topM topMD
 show Both s (cond (!(encE (x.1,a,b,c,d,m) == 0)) _ _) _
 rw [← e2,ex,hck (nm,a,b,c,d,m) hm6]
 cases he:encE (nm,a,b,c,d,m) == 0
 ·have:(encE (nm,a,b,c,d,m) != 0)=true:=by
   rw [bne,he]
   rfl
  rw [this]
  exact both_err hs 22 hl
 ·have e0:encE (nm,a,b,c,d,m)=0:=eq_of_beq he
  rw [e0]
  have hf:faultyF (frow nm) (nm,a,b,c,d,m)=0:=by
   unfold encE at e0
   simp only [hn,cond_true] at e0
   exact e0
  exact al s a b c d m sz A B C D E hs hl (faulty_ok hf) (ok_imm hf).1
theorem rows_parts {α:Type} (l:List α):l.length=58→l=(l.drop 0).take 8++((l.drop 8).take 8++((l.drop 16).take 8++((l.drop 24).take 8++((l.drop 32).take 8++((l.drop 40).take 8++((l.drop 48).take 8++(l.drop 56).take 8)))))):=by
 intro h
 have step:∀ (k:Nat),l.drop k=(l.drop k).take 8++l.drop (k+8):=fun k=>by
  rw [← List.drop_drop,List.take_append_drop]
 have e9:l.drop 64=[]:=List.drop_eq_nil_of_le (by omega)
 rw [show (l.drop 56).take 8=l.drop 56 by rw [step 56,e9,List.append_nil,List.take_take,Nat.min_self],← step 48,← step 40,← step 32,← step 24,← step 16,← step 8,← step 0]
 rfl
theorem run_all (mb:InsR→Bool):∀ x ∈ rowsR,rO mb x=rE mb x:=by
 have h:rowsR.map (rO mb)=rowsR.map (rE mb):=by
  rw [rows_parts rowsR (by kernel_rfl)]
  simp only [List.map_append,run_1,run_2,run_3,run_4,run_5,run_6,run_7,run_8]
 exact List.map_inj_left.1 h
theorem ref_all (ck:InsR→Int) (wd:Int→Int→Int × Int) (lg:Int→Int→Int→Int × Int):∀ x ∈ rowsG wd lg,gO ck wd lg x=gE ck x:=by
 have h:(rowsG wd lg).map (gO ck wd lg)=(rowsG wd lg).map (gE ck):=by
  rw [rows_parts (rowsG wd lg) rfl]
  simp only [List.map_append,ref_1,ref_2,ref_3,ref_4,ref_5,ref_6,ref_7,ref_8]
 exact List.map_inj_left.1 h
section
variable {mb:InsR→Bool} (hm:Sound Tryz.prog 26 (mayP mb))
include hm
theorem ruB_ok:(ruB mb).Ok Tryz.prog:=
 ⟨.cons hm (.consX add_ok (.consX sub_ok (.consX idx_ok (.cons mulS_ok (.cons div64S_ok (.cons hoS_ok (.cons magS_ok (.nil _)))))))),.cons loadM_ok (.cons storeM_ok (fun p h=>by cases h)),.cons adr_ok (.nil _),fun p h=>by cases h⟩
theorem ruT_ok (d:Nat):(ruT mb d).Ok Tryz.prog:=deep_ok (ruB_ok hm) ruT_ps_ok ruT_ms_ok d
end
theorem runD_ok {mb:InsR→Bool} {tab:List (Nat × Ab.Spec)} (hc:CxOk { cxRunG mb with tab:=tab }) {H:List O} {args:List V} {r:Res} (hl:Nat.ble args.length Tryz.f11.ntmps=true) (hH:H.length=7)
  (h:((dfunD { cxRunG mb with tab:=tab } cx27 Tryz.f11 27 Tryz.f27 args H).bind (dropR 7 [])).fin=some r):MCall Tryz.prog 11 args H r:=by
 rw [Tree.fin_run] at h
 obtain ⟨r0,h1,h2⟩:=bind_run h
 rw [← hH] at h2
 exact mcall_drop (mcall_defer (cx:={ cxRunG mb with tab:=tab }) (cl:=cx27) (fn:=Tryz.f11) (fg:=Tryz.f27) hc (cx0_ok rfl rfl) rfl (by kernel_rfl) (by kernel_rfl) (by kernel_rfl) (by kernel_rfl) hl h1) h2
def mbF (i:InsR):Bool:=encE i == 0
theorem mayP_ok:Sound Tryz.prog 26 (mayP mbF):=by
 intro args out h
 unfold mayP at h
 split at h
 rotate_left
 ·cases h
 exact mayS_ok _ _ h
def mayN (mb:InsR→Bool):Ab.Spec:=fun args=>match args with
 | [.agg [.str nm,.int .i64 a,.int .i64 b,.int .i64 c,.int .i64 d,.int .i64 m]]=>.req (!mb (nm,a,b,c,d,m)) (.leaf (.bool false))
 | _=>.fail
theorem mayN_ok:Sound Tryz.prog 26 (mayN mbF):=by
 intro args out h
 unfold mayN at h
 split at h
 rotate_left
 ·cases h
 obtain ⟨h1,h2⟩:=req_run h
 have e:mbF _=false:=Bool.not_eq_true' _ |>.mp h1
 refine mayS_ok _ _ ?_
 rw [← h2]
 show some (V.bool (mbF _))=_
 rw [e]
 rfl
noncomputable def cxRunN (mb:InsR→Bool):Cx:={ cxRunG mb with tab:=(26,mayN mb) :: (ruT mb 6).tab }
noncomputable def runNE (mb:InsR→Bool) (nm:List UInt8):RunTy:=fun s a b c d m sz A B C D E=>((dfunD (cxRunN mb) cx27 Tryz.f11 27 Tryz.f27 [.agg s.l,insV nm a b c d m,.int .i64 sz,.ptr 0 0] (memO A B C D E)).bind (dropR 7 [])).fin
def topN1 (mb:InsR→Bool) (nm:List UInt8):RunTy:=fun s a b c d m _ A B C D E=>cond (!mb (nm,a,b,c,d,m)) (errK s 22 (memO A B C D E)) none
def topN (mb:InsR→Bool) (nm:List UInt8):RunTy:=fun s a b c d m sz A B C D E=>cond (decide (sz<1)) (errK s 1 (memO A B C D E)) (cond (decide (16<sz)) (errK s 1 (memO A B C D E)) (topN1 mb nm s a b c d m sz A B C D E))
theorem runN_eq (mb:InsR→Bool) (nm:List UInt8):W1 (runNE mb nm)=W2 (topN mb nm):=by kernel_rfl
section
variable {ck:InsR→Int} {wd:Int→Int→Int × Int} {lg:Int→Int→Int→Int × Int} (hc:Sound Tryz.prog 35 (ckP ck)) (hw:Sound Tryz.prog 79 (wdP wd)) (hg:Sound Tryz.prog 129 (lgP lg))
include hc hw hg
end
def ckN (ck:InsR→Int):Ab.Spec:=fun args=>match args with
 | [.agg [.str nm,.int .i64 a,.int .i64 b,.int .i64 c,.int .i64 d,.int .i64 m]]=>.req (ck (nm,a,b,c,d,m) == 7) (.leaf (.int .i64 7))
 | _=>.fail
noncomputable def cxRgN (ck:InsR→Int) (wd:Int→Int→Int × Int) (lg:Int→Int→Int→Int × Int):Cx:={ cxRg ck wd lg with tab:=(35,ckN ck) :: (rgT ck wd lg 5).tab }
noncomputable def runRN (ck:InsR→Int) (wd:Int→Int→Int × Int) (lg:Int→Int→Int→Int × Int) (nm:List UInt8):RunTy:=fun s a b c d m sz A B C D E=>(mfunR (cxRgN ck wd lg) Tryz.f18 [] [.agg s.l,insV nm a b c d m,.int .i64 sz,.ptr 0 0] (refO A B C D E)).fin
def topGN1 (ck:InsR→Int) (nm:List UInt8):RunTy:=fun s a b c d m _ A B C D E=>cond (ck (nm,a,b,c,d,m) == 7) (errK s 22 (refO A B C D E)) none
def topGN (ck:InsR→Int) (nm:List UInt8):RunTy:=fun s a b c d m sz A B C D E=>cond (decide (sz<1)) (errK s 1 (refO A B C D E)) (cond (decide (16<sz)) (errK s 1 (refO A B C D E)) (topGN1 ck nm s a b c d m sz A B C D E))
theorem refN_eq (ck:InsR→Int) (wd:Int→Int→Int × Int) (lg:Int→Int→Int→Int × Int) (nm:List UInt8):W1 (runRN ck wd lg nm)=W2 (topGN ck nm):=by kernel_rfl
theorem W_of {F G:RunTy} (h:W1 F=W2 G) {s:CpuT} (hs:s.x.length=32) (a b c d m sz:Int) (A B C D E:List Int):F s a b c d m sz A B C D E=G s a b c d m sz A B C D E:=by
 have h:=congrArg (fun f=>f s.pc (s.x.getD 0 0) (s.x.getD 1 0) (s.x.getD 2 0) (s.x.getD 3 0) (s.x.getD 4 0) (s.x.getD 5 0) (s.x.getD 6 0) (s.x.getD 7 0) (s.x.getD 8 0) (s.x.getD 9 0) (s.x.getD 10 0) (s.x.getD 11 0) (s.x.getD 12 0) (s.x.getD 13 0) (s.x.getD 14 0) (s.x.getD 15 0)
  (s.x.getD 16 0) (s.x.getD 17 0) (s.x.getD 18 0) (s.x.getD 19 0) (s.x.getD 20 0) (s.x.getD 21 0) (s.x.getD 22 0) (s.x.getD 23 0) (s.x.getD 24 0) (s.x.getD 25 0) (s.x.getD 26 0) (s.x.getD 27 0) (s.x.getD 28 0) (s.x.getD 29 0) (s.x.getD 30 0) (s.x.getD 31 0) s.th s.z s.n s.c s.v a b c d m sz A B C D E) h
 unfold W1 W2 at h
 rw [cpu_tab hs] at h
 exact h
end Go.Ra

namespace Go.Ra
open Go Go.Ab Go.Proofs Go.Amd
def IsOut (s:CpuT) (r g:Option Res) (o:Out):Prop:=Fine o.s∧lens5 o.A o.B o.C o.D o.E=true∧(o.err ≠ 0→o.s=s∧o.ev=0) ∧
 r=some (.ok (.tup [.agg o.s.l,.int .i64 o.ev,.int .i64 o.err]) (memO o.A o.B o.C o.D o.E))∧g=some (.ok (.tup [.agg o.s.l,.int .i64 o.ev,.int .i64 o.err]) (refO o.A o.B o.C o.D o.E))
noncomputable def runP (nm:List UInt8):RunTy:=cond (fok nm) (runE mbF nm) (runNE mbF nm)
noncomputable def refP (ck:InsR→Int) (wd:Int→Int→Int × Int) (lg:Int→Int→Int→Int × Int) (nm:List UInt8):RunTy:=cond (fok nm) (runR ck wd lg nm) (runRN ck wd lg nm)
noncomputable def outF (ck:InsR→Int) (wd:Int→Int→Int × Int) (lg:Int→Int→Int→Int × Int):OutFn:=fun nm s a b c d m sz A B C D E =>
 Classical.epsilon (IsOut s (runP nm s a b c d m sz A B C D E) (refP ck wd lg nm s a b c d m sz A B C D E))
theorem encE_no {nm:List UInt8} (h:fok nm=false) (a b c d m:Int):encE (nm,a,b,c,d,m)=7:=by
 unfold encE
 simp only [h]
 rfl
theorem out_is {ck:InsR→Int} {wd:Int→Int→Int × Int} {lg:Int→Int→Int→Int × Int} (hck:∀ i:InsT,i64r i.2.2.2.2.2=true→ck i=encE i) (hw:WdOk wd) (hg:LgOk lg) (nm:List UInt8) {s:CpuT} (hs:Fine s) (a b c d m sz:Int) {A B C D E:List Int} (hl:lens5 A B C D E=true) (hm6:i64r m=true) :
  IsOut s (runP nm s a b c d m sz A B C D E) (refP ck wd lg nm s a b c d m sz A B C D E) (outF ck wd lg nm s a b c d m sz A B C D E):=by
 refine Classical.epsilon_spec (p:=IsOut s (runP nm s a b c d m sz A B C D E) (refP ck wd lg nm s a b c d m sz A B C D E)) ?_
 have key:Both s (runP nm s a b c d m sz A B C D E) (refP ck wd lg nm s a b c d m sz A B C D E):=by
  unfold runP refP
  cases hf:fok nm
  ·rw [cond_false,cond_false,W_of (runN_eq mbF nm) hs.len,W_of (refN_eq ck wd lg nm) hs.len]
   unfold topN topGN topN1 topGN1
   have e7:=encE_no hf a b c d m
   have e1:mbF (nm,a,b,c,d,m)=false:=by
    unfold mbF
    rw [e7]
    rfl
   have e2:(ck (nm,a,b,c,d,m) == 7)=true:=by
    rw [hck (nm,a,b,c,d,m) hm6,e7]
    rfl
   rw [e1,e2]
   cases decide (sz<1)
   ·cases decide (16<sz)
    ·exact both_err hs 22 hl
    ·exact both_err hs 1 hl
   ·exact both_err hs 1 hl
  ·obtain ⟨x,hx,y,hy,rfl,e2,h⟩:=top_alike hck hw hg hf
   rw [cond_true,cond_true,W_of (run_all mbF x hx) hs.len,← e2,W_of (ref_all ck wd lg y hy) hs.len]
   have h:=h s a b c d m sz A B C D E hs hl hm6
   rw [← e2] at h
   exact h
 obtain ⟨s',ev,err,A',B',C',D',E',h1,h2,h3,h4,h5⟩:=key
 exact ⟨⟨s',ev,err,A',B',C',D',E'⟩,h1,h2,h3,h4,h5⟩
def runS (f:OutFn):MSpec:=fun args H=>match args with
 | [.agg cs,.agg [.str nm,.int .i64 a,.int .i64 b,.int .i64 c,.int .i64 d,.int .i64 m],.int .i64 sz,.ptr 0 0]=>match cpuOf cs with
  | some s=>memM (fun A B C D E=>.req (fineB s && i64r m) (.leaf (.ok (outV (f nm s a b c d m sz A B C D E)) (memO (f nm s a b c d m sz A B C D E).A (f nm s a b c d m sz A B C D E).B (f nm s a b c d m sz A B C D E).C (f nm s a b c d m sz A B C D E).D (f nm s a b c d m sz A B C D E).E)))) H
  | none=>.fail
 | _=>.fail
theorem cxRunN_ok:CxOk (cxRunN mbF):=⟨.cons mayN_ok (ruT_ok mayP_ok 6).1,(ruT_ok mayP_ok 6).2⟩
section
variable {ck:InsR→Int} {wd:Int→Int→Int × Int} {lg:Int→Int→Int→Int × Int} (hck:∀ i:InsT,i64r i.2.2.2.2.2=true→ck i=encE i) (hw:WdOk wd) (hg:LgOk lg)
include hck hw hg
theorem runS_ok:MSound Tryz.prog 11 (runS (outF ck wd lg)):=by
 intro args H out h
 unfold runS at h
 split at h
 rotate_left
 ·cases h
 rename_i cs nm a b c d m sz
 split at h
 rotate_left
 ·cases h
 rename_i s hs
 obtain ⟨A,B,C,D,E,rfl,hl,h⟩:=memM_run h
 obtain ⟨hf,h⟩:=req_run h
 cases h
 obtain ⟨rfl,e2⟩:=cpuOf_spec hs
 obtain ⟨hf,hm6⟩:=Bool.and_eq_true_iff.1 hf
 have hF:=fine_of e2 hf
 obtain ⟨o1,_,_,o4,_⟩:=out_is hck hw hg nm hF a b c d m sz hl hm6
 have et:tabS (outF ck wd lg nm s a b c d m sz A B C D E).s=(outF ck wd lg nm s a b c d m sz A B C D E).s:=cpu_tab o1.len
 unfold outV
 rw [et]
 unfold runP at o4
 cases hk:fok nm
 ·rw [hk,cond_false] at o4
  exact runD_ok (mb:=mbF) cxRunN_ok (by kernel_rfl) rfl o4
 ·rw [hk,cond_true] at o4
  exact runD_ok (mb:=mbF) (tab:=(ruT mbF 6).tab) (ruT_ok mayP_ok 6) (by kernel_rfl) rfl o4
end
theorem ck_eq (i:InsT) (h:i64r i.2.2.2.2.2=true):checkX i=encE i:=check_eq h
noncomputable def outA:OutFn:=outF checkX wdF lgF
theorem runA_ok:MSound Tryz.prog 11 (runS outA):=runS_ok ck_eq wdF_wide lgF_all
theorem outA_is (nm:List UInt8) {s:CpuT} (hs:Fine s) (a b c d m sz:Int) {A B C D E:List Int} (hl:lens5 A B C D E=true) (hm6:i64r m=true) :
  IsOut s (runP nm s a b c d m sz A B C D E) (refP checkX wdF lgF nm s a b c d m sz A B C D E) (outA nm s a b c d m sz A B C D E):=out_is ck_eq wdF_wide lgF_all nm hs a b c d m sz hl hm6
end Go.Ra

namespace Go.Ra
open Go Go.Ab Go.Proofs
def newPg (l:List Int):O:=.obj (.page 0 .u8 l) []
end Go.Ra

namespace Go.Ra
open Go Go.Ab Go.Proofs
noncomputable def cxRcb:Cx:={ P:=Tryz.prog,n:=Tryz.f49.ntmps,tab:=[],mtab:=[],refs:=[],keeps:=[0,1,2,3,8,9,10,20,23,35,61],rtab:=[(48,findR)],lz:=[55] }
theorem cxRcb_ok:CxOk cxRcb:=⟨.nil _,.nil _,.cons findR_ok (.nil _),fun p h=>by cases h⟩
noncomputable abbrev Bcb:Code:=bodyOf Tryz.f49
def cbT (x n k:Int):T:=[(0,.ptr 0 0),(1,.int .u64 x),(2,.int .i64 n),(3,.int .i64 0),(9,.int .i64 k)]
def cbNext (x n:Int) (k:Nat) (H:List O):Tree St:=.leaf (.normal,cbT x n (IntKind.wrap .i64 ((k:Int)+1)),H)
def cbFind (L:Bool) (x n:Int) (k:Nat) (H:List O):Tree St:=.br L (.br (decide (idxF (pgF (adr x k))<0)) (.leaf (.ret,cbT x n k,H)) (cbNext x n k H)) .fail
def cbRound (x n:Int) (k:Nat) (A B C D E:List Int):Tree St:=
 .br (decide ((k:Int)<n)) (.br (decide (0<(k:Int))) (.br (Int.tmod (adr x k) 4096 != 0) (cbNext x n k (refO A B C D E)) (cbFind (lens5 A B C D E) x n k (refO A B C D E))) (cbFind (lens5 A B C D E) x n k (refO A B C D E)))
  (.leaf (.exit 0,cbT x n k,refO A B C D E))
theorem cbRound_eq (x n:Int) (k:Nat) (A B C D E:List Int) :
  ((dcode cxRcb (cin (cin (c2 (c1 (tailN 1 Bcb))))) (cbT x n k) (refO A B C D E)).bind (rnd 7 [] [0,1,2,3,9])).run=(cbRound x n k A B C D E).run:=
 (show _=(cbRound x n k A B C D E).out by kernel_rfl).trans (Tree.out_run _)
def cbHead (x n:Int) (H:List O):Option St:=
 cond (decide (0<n)) (cond (decide (IntKind.wrap .u64 (18446744073709551615 - x)<IntKind.wrap .u64 (IntKind.wrap .i64 (n - 1)))) (some (.ret,[(0,.ptr 0 0),(1,.int .u64 x),(2,.int .i64 n),(3,.int .i64 0)],H)) (some (.normal,[(0,.ptr 0 0),(1,.int .u64 x),(2,.int .i64 n),(3,.int .i64 0)],H)))
  (some (.normal,[(0,.ptr 0 0),(1,.int .u64 x),(2,.int .i64 n),(3,.int .i64 0)],H))
theorem cb_head (x n:Int) (H:List O):((dcode cxRcb (headN 1 Bcb) (initT 0 [.ptr 0 0,.int .u64 x,.int .i64 n,.int .i64 0]) H).bind (cutK [0,1,2,3])).run=cbHead x n H:=by kernel_rfl
theorem cb_start (x n:Int) (H:List O):((dcode cxRcb (c1 (c1 (tailN 1 Bcb))) [(0,.ptr 0 0),(1,.int .u64 x),(2,.int .i64 n),(3,.int .i64 0)] H).bind (cutK [0,1,2,3,9])).run=some (.normal,cbT x n 0,H):=by kernel_rfl
theorem cb_end (H:List O):((dcode cxRcb (tailN 2 Bcb) [] H).bind (answerM Tryz.prog Tryz.f49.results.toList)).run=some (.ok (.bool true) H):=by kernel_rfl
def cbSt (x n:Int) (A B C D E:List Int) (k:{ k:Nat // k≤n.toNat }):T × List O:=(cbT x n k.1,refO A B C D E)
theorem idx_base {x:Int} (hx:isBase x=true) {i:Nat} (hi:i<8192):¬ idxF (pgF (adr x i))<0:=by
 have h:=usable_base hx hi
 unfold usable at h
 obtain ⟨_,h⟩:=Bool.and_eq_true_iff.1 h
 simp only [isPg,Bool.or_eq_true,beq_iff_eq] at h
 rcases h with h | h | h | h | h <;> rw [h] <;> decide
theorem cb_ok {x n:Int} (hx:isBase x=true) (h0:0≤n) (h1:n≤8192) {A B C D E:List Int} (hl:lens5 A B C D E=true) :
  MCall Tryz.prog 49 [.ptr 0 0,.int .u64 x,.int .i64 n,.int .i64 0] (refO A B C D E) (.ok (.bool true) (refO A B C D E)):=by
 have hx' : x=4096∨x=65536:=by simpa [isBase] using hx
 refine mcall_of' (c:=Bcb) (fn:=Tryz.f49) (by kernel_rfl) (by kernel_rfl) (by kernel_rfl) (by kernel_rfl) ?_
 have hh:cbHead x n (refO A B C D E)=some (.normal,[(0,.ptr 0 0),(1,.int .u64 x),(2,.int .i64 n),(3,.int .i64 0)],refO A B C D E):=by
  unfold cbHead
  cases hp:decide (0<n)
  ·rfl
  have hp:=of_decide_eq_true hp
  have e1:IntKind.wrap .u64 (18446744073709551615 - x)=(18446744073709551615 - x) % 18446744073709551616:=rfl
  have e2:IntKind.wrap .u64 (IntKind.wrap .i64 (n - 1))=IntKind.wrap .i64 (n - 1) % 18446744073709551616:=rfl
  rw [e1,e2,wrap_i64 (by omega) (by omega),decide_eq_false (by omega)]
  rfl
 refine AWP_headK (cx:=cxRcb) rfl rfl cxRcb_ok 1 [0,1,2,3] (by kernel_rfl) ((cutK_run _ _).symm.trans ((cb_head x n _).trans hh)) ?_
 have eb:tailN 1 Bcb = .seq (.seq (c1 (c1 (tailN 1 Bcb))) (.block 0 (.loop (cin (cin (c2 (c1 (tailN 1 Bcb)))))))) (tailN 2 Bcb):=by kernel_rfl
 rw [eb]
 obtain ⟨s,g1,g2⟩:=Option.map_eq_some_iff.1 ((cutK_run _ _).symm.trans (cb_start x n (refO A B C D E)))
 refine AWP_seq (AWP_seq (AWP_run (cx:=cxRcb) rfl rfl cxRcb_ok g1 ?_))
 obtain ⟨ex,t,H⟩:=s
 simp only [Prod.mk.injEq] at g2
 obtain ⟨rfl,g2,rfl⟩:=g2
 refine AWP_block (AWP.less (s:=cbT x n 0) (g2 ▸ TLe.keep _ _) ?_)
 refine AWP_roundsK (cx:=cxRcb) (P:=Tryz.prog) (n:=62) rfl rfl cxRcb_ok (cbSt x n A B C D E) (fun k=>n.toNat - k.1) [] [0,1,2,3,9] ?_ ⟨0,Nat.zero_le _⟩
 rintro ⟨k,hk⟩
 refine Tree.all_run_eq (cbRound_eq x n k A B C D E) ?_
 refine ⟨fun hlt=>?_,fun hge=>?_⟩
 ·have hlt:=of_decide_eq_true hlt
  have hnext:(cbNext x n k (refO A B C D E)).all (RoundK (cbSt x n A B C D E) (fun k=>n.toNat - k.1) [0,1,2,3,9] (blockQ 0 (seqQ (AWP Tryz.prog 62 (tailN 2 Bcb) (MPost Tryz.prog Tryz.f49 (.ok (.bool true) (refO A B C D E)))) (MPost Tryz.prog Tryz.f49 (.ok (.bool true) (refO A B C D E))))) ⟨k,hk⟩):=by
   refine ⟨⟨k+1,by omega⟩,by show n.toNat - (k+1)<n.toNat - k; omega,?_,rfl⟩
   rw [wrap_i64 (by omega) (by omega)]
   exact TLe.refl _
  have hfind:=all_t (y:=.fail) hl (all_f (x:=.leaf (.ret,cbT x n k,refO A B C D E)) (decide_eq_false (idx_base hx (i:=k) (by omega))) hnext)
  exact ⟨fun _=>⟨fun _=>hnext,fun _=>hfind⟩,fun _=>hfind⟩
 ·have hge:=of_decide_eq_false hge
  intro t ht
  show AWP _ _ _ _ _ _
  refine AWP.less (s:=[]) (fun _=>.inr rfl) ?_
  obtain ⟨s,g1,g2⟩:=bind_run (cb_end (refO A B C D E))
  refine AWP_run (cx:=cxRcb) rfl rfl cxRcb_ok g1 ?_
  exact answerM_post g2
def canBig:RSpec:=fun args H=>match args with
 | [.ptr 0 0,.int .u64 x,.int .i64 n,.int .i64 r]=>refM (fun _ _ _ _ _=>.req (isBase x && (decide (0≤n) && (decide (n≤8192) && r == 0))) (.leaf (.bool true))) H
 | _=>.fail
theorem canBig_ok:RSound Tryz.prog 49 canBig:=by
 intro args H out h
 unfold canBig at h
 split at h
 rotate_left
 ·cases h
 rename_i x n r
 obtain ⟨a,b,c,d,e,rfl,hl,h⟩:=refM_run h
 obtain ⟨h1,h⟩:=req_run h
 cases h
 simp only [Bool.and_eq_true,decide_eq_true_eq,beq_iff_eq] at h1
 obtain ⟨hx,h2,h3,rfl⟩:=h1
 exact cb_ok hx h2 h3 hl
noncomputable def cxRset:Cx:={ P:=Tryz.prog,n:=Tryz.f25.ntmps,tab:=[],mtab:=[(50,putRf)],refs:=[],keeps:=[0,1,2,6,7,13,17],rtab:=[(49,canBig)] }
noncomputable def cxRset0:Cx:={ cxRset with fuel:=1 }
theorem cxRset_ok:CxOk cxRset:=⟨.nil _,.cons putRf_ok (.nil _),.cons canBig_ok (.nil _),fun p h=>by cases h⟩
noncomputable abbrev Brs:Code:=bodyOf Tryz.f25
def rsS (x:Int) (l:List Int) (n:Nat) (a b c d e:List Int):List O:=refO (layL 1 x l n a) (layL 2 x l n b) (layL 16 x l n c) (layL 17 x l n d) (layL 32 x l n e)
def rsT (x:Int) (l sp:List Int) (fl:Fl) (i:Int):T:=[(0,.ptr 0 0),(1,.int .u64 x),(2,.sl (.int .u8) l sp fl),(7,.int .i64 i)]
def rsRound (x:Int) (l sp:List Int) (fl:Fl) (i:Nat) (a b c d e:List Int):Tree St:=
 .br (decide ((i:Int)<l.length)) (.br (inside i l.length) (.br (lens5 a b c d e) (.br (usable (adr x i)) (.leaf (.normal,rsT x l sp fl (IntKind.wrap .i64 ((i:Int)+1)),
   refO (setF 1 (adr x i) (l.getD i 0) a) (setF 2 (adr x i) (l.getD i 0) b) (setF 16 (adr x i) (l.getD i 0) c) (setF 17 (adr x i) (l.getD i 0) d) (setF 32 (adr x i) (l.getD i 0) e))) .fail) .fail) .fail)
  (.leaf (.exit 0,rsT x l sp fl i,refO a b c d e))
theorem rsRound_eq (x:Int) (l sp:List Int) (fl:Fl) (i:Nat) (a b c d e:List Int) :
  ((dcode cxRset (cin (cin (c2 (c1 (tailN 1 Brs))))) (rsT x l sp fl i) (refO a b c d e)).bind (rnd 7 [] [0,1,2,7])).run=(rsRound x l sp fl i a b c d e).run:=
 (show _=(rsRound x l sp fl i a b c d e).out by kernel_rfl).trans (Tree.out_run _)
theorem rs_head (x:Int) (l sp:List Int) (fl:Fl) (a b c d e:List Int):((dcode cxRset (headN 1 Brs) (initT 0 [.ptr 0 0,.int .u64 x,.sl (.int .u8) l sp fl]) (refO a b c d e)).bind (cutK [0,1,2])).run =
  cond (lens5 a b c d e) (cond (isBase x && (decide ((0:Int)≤l.length) && (decide ((l.length:Int)≤8192) && true))) (some (.normal,[(0,.ptr 0 0),(1,.int .u64 x),(2,.sl (.int .u8) l sp fl)],refO a b c d e)) none) none:=by kernel_rfl
theorem rs_start (x:Int) (l sp:List Int) (fl:Fl) (H:List O):((dcode cxRset (c1 (c1 (tailN 1 Brs))) [(0,.ptr 0 0),(1,.int .u64 x),(2,.sl (.int .u8) l sp fl)] H).bind (cutK [0,1,2,7])).run=some (.normal,rsT x l sp fl 0,H):=by kernel_rfl
theorem rs_end (H:List O):((dcode cxRset (tailN 2 Brs) [] H).bind (answerM Tryz.prog Tryz.f25.results.toList)).run=some (.ok (.int .i64 0) H):=by kernel_rfl
theorem rs_nil (x:Int) (a b c d e:List Int):(mfun cxRset0 Tryz.f25 [.ptr 0 0,.int .u64 x,.val (.slice none 0 0)] (refO a b c d e)).fin=cond (lens5 a b c d e) (cond (isBase x && true) (some (.ok (.int .i64 0) (refO a b c d e))) none) none:=by kernel_rfl
def rsSt (x:Int) (l sp:List Int) (fl:Fl) (a b c d e:List Int) (i:{ i:Nat // i≤l.length }):T × List O:=(rsT x l sp fl i.1,rsS x l i.1 a b c d e)
set_option maxRecDepth 8000 in
theorem rs_ok {x:Int} {l:List Int} (sp:List Int) (fl:Fl) {a b c d e:List Int} (hx:isBase x=true) (hn:l.length≤8192) (hb8:l.all byteB=true) (hl:lens5 a b c d e=true) :
  MCall Tryz.prog 25 [.ptr 0 0,.int .u64 x,.sl (.int .u8) l sp fl] (refO a b c d e) (.ok (.int .i64 0) (rsS x l l.length a b c d e)):=by
 refine mcall_of' (c:=Brs) (fn:=Tryz.f25) (by kernel_rfl) (by kernel_rfl) (by kernel_rfl) (by kernel_rfl) ?_
 have hb:(isBase x && (decide ((0:Int)≤l.length) && (decide ((l.length:Int)≤8192) && true)))=true:=by
  rw [hx,decide_eq_true (by omega),decide_eq_true (by omega)]
  rfl
 refine AWP_headK (cx:=cxRset) rfl rfl cxRset_ok 1 [0,1,2] (by kernel_rfl) (by rw [← cutK_run,rs_head,hl,hb]; rfl) ?_
 have eb:tailN 1 Brs = .seq (.seq (c1 (c1 (tailN 1 Brs))) (.block 0 (.loop (cin (cin (c2 (c1 (tailN 1 Brs)))))))) (tailN 2 Brs):=by kernel_rfl
 rw [eb]
 obtain ⟨s,g1,g2⟩:=Option.map_eq_some_iff.1 ((cutK_run _ _).symm.trans (rs_start x l sp fl (refO a b c d e)))
 refine AWP_seq (AWP_seq (AWP_run (cx:=cxRset) rfl rfl cxRset_ok g1 ?_))
 obtain ⟨ex,t,H⟩:=s
 simp only [Prod.mk.injEq] at g2
 obtain ⟨rfl,g2,rfl⟩:=g2
 refine AWP_block (AWP.less (s:=rsT x l sp fl 0) (g2 ▸ TLe.keep _ _) ?_)
 refine AWP_roundsK (cx:=cxRset) (P:=Tryz.prog) (n:=30) rfl rfl cxRset_ok (rsSt x l sp fl a b c d e) (fun i=>l.length - i.1) [] [0,1,2,7] ?_ ⟨0,Nat.zero_le _⟩
 rintro ⟨i,hi⟩
 have hl' := lens5_layL x l hb8 hl i
 refine Tree.all_run_eq (rsRound_eq x l sp fl i _ _ _ _ _) ?_
 refine ⟨fun hlt=>?_,fun hge=>?_⟩
 ·have hlt:i<l.length:=Int.ofNat_lt.1 (of_decide_eq_true hlt)
  refine all_t (inside_of (Int.natCast_nonneg i) (Int.ofNat_lt.2 hlt)) (all_t hl' (all_t (usable_base hx (by omega)) ⟨⟨i+1,hlt⟩,by show l.length - (i+1)<l.length - i; omega,?_,rfl⟩))
  rw [wrap_i64 (by omega) (by omega)]
  exact TLe.refl _
 ·have hge:¬ i<l.length:=fun h=>of_decide_eq_false hge (Int.ofNat_lt.2 h)
  have hi' : i=l.length:=by omega
  subst hi'
  intro t _
  show AWP _ _ _ _ _ _
  refine AWP.less (s:=[]) (fun _=>.inr rfl) ?_
  obtain ⟨s,g1,g2⟩:=bind_run (rs_end (rsS x l l.length a b c d e))
  refine AWP_run (cx:=cxRset) rfl rfl cxRset_ok g1 ?_
  exact answerM_post g2
def okLast:V→Bool
 | .rng .i64 0 5=>true
 | .int .i64 0=>true
 | _=>false
def refMW {α:Type} (f:List Int→List Int→List Int→List Int→List Int→Tree α):List O→Tree α
 | .cells [.ref 1 3 0 5,v] t :: H=>.req (okLast v) (refM f (.cells [.ref 1 3 0 5,.rng .i64 0 5] t :: H))
 | _=>.fail
theorem refMW_run {f:List Int→List Int→List Int→List Int→List Int→Tree Res} {H:List O} {out:Res} (h:(refMW f H).run=some out) :
  ∃ v a b c d e,H=refH v a b c d e∧okLast v=true∧lens5 a b c d e=true∧(f a b c d e).run=some out:=by
 unfold refMW at h
 split at h
 rotate_left
 ·cases h
 rename_i v t H
 obtain ⟨h1,h⟩:=req_run h
 obtain ⟨a,b,c,d,e,g1,g2,g3⟩:=refM_run h
 refine ⟨v,a,b,c,d,e,?_,h1,g2,g3⟩
 unfold refO refH at g1
 simp only [List.cons.injEq,O.cells.injEq] at g1
 obtain ⟨⟨_,rfl⟩,rfl⟩:=g1
 rfl
theorem mcall_last {f:Nat} {args:List V} {v:V} {A B C D E:List Int} {o:V} {H' : List O} (hv:okLast v=true) (h:MCall Tryz.prog f args (refO A B C D E) (.ok o H')):MCall Tryz.prog f args (refH v A B C D E) (.ok o H'):=by
 unfold okLast at hv
 split at hv
 ·exact h
 ·exact mcall_in (A:=[]) (pre:=[.ref 1 3 0 5]) (post:=[]) (lo:=0) (hi:=5) (by decide) (by decide) h
 ·cases hv
def setRM:MSpec:=fun args H=>match args with
 | [.ptr 0 0,.int .u64 x,.sl (.int .u8) l _ _]=>refMW (fun a b c d e=>.req (isBase x && (decide (l.length≤8192) && l.all byteB)) (.leaf (.ok (.int .i64 0) (refO (layL 1 x l l.length a) (layL 2 x l l.length b) (layL 16 x l l.length c) (layL 17 x l l.length d) (layL 32 x l l.length e))))) H
 | [.ptr 0 0,.int .u64 x,.val (.slice none 0 0)]=>refMW (fun a b c d e=>.req (isBase x) (.leaf (.ok (.int .i64 0) (refO a b c d e)))) H
 | _=>.fail
theorem setRM_ok:MSound Tryz.prog 25 setRM:=by
 intro args H out h
 unfold setRM at h
 split at h
 ·rename_i x l sp fl
  obtain ⟨v,a,b,c,d,e,rfl,hv,hl,h⟩:=refMW_run h
  obtain ⟨h1,h⟩:=req_run h
  cases h
  obtain ⟨hx,hn⟩:=Bool.and_eq_true_iff.1 h1
  obtain ⟨hn,h8⟩:=Bool.and_eq_true_iff.1 hn
  exact mcall_last hv (rs_ok sp fl hx (of_decide_eq_true hn) h8 hl)
 ·rename_i x
  obtain ⟨v,a,b,c,d,e,rfl,hv,hl,h⟩:=refMW_run h
  obtain ⟨h1,h⟩:=req_run h
  cases h
  refine mcall_last hv (msound_fun (cx:=cxRset0) (fn:=Tryz.f25) cxRset_ok (by kernel_rfl) (by kernel_rfl) _ _ _ ?_)
  refine run_req (by kernel_rfl) ?_
  rw [← Tree.fin_run,rs_nil,hl,cond_true,h1]
  rfl
 ·cases h
end Go.Ra

namespace Go.Ra
open Go Go.Ab Go.Proofs
noncomputable def memC:Tabs:={ mtab:=[(46,thereM),(24,setPM),(25,setRM)] }
theorem memC_ok:memC.Ok Tryz.prog:=⟨.nil _,.cons thereM_ok (.cons setPM_ok (.cons setRM_ok fun p h=>by cases h)),.nil _,fun p h=>by cases h⟩
noncomputable def memD_ps:List Fi:=[⟨45,Tryz.f45,[0,1,4,5,6],[],0,[]⟩]
theorem memD_ps_ok:FisOk Tryz.prog memD_ps:=⟨⟨by kernel_rfl,by kernel_rfl⟩,trivial⟩
noncomputable def memD_ms:List Fi:=[⟨21,Tryz.f21,[0],[],0,[]⟩,⟨30,Tryz.f30,[0,2],[],0,[]⟩,⟨22,Tryz.f22,[0,1,2,3,8,9,10,11,12,13,14,15,22,37,52,54,78,87],[],4,[]⟩,⟨48,Tryz.f48,[0,1,4,5,30,41,53],[],8,[]⟩,⟨23,Tryz.f23,[0,1,2,3,8,9,10,11,12,13,14,15,16,33,44,53,61,76,84,88,95],[103,105,106],4,[103]⟩]
theorem memD_ms_ok:FisOk Tryz.prog memD_ms:=⟨⟨by kernel_rfl,by kernel_rfl⟩,⟨by kernel_rfl,by kernel_rfl⟩,⟨by kernel_rfl,by kernel_rfl⟩,⟨by kernel_rfl,by kernel_rfl⟩,⟨by kernel_rfl,by kernel_rfl⟩,trivial⟩
noncomputable def memD (d:Nat):Tabs:=deep Tryz.prog memC memD_ps memD_ms d
theorem memD_ok (d:Nat):(memD d).Ok Tryz.prog:=deep_ok memC_ok memD_ps_ok memD_ms_ok d
noncomputable def cxWd:Cx:={ P:=Tryz.prog,n:=Tryz.f10.ntmps,tab:=(memD 4).tab,mtab:=(memD 4).mtab,rtab:=(memD 4).rtab,refs:=[],keeps:=[0,1,4,5,6,7] }
theorem cxWd_ok:CxOk cxWd:=memD_ok 4
noncomputable abbrev Bwd:Code:=bodyOf Tryz.f10
def wdPg (r:Int) (l:List Int):O:=.obj (.page 1 .u8 l) [.int .i64 r]
def wdHeap (A B C D E:List Int):List O:=[.obj (.map [1,2,16,17,32]) [.ptr 3 0,.ptr 4 0,.ptr 11 0,.ptr 12 0,.ptr 19 0],.cells [.bool true,.mp 0] 72,.cells [.ref 22 3 0 5,.int .i64 0] 58,
 wdPg 5 A,wdPg 5 B,newPg A,.cells (wRow 1 5 5) (95+4294967296),.dead,newPg B,.cells (wRow 2 5 8) (95+4294967296),.dead,wdPg 6 C,wdPg 6 D,newPg C,.cells (wRow 16 6 13) (95+4294967296),.dead,newPg D,.cells (wRow 17 6 16) (95+4294967296),.dead,wdPg 4 E,newPg E,
 .cells (wRow 32 4 20) (95+4294967296),.cells (wRow 1 5 5++(wRow 2 5 8++(wRow 16 6 13++(wRow 17 6 16++wRow 32 4 20)))) 0]
theorem wd_head (c d:V):(dcode cxWd (headN 7 Bwd) (initT 0 [c,d]) []).run.map (fun s=>(s.1,keep [0,1,6,7] s.2.1,s.2.2)) =
  some (.normal,[(0,c),(1,d),(6,.ptr 1 0),(7,.ptr 2 0)],wdHeap zeros zeros zeros zeros zeros):=by kernel_rfl
def bothO (A B C D E:List Int):List O:=[.cells [.bool true,.mp 1] 72,.obj (.map [1,2,16,17,32]) [.ptr 2 0,.ptr 3 0,.ptr 4 0,.ptr 5 0,.ptr 6 0],wdPg 5 A,wdPg 5 B,wdPg 6 C,wdPg 6 D,wdPg 4 E,
 .cells [.ref 8 3 0 5,lastV] 58,.cells (wRow 1 5 9++(wRow 2 5 10++(wRow 16 6 11++(wRow 17 6 12++wRow 32 4 13)))) 0,newPg A,newPg B,newPg C,newPg D,newPg E]
def wdKeep:List Nat:=[1,0,3,4,11,12,19,2,22,5,8,13,16,20]
def wdK (k:Int) (l m P:List Int):List Int:=layL k 65536 m m.length (layL k 4096 l l.length P)
def wdL (l m A B C D E:List Int):List O:=bothO (wdK 1 l m A) (wdK 2 l m B) (wdK 16 l m C) (wdK 17 l m D) (wdK 32 l m E)
noncomputable def wdT (c d:V) (A B C D E:List Int):Option Res:=(((dcode cxWd (tailN 7 Bwd) [(0,c),(1,d),(6,.ptr 1 0),(7,.ptr 2 0)] (wdHeap A B C D E)).bind (answerM Tryz.prog Tryz.f10.results.toList)).bind (dropR 0 wdKeep)).fin
def setB (l:List Int):Bool:=decide (l.length≤8192) && l.all byteB
def wdC (L n:Bool) (r:Option Res):Option Res:=cond (true && L) (cond (true && n) (cond (true && (true && (true && L))) (cond (true && n) r none) none) none) none
def wdN (L:Bool) (r:Option Res):Option Res:=cond (true && L) (cond (true && (true && (true && L))) r none) none
def wdS1 (l A B C D E:List Int):Bool:=lens5 (layL 1 4096 l l.length A) (layL 2 4096 l l.length B) (layL 16 4096 l l.length C) (layL 17 4096 l l.length D) (layL 32 4096 l l.length E)
def wdOk (l m A B C D E:List Int):Option Res:=some (.ok (.tup [.ptr 0 0,.ptr 7 0]) (wdL l m A B C D E))
theorem wd_ss (l sp m sq:List Int) (fl fm:Fl) (A B C D E:List Int):wdT (.sl (.int .u8) l sp fl) (.sl (.int .u8) m sq fm) A B C D E =
  wdC (lens5 A B C D E) (setB l) (wdC (wdS1 l A B C D E) (setB m) (wdOk l m A B C D E)):=by kernel_rfl
theorem wd_ns (m sq:List Int) (fm:Fl) (A B C D E:List Int):wdT (.val (.slice none 0 0)) (.sl (.int .u8) m sq fm) A B C D E =
  wdN (lens5 A B C D E) (wdC (lens5 A B C D E) (setB m) (wdOk [] m A B C D E)):=by kernel_rfl
theorem wd_sn (l sp:List Int) (fl:Fl) (A B C D E:List Int):wdT (.sl (.int .u8) l sp fl) (.val (.slice none 0 0)) A B C D E =
  wdC (lens5 A B C D E) (setB l) (wdN (wdS1 l A B C D E) (wdOk l [] A B C D E)):=by kernel_rfl
theorem wd_nn (A B C D E:List Int):wdT (.val (.slice none 0 0)) (.val (.slice none 0 0)) A B C D E =
  wdN (lens5 A B C D E) (wdN (lens5 A B C D E) (wdOk [] [] A B C D E)):=by kernel_rfl
def wdArg:V→Option (List Int)
 | .sl (.int .u8) l _ _=>some l
 | .val (.slice none 0 0)=>some []
 | _=>none
theorem wdArg_spec {v:V} {l:List Int} (h:wdArg v=some l):(∃ sp fl,v = .sl (.int .u8) l sp fl)∨(v = .val (.slice none 0 0)∧l=[]):=by
 unfold wdArg at h
 split at h
 ·cases h; exact .inl ⟨_,_,rfl⟩
 ·cases h; exact .inr ⟨rfl,rfl⟩
 ·cases h
theorem zeros_len:zeros.length=4096:=List.length_replicate
theorem lens_zeros:lens5 zeros zeros zeros zeros zeros=true:=by
 have h:pgB zeros=true:=by
  unfold pgB
  rw [zeros_len,Bool.and_eq_true_iff]
  refine ⟨rfl,?_⟩
  unfold zeros
  rw [List.all_replicate]
  rfl
 unfold lens5
 rw [h]
 rfl
theorem wd_run {c d:V} {l m:List Int} (hc:wdArg c=some l) (hd:wdArg d=some m) (h1:setB l=true) (h2:setB m=true) {A B C D E:List Int} (hl:lens5 A B C D E=true) :
  wdT c d A B C D E=wdOk l m A B C D E:=by
 have hs:wdS1 l A B C D E=true:=lens5_layL _ _ (Bool.and_eq_true_iff.1 h1).2 hl _
 rcases wdArg_spec hc with ⟨sp,fl,rfl⟩ | ⟨rfl,rfl⟩ <;> rcases wdArg_spec hd with ⟨sq,fm,rfl⟩ | ⟨rfl,rfl⟩
 ·exact (wd_ss l sp m sq fl fm A B C D E).trans (by rw [hl,hs,h1,h2]; rfl)
 ·exact (wd_sn l sp fl A B C D E).trans (by rw [hl,hs,h1]; rfl)
 ·exact (wd_ns m sq fm A B C D E).trans (by rw [hl,h2]; rfl)
 ·rw [wd_nn,hl]; rfl
def worldD:MSpec:=fun args H=>match args,H with
 | [c,d],[]=>match wdArg c,wdArg d with
  | some l,some m=>.req (setB l && setB m) (.leaf (.ok (.tup [.ptr 0 0,.ptr 7 0]) (wdL l m zeros zeros zeros zeros zeros)))
  | _,_=>.fail
 | _,_=>.fail
theorem worldD_ok:MSound Tryz.prog 10 worldD:=by
 intro args H out h
 unfold worldD at h
 split at h
 rotate_left
 ·cases h
 rename_i c d
 split at h
 rotate_left
 ·cases h
 rename_i l m hc hd
 obtain ⟨h0,h⟩:=req_run h
 cases h
 obtain ⟨h1,h2⟩:=Bool.and_eq_true_iff.1 h0
 have e:=wd_run hc hd h1 h2 lens_zeros
 unfold wdT at e
 rw [Tree.fin_run] at e
 obtain ⟨r0,e1,e2⟩:=bind_run e
 refine mcall_drop (H:=[]) (r:=r0) (κ:=wdKeep) ?_ e2
 obtain ⟨s,g1,g2⟩:=bind_run e1
 refine mcall_of' (c:=Bwd) (fn:=Tryz.f10) (by kernel_rfl) (by kernel_rfl) (by kernel_rfl) (by kernel_rfl) ?_
 refine AWP_headK (cx:=cxWd) rfl rfl cxWd_ok 7 [0,1,6,7] (by kernel_rfl) (wd_head c d) ?_
 exact AWP_run (cx:=cxWd) rfl rfl cxWd_ok g1 (answerM_post g2)
theorem lens5_wd {l m:List Int} (hl:setB l=true) (hm:setB m=true) {A B C D E:List Int} (h:lens5 A B C D E=true):lens5 (wdK 1 l m A) (wdK 2 l m B) (wdK 16 l m C) (wdK 17 l m D) (wdK 32 l m E)=true:=lens5_layL _ _ (Bool.and_eq_true_iff.1 hm).2 (lens5_layL _ _ (Bool.and_eq_true_iff.1 hl).2 h _) _
end Go.Ra
