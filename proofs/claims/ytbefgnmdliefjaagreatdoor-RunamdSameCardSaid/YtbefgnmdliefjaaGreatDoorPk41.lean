/-
  runamd: Run of the program and of the document: one answer, told by both specs. Conditions: none.
-/
import Derived.Test.YtbefgnmdliefjaaGreatDoorDt7
import Derived.Test.YtbefgnmdliefjaaGreatDoorPk19
import Derived.Test.YtbefgnmdliefjaaGreatDoorPk24
import Derived.Test.YtbefgnmdliefjaaGreatDoorPk22
import Derived.Test.YtbefgnmdliefjaaGreatDoorDy1
import Derived.Test.YtbefgnmdliefjaaGreatDoorDx1
import Derived.Test.YtbefgnmdliefjaaGreatDoorDy2
import Derived.Test.YtbefgnmdliefjaaGreatDoorDx2
import Derived.Test.YtbefgnmdliefjaaGreatDoorDy3
import Derived.Test.YtbefgnmdliefjaaGreatDoorDx3
import Derived.Test.YtbefgnmdliefjaaGreatDoorDy4
import Derived.Test.YtbefgnmdliefjaaGreatDoorDx4
import Derived.Test.YtbefgnmdliefjaaGreatDoorDy5
import Derived.Test.YtbefgnmdliefjaaGreatDoorDx5
import Derived.Test.YtbefgnmdliefjaaGreatDoorDy6
import Derived.Test.YtbefgnmdliefjaaGreatDoorDx6
import Derived.Test.YtbefgnmdliefjaaGreatDoorDy7
import Derived.Test.YtbefgnmdliefjaaGreatDoorDx7
import Derived.Test.YtbefgnmdliefjaaGreatDoorDy8
import Derived.Test.YtbefgnmdliefjaaGreatDoorDx8
set_option linter.unusedVariables false
set_option linter.unusedSimpArgs false
namespace Go.Ra
open Go Go.Ab Go.Proofs Go.Amd
theorem frow_in {nm:List UInt8} (h:fok nm=true):frow nm ∈ rowsM∧(frow nm).1=nm:=by
 rw [rowsM_eq]
 unfold fok at h
 unfold frow
 cases hf:findL nm rowsL with
 | none=>rw [hf] at h; cases h
 | some r =>
  have h2:=List.find?_some (p:=fun r:RowT=>strEq r.1 nm) hf
  exact ⟨List.mem_of_find?_eq_some hf,eq_of_beq h2⟩
theorem top_alike {ck:InsR→Int} {wd:Int→Int→Int × Int} {lg:Int→Int→Int→Int × Int} (hck:∀ i:InsT,i64r i.2.2.2.2.2=true→ck i=encE i) (hw:WdOk wd) (hg:LgOk lg) {nm:List UInt8} (hn:fok nm=true) :
  ∃ x ∈ rowsR,∃ y ∈ rowsG wd lg,x.1=nm∧y.1=nm ∧ ∀ s a b c d m sz A B C D E,Fine s→lens5 A B C D E=true→i64r m=true →
   Both s (topK (fun i=>encE i == 0) x.1 x.2 s a b c d m sz A B C D E) (topD ck y.1 y.2 s a b c d m sz A B C D E):=by
 obtain ⟨hm,h1⟩:=frow_in hn
 obtain ⟨x,hx,y,hy,e1,e2,al⟩:=allA_get (all_alike hw hg) (by kernel_rfl) rfl _ hm
 have ex:x.1=nm:=e1.symm.trans h1
 refine ⟨x,hx,y,hy,ex,e2.symm.trans ex,fun s a b c d m sz A B C D E hs hl hm6=>?_⟩
 unfold topK topD
 cases decide (sz<1)
 rotate_left
 ·exact both_err hs 1 hl
 cases decide (16<sz)
 rotate_left
 ·exact both_err hs 1 hl
 simp only [cond_false]
 unfold topM topMD
 show Both s (cond (!(encE (x.1,a,b,c,d,m) == 0)) _ _) _
 rw [← e2,ex,hck (nm,a,b,c,d,m) hm6]
 cases he:encE (nm,a,b,c,d,m) == 0
 ·have:(encE (nm,a,b,c,d,m) != 0)=true:=by
   rw [bne,he]
   rfl
  rw [this]
  exact both_err hs 22 hl
 ·have e0:encE (nm,a,b,c,d,m)=0:=eq_of_beq he
  rw [e0]
  have hf:faultyF (frow nm) (nm,a,b,c,d,m)=0:=by
   unfold encE at e0
   simp only [hn,cond_true] at e0
   exact e0
  exact al s a b c d m sz A B C D E hs hl (faulty_ok hf) (ok_imm hf).1
theorem rows_parts {α:Type} (l:List α):l.length=58→l=(l.drop 0).take 8++((l.drop 8).take 8++((l.drop 16).take 8++((l.drop 24).take 8++((l.drop 32).take 8++((l.drop 40).take 8++((l.drop 48).take 8++(l.drop 56).take 8)))))):=by
 intro h
 have step:∀ (k:Nat),l.drop k=(l.drop k).take 8++l.drop (k+8):=fun k=>by
  rw [← List.drop_drop,List.take_append_drop]
 have e9:l.drop 64=[]:=List.drop_eq_nil_of_le (by omega)
 rw [show (l.drop 56).take 8=l.drop 56 by rw [step 56,e9,List.append_nil,List.take_take,Nat.min_self],← step 48,← step 40,← step 32,← step 24,← step 16,← step 8,← step 0]
 rfl
theorem run_all (mb:InsR→Bool):∀ x ∈ rowsR,rO mb x=rE mb x:=by
 have h:rowsR.map (rO mb)=rowsR.map (rE mb):=by
  rw [rows_parts rowsR (by kernel_rfl)]
  simp only [List.map_append,run_1,run_2,run_3,run_4,run_5,run_6,run_7,run_8]
 exact List.map_inj_left.1 h
theorem ref_all (ck:InsR→Int) (wd:Int→Int→Int × Int) (lg:Int→Int→Int→Int × Int):∀ x ∈ rowsG wd lg,gO ck wd lg x=gE ck x:=by
 have h:(rowsG wd lg).map (gO ck wd lg)=(rowsG wd lg).map (gE ck):=by
  rw [rows_parts (rowsG wd lg) rfl]
  simp only [List.map_append,ref_1,ref_2,ref_3,ref_4,ref_5,ref_6,ref_7,ref_8]
 exact List.map_inj_left.1 h
section
variable {mb:InsR→Bool} (hm:Sound Tryz.prog 26 (mayP mb))
include hm
theorem ruB_ok:(ruB mb).Ok Tryz.prog:=
 ⟨.cons hm (.consX add_ok (.consX sub_ok (.consX idx_ok (.cons mulS_ok (.cons div64S_ok (.cons hoS_ok (.cons magS_ok (.nil _)))))))),.cons loadM_ok (.cons storeM_ok (fun p h=>by cases h)),.cons adr_ok (.nil _),fun p h=>by cases h⟩
theorem ruT_ok (d:Nat):(ruT mb d).Ok Tryz.prog:=deep_ok (ruB_ok hm) ruT_ps_ok ruT_ms_ok d
end
theorem runD_ok {mb:InsR→Bool} {tab:List (Nat × Ab.Spec)} (hc:CxOk { cxRunG mb with tab:=tab }) {H:List O} {args:List V} {r:Res} (hl:Nat.ble args.length Tryz.f11.ntmps=true) (hH:H.length=7)
  (h:((dfunD { cxRunG mb with tab:=tab } cx27 Tryz.f11 27 Tryz.f27 args H).bind (dropR 7 [])).fin=some r):MCall Tryz.prog 11 args H r:=by
 rw [Tree.fin_run] at h
 obtain ⟨r0,h1,h2⟩:=bind_run h
 rw [← hH] at h2
 exact mcall_drop (mcall_defer (cx:={ cxRunG mb with tab:=tab }) (cl:=cx27) (fn:=Tryz.f11) (fg:=Tryz.f27) hc (cx0_ok rfl rfl) rfl (by kernel_rfl) (by kernel_rfl) (by kernel_rfl) (by kernel_rfl) hl h1) h2
def mbF (i:InsR):Bool:=encE i == 0
theorem mayP_ok:Sound Tryz.prog 26 (mayP mbF):=by
 intro args out h
 unfold mayP at h
 split at h
 rotate_left
 ·cases h
 exact mayS_ok _ _ h
def mayN (mb:InsR→Bool):Ab.Spec:=fun args=>match args with
 | [.agg [.str nm,.int .i64 a,.int .i64 b,.int .i64 c,.int .i64 d,.int .i64 m]]=>.req (!mb (nm,a,b,c,d,m)) (.leaf (.bool false))
 | _=>.fail
theorem mayN_ok:Sound Tryz.prog 26 (mayN mbF):=by
 intro args out h
 unfold mayN at h
 split at h
 rotate_left
 ·cases h
 obtain ⟨h1,h2⟩:=req_run h
 have e:mbF _=false:=Bool.not_eq_true' _ |>.mp h1
 refine mayS_ok _ _ ?_
 rw [← h2]
 show some (V.bool (mbF _))=_
 rw [e]
 rfl
noncomputable def cxRunN (mb:InsR→Bool):Cx:={ cxRunG mb with tab:=(26,mayN mb) :: (ruT mb 6).tab }
noncomputable def runNE (mb:InsR→Bool) (nm:List UInt8):RunTy:=fun s a b c d m sz A B C D E=>((dfunD (cxRunN mb) cx27 Tryz.f11 27 Tryz.f27 [.agg s.l,insV nm a b c d m,.int .i64 sz,.ptr 0 0] (memO A B C D E)).bind (dropR 7 [])).fin
def topN1 (mb:InsR→Bool) (nm:List UInt8):RunTy:=fun s a b c d m _ A B C D E=>cond (!mb (nm,a,b,c,d,m)) (errK s 22 (memO A B C D E)) none
def topN (mb:InsR→Bool) (nm:List UInt8):RunTy:=fun s a b c d m sz A B C D E=>cond (decide (sz<1)) (errK s 1 (memO A B C D E)) (cond (decide (16<sz)) (errK s 1 (memO A B C D E)) (topN1 mb nm s a b c d m sz A B C D E))
theorem runN_eq (mb:InsR→Bool) (nm:List UInt8):W1 (runNE mb nm)=W2 (topN mb nm):=by kernel_rfl
section
variable {ck:InsR→Int} {wd:Int→Int→Int × Int} {lg:Int→Int→Int→Int × Int} (hc:Sound Tryz.prog 35 (ckP ck)) (hw:Sound Tryz.prog 79 (wdP wd)) (hg:Sound Tryz.prog 129 (lgP lg))
include hc hw hg
end
def ckN (ck:InsR→Int):Ab.Spec:=fun args=>match args with
 | [.agg [.str nm,.int .i64 a,.int .i64 b,.int .i64 c,.int .i64 d,.int .i64 m]]=>.req (ck (nm,a,b,c,d,m) == 7) (.leaf (.int .i64 7))
 | _=>.fail
noncomputable def cxRgN (ck:InsR→Int) (wd:Int→Int→Int × Int) (lg:Int→Int→Int→Int × Int):Cx:={ cxRg ck wd lg with tab:=(35,ckN ck) :: (rgT ck wd lg 5).tab }
noncomputable def runRN (ck:InsR→Int) (wd:Int→Int→Int × Int) (lg:Int→Int→Int→Int × Int) (nm:List UInt8):RunTy:=fun s a b c d m sz A B C D E=>(mfunR (cxRgN ck wd lg) Tryz.f18 [] [.agg s.l,insV nm a b c d m,.int .i64 sz,.ptr 0 0] (refO A B C D E)).fin
def topGN1 (ck:InsR→Int) (nm:List UInt8):RunTy:=fun s a b c d m _ A B C D E=>cond (ck (nm,a,b,c,d,m) == 7) (errK s 22 (refO A B C D E)) none
def topGN (ck:InsR→Int) (nm:List UInt8):RunTy:=fun s a b c d m sz A B C D E=>cond (decide (sz<1)) (errK s 1 (refO A B C D E)) (cond (decide (16<sz)) (errK s 1 (refO A B C D E)) (topGN1 ck nm s a b c d m sz A B C D E))
theorem refN_eq (ck:InsR→Int) (wd:Int→Int→Int × Int) (lg:Int→Int→Int→Int × Int) (nm:List UInt8):W1 (runRN ck wd lg nm)=W2 (topGN ck nm):=by kernel_rfl
theorem W_of {F G:RunTy} (h:W1 F=W2 G) {s:CpuT} (hs:s.x.length=32) (a b c d m sz:Int) (A B C D E:List Int):F s a b c d m sz A B C D E=G s a b c d m sz A B C D E:=by
 have h:=congrArg (fun f=>f s.pc (s.x.getD 0 0) (s.x.getD 1 0) (s.x.getD 2 0) (s.x.getD 3 0) (s.x.getD 4 0) (s.x.getD 5 0) (s.x.getD 6 0) (s.x.getD 7 0) (s.x.getD 8 0) (s.x.getD 9 0) (s.x.getD 10 0) (s.x.getD 11 0) (s.x.getD 12 0) (s.x.getD 13 0) (s.x.getD 14 0) (s.x.getD 15 0)
  (s.x.getD 16 0) (s.x.getD 17 0) (s.x.getD 18 0) (s.x.getD 19 0) (s.x.getD 20 0) (s.x.getD 21 0) (s.x.getD 22 0) (s.x.getD 23 0) (s.x.getD 24 0) (s.x.getD 25 0) (s.x.getD 26 0) (s.x.getD 27 0) (s.x.getD 28 0) (s.x.getD 29 0) (s.x.getD 30 0) (s.x.getD 31 0) s.th s.z s.n s.c s.v a b c d m sz A B C D E) h
 unfold W1 W2 at h
 rw [cpu_tab hs] at h
 exact h
end Go.Ra

namespace Go.Ra
open Go Go.Ab Go.Proofs Go.Amd
def IsOut (s:CpuT) (r g:Option Res) (o:Out):Prop:=Fine o.s∧lens5 o.A o.B o.C o.D o.E=true∧(o.err ≠ 0→o.s=s∧o.ev=0) ∧
 r=some (.ok (.tup [.agg o.s.l,.int .i64 o.ev,.int .i64 o.err]) (memO o.A o.B o.C o.D o.E))∧g=some (.ok (.tup [.agg o.s.l,.int .i64 o.ev,.int .i64 o.err]) (refO o.A o.B o.C o.D o.E))
noncomputable def runP (nm:List UInt8):RunTy:=cond (fok nm) (runE mbF nm) (runNE mbF nm)
noncomputable def refP (ck:InsR→Int) (wd:Int→Int→Int × Int) (lg:Int→Int→Int→Int × Int) (nm:List UInt8):RunTy:=cond (fok nm) (runR ck wd lg nm) (runRN ck wd lg nm)
noncomputable def outF (ck:InsR→Int) (wd:Int→Int→Int × Int) (lg:Int→Int→Int→Int × Int):OutFn:=fun nm s a b c d m sz A B C D E =>
 Classical.epsilon (IsOut s (runP nm s a b c d m sz A B C D E) (refP ck wd lg nm s a b c d m sz A B C D E))
theorem encE_no {nm:List UInt8} (h:fok nm=false) (a b c d m:Int):encE (nm,a,b,c,d,m)=7:=by
 unfold encE
 simp only [h]
 rfl
theorem out_is {ck:InsR→Int} {wd:Int→Int→Int × Int} {lg:Int→Int→Int→Int × Int} (hck:∀ i:InsT,i64r i.2.2.2.2.2=true→ck i=encE i) (hw:WdOk wd) (hg:LgOk lg) (nm:List UInt8) {s:CpuT} (hs:Fine s) (a b c d m sz:Int) {A B C D E:List Int} (hl:lens5 A B C D E=true) (hm6:i64r m=true) :
  IsOut s (runP nm s a b c d m sz A B C D E) (refP ck wd lg nm s a b c d m sz A B C D E) (outF ck wd lg nm s a b c d m sz A B C D E):=by
 refine Classical.epsilon_spec (p:=IsOut s (runP nm s a b c d m sz A B C D E) (refP ck wd lg nm s a b c d m sz A B C D E)) ?_
 have key:Both s (runP nm s a b c d m sz A B C D E) (refP ck wd lg nm s a b c d m sz A B C D E):=by
  unfold runP refP
  cases hf:fok nm
  ·rw [cond_false,cond_false,W_of (runN_eq mbF nm) hs.len,W_of (refN_eq ck wd lg nm) hs.len]
   unfold topN topGN topN1 topGN1
   have e7:=encE_no hf a b c d m
   have e1:mbF (nm,a,b,c,d,m)=false:=by
    unfold mbF
    rw [e7]
    rfl
   have e2:(ck (nm,a,b,c,d,m) == 7)=true:=by
    rw [hck (nm,a,b,c,d,m) hm6,e7]
    rfl
   rw [e1,e2]
   cases decide (sz<1)
   ·cases decide (16<sz)
    ·exact both_err hs 22 hl
    ·exact both_err hs 1 hl
   ·exact both_err hs 1 hl
  ·obtain ⟨x,hx,y,hy,rfl,e2,h⟩:=top_alike hck hw hg hf
   rw [cond_true,cond_true,W_of (run_all mbF x hx) hs.len,← e2,W_of (ref_all ck wd lg y hy) hs.len]
   have h:=h s a b c d m sz A B C D E hs hl hm6
   rw [← e2] at h
   exact h
 obtain ⟨s',ev,err,A',B',C',D',E',h1,h2,h3,h4,h5⟩:=key
 exact ⟨⟨s',ev,err,A',B',C',D',E'⟩,h1,h2,h3,h4,h5⟩
def runS (f:OutFn):MSpec:=fun args H=>match args with
 | [.agg cs,.agg [.str nm,.int .i64 a,.int .i64 b,.int .i64 c,.int .i64 d,.int .i64 m],.int .i64 sz,.ptr 0 0]=>match cpuOf cs with
  | some s=>memM (fun A B C D E=>.req (fineB s && i64r m) (.leaf (.ok (outV (f nm s a b c d m sz A B C D E)) (memO (f nm s a b c d m sz A B C D E).A (f nm s a b c d m sz A B C D E).B (f nm s a b c d m sz A B C D E).C (f nm s a b c d m sz A B C D E).D (f nm s a b c d m sz A B C D E).E)))) H
  | none=>.fail
 | _=>.fail
theorem cxRunN_ok:CxOk (cxRunN mbF):=⟨.cons mayN_ok (ruT_ok mayP_ok 6).1,(ruT_ok mayP_ok 6).2⟩
section
variable {ck:InsR→Int} {wd:Int→Int→Int × Int} {lg:Int→Int→Int→Int × Int} (hck:∀ i:InsT,i64r i.2.2.2.2.2=true→ck i=encE i) (hw:WdOk wd) (hg:LgOk lg)
include hck hw hg
theorem runS_ok:MSound Tryz.prog 11 (runS (outF ck wd lg)):=by
 intro args H out h
 unfold runS at h
 split at h
 rotate_left
 ·cases h
 rename_i cs nm a b c d m sz
 split at h
 rotate_left
 ·cases h
 rename_i s hs
 obtain ⟨A,B,C,D,E,rfl,hl,h⟩:=memM_run h
 obtain ⟨hf,h⟩:=req_run h
 cases h
 obtain ⟨rfl,e2⟩:=cpuOf_spec hs
 obtain ⟨hf,hm6⟩:=Bool.and_eq_true_iff.1 hf
 have hF:=fine_of e2 hf
 obtain ⟨o1,_,_,o4,_⟩:=out_is hck hw hg nm hF a b c d m sz hl hm6
 have et:tabS (outF ck wd lg nm s a b c d m sz A B C D E).s=(outF ck wd lg nm s a b c d m sz A B C D E).s:=cpu_tab o1.len
 unfold outV
 rw [et]
 unfold runP at o4
 cases hk:fok nm
 ·rw [hk,cond_false] at o4
  exact runD_ok (mb:=mbF) cxRunN_ok (by kernel_rfl) rfl o4
 ·rw [hk,cond_true] at o4
  exact runD_ok (mb:=mbF) (tab:=(ruT mbF 6).tab) (ruT_ok mayP_ok 6) (by kernel_rfl) rfl o4
end
theorem ck_eq (i:InsT) (h:i64r i.2.2.2.2.2=true):checkX i=encE i:=check_eq h
noncomputable def outA:OutFn:=outF checkX wdF lgF
theorem runA_ok:MSound Tryz.prog 11 (runS outA):=runS_ok ck_eq wdF_wide lgF_all
theorem outA_is (nm:List UInt8) {s:CpuT} (hs:Fine s) (a b c d m sz:Int) {A B C D E:List Int} (hl:lens5 A B C D E=true) (hm6:i64r m=true) :
  IsOut s (runP nm s a b c d m sz A B C D E) (refP checkX wdF lgF nm s a b c d m sz A B C D E) (outA nm s a b c d m sz A B C D E):=out_is ck_eq wdF_wide lgF_all nm hs a b c d m sz hl hm6
end Go.Ra
