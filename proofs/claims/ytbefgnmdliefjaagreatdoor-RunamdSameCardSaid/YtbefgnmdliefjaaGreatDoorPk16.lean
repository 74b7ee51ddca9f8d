/-
  An instruction's bytes, as one list; Encode, May, Operands, Names. Conditions: none.
-/
import Derived.Test.YtbefgnmdliefjaaGreatDoorDm7
import Derived.Test.YtbefgnmdliefjaaGreatDoorPk11
import Derived.Test.YtbefgnmdliefjaaGreatDoorPk10
import Derived.Test.YtbefgnmdliefjaaGreatDoorPk13
set_option linter.unusedVariables false
set_option linter.unusedSimpArgs false
namespace Go.Amd
open Go Go.Ab Go.Proofs
def scaleN (d:Int):Int:=cond (decide (1<d)) (cond (decide (2<d)) (cond (decide (4<d)) (cond (decide (8<d)) 4 3) 2) 1) 0
def modP (m a b c d:Int) (imm:List Int):Int × List Int:=
 cond (cond (c == 16) (andi b 7 != 4) false) (rexM 0 a b,[mrB m a b]++imm)
  (sibR (rexM 0 a 4) (cond (c == 16) 4 c) b,[mrB m a 4]++[mrB (scaleN d) (cond (c == 16) 4 c) b]++imm)
def memP (a b c d n:Int):Int × List Int:=
 cond (b == 17) (rexM 0 a 5,[mrB 0 a 5]++im4 n)
  (cond (cond (n == 0) (andi b 7 != 5) false) (modP 0 a b c d []) (cond (fitsF n) (modP 1 a b c d (im1 n)) (modP 2 a b c d (im4 n))))
def fsF (f:Int):List Int:=cond (f == 10) [100] []
def rF (f dg a b c d n:Int):Int:=
 cond (f == 1) (or8 0 (hi4 a 1)) (cond (f == 2) (or8 0 (hi4 a 1)) (cond (f == 3) (rexM 0 (wi dg) a) (cond (f == 4) (rexM 0 (wi dg) a) (cond (f == 5) (rexM 0 (wi dg) a) (cond (f == 6) (rexM 0 (wi dg) a)
  (cond (f == 7) (rexM 0 b a) (cond (f == 8) (rexM 0 a b) (cond (f == 9) (memP a b c d n).1 (cond (f == 10) (rexM 0 a 4) 0)))))))))
def tailB (f dg a b c d n:Int):List Int:=
 cond (f == 2) (im8 n) (cond (f == 3) [mrB 3 (wi dg) a] (cond (f == 4) ([mrB 3 (wi dg) a]++im4 n) (cond (f == 5) ([mrB 3 (wi dg) a]++im1 n) (cond (f == 6) ([mrB 3 (wi dg) a]++cond (fitsF n) (im1 n) (im4 n))
  (cond (f == 7) [mrB 3 b a] (cond (f == 8) [mrB 3 a b] (cond (f == 9) (memP a b c d n).2 (cond (f == 10) ([mrB 0 a 4]++[37]++im4 n) (cond (f == 11) (im4 n) (cond (f == 12) (im1 n) []))))))))))
def lastF (f:Int) (cn:Bool) (l a d n:Int):Int:=
 cond (f == 1) (w8 (l+w8 (andi a 7))) (cond (f == 2) (w8 (l+w8 (andi a 7))) (cond (f == 6) (cond (fitsF n) l 129) (cond cn (w8 (l+w8 d)) l)))
def rexL (rex R:Int):List Int:=cond (rex == 0) (cond (R != 0) [or8 64 R] []) [or8 64 (cond (rex == 1) (or8 R 8) R)]
def hdF (op:Int):List Int:=cond (decide (255<op)) [w8 (Int.fdiv op (2 ^ 8))] []
def bytesF (x:RowT) (i:InsT):List Int:=
 fsF (formR x)++rexL x.2.1 (rF (formR x) x.2.2.2.2.1 i.2.1 i.2.2.1 i.2.2.2.1 i.2.2.2.2.1 i.2.2.2.2.2)++(hdF x.2.2.1++[lastF (formR x) (condR x) (w8 x.2.2.1) i.2.1 i.2.2.2.2.1 i.2.2.2.2.2]) ++
  tailB (formR x) x.2.2.2.2.1 i.2.1 i.2.2.1 i.2.2.2.1 i.2.2.2.2.1 i.2.2.2.2.2
noncomputable def cx26:Cx:={ P:=Tryz.prog,n:=18,tab:=[(51,findS),(52,faultyS)],mtab:=[],refs:=[],keeps:=[0,1,2,3,4] }
def rowFine (x:RowT):Bool:=formOk x && kindOk x
theorem rows_fine:rowsL.all rowFine=true:=by kernel_rfl
theorem frow_fine {nm:List UInt8} (h:fok nm=true):rowFine (frow nm)=true:=by
 unfold fok at h
 unfold frow
 cases hf:findL nm rowsL with
 | none=>rw [hf] at h; cases h
 | some r=>exact List.all_eq_true.1 rows_fine r (List.mem_of_find?_eq_some hf)
theorem frow_form {nm:List UInt8} (h:fok nm=true):formOk (frow nm)=true:=(Bool.and_eq_true_iff.1 (frow_fine h)).1
def encE (i:InsT):Int:=cond (fok i.1) (faultyF (frow i.1) i) 7
def encL (i:InsT):List Int:=bytesF (frow i.1) i
abbrev nilV:V:=.val (.slice none 0 0)
theorem faulty_ok {x:RowT} {i:InsT} (h:faultyF x i=0):okF x i.2.1 i.2.2.1 i.2.2.2.1 i.2.2.2.2.1=true:=by
 unfold faultyF tailF at h
 cases ho:okF x i.2.1 i.2.2.1 i.2.2.2.1 i.2.2.2.2.1
 ·rw [ho] at h; cases h
 ·rfl
def mayH (i:InsT):Tree V:=.br (fok i.1) (.br (formOk (frow i.1)) (.leaf (.bool (faultyF (frow i.1) i == 0))) .fail) (.leaf (.bool false))
theorem mayH_eq (i:InsT):(dfun cx26 Tryz.f26 [.agg (insL i)]).run=(mayH i).run:=
 (show (dfun cx26 Tryz.f26 [.agg (insL i)]).run=(mayH i).out by kernel_rfl).trans (Tree.out_run _)
def mayS:Ab.Spec:=fun args=>match args with
 | [.agg [.str nm,.int .i64 a,.int .i64 b,.int .i64 c,.int .i64 d,.int .i64 n]]=>.leaf (.bool (encE (nm,a,b,c,d,n) == 0))
 | _=>.fail
theorem mayS_ok:Sound Tryz.prog 26 mayS:=by
 intro args out h
 unfold mayS at h
 split at h
 rotate_left
 ·cases h
 rename_i nm a b c d n
 refine pcall_fun' (cx:=cx26) (fn:=Tryz.f26) (cx1_ok (.cons findS_ok (ok1 faultyS_ok)) (.nil _) rfl rfl) (by kernel_rfl) (by kernel_rfl) (by kernel_rfl) ?_
 refine (mayH_eq (nm,a,b,c,d,n)).trans ?_
 rw [← h]
 unfold mayH encE
 simp only
 cases hf:(fok nm)
 ·rfl
 rw [frow_form hf]
 rfl
end Go.Amd

namespace Go.Amd
open Go Go.Ab Go.Proofs
theorem add_ok:XSound Tryz.prog 148 add64S:=add64S_ok (fn:=Tryz.f148) (by kernel_rfl) (by kernel_rfl) (by kernel_rfl) (by rfl) (by rfl)
theorem sub_ok:XSound Tryz.prog 147 sub64S:=sub64S_ok (fn:=Tryz.f147) (by kernel_rfl) (by kernel_rfl) (by kernel_rfl) (by rfl) (by rfl)
theorem idx_ok:XSound Tryz.prog 263 idxByteS:=idxByteS_ok (fn:=Tryz.f263) (by kernel_rfl) (by kernel_rfl) (by kernel_rfl) (by kernel_rfl) (by kernel_rfl)
noncomputable def baseT:Tabs:={ tab:=[(26,mayS),(148,add64S),(147,sub64S),(263,idxByteS)] }
theorem baseT_ok:baseT.Ok Tryz.prog:=⟨.cons mayS_ok (.consX add_ok (.consX sub_ok (.consX idx_ok (.nil _)))),(fun p h=>by cases h),.nil _,fun p h=>by cases h⟩
noncomputable def runT_ps:List Fi:=[⟨97,Tryz.f97,[0,1,4,5,6],[],0,[]⟩,⟨143,Tryz.f143,[0,1,4,5,6,7,12],[],0,[]⟩,⟨200,Tryz.f200,[0,1,4,5,6,7,8,9,10,11,12,13,16,24,31,36,59,64,73,93,107,114,132,139],[],40,[]⟩,⟨239,Tryz.f239,[0,1,4],[],0,[]⟩,⟨12,Tryz.f12,[0,1,2,4,5,7,8,12,16,20,28,32,39],[],0,[]⟩,⟨152,Tryz.f152,[0,1,4,5,6,7,10],[],0,[]⟩,⟨29,Tryz.f29,[0,2],[],0,[]⟩,⟨45,Tryz.f45,[0,1,4,5,6],[],0,[]⟩]
theorem runT_ps_ok:FisOk Tryz.prog runT_ps:=⟨⟨by kernel_rfl,by kernel_rfl⟩,⟨by kernel_rfl,by kernel_rfl⟩,⟨by kernel_rfl,by kernel_rfl⟩,⟨by kernel_rfl,by kernel_rfl⟩,⟨by kernel_rfl,by kernel_rfl⟩,⟨by kernel_rfl,by kernel_rfl⟩,⟨by kernel_rfl,by kernel_rfl⟩,⟨by kernel_rfl,by kernel_rfl⟩,trivial⟩
noncomputable def runT_ms:List Fi:=[⟨21,Tryz.f21,[0],[],0,[]⟩,⟨15,Tryz.f15,[0,1,2,4,5,6,7,8,9,10,19,28],[],0,[]⟩,⟨16,Tryz.f16,[0,1,2,6,7,8,9,15,17,18,19,33,45],[],12,[]⟩,⟨30,Tryz.f30,[0,2],[],0,[]⟩,⟨31,Tryz.f31,[0,1,2,3,8,9,10,11,12,14,27,33,53],[],4,[]⟩,⟨33,Tryz.f33,[0,1,4],[],0,[]⟩,⟨146,Tryz.f146,[0,3],[],0,[]⟩,⟨28,Tryz.f28,[0,14],[],0,[]⟩,⟨53,Tryz.f53,[0,2,3,4,16,17,33,44,46,47],[],0,[]⟩,⟨98,Tryz.f98,[0,1,2,6,7,18,19,29,39,47,58,69,80],[],0,[]⟩,⟨102,Tryz.f102,[0,1,2,3,8,9,10,11],[],0,[]⟩,⟨149,Tryz.f149,[0,1],[],0,[]⟩,⟨144,Tryz.f144,[0,1,4],[],0,[]⟩]
theorem runT_ms_ok:FisOk Tryz.prog runT_ms:=⟨⟨by kernel_rfl,by kernel_rfl⟩,⟨by kernel_rfl,by kernel_rfl⟩,⟨by kernel_rfl,by kernel_rfl⟩,⟨by kernel_rfl,by kernel_rfl⟩,⟨by kernel_rfl,by kernel_rfl⟩,⟨by kernel_rfl,by kernel_rfl⟩,⟨by kernel_rfl,by kernel_rfl⟩,⟨by kernel_rfl,by kernel_rfl⟩,⟨by kernel_rfl,by kernel_rfl⟩,⟨by kernel_rfl,by kernel_rfl⟩,⟨by kernel_rfl,by kernel_rfl⟩,⟨by kernel_rfl,by kernel_rfl⟩,⟨by kernel_rfl,by kernel_rfl⟩,trivial⟩
noncomputable def runT (d:Nat):Tabs:=deep Tryz.prog baseT runT_ps runT_ms d
theorem runT_ok (d:Nat):(runT d).Ok Tryz.prog:=deep_ok baseT_ok runT_ps_ok runT_ms_ok d
noncomputable def cxRun:Cx:={ P:=Tryz.prog,n:=Tryz.f11.ntmps,tab:=(runT 6).tab,mtab:=(runT 6).mtab,rtab:=(runT 6).rtab,refs:=[],keeps:=[0,1,2,3,4,5,8,9,10,11,12,13,21,39,40,57],nums:=(runT 6).nums }
noncomputable def cx27:Cx:={ P:=Tryz.prog,n:=14,tab:=[],mtab:=[],refs:=[],keeps:=[0,1,2,3,6,7,9,11,12] }
noncomputable def runM:MSpec:=fun args H=>.req (Nat.ble args.length Tryz.f11.ntmps) (dfunD cxRun cx27 Tryz.f11 27 Tryz.f27 args H)
theorem cxRun_ok:CxOk cxRun:=runT_ok 6
theorem runM_ok:MSound Tryz.prog 11 runM:=by
 intro args H r h
 unfold runM at h
 obtain ⟨h1,h⟩:=req_run h
 exact mcall_defer (cx:=cxRun) (cl:=cx27) (fn:=Tryz.f11) (fg:=Tryz.f27) cxRun_ok (cx0_ok rfl rfl) rfl (by kernel_rfl) (by kernel_rfl) (by kernel_rfl) (by kernel_rfl) h1 h
end Go.Amd

namespace Go.Ra
open Go Go.Ab Go.Proofs
noncomputable def cx12:Cx:={ P:=Tryz.prog,n:=55,tab:=[],mtab:=[],refs:=[],keeps:=[0,1,2,4,5,7,8,12,16,20,28,32,39] }
def andnI (d:Int):Int:=IntKind.wrap .i64 ((BitVec.toNat (BitVec.ofInt 64 d &&& ~~~BitVec.ofInt 64 1):Nat):Int)
def evI (d:Int):Bool:=IntKind.wrap .i64 ((BitVec.toNat (BitVec.ofInt 64 d &&& BitVec.ofInt 64 1):Nat):Int) == 0
def bO (b:Bool):Option V:=some (.bool b)
def hoV (z n c v:Bool) (d:Int):Option V:=
 cond (andnI d == 0) (bO (v == evI d)) (cond (andnI d == 2) (bO (c == evI d)) (cond (andnI d == 4) (bO (z == evI d)) (cond (andnI d == 6) (cond c (bO (true == evI d)) (bO (z == evI d)))
  (cond (andnI d == 8) (bO (n == evI d)) (cond (andnI d == 12) (bO ((!n == v) == evI d)) (cond (andnI d == 14) (cond z (bO (true == evI d)) (bO ((!n == v) == evI d))) (bO false)))))))
def holdsF (z n c v:Bool) (d:Int):Bool:=
 cond (andnI d == 0) (v == evI d) (cond (andnI d == 2) (c == evI d) (cond (andnI d == 4) (z == evI d) (cond (andnI d == 6) (cond c (true == evI d) (z == evI d))
  (cond (andnI d == 8) (n == evI d) (cond (andnI d == 12) ((!n == v) == evI d) (cond (andnI d == 14) (cond z (true == evI d) ((!n == v) == evI d)) false))))))
theorem hoV_eq (z n c v:Bool) (d:Int):hoV z n c v d=some (.bool (holdsF z n c v d)):=by
 unfold hoV holdsF
 cases andnI d == 0 <;> cases andnI d == 2 <;> cases andnI d == 4 <;> cases andnI d == 6 <;> cases andnI d == 8 <;> cases andnI d == 12 <;> cases andnI d == 14 <;> cases c <;> cases z <;> rfl
theorem ho_eq (p x0 x1 x2 x3 x4 x5 x6 x7 x8 x9 x10 x11 x12 x13 x14 x15 x16 x17 x18 x19 x20 x21 x22 x23 x24 x25 x26 x27 x28 x29 x30 x31 th:Int) (z n c v:Bool) (d:Int):(dfun cx12 Tryz.f12 [.agg (cpuL p [x0,x1,x2,x3,x4,x5,x6,x7,x8,x9,x10,x11,x12,x13,x14,x15,x16,x17,x18,x19,x20,x21,x22,x23,x24,x25,x26,x27,x28,x29,x30,x31] z n c v th),.int .i64 d]).fin=hoV z n c v d:=by kernel_rfl
def hoS:Ab.Spec:=fun args=>match args with
 | [.agg cs,.int .i64 d]=>match cpuOf cs with
  | some s=>.leaf (.bool (holdsF s.z s.n s.c s.v d))
  | none=>.fail
 | _=>.fail
theorem hoS_ok:Sound Tryz.prog 12 hoS:=by
 intro args out h
 unfold hoS at h
 split at h
 rotate_left
 ·cases h
 rename_i cs d
 split at h
 rotate_left
 ·cases h
 rename_i s hs
 cases h
 obtain ⟨rfl,hl⟩:=cpuOf_spec hs
 refine pcall_fun' (cx:=cx12) (fn:=Tryz.f12) (cx0_ok rfl rfl) (by kernel_rfl) (by kernel_rfl) (by kernel_rfl) ?_
 rw [← Tree.fin_run,← hoV_eq]
 have e:=ho_eq s.pc (s.x.getD 0 0) (s.x.getD 1 0) (s.x.getD 2 0) (s.x.getD 3 0) (s.x.getD 4 0) (s.x.getD 5 0) (s.x.getD 6 0) (s.x.getD 7 0) (s.x.getD 8 0) (s.x.getD 9 0) (s.x.getD 10 0) (s.x.getD 11 0) (s.x.getD 12 0) (s.x.getD 13 0) (s.x.getD 14 0) (s.x.getD 15 0) (s.x.getD 16 0) (s.x.getD 17 0) (s.x.getD 18 0) (s.x.getD 19 0) (s.x.getD 20 0) (s.x.getD 21 0) (s.x.getD 22 0) (s.x.getD 23 0) (s.x.getD 24 0) (s.x.getD 25 0) (s.x.getD 26 0) (s.x.getD 27 0) (s.x.getD 28 0) (s.x.getD 29 0) (s.x.getD 30 0) (s.x.getD 31 0) s.th s.z s.n s.c s.v d
 exact (congrArg (fun t:CpuT=>(dfun cx12 Tryz.f12 [.agg t.l,.int .i64 d]).fin) (cpu_tab hl)).symm.trans e
noncomputable def cx152:Cx:={ P:=Tryz.prog,n:=24,tab:=[(148,add64S)],mtab:=[],refs:=[],keeps:=[0,1,4,5,6,7,10] }
def notI (x:Int):Int:=IntKind.wrap .u64 ((BitVec.toNat (BitVec.ofInt 64 (IntKind.max .u64) ^^^ BitVec.ofInt 64 x):Nat):Int)
def qV (c:Bool) (k:Option V):Option V:=cond c k none
theorem mag_eq (h l:Int):(dfun cx152 Tryz.f152 [.int .u64 h,.int .u64 l]).fin =
  cond (decide (0≤wi h)) (some (.tup [.int .u64 h,.int .u64 l,.bool false])) (qV (decide (0≤notI l) && decide ((0:Int)≤1) && decide ((0:Int)≤0) && decide ((0:Int)≤1)) (some (.tup [.int .u64 (wu (notI h+(notI l+1+0) / 18446744073709551616)),.int .u64 ((notI l+1+0) % 18446744073709551616),.bool true]))):=by kernel_rfl
def magH (h l:Int):Int:=cond (decide (0≤wi h)) h ((340282366920938463463374607431768211456 - (h*18446744073709551616+l)) / 18446744073709551616)
def magL (h l:Int):Int:=cond (decide (0≤wi h)) l ((340282366920938463463374607431768211456 - (h*18446744073709551616+l)) % 18446744073709551616)
theorem notI_eq {x:Int} (h:rng64 x=true):notI x=18446744073709551615 - x:=by
 simp only [rng64,Bool.and_eq_true,decide_eq_true_eq] at h
 obtain ⟨m,rfl⟩:=Int.eq_ofNat_of_zero_le h.1
 have hm:m<2 ^ 64:=by omega
 unfold notI
 have e:BitVec.ofInt 64 (IntKind.max IntKind.u64)=BitVec.allOnes 64:=by decide
 have e2:(BitVec.ofInt 64 (m:Int)).toNat=m:=by
  rw [BitVec.toNat_ofInt]
  omega
 rw [e,BitVec.allOnes_xor,BitVec.toNat_not,e2]
 show wu _=_
 rw [wu_mod]
 omega
theorem rng_spec {x:Int} (h:rng64 x=true):0≤x∧x<18446744073709551616:=by
 simpa only [rng64,Bool.and_eq_true,decide_eq_true_eq] using h
theorem rng_of {x:Int} (h0:0≤x) (h1:x<18446744073709551616):rng64 x=true:=by
 simp only [rng64,Bool.and_eq_true,decide_eq_true_eq]
 exact ⟨h0,h1⟩
theorem wi_def (y:Int):wi y=if 9223372036854775808≤y % 18446744073709551616 then y % 18446744073709551616 - 18446744073709551616 else y % 18446744073709551616:=by
 unfold wi IntKind.wrap
 simp [IntKind.bits,IntKind.signed]
def magS:Ab.Spec:=fun args=>match args with
 | [.int .u64 h,.int .u64 l]=>.req (rng64 h && rng64 l) (.leaf (.tup [.int .u64 (magH h l),.int .u64 (magL h l),.bool (!decide (0≤wi h))]))
 | _=>.fail
theorem magS_ok:Sound Tryz.prog 152 magS:=by
 intro args out g
 unfold magS at g
 split at g
 rotate_left
 ·cases g
 rename_i h l
 obtain ⟨h1,g⟩:=req_run g
 cases g
 obtain ⟨g1,g2⟩:=Bool.and_eq_true_iff.1 h1
 refine pcall_fun' (cx:=cx152) (fn:=Tryz.f152) (cx1_ok (.consX Go.Amd.add_ok (.nil _)) (.nil _) rfl rfl) (by kernel_rfl) (by kernel_rfl) (by kernel_rfl) ?_
 rw [← Tree.fin_run,mag_eq]
 obtain ⟨a0,a1⟩:=rng_spec g1
 obtain ⟨b0,b1⟩:=rng_spec g2
 unfold magH magL
 cases hd:decide (0≤wi h)
 ·have hd:=of_decide_eq_false hd
  have h2:9223372036854775808≤h:=by
   rw [wi_def] at hd
   split at hd <;> omega
  rw [notI_eq g2,notI_eq g1,decide_eq_true (by omega:(0:Int)≤18446744073709551615 - l)]
  have e1:wu (18446744073709551615 - h+(18446744073709551615 - l+1+0) / 18446744073709551616)=(340282366920938463463374607431768211456 - (h*18446744073709551616+l)) / 18446744073709551616:=by
   rw [wu_mod]
   omega
  have e2:(18446744073709551615 - l+1+0) % 18446744073709551616=(340282366920938463463374607431768211456 - (h*18446744073709551616+l)) % 18446744073709551616:=by
   omega
  rw [e1,e2]
  rfl
 ·rfl
def mayP (mb:InsR→Bool):Ab.Spec:=fun args=>match args with
 | [.agg [.str nm,.int .i64 a,.int .i64 b,.int .i64 c,.int .i64 d,.int .i64 m]]=>.leaf (.bool (mb (nm,a,b,c,d,m)))
 | _=>.fail
noncomputable def cxAdr:Cx:={ P:=Tryz.prog,n:=Tryz.f100.ntmps,tab:=[],mtab:=[],refs:=[],keeps:=[0,2,3,15,40],lz:=[32,51] }
theorem adr_ok:RSound Tryz.prog 100 (qfun cxAdr Tryz.f100):=qfun_ok (cx:=cxAdr) (fn:=Tryz.f100) (cx0_ok rfl rfl) (by kernel_rfl) (by kernel_rfl) (by kernel_rfl) (by kernel_rfl)
section
variable (mb:InsR→Bool)
noncomputable def ruB:Tabs:={ tab:=[(26,mayP mb),(148,add64S),(147,sub64S),(263,idxByteS),(150,mulS),(151,div64S),(12,hoS),(152,magS)],mtab:=[(145,loadM),(13,storeM)],rtab:=[(100,qfun cxAdr Tryz.f100)],nums:=[100] }
noncomputable def ruT_ps:List Fi:=[⟨97,Tryz.f97,[0,1,4,5,6],[],0,[]⟩,⟨143,Tryz.f143,[0,1,4,5,6,7,12],[],0,[]⟩,⟨200,Tryz.f200,[0,1,4,5,6,7,8,9,10,11,12,13,16,24,31,36,59,64,73,93,107,114,132,139],[],40,[]⟩,⟨239,Tryz.f239,[0,1,4],[],0,[]⟩]
theorem ruT_ps_ok:FisOk Tryz.prog ruT_ps:=⟨⟨by kernel_rfl,by kernel_rfl⟩,⟨by kernel_rfl,by kernel_rfl⟩,⟨by kernel_rfl,by kernel_rfl⟩,⟨by kernel_rfl,by kernel_rfl⟩,trivial⟩
noncomputable def ruT_ms:List Fi:=[⟨146,Tryz.f146,[0,3],[],0,[]⟩,⟨28,Tryz.f28,[0,14],[],0,[]⟩,⟨53,Tryz.f53,[0,2,3,4,16,17,33,44,46,47],[],0,[30]⟩,⟨98,Tryz.f98,[0,1,2,6,7,18,19,29,39,47,58,69,80],[],0,[7,17,21,23,24,28,31,33,34,38,42,43,49,51,52,57,60,62,63,68,71,73,74,79,83,84]⟩,⟨102,Tryz.f102,[0,1,2,3,8,9,10,11],[],0,[]⟩,⟨149,Tryz.f149,[0,1],[],0,[]⟩,⟨144,Tryz.f144,[0,1,4],[],0,[]⟩,⟨54,Tryz.f54,[0,2,3,4,17,18,30,38,46,54,65,73,79,88,97,106,121,129,140],[],0,[4,15,20,27,29,33,37,40,45,48,53,56,64,67,72,75,78,84,85,93,94,102,103,108,120,130,137,139]⟩,⟨55,Tryz.f55,[0,2,3,18,19,27,36,41,45,49,67,86,93],[],0,[3,13,21,22,23,26,29,31,32,35,89,90,95,98]⟩,⟨104,Tryz.f104,[0,2],[],0,[12]⟩,⟨105,Tryz.f105,[0,2,3,4,5,6,7,8,40,58,67],[],0,[18]⟩,⟨103,Tryz.f103,[0,2,3,4,5,6,7,13,83,89],[],0,[30,62,73,103]⟩,⟨106,Tryz.f106,[0,1,2,6,7,9,20,37,52],[],0,[6,19,21,22,28,29,30,36,39,40,46,47,51,54,55,61,62,66,68,69]⟩,⟨107,Tryz.f107,[0,1],[],0,[]⟩,⟨108,Tryz.f108,[0,2,3],[],0,[]⟩,⟨56,Tryz.f56,[0,2,3,4,18,19,31,51,58,67,72,85],[],0,[39,81]⟩,⟨99,Tryz.f99,[0,1,2,6,7,8],[],0,[]⟩,⟨101,Tryz.f101,[0,1,2,3],[],0,[]⟩]
theorem ruT_ms_ok:FisOk Tryz.prog ruT_ms:=⟨⟨by kernel_rfl,by kernel_rfl⟩,⟨by kernel_rfl,by kernel_rfl⟩,⟨by kernel_rfl,by kernel_rfl⟩,⟨by kernel_rfl,by kernel_rfl⟩,⟨by kernel_rfl,by kernel_rfl⟩,⟨by kernel_rfl,by kernel_rfl⟩,⟨by kernel_rfl,by kernel_rfl⟩,⟨by kernel_rfl,by kernel_rfl⟩,⟨by kernel_rfl,by kernel_rfl⟩,⟨by kernel_rfl,by kernel_rfl⟩,⟨by kernel_rfl,by kernel_rfl⟩,⟨by kernel_rfl,by kernel_rfl⟩,⟨by kernel_rfl,by kernel_rfl⟩,⟨by kernel_rfl,by kernel_rfl⟩,⟨by kernel_rfl,by kernel_rfl⟩,⟨by kernel_rfl,by kernel_rfl⟩,⟨by kernel_rfl,by kernel_rfl⟩,⟨by kernel_rfl,by kernel_rfl⟩,trivial⟩
noncomputable def ruT (d:Nat):Tabs:=deep Tryz.prog (ruB mb) ruT_ps ruT_ms d
noncomputable def cxRunG:Cx:={ P:=Tryz.prog,n:=Tryz.f11.ntmps,tab:=(ruT mb 6).tab,mtab:=(ruT mb 6).mtab,rtab:=(ruT mb 6).rtab,refs:=[],keeps:=[0,1,2,3,4,5,8,9,10,11,12,13,21,39,40,57],lz:=[],nums:=(ruT mb 6).nums }
noncomputable def cx27:Cx:={ P:=Tryz.prog,n:=14,tab:=[],mtab:=[],refs:=[],keeps:=[0,1,2,3,6,7,9,11,12] }
abbrev RunTy:=CpuT→Int→Int→Int→Int→Int→Int→List Int→List Int→List Int→List Int→List Int→Option Res
noncomputable def runE (nm:List UInt8):RunTy:=fun s a b c d m sz A B C D E=>((dfunD (cxRunG mb) cx27 Tryz.f11 27 Tryz.f27 [.agg s.l,insV nm a b c d m,.int .i64 sz,.ptr 0 0] (memO A B C D E)).bind (dropR 7 [])).fin
end
end Go.Ra

namespace Go.Ra
open Go Go.Ab Go.Proofs
def q (c:Bool) (k:Option Res):Option Res:=cond c k none
def errK (s:CpuT) (e:Int) (H:List O):Option Res:=some (.ok (.tup [.agg s.l,.int .i64 0,.int .i64 e]) H)
def outK (L:List V) (ev:Int) (H:List O):Option Res:=some (.ok (.tup [.agg L,.int .i64 ev,.int .i64 0]) H)
def orU (a b:Int):Int:=IntKind.wrap .u64 (((BitVec.ofInt 64 a ||| BitVec.ofInt 64 b).toNat:Nat):Int)
def xorU (a b:Int):Int:=IntKind.wrap .u64 (((BitVec.ofInt 64 a ^^^ BitVec.ofInt 64 b).toNat:Nat):Int)
section
variable (mb:InsR→Bool)
def topM (nm:List UInt8) (K:RunTy):RunTy:=fun s a b c d m sz A B C D E =>
 cond (!mb (nm,a,b,c,d,m)) (errK s 22 (memO A B C D E)) (K s a b c d m sz A B C D E)
def topK (nm:List UInt8) (K:RunTy):RunTy:=fun s a b c d m sz A B C D E =>
 cond (decide (sz<1)) (errK s 1 (memO A B C D E)) (cond (decide (16<sz)) (errK s 1 (memO A B C D E)) (topM mb nm K s a b c d m sz A B C D E))
end
structure EnvR where
 nm:List UInt8
 s:CpuT
 a:Int
 b:Int
 c:Int
 d:Int
 m:Int
 bk:Int
 A:List Int
 B:List Int
 C:List Int
 D:List Int
 E:List Int
def stC (e:EnvR):List V:=e.s.l++[.ptr 1 0,.str e.nm,.int .i64 e.a,.int .i64 e.b,.int .i64 e.c,.int .i64 e.d,.int .i64 e.m,.int .u64 e.bk,.int .u64 e.bk]
abbrev KS:=List V→Option Res
def inA (a:Int) (k:Option Res):Option Res:=q (inside a 32) k
def rdX (a:Int) (S:List V) (k:Int→Option Res):Option Res:=q (isIntAt .u64 S (1+a.toNat*1)) (k (intAt S (1+a.toNat*1)))
def inX (b:Int) (S:List V) (k:Int→Option Res):Option Res:=q (inside b 32) (rdX b S k)
def putX (a v:Int) (S:List V) (k:KS):Option Res:=q (isIntAt .u64 S (1+a.toNat*1)) (k (setI .u64 (1+a.toNat*1) v 0 S))
def finS (H:List O):KS:=fun S=>outK (S.getD 45 .any :: (S.drop 1).take 37) 0 H
abbrev BodyR:=EnvR→List V→KS→Option Res
def envF (s:CpuT) (nm:List UInt8) (a b c d m sz:Int) (A B C D E:List Int):EnvR:=⟨nm,s,a,b,c,d,m,wu (s.pc+wu sz),A,B,C,D,E⟩
def mvR (f:BodyR) (nm:List UInt8):RunTy:=fun s a b c d m sz A B C D E =>
 f (envF s nm a b c d m sz A B C D E) (stC (envF s nm a b c d m sz A B C D E)) (finS (memO A B C D E))
def faultK (e:EnvR):Option Res:=errK e.s 21 (memO e.A e.B e.C e.D e.E)
def preRr (f:BodyR):BodyR:=fun e S k=>inX e.b S fun _=>inA e.a (f e S k)
def preRi (f:BodyR):BodyR:=fun e S k=>inA e.a (f e S k)
def setZN (x:Int) (S:List V):List V:=(S.set 33 (.bool (x == 0))).set 34 (.bool (decide (wi x<0)))
def sumS (x:Int) (v c:Bool) (S:List V):List V:=((setZN x S).set 36 (.bool v)).set 35 (.bool c)
def addK (a b:Int) (S:List V) (k:Int→KS):Option Res:=
 q (decide (0≤a) && decide (0≤b) && decide ((0:Int)≤0) && decide ((0:Int)≤1))
  (k ((a+b+0) % 18446744073709551616) (sumS ((a+b+0) % 18446744073709551616) (decide (wi (andU (xorU a ((a+b+0) % 18446744073709551616)) (xorU b ((a+b+0) % 18446744073709551616)))<0)) ((a+b+0) / 18446744073709551616 != 0) S))
def subK (a b:Int) (S:List V) (k:Int→KS):Option Res:=
 q (decide (0≤a) && decide (0≤b) && decide (a<18446744073709551616) && decide (b<18446744073709551616) && decide ((0:Int)≤0) && decide ((0:Int)≤1))
  (k ((a - b - 0) % 18446744073709551616) (sumS ((a - b - 0) % 18446744073709551616) (decide (wi (andU (xorU a b) (xorU a ((a - b - 0) % 18446744073709551616)))<0)) (cond (decide (a<b+0)) (1:Int) 0 != 0) S))
def logS (x:Int) (S:List V):List V:=sumS x false false S
abbrev TwoR:=EnvR→Int→List V→KS→Option Res
def addT:TwoR:=fun e y S k=>inA e.a (rdX e.a S fun x=>addK x y S fun v T=>putX e.a v T k)
def subT:TwoR:=fun e y S k=>inA e.a (rdX e.a S fun x=>subK x y S fun v T=>putX e.a v T k)
def cmpT:TwoR:=fun e y S k=>inA e.a (rdX e.a S fun x=>subK x y S fun _ T=>k T)
def logT (f:Int→Int→Int):TwoR:=fun e y S k=>inA e.a (rdX e.a S fun x=>putX e.a (f x y) (logS (f x y) S) k)
def testT:TwoR:=fun e y S k=>inA e.a (rdX e.a S fun x=>k (logS (andU x y) S))
def rrR (f:TwoR):List UInt8→RunTy:=mvR fun e S k=>inX e.b S fun y=>f e y S k
def riR (f:TwoR):List UInt8→RunTy:=mvR fun e S k=>f e (wu e.m) S k
def adK2 (e:EnvR) (S:List V) (x:Int) (k:Int→Option Res):Option Res:=cond (e.c != 16) (inX e.c S fun y=>k (wu (x+wu (y*wu e.d)))) (k x)
def adK (e:EnvR) (S:List V) (k:Int→Option Res):Option Res:=cond (e.b == 17) (adK2 e S (wu (wu e.m+e.bk)) k) (inX e.b S fun y=>adK2 e S (wu (wu e.m+y)) k)
def errLd (at_ n:Int):Int:=cond (mayB at_ n 4) 0 21
def valLd (A B C D E:List Int) (at_ n:Int):Int:=cond (mayB at_ n 4) (ldN A B C D E at_ n.toNat 0) 0
def errSt (at_ n:Int):Int:=cond (mayB at_ n 2) 0 21
def loadK (e:EnvR) (at_ n:Int) (k:Int→Option Res):Option Res:=
 q (lens5 e.A e.B e.C e.D e.E) (q (rng64 at_ && true) (cond (!(errLd at_ n == 0)) (faultK e) (k (valLd e.A e.B e.C e.D e.E at_ n))))
def storeK (e:EnvR) (at_ n v:Int) (k:List O→Option Res):Option Res:=
 q (lens5 e.A e.B e.C e.D e.E) (q (rng64 at_ && true) (cond (!(errSt at_ n == 0)) (errK e.s 21 (memO (stB 1 at_ n v e.A) (stB 2 at_ n v e.B) (stB 16 at_ n v e.C) (stB 17 at_ n v e.D) (stB 32 at_ n v e.E)))
  (k (memO (stB 1 at_ n v e.A) (stB 2 at_ n v e.B) (stB 16 at_ n v e.C) (stB 17 at_ n v e.D) (stB 32 at_ n v e.E)))))
def rmR (f:TwoR):List UInt8→RunTy:=mvR fun e S k=>adK e S fun x=>loadK e x 8 fun y=>f e y S k
def ldR (n:Int) (g:Int→Int):List UInt8→RunTy:=mvR fun e S k=>inA e.a (adK e S fun x=>loadK e x n fun y=>putX e.a (g y) S k)
def fsR:List UInt8→RunTy:=mvR fun e S k=>inA e.a (loadK e (wu (e.s.th+wu e.m)) 8 fun y=>putX e.a y S k)
def mwR (f:EnvR→List V→(List V→List O→Option Res)→Option Res) (nm:List UInt8):RunTy:=fun s a b c d m sz A B C D E =>
 f (envF s nm a b c d m sz A B C D E) (stC (envF s nm a b c d m sz A B C D E)) (fun S H=>finS H S)
def stR (n:Int):List UInt8→RunTy:=mwR fun e S k=>inA e.a (adK e S fun x=>rdX e.a S fun y=>storeK e x n y fun H=>k S H)
def spF (e:EnvR):Int:=e.s.x.getD 4 0
def pushK (e:EnvR) (v:Int) (S:List V) (k:List V→List O→Option Res):Option Res:=storeK e (wu (spF e - 8)) 8 v fun H=>k (S.set 5 (.int .u64 (wu (spF e - 8)))) H
def popK (e:EnvR) (S:List V) (k:Int→KS):Option Res:=loadK e (spF e) 8 fun y=>k y (S.set 5 (.int .u64 (wu (spF e+8))))
def pushR:List UInt8→RunTy:=mwR fun e S k=>inA e.a (inA e.a (rdX e.a S fun y=>pushK e y S k))
def popR:List UInt8→RunTy:=mvR fun e S k=>inA e.a (inA e.a (popK e S fun y T=>putX e.a y T k))
def tgF (e:EnvR):Int:=wu (e.bk+wu e.m)
def callR:List UInt8→RunTy:=mwR fun e S k=>inA e.a (inA e.a (pushK e e.bk S fun T H=>k (T.set 45 (.int .u64 (tgF e))) H))
def callrR:List UInt8→RunTy:=mwR fun e S k=>inA e.a (inA e.a (inX e.a S fun y=>pushK e e.bk S fun T H=>k (T.set 45 (.int .u64 y)) H))
def retR:List UInt8→RunTy:=mvR fun e S k=>inA e.a (inA e.a (popK e S fun y T=>k (T.set 45 (.int .u64 y))))
def sysR (_:List UInt8):RunTy:=fun s _ _ _ _ _ sz A B C D E=>outK (({ s with pc:=wu (s.pc+wu sz),x:=s.x.set 1 (wu (s.pc+wu sz)) }:CpuT).l) 1 (memO A B C D E)
def udR (_:List UInt8):RunTy:=fun s _ _ _ _ _ _ A B C D E=>outK s.l 2 (memO A B C D E)
def setCV (b:Bool) (S:List V):List V:=(S.set 35 (.bool b)).set 36 (.bool b)
def mulK (e:EnvR) (S:List V) (k:KS):Option Res:=inX e.a S fun y=>q (rng64 (e.s.x.getD 0 0) && rng64 y)
 (k (setCV (mulHi (e.s.x.getD 0 0) y != 0) ((S.set 1 (.int .u64 (wu (e.s.x.getD 0 0*y)))).set 3 (.int .u64 (mulHi (e.s.x.getD 0 0) y)))))
def negB (x:Int):Bool:=decide (wi x<0)
def imE (e:EnvR) (low h:Int) (S:List V) (k:KS):Option Res:=inA e.a (putX e.a low S fun T=>k (setCV (h != wu (Int.fdiv (wi low) (2 ^ 63))) T))
def imulK (e:EnvR) (S:List V) (k:KS):Option Res:=inX e.a S fun x=>inX e.b S fun y=>q (rng64 x && rng64 y)
 (cond (negB x) (cond (negB y) (imE e (wu (x*y)) (wu (wu (mulHi x y - y) - x)) S k) (imE e (wu (x*y)) (wu (mulHi x y - y)) S k)) (cond (negB y) (imE e (wu (x*y)) (wu (mulHi x y - x)) S k) (imE e (wu (x*y)) (mulHi x y) S k)))
def divR:List UInt8→RunTy:=mvR fun e S k=>inA e.a (inA e.a (inX e.a S fun y=>cond (!decide (e.s.x.getD 2 0<y)) (faultK e)
 (q (rng64 (e.s.x.getD 2 0) && (rng64 (e.s.x.getD 0 0) && (rng64 y && decide (e.s.x.getD 2 0<y)))) (k ((S.set 1 (.int .u64 (dq128 (e.s.x.getD 2 0) (e.s.x.getD 0 0) y))).set 3 (.int .u64 (dr128 (e.s.x.getD 2 0) (e.s.x.getD 0 0) y)))))))
def idE (neg:Bool) (S:List V) (k:KS) (qv r:Int):Option Res:=cond neg (k ((S.set 1 (.int .u64 qv)).set 3 (.int .u64 (wu (0 - r))))) (k ((S.set 1 (.int .u64 qv)).set 3 (.int .u64 r)))
def idK (e:EnvR) (S:List V) (k:KS) (neg:Bool) (h l y dv:Int):Option Res:=
 cond (!decide (h<dv)) (faultK e) (q (rng64 h && (rng64 l && (rng64 dv && decide (h<dv))))
  (cond (!(neg == decide (wi y<0))) (cond (!decide (dq128 h l dv≤9223372036854775808)) (faultK e) (idE neg S k (wu (0 - dq128 h l dv)) (dr128 h l dv)))
   (cond (!decide (dq128 h l dv≤9223372036854775807)) (faultK e) (idE neg S k (dq128 h l dv) (dr128 h l dv)))))
def idivR:List UInt8→RunTy:=mvR fun e S k=>inA e.a (inA e.a (inX e.a S fun y=>q (rng64 (e.s.x.getD 2 0) && rng64 (e.s.x.getD 0 0))
 (cond (decide (wi y<0)) (idK e S k (!decide (0≤wi (e.s.x.getD 2 0))) (magH (e.s.x.getD 2 0) (e.s.x.getD 0 0)) (magL (e.s.x.getD 2 0) (e.s.x.getD 0 0)) y (wu (0 - y)))
  (idK e S k (!decide (0≤wi (e.s.x.getD 2 0))) (magH (e.s.x.getD 2 0) (e.s.x.getD 0 0)) (magL (e.s.x.getD 2 0) (e.s.x.getD 0 0)) y y))))
def shE (a out v:Int) (S:List V) (k:KS):Option Res:=putX a v S fun T=>rdX a T fun x=>k (sumS x false (out != 0) T)
def shlK (a n:Int) (S:List V) (k:KS):Option Res:=cond (n == 0) (k S) (inA a (rdX a S fun x=>q (decide (0≤wu (64 - n))) (rdX a S fun x' => q (decide (0≤n)) (shE a (andU (shrF x (wu (64 - n))) 1) (shlF x' n) S k))))
def shrK (a n:Int) (S:List V) (k:KS):Option Res:=cond (n == 0) (k S) (inA a (rdX a S fun x=>q (decide (0≤wu (n - 1))) (rdX a S fun x' => q (decide (0≤n)) (shE a (andU (shrF x (wu (n - 1))) 1) (shrF x' n) S k))))
def sarK (a n:Int) (S:List V) (k:KS):Option Res:=cond (n == 0) (k S) (inA a (rdX a S fun x=>q (decide (0≤wu (n - 1))) (rdX a S fun x' => q (decide (0≤n)) (shE a (andU (shrF x (wu (n - 1))) 1) (wu (shrF (wi x') n)) S k))))
def rowsR:List (List UInt8 × RunTy):=[
 ([109,111,118,46,114,114],(mvR (preRr fun e S k=>inA e.a (inX e.b S fun y=>putX e.a y S k))) [109,111,118,46,114,114]),
 ([109,111,118,46,114,105],(mvR (preRi fun e S k=>inA e.a (putX e.a (wu e.m) S k))) [109,111,118,46,114,105]),
 ([109,111,118,46,114,115],(mvR fun e S k=>inA e.a (putX e.a (wu e.m) S k)) [109,111,118,46,114,115]),
 ([109,111,118,46,114,109],(ldR 8 fun x=>x) [109,111,118,46,114,109]),
 ([109,111,118,108,46,114,109],(ldR 4 fun x=>x) [109,111,118,108,46,114,109]),
 ([109,111,118,115,108,46,114,109],(ldR 4 fun x=>wu (wi (IntKind.wrap .i32 x))) [109,111,118,115,108,46,114,109]),
 ([109,111,118,122,98,46,114,109],(ldR 1 fun x=>x) [109,111,118,122,98,46,114,109]),
 ([108,101,97],(mvR fun e S k=>inA e.a (adK e S fun x=>putX e.a x S k)) [108,101,97]),
 ([109,111,118,46,109,114],(stR 8) [109,111,118,46,109,114]),
 ([109,111,118,108,46,109,114],(stR 4) [109,111,118,108,46,109,114]),
 ([109,111,118,98,46,109,114],(stR 1) [109,111,118,98,46,109,114]),
 ([109,111,118,46,102,115],(fsR) [109,111,118,46,102,115]),
 ([97,100,100,46,114,114],(rrR addT) [97,100,100,46,114,114]),
 ([111,114,46,114,114],(rrR (logT orU)) [111,114,46,114,114]),
 ([97,110,100,46,114,114],(rrR (logT andU)) [97,110,100,46,114,114]),
 ([115,117,98,46,114,114],(rrR subT) [115,117,98,46,114,114]),
 ([120,111,114,46,114,114],(rrR (logT xorU)) [120,111,114,46,114,114]),
 ([99,109,112,46,114,114],(rrR cmpT) [99,109,112,46,114,114]),
 ([97,100,100,46,114,109],(rmR addT) [97,100,100,46,114,109]),
 ([111,114,46,114,109],(rmR (logT orU)) [111,114,46,114,109]),
 ([97,110,100,46,114,109],(rmR (logT andU)) [97,110,100,46,114,109]),
 ([115,117,98,46,114,109],(rmR subT) [115,117,98,46,114,109]),
 ([120,111,114,46,114,109],(rmR (logT xorU)) [120,111,114,46,114,109]),
 ([99,109,112,46,114,109],(rmR cmpT) [99,109,112,46,114,109]),
 ([97,100,100,46,114,105],(riR addT) [97,100,100,46,114,105]),
 ([111,114,46,114,105],(riR (logT orU)) [111,114,46,114,105]),
 ([97,110,100,46,114,105],(riR (logT andU)) [97,110,100,46,114,105]),
 ([115,117,98,46,114,105],(riR subT) [115,117,98,46,114,105]),
 ([120,111,114,46,114,105],(riR (logT xorU)) [120,111,114,46,114,105]),
 ([99,109,112,46,114,105],(riR cmpT) [99,109,112,46,114,105]),
 ([116,101,115,116,46,114,114],(rrR testT) [116,101,115,116,46,114,114]),
 ([105,109,117,108,46,114,114],(mvR (preRr fun e S k=>inA e.a (inA e.a (imulK e S k)))) [105,109,117,108,46,114,114]),
 ([110,111,116],(mvR fun e S k=>inA e.a (inA e.a (rdX e.a S fun x=>putX e.a (notI x) S k))) [110,111,116]),
 ([110,101,103],(mvR fun e S k=>inA e.a (inA e.a (rdX e.a S fun x=>subK 0 x S fun y T=>putX e.a y T k))) [110,101,103]),
 ([109,117,108],(mvR fun e S k=>inA e.a (inA e.a (mulK e S k))) [109,117,108]),
 ([100,105,118],(divR) [100,105,118]),
 ([105,100,105,118],(idivR) [105,100,105,118]),
 ([99,113,111],(mvR fun e S k=>inA e.a (k (S.set 3 (.int .u64 (wu (Int.fdiv (wi (e.s.x.getD 0 0)) (2 ^ 63))))))) [99,113,111]),
 ([115,104,108,46,114,105],(mvR (preRi fun e S k=>inA e.a (inA e.a (shlK e.a (wu e.m) S k)))) [115,104,108,46,114,105]),
 ([115,104,114,46,114,105],(mvR (preRi fun e S k=>inA e.a (inA e.a (shrK e.a (wu e.m) S k)))) [115,104,114,46,114,105]),
 ([115,97,114,46,114,105],(mvR (preRi fun e S k=>inA e.a (inA e.a (sarK e.a (wu e.m) S k)))) [115,97,114,46,114,105]),
 ([115,104,108,46,114,99],(mvR fun e S k=>inA e.a (inA e.a (shlK e.a (andU (e.s.x.getD 1 0) 63) S k))) [115,104,108,46,114,99]),
 ([115,104,114,46,114,99],(mvR fun e S k=>inA e.a (inA e.a (shrK e.a (andU (e.s.x.getD 1 0) 63) S k))) [115,104,114,46,114,99]),
 ([115,97,114,46,114,99],(mvR fun e S k=>inA e.a (inA e.a (sarK e.a (andU (e.s.x.getD 1 0) 63) S k))) [115,97,114,46,114,99]),
 ([99,109,111,118],(mvR fun e S k=>inA e.a (cond (holdsF e.s.z e.s.n e.s.c e.s.v e.d) (inX e.b S fun y=>putX e.a y S k) (k S))) [99,109,111,118]),
 ([112,117,115,104],(pushR) [112,117,115,104]),
 ([112,111,112],(popR) [112,111,112]),
 ([99,97,108,108],(callR) [99,97,108,108]),
 ([106,109,112],(mvR fun e S k=>inA e.a (inA e.a (k (S.set 45 (.int .u64 (tgF e)))))) [106,109,112]),
 ([106,109,112,46,115],(mvR fun e S k=>inA e.a (inA e.a (k (S.set 45 (.int .u64 (tgF e)))))) [106,109,112,46,115]),
 ([99,97,108,108,46,114],(callrR) [99,97,108,108,46,114]),
 ([106,109,112,46,114],(mvR fun e S k=>inA e.a (inA e.a (inX e.a S fun y=>k (S.set 45 (.int .u64 y))))) [106,109,112,46,114]),
 ([106,99,99],(mvR fun e S k=>inA e.a (inA e.a (cond (holdsF e.s.z e.s.n e.s.c e.s.v e.d) (k (S.set 45 (.int .u64 (tgF e)))) (k S)))) [106,99,99]),
 ([106,99,99,46,115],(mvR fun e S k=>inA e.a (inA e.a (cond (holdsF e.s.z e.s.n e.s.c e.s.v e.d) (k (S.set 45 (.int .u64 (tgF e)))) (k S)))) [106,99,99,46,115]),
 ([114,101,116],(retR) [114,101,116]),
 ([115,121,115,99,97,108,108],(sysR) [115,121,115,99,97,108,108]),
 ([110,111,112],(mvR fun e S k=>inA e.a (inA e.a (k S))) [110,111,112]),
 ([117,100,50],(udR) [117,100,50])]
def W1 (g:RunTy) (p x0 x1 x2 x3 x4 x5 x6 x7 x8 x9 x10 x11 x12 x13 x14 x15 x16 x17 x18 x19 x20 x21 x22 x23 x24 x25 x26 x27 x28 x29 x30 x31 th:Int) (z n c v:Bool) (a b c' d m sz:Int) (A B C D E:List Int):Option Res:=
 g ⟨p,[x0,x1,x2,x3,x4,x5,x6,x7,x8,x9,x10,x11,x12,x13,x14,x15,x16,x17,x18,x19,x20,x21,x22,x23,x24,x25,x26,x27,x28,x29,x30,x31],z,n,c,v,th⟩ a b c' d m sz A B C D E
def W2 (g:RunTy) (p x0 x1 x2 x3 x4 x5 x6 x7 x8 x9 x10 x11 x12 x13 x14 x15 x16 x17 x18 x19 x20 x21 x22 x23 x24 x25 x26 x27 x28 x29 x30 x31 th:Int) (z n c v:Bool) (a b c' d m sz:Int) (A B C D E:List Int):Option Res:=
 g ⟨p,[x0,x1,x2,x3,x4,x5,x6,x7,x8,x9,x10,x11,x12,x13,x14,x15,x16,x17,x18,x19,x20,x21,x22,x23,x24,x25,x26,x27,x28,x29,x30,x31],z,n,c,v,th⟩ a b c' d m sz A B C D E
def rE (mb:InsR→Bool) (x:List UInt8 × RunTy):=W2 (topK mb x.1 x.2)
noncomputable def rO (mb:InsR→Bool) (x:List UInt8 × RunTy):=W1 (runE mb x.1)
end Go.Ra

namespace Go.Ra
open Go Go.Ab Go.Proofs
theorem getD_set {l:List Int} {i j:Nat} {v:Int} (hi:i<l.length):(l.set i v).getD j 0=if j=i then v else l.getD j 0:=by
 rw [List.getD_eq_getElem?_getD,List.getElem?_set,List.getD_eq_getElem?_getD]
 by_cases h:i=j
 ·subst h
  rw [if_pos rfl,if_pos hi,if_pos rfl]
  rfl
 ·rw [if_neg h,if_neg fun e=>h e.symm]
theorem lens5_stN {x y:Int}:∀ (m i:Nat) {a b c d e:List Int},lens5 a b c d e=true→lens5 (stN 1 x y m i a) (stN 2 x y m i b) (stN 16 x y m i c) (stN 17 x y m i d) (stN 32 x y m i e)=true
 | 0,_,_,_,_,_,_,h=>h
 | m+1,i,_,_,_,_,_,h=>lens5_stN m (i+1) (lens5_set h (adr x i) (byS_byte y i))
end Go.Ra

namespace Go.Ra
open Go Go.Ab Go.Proofs
def rRow (n r:Int) (id:Nat):List V:=[.int .u64 n,.int .i64 r,.ref id 1 0 4096]
def rRows:List V:=rRow 1 5 2++(rRow 2 5 3++(rRow 16 6 4++(rRow 17 6 5++rRow 32 4 6)))
def rPg (l:List Int):O:=.obj (.page 0 .u8 l) []
def refH (l:V) (A B C D E:List Int):List O:=[.cells [.ref 1 3 0 5,l] 58,.cells rRows 0,rPg A,rPg B,rPg C,rPg D,rPg E]
def lastV:V:=.rng .i64 0 5
abbrev refO (A B C D E:List Int):List O:=refH lastV A B C D E
def refM {α:Type} (f:List Int→List Int→List Int→List Int→List Int→Tree α):List O→Tree α
 | [.cells [.ref 1 3 0 5,.rng .i64 0 5] t,.cells [.int .u64 n1,.int .i64 r1,.ref 2 1 0 4096,.int .u64 n2,.int .i64 r2,.ref 3 1 0 4096,.int .u64 n3,.int .i64 r3,.ref 4 1 0 4096,.int .u64 n4,.int .i64 r4,.ref 5 1 0 4096,.int .u64 n5,.int .i64 r5,.ref 6 1 0 4096] u,
   .obj (.page 0 .u8 a) [],.obj (.page 0 .u8 b) [],.obj (.page 0 .u8 c) [],.obj (.page 0 .u8 d) [],.obj (.page 0 .u8 e) []] =>
  .req (Nat.beq t 58 && (Nat.beq u 0 && ([n1,r1,n2,r2,n3,r3,n4,r4,n5,r5] == [1,5,2,5,16,6,17,6,32,4] && lens5 a b c d e))) (f a b c d e)
 | _=>.fail
theorem refM_run {α:Type} {f:List Int→List Int→List Int→List Int→List Int→Tree α} {H:List O} {out:α} (h:(refM f H).run=some out) :
  ∃ a b c d e,H=refO a b c d e∧lens5 a b c d e=true∧(f a b c d e).run=some out:=by
 unfold refM at h
 split at h
 rotate_left
 ·cases h
 rename_i t n1 r1 n2 r2 n3 r3 n4 r4 n5 r5 u a b c d e
 obtain ⟨h1,h2⟩:=req_run h
 simp only [Bool.and_eq_true] at h1
 obtain ⟨g0,g1,g2,g3⟩:=h1
 have g0:=Nat.eq_of_beq_eq_true g0
 have g1:=Nat.eq_of_beq_eq_true g1
 have g2:=eq_of_beq g2
 simp only [List.cons.injEq,and_true] at g2
 obtain ⟨k1,k2,k3,k4,k5,k6,k7,k8,k9,k10⟩:=g2
 subst g0 g1 k1 k2 k3 k4 k5 k6 k7 k8 k9 k10
 exact ⟨a,b,c,d,e,rfl,g3,h2⟩
noncomputable def cxRfind:Cx:={ P:=Tryz.prog,n:=Tryz.f48.ntmps,tab:=[],mtab:=[],refs:=[],keeps:=[0,1,4,5,30,41,53],fuel:=8 }
noncomputable def findE (l:Nat) (A B C D E:List Int) (n:Int):Option Res:=(mfun cxRfind Tryz.f48 [.ptr 0 0,.int .u64 n] (refH (.int .i64 (l:Int)) A B C D E)).fin
def fdK (i:Int) (A B C D E:List Int):Option Res:=some (.ok (.int .i64 i) (refH (.int .i64 i) A B C D E))
def findX (l:Nat) (A B C D E:List Int) (n:Int):Option Res:=
 cond ([(1:Int),2,16,17,32].getD l 0 == n) (fdK (l:Int) A B C D E) (cond ((1:Int) == n) (fdK 0 A B C D E) (cond ((2:Int) == n) (fdK 1 A B C D E) (cond ((16:Int) == n) (fdK 2 A B C D E) (cond ((17:Int) == n) (fdK 3 A B C D E) (cond ((32:Int) == n) (fdK 4 A B C D E)
  (some (.ok (.int .i64 (-1)) (refH (.int .i64 (l:Int)) A B C D E))))))))
theorem find_all:[0,1,2,3,4].map findE=[0,1,2,3,4].map findX:=by kernel_rfl
def idxF (n:Int):Int:=cond (n == 1) 0 (cond (n == 2) 1 (cond (n == 16) 2 (cond (n == 17) 3 (cond (n == 32) 4 (-1)))))
theorem findX_eq (l:Nat) (hl:l<5) (A B C D E:List Int) (n:Int):∃ l' : Int,0≤l' ∧ l' < 5∧findX l A B C D E n=some (.ok (.int .i64 (idxF n)) (refH (.int .i64 l') A B C D E)):=by
 have sw:∀ k:Int,(k == n)=(n == k):=fun k=>by
  cases h:n == k
  ·simpa using fun e:k=n=>by simp [e] at h
  ·have:n=k:=by simpa using h
   simp [this]
 unfold findX fdK idxF
 rw [sw,sw,sw,sw,sw,sw]
 by_cases h1:n=1
 ·subst h1
  refine ⟨0,by omega,by omega,?_⟩
  match l,hl with
  | 0,_ | 1,_ | 2,_ | 3,_ | 4,_=>rfl
 by_cases h2:n=2
 ·subst h2
  refine ⟨1,by omega,by omega,?_⟩
  match l,hl with
  | 0,_ | 1,_ | 2,_ | 3,_ | 4,_=>rfl
 by_cases h3:n=16
 ·subst h3
  refine ⟨2,by omega,by omega,?_⟩
  match l,hl with
  | 0,_ | 1,_ | 2,_ | 3,_ | 4,_=>rfl
 by_cases h4:n=17
 ·subst h4
  refine ⟨3,by omega,by omega,?_⟩
  match l,hl with
  | 0,_ | 1,_ | 2,_ | 3,_ | 4,_=>rfl
 by_cases h5:n=32
 ·subst h5
  refine ⟨4,by omega,by omega,?_⟩
  match l,hl with
  | 0,_ | 1,_ | 2,_ | 3,_ | 4,_=>rfl
 have e:∀ k:Int,n ≠ k→(n == k)=false:=fun k h=>by simpa using h
 rw [e 1 h1,e 2 h2,e 16 h3,e 17 h4,e 32 h5]
 refine ⟨(l:Int),by omega,by omega,?_⟩
 have:(n == [(1:Int),2,16,17,32].getD l 0)=false:=by
  match l,hl with
  | 0,_=>exact e 1 h1
  | 1,_=>exact e 2 h2
  | 2,_=>exact e 16 h3
  | 3,_=>exact e 17 h4
  | 4,_=>exact e 32 h5
 rw [this]
 rfl
theorem find_mcall (A B C D E:List Int) (n:Int):MCall Tryz.prog 48 [.ptr 0 0,.int .u64 n] (refO A B C D E) (.ok (.int .i64 (idxF n)) (refO A B C D E)):=by
 refine mcall_rng (A:=[]) (pre:=[.ref 1 3 0 5]) (post:=[]) (k:=.i64) (lo:=0) (hi:=5) (by decide) fun l h0 h1=>?_
 obtain ⟨m,rfl⟩:=Int.eq_ofNat_of_zero_le h0
 obtain ⟨l',g0,g1,g2⟩:=findX_eq m (by omega) A B C D E n
 refine ⟨l',g0,g1,?_⟩
 refine msound_fun (cx:=cxRfind) (fn:=Tryz.f48) (cx0_ok rfl rfl) (by kernel_rfl) (by kernel_rfl) _ _ _ ?_
 refine run_req (by kernel_rfl) ?_
 rw [← Tree.fin_run]
 have hm:m ∈ [0,1,2,3,4]:=by
  simp only [List.mem_cons,List.not_mem_nil,or_false]
  omega
 exact (congrFun (congrFun (congrFun (congrFun (congrFun (congrFun (List.map_inj_left.1 find_all m hm) A) B) C) D) E) n).trans g2
def findR:RSpec:=fun args H=>match args with
 | [.ptr 0 0,.int .u64 n]=>refM (fun _ _ _ _ _=>.leaf (.int .i64 (idxF n))) H
 | _=>.fail
theorem findR_ok:RSound Tryz.prog 48 findR:=by
 intro args H v h
 unfold findR at h
 split at h
 rotate_left
 ·cases h
 obtain ⟨a,b,c,d,e,rfl,_,h⟩:=refM_run h
 cases h
 exact find_mcall _ _ _ _ _ _
def findRT:RSpec:=fun args H=>match args with
 | [.ptr 0 0,.int .u64 n]=>refM (fun _ _ _ _ _=>.br (n == 1) (.leaf (.int .i64 0)) (.br (n == 2) (.leaf (.int .i64 1)) (.br (n == 16) (.leaf (.int .i64 2)) (.br (n == 17) (.leaf (.int .i64 3)) (.br (n == 32) (.leaf (.int .i64 4)) .fail))))) H
 | _=>.fail
theorem findRT_ok:RSound Tryz.prog 48 findRT:=by
 intro args H v h
 unfold findRT at h
 split at h
 rotate_left
 ·cases h
 rename_i n
 obtain ⟨a,b,c,d,e,rfl,_,h⟩:=refM_run h
 have g:=find_mcall a b c d e n
 have k:v = .int .i64 (idxF n):=by
  unfold idxF
  revert h
  simp only [Tree.run]
  cases n == 1 <;> cases n == 2 <;> cases n == 16 <;> cases n == 17 <;> cases n == 32 <;> intro h <;> first | (cases h; rfl) | cases h
 rw [k]
 exact g
end Go.Ra
