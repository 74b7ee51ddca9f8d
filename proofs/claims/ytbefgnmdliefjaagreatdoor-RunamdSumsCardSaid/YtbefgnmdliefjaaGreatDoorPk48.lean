/-
  runamd: what Run answers, told outright, for a row of the program's. Conditions: none.
-/
import Derived.Test.YtbefgnmdliefjaaGreatDoorPk47
import Derived.Test.YtbefgnmdliefjaaGreatDoorPk24
import Derived.Test.YtbefgnmdliefjaaGreatDoorPk29
import Derived.Test.YtbefgnmdliefjaaGreatDoorPk19
set_option linter.unusedVariables false
set_option linter.unusedSimpArgs false
namespace Go.Ra
open Go Go.Ab Go.Proofs Go.Amd
theorem cpuOf_l {s:CpuT} (h:s.x.length=32):cpuOf s.l=some s:=by
 have e:cpuOf (tabS s).l=some (tabS s):=rfl
 have et:tabS s=s:=cpu_tab h
 rw [et] at e
 exact e
theorem l_inj {s t:CpuT} (hs:s.x.length=32) (ht:t.x.length=32) (h:s.l=t.l):s=t:=by
 have e:=cpuOf_l hs
 rw [h,cpuOf_l ht] at e
 exact (Option.some.inj e).symm
theorem memO_inj {A B C D E A' B' C' D' E' : List Int} (h:memO A B C D E=memO A' B' C' D' E'):A=A' ∧ B=B' ∧ C=C' ∧ D=D' ∧ E=E' := by
 unfold memO mO at h
 simp only [List.cons.injEq,O.obj.injEq,Shape.page.injEq,true_and,and_true] at h
 exact h
theorem out_ok {s t:CpuT} {g:Option Res} {o:Out} {ev:Int} {A B C D E:List Int} (h:IsOut s (outK t.l ev (memO A B C D E)) g o) (ht:t.x.length=32):o=⟨t,ev,0,A,B,C,D,E⟩:=by
 obtain ⟨f1,_,_,e,_⟩:=h
 unfold outK at e
 simp only [Option.some.injEq,Res.ok.injEq,V.tup.injEq,List.cons.injEq,V.agg.injEq,V.int.injEq,and_true,true_and] at e
 obtain ⟨⟨e1,e2,e3⟩,e4⟩:=e
 obtain ⟨m1,m2,m3,m4,m5⟩:=memO_inj e4
 obtain ⟨s',v',r',A',B',C',D',E'⟩:=o
 simp only at e1 e2 e3 m1 m2 m3 m4 m5 f1
 have es:=l_inj ht f1.len e1
 subst es e2 e3 m1 m2 m3 m4 m5
 rfl
theorem out_bad {s:CpuT} {g:Option Res} {o:Out} {e:Int} {A B C D E:List Int} (h:IsOut s (errK s e (memO A B C D E)) g o) (hs:s.x.length=32):o=⟨s,0,e,A,B,C,D,E⟩:=by
 obtain ⟨f1,_,_,q,_⟩:=h
 unfold errK at q
 simp only [Option.some.injEq,Res.ok.injEq,V.tup.injEq,List.cons.injEq,V.agg.injEq,V.int.injEq,and_true,true_and] at q
 obtain ⟨⟨e1,e2,e3⟩,e4⟩:=q
 obtain ⟨m1,m2,m3,m4,m5⟩:=memO_inj e4
 obtain ⟨s',v',r',A',B',C',D',E'⟩:=o
 simp only at e1 e2 e3 m1 m2 m3 m4 m5 f1
 have es:=l_inj hs f1.len e1
 subst es e2 e3 m1 m2 m3 m4 m5
 rfl
theorem runP_row {nm:List UInt8} {row:RunTy} (i:Nat) (hi:rowsR[i]? = some (nm,row)) (hf:fok nm=true) {s:CpuT} (hs:s.x.length=32) {a b c d m sz:Int} (h1:1≤sz) (h2:sz≤16) (he:encE (nm,a,b,c,d,m)=0) (A B C D E:List Int) :
  runP nm s a b c d m sz A B C D E=row s a b c d m sz A B C D E:=by
 unfold runP
 rw [hf,cond_true,W_of (run_all mbF _ (List.mem_of_getElem? hi)) hs]
 unfold topK topM
 rw [decide_eq_false (by omega),decide_eq_false (by omega)]
 show cond (!(encE (nm,a,b,c,d,m) == 0)) _ _=_
 rw [he]
 rfl
theorem outA_ok1 {nm:List UInt8} {row:RunTy} (i:Nat) (hi:rowsR[i]? = some (nm,row)) (hf:fok nm=true) {s t:CpuT} (hs:Fine s) {a b c d m sz:Int} (h1:1≤sz) (h2:sz≤16) (he:encE (nm,a,b,c,d,m)=0) {A B C D E:List Int} (hl:lens5 A B C D E=true) (hm:i64r m=true)
  (ht:t.x.length=32) {ev:Int} {A' B' C' D' E' : List Int} (hr:row s a b c d m sz A B C D E=outK t.l ev (memO A' B' C' D' E')):outA nm s a b c d m sz A B C D E=⟨t,ev,0,A',B',C',D',E'⟩:=by
 have h:=outA_is nm hs a b c d m sz hl hm
 rw [runP_row i hi hf hs.len h1 h2 he,hr] at h
 exact out_ok h ht
theorem outA_bad1 {nm:List UInt8} {row:RunTy} (i:Nat) (hi:rowsR[i]? = some (nm,row)) (hf:fok nm=true) {s:CpuT} (hs:Fine s) {a b c d m sz:Int} (h1:1≤sz) (h2:sz≤16) (he:encE (nm,a,b,c,d,m)=0) {A B C D E:List Int} (hl:lens5 A B C D E=true) (hm:i64r m=true)
  {e:Int} {A' B' C' D' E' : List Int} (hr:row s a b c d m sz A B C D E=errK s e (memO A' B' C' D' E')):outA nm s a b c d m sz A B C D E=⟨s,0,e,A',B',C',D',E'⟩:=by
 have h:=outA_is nm hs a b c d m sz hl hm
 rw [runP_row i hi hf hs.len h1 h2 he,hr] at h
 exact out_bad h hs.len
theorem ld_st {A B C D E:List Int} (hl:lens5 A B C D E=true) {x y:Int} (hx:rng64 x=true) (hy:rng64 y=true) (h2:mayB x 8 2=true) (h4:mayB x 8 4=true) :
  valLd (stB 1 x 8 y A) (stB 2 x 8 y B) (stB 16 x 8 y C) (stB 17 x 8 y D) (stB 32 x 8 y E) x 8=y:=by
 unfold valLd stB
 rw [h2,h4]
 simp only [cond_true]
 refine ldN_8 hy fun j hj=>?_
 have hu:usable (adr x j)=true:=usable_of hx (by decide) (by decide) h2 (i:=j) (by omega)
 have e:=adr_eq hx (by decide) (by decide) h2 (i:=j) (by omega)
 rw [show (Int.toNat 8)=8 from rfl,byteF_stN hu 8 0 hl fun i _ hi=>⟨usable_of hx (by decide) (by decide) h2 (i:=i) (by omega),(adr_eq hx (by decide) (by decide) h2 (i:=i) (by omega)).1⟩,e.1]
 rw [if_pos (by omega)]
 exact congrArg (byS y) (by omega)
theorem row_cmp (s:CpuT) (hs:Fine s) (A B C D E:List Int) {a b sz:Int} (ha:okReg a=true) (hb:okReg b=true) (nm:List UInt8) :
  rrR cmpT nm s a b 0 0 0 sz A B C D E=outK ({ (subW (s.x.getD a.toNat 0) (s.x.getD b.toNat 0) ⟨s,hs.len⟩).1 with pc:=wu (s.pc+wu sz) }:CpuT).l 0 (memO A B C D E):=by
 unfold rrR mvR
 rw [stC_eq _ hs.len]
 refine (inX_R (a:=b) hb ⟨s,hs.len⟩ _ _).trans ?_
 unfold cmpT
 refine (inA_R ha _).trans ((rdX_R ha ⟨s,hs.len⟩ _ _).trans ((subK_R (hs.rng _) (hs.rng _) ⟨s,hs.len⟩ _ _).trans ?_))
 exact finS_R _ _ _ _
theorem row_div (s:CpuT) (hs:Fine s) (A B C D E:List Int) {a sz:Int} (ha:okReg a=true) (nm:List UInt8) (hlt:s.x.getD 2 0<s.x.getD a.toNat 0) :
  divR nm s a 0 0 0 0 sz A B C D E=outK ({ (putW 2 (dr128 (s.x.getD 2 0) (s.x.getD 0 0) (s.x.getD a.toNat 0)) (putW 0 (dq128 (s.x.getD 2 0) (s.x.getD 0 0) (s.x.getD a.toNat 0)) ⟨s,hs.len⟩)).1 with pc:=wu (s.pc+wu sz) }:CpuT).l 0 (memO A B C D E):=by
 have h0:=hs.rng 0
 have h2:=hs.rng 2
 have h3:=hs.rng a.toNat
 unfold divR mvR
 rw [stC_eq _ hs.len]
 refine (inA_R ha _).trans ((inA_R ha _).trans ((inX_R ha ⟨s,hs.len⟩ _ _).trans ?_))
 show cond (!decide (s.x.getD 2 0<s.x.getD a.toNat 0)) _ (q (rng64 (s.x.getD 2 0) && (rng64 (s.x.getD 0 0) && (rng64 (s.x.getD a.toNat 0) && decide (s.x.getD 2 0<s.x.getD a.toNat 0)))) _)=_
 rw [decide_eq_true hlt,h0,h2,h3]
 refine Eq.trans (b:=finS (memO A B C D E) ((((⟨s,hs.len⟩:W).1.l++tlP (envF s nm a 0 0 0 0 sz A B C D E) (envF s nm a 0 0 0 0 sz A B C D E).bk).set 1 (.int .u64 (dq128 (s.x.getD 2 0) (s.x.getD 0 0) (s.x.getD a.toNat 0)))).set 3 (.int .u64 (dr128 (s.x.getD 2 0) (s.x.getD 0 0) (s.x.getD a.toNat 0))))) rfl ?_
 rw [set1_R,set3_R]
 exact finS_R _ _ _ _
theorem row_div0 (s:CpuT) (hs:Fine s) (A B C D E:List Int) {a sz:Int} (ha:okReg a=true) (nm:List UInt8) (hlt:¬ s.x.getD 2 0<s.x.getD a.toNat 0) :
  divR nm s a 0 0 0 0 sz A B C D E=errK s 21 (memO A B C D E):=by
 unfold divR mvR
 rw [stC_eq _ hs.len]
 refine (inA_R ha _).trans ((inA_R ha _).trans ((inX_R ha ⟨s,hs.len⟩ _ _).trans ?_))
 show cond (!decide (s.x.getD 2 0<s.x.getD a.toNat 0)) _ _=_
 rw [decide_eq_false hlt]
 rfl
theorem row_push (s:CpuT) (hs:Fine s) (A B C D E:List Int) (hl:lens5 A B C D E=true) {a sz:Int} (ha:okReg a=true) (nm:List UInt8) (hm:mayB (wu (s.x.getD 4 0 - 8)) 8 2=true) :
  pushR nm s a 0 0 0 0 sz A B C D E=outK ({ (putW 4 (wu (s.x.getD 4 0 - 8)) ⟨s,hs.len⟩).1 with pc:=wu (s.pc+wu sz) }:CpuT).l 0
   (memO (stB 1 (wu (s.x.getD 4 0 - 8)) 8 (s.x.getD a.toNat 0) A) (stB 2 (wu (s.x.getD 4 0 - 8)) 8 (s.x.getD a.toNat 0) B) (stB 16 (wu (s.x.getD 4 0 - 8)) 8 (s.x.getD a.toNat 0) C) (stB 17 (wu (s.x.getD 4 0 - 8)) 8 (s.x.getD a.toNat 0) D) (stB 32 (wu (s.x.getD 4 0 - 8)) 8 (s.x.getD a.toNat 0) E)):=by
 unfold pushR mwR
 rw [stC_eq _ hs.len]
 refine (inA_R ha _).trans ((inA_R ha _).trans ((rdX_R ha ⟨s,hs.len⟩ _ _).trans ?_))
 unfold pushK storeK
 show q (lens5 A B C D E) (q (rng64 (wu (s.x.getD 4 0 - 8)) && true) (cond (!(errSt (wu (s.x.getD 4 0 - 8)) 8 == 0)) _ (finS _ (((⟨s,hs.len⟩:W).1.l++tlP _ _).set 5 (.int .u64 (wu (s.x.getD 4 0 - 8)))))))=_
 rw [hl,rng_wu,set5_R,finS_R]
 unfold errSt
 rw [hm]
 rfl
theorem row_pop (s:CpuT) (hs:Fine s) (A B C D E:List Int) (hl:lens5 A B C D E=true) {a sz:Int} (ha:okReg a=true) (nm:List UInt8) (hm:mayB (s.x.getD 4 0) 8 4=true) :
  popR nm s a 0 0 0 0 sz A B C D E=outK ({ (putW a (valLd A B C D E (s.x.getD 4 0) 8) (putW 4 (wu (s.x.getD 4 0+8)) ⟨s,hs.len⟩)).1 with pc:=wu (s.pc+wu sz) }:CpuT).l 0 (memO A B C D E):=by
 have h4:=hs.rng 4
 unfold popR mvR
 rw [stC_eq _ hs.len]
 refine (inA_R ha _).trans ((inA_R ha _).trans ?_)
 unfold popK loadK
 show q (lens5 A B C D E) (q (rng64 (s.x.getD 4 0) && true) (cond (!(errLd (s.x.getD 4 0) 8 == 0)) _ (putX a (valLd A B C D E (s.x.getD 4 0) 8) (((⟨s,hs.len⟩:W).1.l++tlP _ _).set 5 (.int .u64 (wu (s.x.getD 4 0+8)))) _)))=_
 rw [hl,h4,set5_R,putX_R ha,finS_R]
 unfold errLd
 rw [hm]
 rfl
end Go.Ra

namespace Go.Ra
open Go Go.Ab Go.Proofs
def bothA (A B C D E:List Int):List O:=[.cells [.bool true,.mp 2] 72,.obj (.map [1,2,16,17,32]) [.ptr 3 0,.ptr 4 0,.ptr 5 0,.ptr 6 0,.ptr 7 0],wdPg 5 A,wdPg 5 B,wdPg 6 C,wdPg 6 D,wdPg 4 E,
 .cells [.ref 9 3 0 5,lastV] 58,.cells (wRow 1 5 10++(wRow 2 5 11++(wRow 16 6 12++(wRow 17 6 13++wRow 32 4 14)))) 0,newPg A,newPg B,newPg C,newPg D,newPg E]
theorem answer_post {fn:Func} {s:St} {v:V} (h:(answer Tryz.prog fn.results.toList s).run=some v):(s.1 = .ret∨s.1 = .normal)∧answerV Tryz.prog fn.results.toList s.2.2 s.2.1=some v:=by
 obtain ⟨e,t,H⟩:=s
 unfold answer at h
 split at h
 ·rename_i heq
  cases heq
  split at h
  ·rename_i v hv
   cases h
   exact ⟨.inl rfl,hv⟩
  ·cases h
 ·rename_i heq
  cases heq
  split at h
  ·rename_i v hv
   cases h
   exact ⟨.inr rfl,hv⟩
  ·cases h
 ·cases h
structure RnSt where
 k:Nat
 s:CpuT
 A:List Int
 B:List Int
 C:List Int
 D:List Int
 E:List Int
 hk:k≤80
 hs:Fine s
 hl:lens5 A B C D E=true
end Go.Ra

namespace Go.Ra
open Go Go.Ab Go.Proofs
def noV:Option V:=some (.bool false)
def rcV (f:OutFn) (nm:List UInt8) (s:CpuT) (a b c d m sz:Int) (A B C D E:List Int) (k:Out→Option V):Option V:=
 cond (true && lens5 A B C D E) (cond (fineB s && Go.Amd.i64r m) (k (f nm s a b c d m sz A B C D E)) none) none
def q0 (b:Int) (k:Option V):Option V:=cond (!decide (b=0)) k none
end Go.Ra

namespace Go.Ra
open Go Go.Ab Go.Proofs
noncomputable def cxSu (f:OutFn):Cx:={ P:=Tryz.prog,n:=Tryz.f3.ntmps,tab:=[(9,Go.Amd.begunS),(12,hoS)],mtab:=[(11,runS f),(10,worldD)],still:=[11],refs:=[],keeps:=[0,1,4,5,6,8,10,11,13,15,17,19,92,129] }
theorem cxSu_ok {f:OutFn} (h:MSound Tryz.prog 11 (runS f)):CxOk (cxSu f):=⟨.cons Go.Amd.begunS_ok (.cons hoS_ok (.nil _)),.cons h (.cons worldD_ok fun p h=>by cases h),.nil _,fun p h=>by cases h⟩
noncomputable abbrev Bsu:Code:=bodyOf Tryz.f3
def suS (a b:Int):CpuT:=⟨0,[a,0,0,b,69632,0,0,0,0,0,0,0,0,0,0,0,0,0,0,0,0,0,0,0,0,0,0,0,0,0,0,0],false,false,false,false,0⟩
def suT (a b:Int):T:=[(0,.int .u64 a),(1,.int .u64 b),(5,.ptr 0 0),(6,.ptr 1 0)]
def suH (a b:Int) (A B C D E:List Int):List O:=.cells (suS a b).l 26 :: bothA A B C D E
theorem su_head (f:OutFn) (a b:Int):(dcode (cxSu f) (headN 6 Bsu) (initT 0 [.int .u64 a,.int .u64 b]) []).run.map (fun s=>(s.1,keep [0,1,5,6] s.2.1,s.2.2)) =
  some (.normal,suT a b,suH a b (wdK 1 [] [] zeros) (wdK 2 [] [] zeros) (wdK 16 [] [] zeros) (wdK 17 [] [] zeros) (wdK 32 [] [] zeros)):=by kernel_rfl
def suX3 (f:OutFn) (a b:Int) (o:Out):Option V:=
 rcV f [112,117,115,104] (suS a b) 3 0 0 0 0 1 o.A o.B o.C o.D o.E fun y=>rcV f [112,111,112] (tabS y.s) 6 0 0 0 0 1 y.A y.B y.C y.D y.E fun z =>
  cond (y.err == 0) (cond (z.err == 0) (cond (y.s.x.getD 4 0 == 69624) (cond (z.s.x.getD 4 0 == 69632) (bO (z.s.x.getD 6 0 == b)) noV) noV) noV) noV
def suX2 (f:OutFn) (a b:Int) (o:Out):Option V:=
 rcV f [100,105,118] (suS a b) 3 0 0 0 0 3 o.A o.B o.C o.D o.E fun x =>
  cond (!((x.err == 0) == (b != 0))) noV (cond (x.err == 0) (cond (wu (wu (x.s.x.getD 0 0*b)+x.s.x.getD 2 0) != a) noV (cond (decide (b≤x.s.x.getD 2 0)) noV (suX3 f a b x))) (suX3 f a b x))
def hoD (o:Out) (d:Int):Bool:=holdsF o.s.z o.s.n o.s.c o.s.v d
def suX (f:OutFn) (a b:Int) (A B C D E:List Int):Option V:=
 rcV f [99,109,112,46,114,114] (suS a b) 0 3 0 0 0 3 A B C D E fun o =>
  cond (o.err != 0) noV (cond (!(eqXs (tabS o.s).x (suS a b).x)) noV (cond (!(hoD o 4 == (a == b))) noV (cond (!(hoD o 2 == decide (a<b))) noV (cond (!(hoD o 7 == decide (b<a))) noV
   (cond (!(hoD o 12 == decide (wi a<wi b))) noV (cond (!(hoD o 15 == decide (wi b<wi a))) noV (suX2 f a b o)))))))
noncomputable def suE (f:OutFn) (a b:Int) (A B C D E:List Int):Option V:=((dcode (cxSu f) (tailN 6 Bsu) (suT a b) (suH a b A B C D E)).bind (answer Tryz.prog Tryz.f3.results.toList)).fin
theorem su_eq (f:OutFn) (a b:Int) (A B C D E:List Int):suE f a b A B C D E=suX f a b A B C D E:=by kernel_rfl
end Go.Ra

namespace Go.Ra
open Go Go.Ab Go.Proofs Go.Amd
theorem rcV_eq {f:OutFn} {nm:List UInt8} {s:CpuT} {a b c d m sz:Int} {A B C D E:List Int} {k:Out→Option V} (hl:lens5 A B C D E=true) (hs:Fine s) (hm:i64r m=true):rcV f nm s a b c d m sz A B C D E k=k (f nm s a b c d m sz A B C D E):=by
 unfold rcV
 rw [hl,fineB_of hs,hm]
 rfl
end Go.Ra

namespace Go.Ra
open Go Go.Ab Go.Proofs Go.Amd
theorem may_data {x r:Int} (h0:65536≤x) (h1:x≤73720) (hr:r=2∨r=4):mayB x 8 r=true:=by
 have hx:rng64 x=true:=rng_of (by omega) (by omega)
 have he:endF x 8=x+7:=by
  have e:endF x 8=((x+8 % 18446744073709551616) % 18446744073709551616 - 1) % 18446744073709551616:=rfl
  rw [e]
  omega
 have ok:∀ k:Int,(k=16∨k=17)→okP r k=true:=by
  rintro k (rfl | rfl) <;> rcases hr with rfl | rfl <;> rfl
 unfold mayB
 rw [he,decide_eq_true (by omega),pgF_eq hx,pgF_eq (rng_of (by omega) (by omega):rng64 (x+7)=true),ok _ (by omega),ok ((x+7) / 4096) (by omega),Bool.or_true]
 rfl
section
variable {s:CpuT} (hs:Fine s) (A B C D E:List Int) {b c d m sz:Int} (nm:List UInt8)
include hs
end
end Go.Ra

namespace Go.Ra
open Go Go.Ab Go.Proofs Go.Amd
theorem hold_4:∀ z n c v:Bool,holdsF z n c v 4=z:=by decide +kernel
theorem hold_2:∀ z n c v:Bool,holdsF z n c v 2=c:=by decide +kernel
theorem hold_7:∀ z n c v:Bool,holdsF z n c v 7 = !(c || z):=by decide +kernel
theorem hold_12:∀ z n c v:Bool,holdsF z n c v 12 = !(n == v):=by decide +kernel
theorem hold_15:∀ z n c v:Bool,holdsF z n c v 15 = !(z || !(n == v)):=by decide +kernel
section
variable {a b:Int} (ha:rng64 a=true) (hb' : rng64 b=true)
include ha hb'
theorem sub_z:(wu (a - b) == 0)=(a == b):=by
 obtain ⟨a0,a1⟩:=rng_spec ha
 obtain ⟨b0,b1⟩:=rng_spec hb'
 by_cases h:a=b
 ·subst h
  rw [beq_self_eq_true,Int.sub_self]
  rfl
 ·rw [beq_false_of_ne h,beq_eq_false_iff_ne,wu_mod]
  omega
theorem sub_lt:(!(hb (wu (a - b)) == cond (hb a != hb b) (hb (wu (a - b)) != hb a) false))=decide (wi a<wi b):=by
 obtain ⟨a0,a1⟩:=rng_spec ha
 obtain ⟨b0,b1⟩:=rng_spec hb'
 have ea:wi a=if 9223372036854775808≤a then a - 18446744073709551616 else a:=by
  rw [wi_def,Int.emod_eq_of_lt a0 a1]
 have eb:wi b=if 9223372036854775808≤b then b - 18446744073709551616 else b:=by
  rw [wi_def,Int.emod_eq_of_lt b0 b1]
 have es:hb (wu (a - b))=decide (9223372036854775808≤(a - b) % 18446744073709551616):=rfl
 rw [ea,eb,es]
 unfold hb
 by_cases g1:9223372036854775808≤a <;> by_cases g2:9223372036854775808≤b <;> by_cases g3:9223372036854775808≤(a - b) % 18446744073709551616 <;>
  simp only [g1,g2,g3,decide_true,decide_false,if_true,if_false] <;>
  first | exact (decide_eq_true (by omega)).symm | exact (decide_eq_false (by omega)).symm
end
theorem fine_su {a b:Int} (ha:rng64 a=true) (hb' : rng64 b=true):Fine (suS a b):=by
 refine fine_of rfl ?_
 unfold fineB suS
 simp only [List.all_cons,List.all_nil,ha,hb']
 rfl
def suS1 (a b:Int):CpuT:={ (subW a b ⟨suS a b,rfl⟩).1 with pc:=wu (0+wu 3) }
def suS2 (a b:Int):CpuT:={ (putW 2 (dr128 0 a b) (putW 0 (dq128 0 a b) ⟨suS a b,rfl⟩)).1 with pc:=wu (0+wu 3) }
def suS3 (a b:Int):CpuT:={ (putW 4 69624 ⟨suS a b,rfl⟩).1 with pc:=wu (0+wu 1) }
theorem fine_3 {a b:Int} (ha:rng64 a=true) (hb' : rng64 b=true):Fine (suS3 a b):=fine_pc (fine_put (t:=⟨suS a b,rfl⟩) (fine_su ha hb') 4 rfl) (rng_wu _)
def suS4 (a b:Int) (h:(suS3 a b).x.length=32):CpuT:={ (putW 6 b (putW 4 69632 ⟨suS3 a b,h⟩)).1 with pc:=wu ((suS3 a b).pc+wu 1) }
section
variable {a b:Int} (ha:rng64 a=true) (hb' : rng64 b=true) {A B C D E:List Int} (hl:lens5 A B C D E=true)
include ha hb' hl
theorem out_cmp:outA [99,109,112,46,114,114] (suS a b) 0 3 0 0 0 3 A B C D E=⟨suS1 a b,0,0,A,B,C,D,E⟩:=
 outA_ok1 (row:=rrR cmpT [99,109,112,46,114,114]) 17 (by kernel_rfl) (by kernel_rfl) (fine_su ha hb') (by decide) (by decide) (by kernel_rfl) hl rfl (t:=suS1 a b) rfl (row_cmp (suS a b) (fine_su ha hb') A B C D E (a:=0) (b:=3) (sz:=3) rfl rfl _)
theorem out_div (h:0<b):outA [100,105,118] (suS a b) 3 0 0 0 0 3 A B C D E=⟨suS2 a b,0,0,A,B,C,D,E⟩:=
 outA_ok1 (row:=divR [100,105,118]) 35 (by kernel_rfl) (by kernel_rfl) (fine_su ha hb') (by decide) (by decide) (by kernel_rfl) hl rfl (t:=suS2 a b) rfl (row_div (suS a b) (fine_su ha hb') A B C D E (a:=3) (sz:=3) rfl _ h)
theorem out_div0 (h:b=0):outA [100,105,118] (suS a b) 3 0 0 0 0 3 A B C D E=⟨suS a b,0,21,A,B,C,D,E⟩:=by
 have hn:¬ (suS a b).x.getD 2 0<(suS a b).x.getD (Int.toNat 3) 0:=by
  show ¬ (0:Int)<b
  omega
 exact outA_bad1 (row:=divR [100,105,118]) 35 (by kernel_rfl) (by kernel_rfl) (fine_su ha hb') (by decide) (by decide) (by kernel_rfl) hl rfl (row_div0 (suS a b) (fine_su ha hb') A B C D E (a:=3) (sz:=3) rfl _ hn)
theorem out_push:outA [112,117,115,104] (suS a b) 3 0 0 0 0 1 A B C D E=⟨suS3 a b,0,0,stB 1 69624 8 b A,stB 2 69624 8 b B,stB 16 69624 8 b C,stB 17 69624 8 b D,stB 32 69624 8 b E⟩:=
 outA_ok1 (row:=pushR [112,117,115,104]) 45 (by kernel_rfl) (by kernel_rfl) (fine_su ha hb') (by decide) (by decide) (by kernel_rfl) hl rfl (t:=suS3 a b) (fine_3 ha hb').len (row_push (suS a b) (fine_su ha hb') A B C D E hl (a:=3) (sz:=1) rfl _ (may_data (x:=69624) (by decide) (by decide) (.inl rfl)))
theorem out_pop (hv:valLd A B C D E 69624 8=b):outA [112,111,112] (suS3 a b) 6 0 0 0 0 1 A B C D E=⟨suS4 a b (fine_3 ha hb').len,0,0,A,B,C,D,E⟩:=by
 have h:=row_pop (suS3 a b) (fine_3 ha hb') A B C D E hl (a:=6) (sz:=1) rfl [112,111,112] (may_data (x:=69624) (by decide) (by decide) (.inr rfl))
 refine outA_ok1 (row:=popR [112,111,112]) 46 (by kernel_rfl) (by kernel_rfl) (fine_3 ha hb') (by decide) (by decide) (by kernel_rfl) hl rfl (t:=suS4 a b (fine_3 ha hb').len) (by
  show (((suS3 a b).x.set _ _).set _ _).length=32
  rw [List.length_set,List.length_set]
  exact (fine_3 ha hb').len) (h.trans ?_)
 have e:valLd A B C D E ((suS3 a b).x.getD 4 0) 8=b:=hv
 rw [e]
 rfl
theorem suX3_true {o:Out} (ho:o.A=A∧o.B=B∧o.C=C∧o.D=D∧o.E=E):suX3 outA a b o=some (.bool true):=by
 obtain ⟨h1,h2,h3,h4,h5⟩:=ho
 unfold suX3
 rw [h1,h2,h3,h4,h5,rcV_eq hl (fine_su ha hb') rfl,out_push ha hb' hl]
 have et:tabS (suS3 a b)=suS3 a b:=cpu_tab (fine_3 ha hb').len
 have hl' := lens5_stB hl 69624 8 b
 have hv:=ld_st hl (x:=69624) rfl hb' (may_data (by decide) (by decide) (.inl rfl)) (may_data (by decide) (by decide) (.inr rfl))
 show rcV outA _ (tabS (suS3 a b)) 6 0 0 0 0 1 (stB 1 69624 8 b A) (stB 2 69624 8 b B) (stB 16 69624 8 b C) (stB 17 69624 8 b D) (stB 32 69624 8 b E) _=_
 rw [et,rcV_eq hl' (fine_3 ha hb') rfl,out_pop ha hb' hl' hv]
 show cond ((0:Int) == 0) (cond ((0:Int) == 0) (cond ((suS3 a b).x.getD 4 0 == 69624) (cond ((suS4 a b (fine_3 ha hb').len).x.getD 4 0 == 69632) (bO ((suS4 a b (fine_3 ha hb').len).x.getD 6 0 == b)) noV) noV) noV) noV=_
 have e6:(suS4 a b (fine_3 ha hb').len).x.getD 6 0=b:=rfl
 rw [e6,beq_self_eq_true (a:=b)]
 rfl
theorem suX2_true {o:Out} (ho:o.A=A∧o.B=B∧o.C=C∧o.D=D∧o.E=E):suX2 outA a b o=some (.bool true):=by
 obtain ⟨h1,h2,h3,h4,h5⟩:=ho
 obtain ⟨a0,a1⟩:=rng_spec ha
 obtain ⟨b0,b1⟩:=rng_spec hb'
 unfold suX2
 rw [h1,h2,h3,h4,h5,rcV_eq hl (fine_su ha hb') rfl]
 by_cases h0:b=0
 ·rw [out_div0 ha hb' hl h0]
  have e:(b != 0)=false:=by rw [h0]; rfl
  rw [e]
  exact suX3_true ha hb' hl ⟨rfl,rfl,rfl,rfl,rfl⟩
 ·rw [out_div ha hb' hl (by omega)]
  have e:(b != 0)=true:=by simpa using h0
  rw [e]
  have hq:dq128 0 a b=a / b:=by unfold dq128; rw [Int.zero_mul,Int.zero_add]
  have hr:dr128 0 a b=a % b:=by unfold dr128; rw [Int.zero_mul,Int.zero_add]
  show cond (wu (wu (dq128 0 a b*b)+dr128 0 a b) != a) noV (cond (decide (b≤dr128 0 a b)) noV (suX3 outA a b _))=_
  have q0:0≤a / b:=Int.ediv_nonneg a0 b0
  have r0:=Int.emod_nonneg a h0
  have r1:=Int.emod_lt_of_pos a (show 0<b by omega)
  have em:=Int.emod_add_mul_ediv a b
  have p0:0≤b*(a / b):=Int.mul_nonneg b0 q0
  have e1:wu (wu (dq128 0 a b*b)+dr128 0 a b)=a:=by
   rw [hq,hr,Int.mul_comm (a / b) b,wu_rng (rng_of p0 (by omega)),show b*(a / b)+a % b=a by omega,wu_rng ha]
  rw [e1,bne_self_eq_false,hr,decide_eq_false (by omega)]
  exact suX3_true ha hb' hl ⟨rfl,rfl,rfl,rfl,rfl⟩
theorem suX_true:suX outA a b A B C D E=some (.bool true):=by
 obtain ⟨a0,a1⟩:=rng_spec ha
 obtain ⟨b0,b1⟩:=rng_spec hb'
 unfold suX
 rw [rcV_eq hl (fine_su ha hb') rfl,out_cmp ha hb' hl]
 have et:tabS (suS1 a b)=suS1 a b:=cpu_tab rfl
 have ho:∀ d,hoD ⟨suS1 a b,0,0,A,B,C,D,E⟩ d=holdsF (wu (a - b) == 0) (hb (wu (a - b))) (decide (a<b)) (cond (hb a != hb b) (hb (wu (a - b)) != hb a) false) d:=fun _=>rfl
 rw [ho,ho,ho,ho,ho,hold_4,hold_2,hold_7,hold_12,hold_15,sub_z ha hb',sub_lt ha hb']
 show cond ((0:Int) != 0) noV (cond (!(eqXs (tabS (suS1 a b)).x (suS a b).x)) noV _)=_
 rw [et,show (suS1 a b).x=(suS a b).x from rfl,eqXs_self]
 have e7:(!(decide (a<b) || (a == b)))=decide (b<a):=by
  by_cases h:a<b
  ·rw [decide_eq_true h,decide_eq_false (by omega)]
   rfl
  ·by_cases h2:a=b
   ·subst h2
    rw [beq_self_eq_true,decide_eq_false h]
    rfl
   ·rw [decide_eq_false h,beq_false_of_ne h2,decide_eq_true (by omega)]
    rfl
 have e15:(!((a == b) || decide (wi a<wi b)))=decide (wi b<wi a):=by
  by_cases h2:a=b
  ·subst h2
   rw [beq_self_eq_true,decide_eq_false (by omega)]
   rfl
  ·have hne:wi a ≠ wi b:=by
    intro h
    apply h2
    rw [wi_def,wi_def,Int.emod_eq_of_lt a0 a1,Int.emod_eq_of_lt b0 b1] at h
    split at h <;> split at h <;> omega
   rw [beq_false_of_ne h2,Bool.false_or]
   by_cases h:wi a<wi b
   ·rw [decide_eq_true h,decide_eq_false (by omega)]
    rfl
   ·rw [decide_eq_false h,decide_eq_true (by omega)]
    rfl
 rw [e7,e15]
 simp only [beq_self_eq_true,Bool.not_true,cond_false,bne_self_eq_false]
 exact suX2_true ha hb' hl ⟨rfl,rfl,rfl,rfl,rfl⟩
end
set_option maxRecDepth 8000 in
theorem sums_law {a b:Int} (ha:rng64 a=true) (hb' : rng64 b=true):PCall Tryz.prog 3 [.int .u64 a,.int .u64 b] (.bool true):=by
 have hok:=cxSu_ok runA_ok
 refine pcall_of' (c:=Bsu) (fn:=Tryz.f3) (by kernel_rfl) (by kernel_rfl) (by kernel_rfl) (by kernel_rfl) ?_
 refine AWP_headK (cx:=cxSu outA) rfl rfl hok 6 [0,1,5,6] (by kernel_rfl) (su_head outA a b) ?_
 show AWP _ _ _ _ _ _
 have hl:=lens5_wd (l:=[]) (m:=[]) rfl rfl lens_zeros
 generalize wdK 1 [] [] zeros=A at hl
 generalize wdK 2 [] [] zeros=B at hl
 generalize wdK 16 [] [] zeros=C at hl
 generalize wdK 17 [] [] zeros=D at hl
 generalize wdK 32 [] [] zeros=E at hl
 have he:=(su_eq outA a b A B C D E).trans (suX_true ha hb' hl)
 unfold suE at he
 rw [Tree.fin_run] at he
 obtain ⟨r,q1,q2⟩:=bind_run he
 refine AWP_run (cx:=cxSu outA) rfl rfl hok q1 ?_
 exact answer_post q2
theorem sums_call (x:EC.tys [.int .u64,.int .u64]) (h:okEs [.int .u64,.int .u64] x):PCall Tryz.prog 3 (argVs [.int .u64,.int .u64] x) (.bool true):=
 sums_law (has_rng h.1) (has_rng h.2)
end Go.Ra
