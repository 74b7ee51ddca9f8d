/-
  runrv: Run of the eight names of the law Sums, on a memory that is new. Conditions: none.
-/
import Derived.Test.YtnickegmpffneaaGreatDoorPk41
set_option linter.unusedVariables false
set_option linter.unusedSimpArgs false
namespace Go.Ra
open Go Go.Ab Go.Proofs
def memN:List O:=[.cells [.bool true,.mp 1] 64,.obj (.map []) []]
def isMem (t:Nat):List O→Bool
 | [.cells [.bool true,.mp 1] t',.obj (.map []) []]=>Nat.beq t' t
 | _=>false
theorem isMem_spec {t:Nat} {H:List O} (h:isMem t H=true):H=[.cells [.bool true,.mp 1] t,.obj (.map []) []]:=by
 unfold isMem at h
 split at h
 ·rw [Nat.eq_of_beq_eq_true h]
 ·cases h
def sumF:List (List UInt8 × (Int→Int→Int)):=[([100,105,118,117],uqF),([114,101,109,117],urF),([100,105,118],fun x y=>dqF (wi x) (wi y)),([114,101,109],fun x y=>drF (wi x) (wi y)),([97,100,100],fun x y=>wu (x+y)),([115,117,98],fun x y=>wu (x - y)),([109,117,108],fun x y=>wu (x*y)),([109,117,108,104,117],mulHi)]
def sumV (nm:List UInt8) (x y:Int):Int:=((sumF.find? fun p=>strEq p.1 nm).getD ([],fun _ _=>0)).2 x y
def sumL:List (List UInt8 × Int):=[([100,105,118,117],3),([100,105,118,117],0),([114,101,109,117],4),([114,101,109,117],0),([100,105,118],5),([100,105,118],0),([114,101,109],6),([114,101,109],0),([97,100,100],7),([97,100,100],0),([115,117,98],8),([115,117,98],0),([109,117,108],9),([109,117,108],0),([109,117,108,104,117],10),([109,117,108,104,117],0)]
noncomputable def sumE (y:List UInt8 × Int) (p x0 x1 x2 x3 x4 x5 x6 x7 x8 x9 x10 x11 x12 x13 x14 x15 x16 x17 x18 x19 x20 x21 x22 x23 x24 x25 x26 x27 x28 x29 x30 x31 th:Int) (z n c v:Bool):Option Res:=
 (runG mbF [.agg (CpuT.l ⟨p,[x0,x1,x2,x3,x4,x5,x6,x7,x8,x9,x10,x11,x12,x13,x14,x15,x16,x17,x18,x19,x20,x21,x22,x23,x24,x25,x26,x27,x28,x29,x30,x31],z,n,c,v,th⟩),insV y.1 y.2 1 2 0 0,.int .i64 4,.ptr 0 0] memN).fin
def muOk (nm:List UInt8) (x y:Int) (k:Option Res):Option Res:=cond (strEq nm [109,117,108,104,117]) (q (rng64 x && rng64 y) k) k
def sumX (y:List UInt8 × Int) (p x0 x1 x2 x3 x4 x5 x6 x7 x8 x9 x10 x11 x12 x13 x14 x15 x16 x17 x18 x19 x20 x21 x22 x23 x24 x25 x26 x27 x28 x29 x30 x31 th:Int) (z n c v:Bool):Option Res:=
 let s:CpuT:=⟨p,[x0,x1,x2,x3,x4,x5,x6,x7,x8,x9,x10,x11,x12,x13,x14,x15,x16,x17,x18,x19,x20,x21,x22,x23,x24,x25,x26,x27,x28,x29,x30,x31],z,n,c,v,th⟩
 cond (Int.tmod p 2 != 0) (errK s 10 memN) (muOk y.1 x1 x2 (setK y.2 (sumV y.1 x1 x2) (nxF s 4) (zs s).l fun L nx=>finK s L nx memN))
theorem sum_0:(sumL.take 6).map sumE=(sumL.take 6).map sumX:=by kernel_rfl
theorem sum_1:((sumL.drop 6).take 5).map sumE=((sumL.drop 6).take 5).map sumX:=by kernel_rfl
theorem sum_2:(sumL.drop 11).map sumE=(sumL.drop 11).map sumX:=by kernel_rfl
theorem sum_all:∀ y ∈ sumL,sumE y=sumX y:=by
 have h:sumL.map sumE=sumL.map sumX:=by
  have e:sumL=sumL.take 6++((sumL.drop 6).take 5++sumL.drop 11):=by kernel_rfl
  rw [e,List.map_append,List.map_append,List.map_append,List.map_append,sum_0,sum_1,sum_2]
 exact List.map_inj_left.1 h
def isSum (nm:List UInt8) (a:Int):Bool:=sumL.any fun y=>strEq y.1 nm && y.2 == a
theorem isSum_mem {nm:List UInt8} {a:Int} (h:isSum nm a=true):(nm,a) ∈ sumL:=by
 obtain ⟨y,hy,h1⟩:=List.any_eq_true.1 h
 simp only [Bool.and_eq_true] at h1
 have e1:y.1=nm:=eq_of_beq h1.1
 have e2:y.2=a:=by simpa using h1.2
 obtain ⟨y1,y2⟩:=y
 subst e1 e2
 exact hy
theorem sum_reg:sumL.all (fun y=>okReg y.2)=true:=by kernel_rfl
def sumS (nm:List UInt8) (a:Int) (s:CpuT):CpuT:={ setS a (sumV nm (s.x.getD 1 0) (s.x.getD 2 0)) (zs s) with pc:=nxF s 4 }
def sumM:MSpec:=fun args H=>match args with
 | [.agg cs,.agg [.str nm,.int .i64 a,.int .i64 1,.int .i64 2,.int .i64 0,.int .i64 0],.int .i64 4,.ptr 0 0]=>match cpuOf cs with
  | some s=>.req (isMem 64 H && isSum nm a) (.req (Int.tmod s.pc 2 == 0 && Int.tmod (nxF s 4) 2 == 0) (.req (rng64 (s.x.getD 1 0) && rng64 (s.x.getD 2 0))
   (.leaf (.ok (.tup [.agg (tabS (sumS nm a s)).l,.int .i64 0,.int .i64 0]) H))))
  | none=>.fail
 | _=>.fail
theorem sumM_ok:MSound Tryz.prog 10 sumM:=by
 intro args H out h
 unfold sumM at h
 split at h
 rotate_left
 ·cases h
 rename_i cs nm a
 split at h
 rotate_left
 ·cases h
 rename_i s hs
 obtain ⟨h1,h⟩:=req_run h
 obtain ⟨h2,h⟩:=req_run h
 obtain ⟨h3,h⟩:=req_run h
 cases h
 obtain ⟨g1,g2⟩:=Bool.and_eq_true_iff.1 h1
 obtain ⟨g3,g4⟩:=Bool.and_eq_true_iff.1 h2
 have hH:H=memN:=isMem_spec g1
 subst hH
 obtain ⟨rfl,e2⟩:=cpuOf_spec hs
 refine runG_ok mayP_ok _ _ _ ?_
 rw [← Tree.fin_run]
 have ha:okReg a=true:=List.all_eq_true.1 sum_reg _ (isSum_mem g2)
 have key:sumE (nm,a) s.pc (s.x.getD 0 0) (s.x.getD 1 0) (s.x.getD 2 0) (s.x.getD 3 0) (s.x.getD 4 0) (s.x.getD 5 0) (s.x.getD 6 0) (s.x.getD 7 0) (s.x.getD 8 0) (s.x.getD 9 0) (s.x.getD 10 0) (s.x.getD 11 0) (s.x.getD 12 0) (s.x.getD 13 0) (s.x.getD 14 0) (s.x.getD 15 0) (s.x.getD 16 0) (s.x.getD 17 0) (s.x.getD 18 0) (s.x.getD 19 0) (s.x.getD 20 0) (s.x.getD 21 0) (s.x.getD 22 0) (s.x.getD 23 0) (s.x.getD 24 0) (s.x.getD 25 0) (s.x.getD 26 0) (s.x.getD 27 0) (s.x.getD 28 0) (s.x.getD 29 0) (s.x.getD 30 0) (s.x.getD 31 0) s.th s.z s.n s.c s.v=sumX (nm,a) s.pc (s.x.getD 0 0) (s.x.getD 1 0) (s.x.getD 2 0) (s.x.getD 3 0) (s.x.getD 4 0) (s.x.getD 5 0) (s.x.getD 6 0) (s.x.getD 7 0) (s.x.getD 8 0) (s.x.getD 9 0) (s.x.getD 10 0) (s.x.getD 11 0) (s.x.getD 12 0) (s.x.getD 13 0) (s.x.getD 14 0) (s.x.getD 15 0) (s.x.getD 16 0) (s.x.getD 17 0) (s.x.getD 18 0) (s.x.getD 19 0) (s.x.getD 20 0) (s.x.getD 21 0) (s.x.getD 22 0) (s.x.getD 23 0) (s.x.getD 24 0) (s.x.getD 25 0) (s.x.getD 26 0) (s.x.getD 27 0) (s.x.getD 28 0) (s.x.getD 29 0) (s.x.getD 30 0) (s.x.getD 31 0) s.th s.z s.n s.c s.v:=by
  rw [sum_all _ (isSum_mem g2)]
 unfold sumE sumX at key
 rw [cpu_tab e2] at key
 refine key.trans ?_
 have n1:(Int.tmod s.pc 2 != 0)=false:=by rw [beq_iff_eq.1 g3]; rfl
 have n2:(Int.tmod (nxF s 4) 2 != 0)=false:=by rw [beq_iff_eq.1 g4]; rfl
 have et:tabS (sumS nm a s)=sumS nm a s:=cpu_tab (by
  show (setS a _ (zs s)).x.length=32
  unfold setS
  cases a == 0
  ·exact putS_len (zs_len e2) _ _
  ·exact zs_len e2)
 rw [et]
 show cond (Int.tmod s.pc 2 != 0) (errK s 10 memN) (muOk nm _ _ (setK a _ (nxF s 4) (zs s).l fun L nx=>finK s L nx memN))=_
 rw [n1,cond_false,setK_R ha (zs_len e2)]
 unfold muOk q
 rw [h3,finK_R]
 unfold finC
 rw [n2]
 cases strEq nm _ <;> rfl
end Go.Ra
