/-
  The document's Decode of amd, of up to ten bytes: what the program's finds, or an error. Conditions: none.
-/
import Derived.Test.YtbefgnmdliefjaaGreatDoorPk27
import Derived.Test.YtbefgnmdliefjaaGreatDoorPk23
import Derived.Test.YtbefgnmdliefjaaGreatDoorPk16
import Derived.Test.YtbefgnmdliefjaaGreatDoorPk11
set_option linter.unusedVariables false
set_option linter.unusedSimpArgs false
namespace Go.Amd
open Go Go.Ab Go.Proofs
noncomputable def aOJ:Cx:={ P:=Tryz.prog,n:=46,tab:=[(89,U7),(90,XO)],mtab:=[],refs:=[],keeps:=[0,1,4,5,6,7,8,9,10,18,25,34,43] }
def xN (a:aE × Int × Int):V:=.tup [lV a.1,.int .i64 a.2.1,.int .i64 a.2.2]
def PM (x:List Int):Option V:=cond (tT x) (cond (xG x) (some (xN (iA x,p6 x,0))) (cond (decide ((x.length:Int)<10)) (cond (decide (x.length<1000)) (cond (wH x) (some (xN (mS,0,2))) (some (xN (mS,0,22)))) none) (some (xN (mS,0,22))))) none
def dxH (l sp:List Int) (n:Int):Option V:=
 cond (decide (n<0)) (some (xN (mS,0,5))) (cond (decide ((l.length:Nat)<n)) (some (xN (mS,0,5))) (cond (decide (0<=n)&&decide (n<=(l.length:Nat))) (cond (decide (10<((l.drop n.toNat).length:Int)))
  (cond (decide (10<=(((l.drop n.toNat).length+sp.length:Nat):Int))) (PM (sub (l.drop n.toNat++sp) 0 10)) none) (PM (l.drop n.toNat))) none))
theorem aaW (l sp:List Int) (fl:Fl) (n:Int):(a7 aOJ Tryz.f44 [.sl (.int .u8) l sp fl,.int .i64 n]).fin=dxH l sp n:=by kernel_rfl
def AV (l:List Int):Int:=cond (xG l) 0 (cond (decide ((l.length:Int)<10)) (cond (wH l) 2 22) 22)
theorem a8R {x:List Int} (hb:tT x=true) (c:x.length<=10):PM x=some (xN (iA x,p6 x,AV x)):=by
 unfold PM AV;rw [hb,decide_eq_true (show x.length<1000 by omega)];cases a:xG x
 ·have e:iA x=mS/\p6 x=0:=by
   unfold xG at a;unfold iA p6
   cases b:dH x with
   | ok p=>rw [b] at a; cases a
   | error e=>exact ⟨rfl,rfl⟩
  rw [e.1,e.2];cases decide ((x.length:Int)<10)
  ·rfl
  ·cases wH x <;> rfl
 ·rfl
theorem a8D {l sp:List Int} (hb:tT l=true) (a:l.length<=10):dxH l sp 0=some (xN (iA l,p6 l,AV l)):=by
 unfold dxH
 rw [decide_eq_false (show ¬ (0:Int)<0 by omega),decide_eq_false (show ¬ (((l.length:Nat):Int)<0) by omega),cond_false,cond_false,
  show (decide ((0:Int)<=0)&&decide ((0:Int)<=(l.length:Nat)))=true by simp,cond_true,show l.drop (0:Int).toNat=l from rfl,decide_eq_false (show ¬ (10<(l.length:Int)) by omega),cond_false]
 exact a8R hb a
theorem ac1 (l:List Int):iA l=dI l 0/\p6 l=dN l 0/\(AV l != 0)=(dE l 0 != 0):=by
 have c:pP l 0=false:=by
  simp only [pP,Bool.or_eq_false_iff,decide_eq_false_iff_not];omega
 unfold dI dN dE iA p6 AV xG;rw [c,show l.drop (0:Int).toNat=l from rfl]
 cases a:dH l with
 | ok p=>exact ⟨rfl,rfl,rfl⟩
 | error e =>
  refine ⟨rfl,rfl,?_⟩
  have b:(e != 0)=true:=bne_iff_ne.2 fun h=>by
   subst h;exact aJE _ a
  show (cond _ (cond _ (2:Int) 22) 22 != 0)=(e != 0);rw [b];cases decide ((l.length:Int)<10)
  ·rfl
  ·cases wH l <;> rfl
def YY:Ab.Spec:=fun args=>match args with
 | [.sl (.int .u8) l _ _,.int .i64 n]=>.aF (n==0&&decide (l.length<=10)) (.aF (tT l) (.leaf (.tup [lV (iA l),.int .i64 (p6 l),.int .i64 (AV l)])))
 | _=>.fail
theorem a6X:Sound Tryz.prog 44 YY:=by
 intro args out h;unfold YY at h;split at h;rotate_left
 ·cases h
 rename_i l sp fl n;obtain ⟨b,h⟩:=aM h;obtain ⟨c,h⟩:=aM h;have h:=dU h;subst h;obtain ⟨a,hl⟩:=Bool.and_eq_true_iff.1 b
 have a:n=0:=by simpa using a
 subst a;exact cE (cx:=aOJ) (fn:=Tryz.f44) (bU (.cons aY5 (dT a41)) (.nil _) rfl rfl) (by kernel_rfl) (by kernel_rfl) (by kernel_rfl) ((Tree.bJ _).symm.trans ((aaW l sp fl 0).trans (a8D c (of_decide_eq_true hl))))
end Go.Amd

namespace Go.Amd
open Go Go.Ab Go.Proofs
noncomputable def uU:Cx:={ P:=Tryz.prog,n:=Tryz.f9.ntmps,tab:=(runT 6).tab,mtab:=(11,runM) :: (runT 6).mtab,rtab:=(runT 6).rtab,refs:=[],keeps:=[0,1,2,3,4,7],nums:=(runT 6).nums }
theorem L5:aW uU:=⟨(FQ 6).1,.cons a74 (FQ 6).2.1,(FQ 6).2.2.1,(FQ 6).2.2.2⟩
noncomputable abbrev u9:Code:=cA Tryz.f9
noncomputable def aKR:Array Oper:=y7 (c1 (aJ 3 u9))
noncomputable def aLT:Array Oper:=y7 (c1 (aJ 4 u9))
theorem afJ:aJ 3 u9 = .seq (.region 4 aKR true) (aJ 4 u9):=by kernel_rfl
theorem adQ:aJ 4 u9 = .seq (.region 5 aLT true) (aJ 5 u9):=by kernel_rfl
def DN (pc:Int) (x:List Int) (z n c v:Bool) (a:Int):List V:=(.int .u64 pc :: x.map (V.int .u64))++[.bool z,.bool n,.bool c,.bool v,.int .u64 a]
def DV:O:=.cells (DN 0 (9223372036854775808 :: 0 :: 0 :: 9223372036854775808 :: List.replicate 28 0) false false false false 0) 26
def O8:O:=.cells (DN 3 (0 :: 0 :: 0 :: 9223372036854775808 :: List.replicate 28 0) true false true true 0) 26
theorem a5O:(aK uU (eQ 3 u9) (dZ 0 []) []).run.map (fun s=>(s.1,bC [1] s.2.1,s.2.2))=some (.normal,[(1,.ptr 0 0)],[DV]):=by kernel_rfl
theorem ah3:(vQ uU aKR ([(1,.ptr 0 0)],[DV])).map (fun l=>l.map fun s=>iQ 1 (sL [2] s.1) (.normal,bC [1,2,3,4] s.1,s.2)) =
  some (List.replicate 7 (some (.normal,[(1,.ptr 0 0),(2,.ptr 1 0),(3,.int .i64 0),(4,.int .i64 0)],[DV,O8]))):=by kernel_rfl
theorem ag4:(vQ uU aLT ([(1,.ptr 0 0),(2,.ptr 1 0),(3,.int .i64 0),(4,.int .i64 0)],[DV,O8])).map (fun l=>l.map fun s=>iQ 2 (sL [] s.1) (.normal,bC [2,3,4,7] s.1,s.2)) =
  some (List.replicate 7 (some (.normal,[(2,.ptr 1 0),(3,.int .i64 0),(4,.int .i64 0),(7,.int .i64 21)],[DV,O8]))):=by kernel_rfl
theorem a98:((aK uU (aJ 5 u9) [(2,.ptr 1 0),(3,.int .i64 0),(4,.int .i64 0),(7,.int .i64 21)] [DV,O8]).bind (answer Tryz.prog Tryz.f9.results.toList)).run=some (.bool true):=by kernel_rfl
def VG:Ab.Spec:=fun args=>match args with
 | []=>.leaf (.bool true)
 | _=>.fail
theorem aZW:Sound Tryz.prog 9 VG:=by
 intro args out h;unfold VG at h;split at h;rotate_left
 ·cases h
 cases h;refine vG (c:=u9) (fn:=Tryz.f9) (by kernel_rfl) (by kernel_rfl) (by kernel_rfl) (by kernel_rfl) ?_;refine tF (cx:=uU) rfl rfl L5 3 [1] (by kernel_rfl) a5O ?_;rw [afJ];refine cL (aBU (cx:=uU) [2] [1,2,3,4] 7 rfl rfl L5 ah3 ?_);show aI _ _ _ _ _ _;rw [adQ];refine cL (aBU (cx:=uU) [] [2,3,4,7] 7 rfl rfl L5 ag4 ?_);show aI _ _ _ _ _ _;obtain ⟨s,h1,a⟩:=bD a98;refine dA (cx:=uU) rfl rfl L5 h1 ?_;obtain ⟨e,t,H⟩:=s
 unfold answer at a;split at a
 ·rename_i b
  cases b;split at a
  ·rename_i v d
   cases a;exact ⟨.inl rfl,d⟩
  ·cases a
 ·rename_i b
  cases b;split at a
  ·rename_i v d
   cases a;exact ⟨.inr rfl,d⟩
  ·cases a
 ·cases a
end Go.Amd
