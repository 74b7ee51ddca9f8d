/-
  The document's Run of RV64, rows 40 to 47, evaluated: lhu, lwu, jalr, slli, srli, srai, slliw, srliw. Conditions: none.
-/
import Derived.Test.YtnickegmpffneaaGreatDoorPk35
import Derived.Test.YtnickegmpffneaaGreatDoorPk10
import Derived.Test.YtnickegmpffneaaGreatDoorRa1
import Derived.KernelRfl
import Derived.Test.YtnickegmpffneaaGreatDoorRy5
import Derived.Test.YtnickegmpffneaaGreatDoorPk37
import Derived.Test.YtnickegmpffneaaGreatDoorRx1
import Derived.Test.YtnickegmpffneaaGreatDoorPk39
import Derived.Test.YtnickegmpffneaaGreatDoorRx5
set_option linter.unusedVariables false
set_option linter.unusedSimpArgs false
namespace Go.Ra
open Go Go.Ab Go.Proofs
theorem ref_6 (ck:InsR→Int) (wd:Int→Int→Int × Int):(((rowsG wd).drop 40).take 8).map (gO ck wd)=(((rowsG wd).drop 40).take 8).map (gE ck):=by kernel_rfl
end Go.Ra

namespace Go.Ra
open Go Go.Ab Go.Proofs
theorem ref_7 (ck:InsR→Int) (wd:Int→Int→Int × Int):(((rowsG wd).drop 48).take 8).map (gO ck wd)=(((rowsG wd).drop 48).take 8).map (gE ck):=by kernel_rfl
end Go.Ra

namespace Go.Ra
open Go Go.Ab Go.Proofs
theorem ref_8 (ck:InsR→Int) (wd:Int→Int→Int × Int):(((rowsG wd).drop 56).take 8).map (gO ck wd)=(((rowsG wd).drop 56).take 8).map (gE ck):=by kernel_rfl
end Go.Ra

namespace Go.Rj
open Go Go.Ab Go.Proofs Go.Ra
def or32 (a b:Int):Int:=IntKind.wrap .u32 ↑(BitVec.toNat (BitVec.ofInt 32 a ||| BitVec.ofInt 32 b))
def shl32 (a:Int) (n:Nat):Int:=IntKind.wrap .u32 (a*2 ^ n)
abbrev namedE:EC:=.prod [.str,.int .u32,.int .u32]
abbrev rowE:EC:=.prod [.str,.int .i64,.int .u32]
abbrev RowT:=List UInt8 × Int × Int
def mkRow (f op:Int) (x:namedE.ty):rowE.ty:=(x.1,f,or32 (or32 op (shl32 x.2.1 12)) (shl32 x.2.2 25))
def addS:MSpec:=fun args H=>match args,H with
 | [.ptr 0 0,.int .i64 f,.int .u32 op,.sl c ns _ _],[.cells [.gro 1 d l] 226,.tok n 3]=>match EC.same c namedE,EC.same d rowE with
  | some ⟨h⟩,some ⟨k⟩=>.req (Nat.beq n l.length) (.req (roomy (l.length+ns.length) 32) (.leaf (.ok (.tup []) [.cells [.gro 1 rowE (castL k l++(castL h ns).map (mkRow f op))] 226,.tok (l.length+ns.length) 3])))
  | _,_=>.fail
 | _,_=>.fail
noncomputable def cxAdd:Cx:={ P:=Tryz.prog,n:=37,tab:=[],mtab:=[],refs:=[],keeps:=[0,1,2,3,9,10,11,12,13] }
theorem cxAdd_ok:CxOk cxAdd:=⟨.nil _,.nil _,.nil _,fun p h=>by cases h⟩
def addSt (f op:Int) (ns:List namedE.ty) (sp:List namedE.ty) (fl:Fl) (l:List rowE.ty) (i:{ i:Nat // i≤ns.length }):T × List O:=
 ([(0,.ptr 0 0),(1,.int .i64 f),(2,.int .u32 op),(10,.sl namedE ns sp fl),(11,.int .i64 ns.length),(12,.int .i64 i.1)],
 [.cells [.gro 1 rowE (l++(ns.take i.1).map (mkRow f op))] 226,.tok (l++(ns.take i.1).map (mkRow f op)).length 3])
theorem add_round (f op:Int) (ns sp:List namedE.ty) (fl:Fl) (l:List rowE.ty) (i:Int) :
  dcode cxAdd (cin (cin (c2 (bodyOf Tryz.f170)))) [(0,.ptr 0 0),(1,.int .i64 f),(2,.int .u32 op),(10,.sl namedE ns sp fl),(11,.int .i64 ns.length),(12,.int .i64 i)]
   [.cells [.gro 1 rowE l] 226,.tok l.length 3] =
  .br (decide (i<ns.length)) (.br (inside i ns.length) (.br true (.br true (.br (decide (l.length=l.length) && roomy (l.length+[mkRow f op (ns.getD i.toNat (EC.dflt namedE))].length) 32)
   (.leaf (.normal,[(0,.ptr 0 0),(1,.int .i64 f),(2,.int .u32 op),(9,.ptr 2 0),(10,.sl namedE ns sp fl),(11,.int .i64 ns.length),(12,.int .i64 (IntKind.wrap .i64 (i+1))),(13,.bool true)],
    [.cells [.gro 1 rowE (l++[mkRow f op (ns.getD i.toNat (EC.dflt namedE))])] 226,.tok (l.length+[mkRow f op (ns.getD i.toNat (EC.dflt namedE))].length) 3,
     .cells [.str (ns.getD i.toNat (EC.dflt namedE)).1,.int .u32 (ns.getD i.toNat (EC.dflt namedE)).2.1,.int .u32 (ns.getD i.toNat (EC.dflt namedE)).2.2] 229])) .fail) .fail) .fail) .fail)
   (.leaf (.exit 0,[(0,.ptr 0 0),(1,.int .i64 f),(2,.int .u32 op),(10,.sl namedE ns sp fl),(11,.int .i64 ns.length),(12,.int .i64 i),(13,.bool false)],
    [.cells [.gro 1 rowE l] 226,.tok l.length 3])):=by
 kernel_rfl
theorem add_ok (f op:Int) (ns sp:List namedE.ty) (fl:Fl) (l:List rowE.ty) (hroom:roomy (l.length+ns.length) 32=true) :
  MCall Tryz.prog 170 [.ptr 0 0,.int .i64 f,.int .u32 op,.sl namedE ns sp fl] [.cells [.gro 1 rowE l] 226,.tok l.length 3]
   (.ok (.tup []) [.cells [.gro 1 rowE (l++ns.map (mkRow f op))] 226,.tok (l.length+ns.length) 3]):=by
 have hlen:l.length+ns.length≤4398046511104:=by
  have:=of_decide_eq_true hroom
  omega
 refine mcall_of' (c:=bodyOf Tryz.f170) (fn:=Tryz.f170) (by kernel_rfl) (by kernel_rfl) (by kernel_rfl) (by kernel_rfl) ?_
 have e:bodyOf Tryz.f170 = .seq (c1 (bodyOf Tryz.f170)) (.block 0 (.loop (cin (cin (c2 (bodyOf Tryz.f170)))))):=by kernel_rfl
 rw [e]
 refine AWP_seq (AWP_run (cx:=cxAdd) rfl rfl cxAdd_ok (s:=(.normal,[(0,.ptr 0 0),(1,.int .i64 f),(2,.int .u32 op),(3,.sl namedE ns sp fl),(10,.sl namedE ns sp fl),(11,.int .i64 ns.length),(12,.int .i64 0)],
  [.cells [.gro 1 rowE l] 226,.tok l.length 3])) (by kernel_rfl) ?_)
 show AWP _ _ _ _ _ _
 refine AWP_block ?_
 refine AWP.less (s:=(addSt f op ns sp fl l ⟨0,Nat.zero_le _⟩).1) (Fits.tle ⟨rfl,rfl,rfl,rfl,rfl,rfl,trivial⟩) ?_
 have:=AWP_rounds (cx:=cxAdd) (P:=Tryz.prog) (n:=37) rfl rfl cxAdd_ok (addSt f op ns sp fl l) (fun i=>ns.length - i.1) (body:=cin (cin (c2 (bodyOf Tryz.f170))))
  (Q:=blockQ 0 (MPost Tryz.prog Tryz.f170 (.ok (.tup []) [.cells [.gro 1 rowE (l++ns.map (mkRow f op))] 226,.tok (l.length+ns.length) 3]))) ?_ ⟨0,Nat.zero_le _⟩
 ·simpa [addSt] using this
 rintro ⟨i,hi⟩
 show Tree.all _ (dcode cxAdd _ _ _)
 unfold addSt
 rw [add_round]
 refine ⟨fun hlt=>⟨fun hin=>⟨fun _=>⟨fun _=>⟨fun hr=>?_,fun hr=>?_⟩,fun h=>?_⟩,fun h=>?_⟩,fun hin=>?_⟩,fun hge=>?_⟩
 ·have hlt:i<ns.length:=by simpa using hlt
  refine ⟨[],_,rfl,?_⟩
  refine ⟨⟨i+1,hlt⟩,by show ns.length - (i+1)<ns.length - i; omega,Fits.tle ⟨rfl,rfl,rfl,rfl,rfl,?_,trivial⟩,?_⟩
  ·show V.int .i64 (IntKind.wrap .i64 ((i:Int)+1))=V.int .i64 ((i+1:Nat):Int)
   rw [wrap_i64 (by omega) (by omega)]
   rfl
  ·have ht:ns.take (i+1)=ns.take i++[ns.getD i (EC.dflt namedE)]:=by
    rw [List.take_add_one]
    simp [List.getElem?_eq_getElem hlt,List.getD]
   show [_,_]=[_,_]
   simp [ht,Nat.add_assoc]
 ·exfalso
  have hlt:i<ns.length:=by simpa using hlt
  have:(decide ((l++List.map (mkRow f op) (List.take i ns)).length=(l++List.map (mkRow f op) (List.take i ns)).length) && roomy ((l++List.map (mkRow f op) (List.take i ns)).length+1) 32)=true:=by
   simp [roomy]; omega
  exact Bool.noConfusion (this.symm.trans hr)
 ·cases h
 ·cases h
 ·exfalso
  have hlt:i<ns.length:=by simpa using hlt
  exact Bool.noConfusion ((inside_of (by omega:(0:Int)≤i) (by omega)).symm.trans hin)
 ·have hge:¬ ((i:Int)<ns.length):=of_decide_eq_false hge
  have:i=ns.length:=by omega
  subst this
  refine ⟨[],_,rfl,?_⟩
  refine ⟨.inr rfl,?_,rfl⟩
  show [_,_]=[_,_]
  simp
theorem addS_ok:MSound Tryz.prog 170 addS:=by
 intro args H r h
 unfold addS at h
 split at h
 rotate_left
 ·cases h
 rename_i f op c ns sp fl d l n
 split at h
 rotate_left
 ·cases h
 rename_i hc hd _ _
 obtain ⟨h1,g1⟩:=req_run h
 obtain ⟨h2,g2⟩:=req_run g1
 clear h g1
 have h1:=Nat.eq_of_beq_eq_true h1
 cases g2
 subst hc
 subst hd
 subst h1
 exact add_ok f op ns sp fl l h2
@[irreducible] def rowsL:List RowT:=[
 ([97,100,100],0,51),
 ([115,117,98],0,1073741875),
 ([115,108,108],0,4147),
 ([115,108,116],0,8243),
 ([115,108,116,117],0,12339),
 ([120,111,114],0,16435),
 ([115,114,108],0,20531),
 ([115,114,97],0,1073762355),
 ([111,114],0,24627),
 ([97,110,100],0,28723),
 ([109,117,108],0,33554483),
 ([109,117,108,104],0,33558579),
 ([109,117,108,104,115,117],0,33562675),
 ([109,117,108,104,117],0,33566771),
 ([100,105,118],0,33570867),
 ([100,105,118,117],0,33574963),
 ([114,101,109],0,33579059),
 ([114,101,109,117],0,33583155),
 ([97,100,100,119],0,59),
 ([115,117,98,119],0,1073741883),
 ([115,108,108,119],0,4155),
 ([115,114,108,119],0,20539),
 ([115,114,97,119],0,1073762363),
 ([109,117,108,119],0,33554491),
 ([100,105,118,119],0,33570875),
 ([100,105,118,117,119],0,33574971),
 ([114,101,109,119],0,33579067),
 ([114,101,109,117,119],0,33583163),
 ([97,100,100,105],1,19),
 ([115,108,116,105],1,8211),
 ([115,108,116,105,117],1,12307),
 ([120,111,114,105],1,16403),
 ([111,114,105],1,24595),
 ([97,110,100,105],1,28691),
 ([97,100,100,105,119],1,27),
 ([108,98],1,3),
 ([108,104],1,4099),
 ([108,119],1,8195),
 ([108,100],1,12291),
 ([108,98,117],1,16387),
 ([108,104,117],1,20483),
 ([108,119,117],1,24579),
 ([106,97,108,114],1,103),
 ([115,108,108,105],2,4115),
 ([115,114,108,105],2,20499),
 ([115,114,97,105],2,1073762323),
 ([115,108,108,105,119],3,4123),
 ([115,114,108,105,119],3,20507),
 ([115,114,97,105,119],3,1073762331),
 ([115,98],4,35),
 ([115,104],4,4131),
 ([115,119],4,8227),
 ([115,100],4,12323),
 ([98,101,113],5,99),
 ([98,110,101],5,4195),
 ([98,108,116],5,16483),
 ([98,103,101],5,20579),
 ([98,108,116,117],5,24675),
 ([98,103,101,117],5,28771),
 ([108,117,105],6,55),
 ([97,117,105,112,99],6,23),
 ([106,97,108],7,111),
 ([101,99,97,108,108],8,115),
 ([101,98,114,101,97,107],8,1048691)]
noncomputable def cxRows:Cx:={ P:=Tryz.prog,n:=96,tab:=[],mtab:=[(170,addS)],refs:=[],keeps:=[0,1] }
theorem cxRows_ok:CxOk cxRows:=⟨.nil _,.cons addS_ok (.nil _),.nil _,fun p h=>by cases h⟩
def rowsS:Ab.Spec:=fun args=>match args with
 | []=>.leaf (.sl rowE rowsL [] .ro)
 | _=>.fail
theorem rows_run:(dfun cxRows Tryz.f112 []).run=some (.sl rowE rowsL [] .ro):=by kernel_rfl
theorem rowsS_ok:Sound Tryz.prog 112 rowsS:=by
 intro args out h
 unfold rowsS at h
 split at h
 rotate_left
 ·cases h
 simp only [Tree.run,Option.some.injEq] at h
 subst h
 exact pcall_fun' (cx:=cxRows) (fn:=Tryz.f112) cxRows_ok (by kernel_rfl) (by kernel_rfl) (by kernel_rfl) rows_run
end Go.Rj

namespace Go.Rj
open Go Go.Ab Go.Proofs Go.Ra
noncomputable def cxFind:Cx:={ P:=Tryz.prog,n:=19,tab:=[(112,rowsS)],mtab:=[],refs:=[],keeps:=[0,2,3,5,6,7,8,9,15] }
def findRound (nm:List UInt8) (i:Int) (l:List rowE.ty):Tree St:=
 (.br (decide (i < ↑(List.length l))) (.br (inside i (List.length l)) (.br (strEq (tS (Prod.fst (List.getD l (Int.toNat i) (EC.dflt Go.Rj.rowE)))) nm) (.leaf (.ret,[(0,(.str nm)),(2,(.ptr 0 0)),(3,(.bool true)),(5,(.ptr 1 0)),(6,(.sl (.prod [.str,(.int .i64),(.int .u32)]) l [] Fl.ro)),(7,(.int .i64 (↑(List.length l)))),(8,(.int .i64 i)),(9,(.bool true)),(15,(.bool true))],[(.cells [(.str (tS (Prod.fst (List.getD l (Int.toNat i) (EC.dflt Go.Rj.rowE))))),(.int .i64 (tI (Prod.fst (Prod.snd (List.getD l (Int.toNat i) (EC.dflt Go.Rj.rowE)))))),(.int .u32 (Prod.snd (Prod.snd (List.getD l (Int.toNat i) (EC.dflt Go.Rj.rowE)))))] 114),(.cells [(.str (tS (Prod.fst (List.getD l (Int.toNat i) (EC.dflt Go.Rj.rowE))))),(.int .i64 (tI (Prod.fst (Prod.snd (List.getD l (Int.toNat i) (EC.dflt Go.Rj.rowE)))))),(.int .u32 (Prod.snd (Prod.snd (List.getD l (Int.toNat i) (EC.dflt Go.Rj.rowE)))))] 114)])) (.leaf (.normal,[(0,(.str nm)),(2,(.ptr 0 0)),(3,(.bool false)),(5,(.ptr 1 0)),(6,(.sl (.prod [.str,(.int .i64),(.int .u32)]) l [] Fl.ro)),(7,(.int .i64 (↑(List.length l)))),(8,(.int .i64 (IntKind.wrap IntKind.i64 (i+1)))),(9,(.bool true)),(15,(.bool false))],[(.cells [(.str []),(.int .i64 0),(.int .u32 0)] 114),(.cells [(.str (tS (Prod.fst (List.getD l (Int.toNat i) (EC.dflt Go.Rj.rowE))))),(.int .i64 (tI (Prod.fst (Prod.snd (List.getD l (Int.toNat i) (EC.dflt Go.Rj.rowE)))))),(.int .u32 (Prod.snd (Prod.snd (List.getD l (Int.toNat i) (EC.dflt Go.Rj.rowE)))))] 114)]))) .fail) (.leaf ((.exit 0),[(0,(.str nm)),(2,(.ptr 0 0)),(3,(.bool false)),(6,(.sl (.prod [.str,(.int .i64),(.int .u32)]) l [] Fl.ro)),(7,(.int .i64 (↑(List.length l)))),(8,(.int .i64 i)),(9,(.bool false))],[(.cells [(.str []),(.int .i64 0),(.int .u32 0)] 114)])))
theorem findRound_eq (nm:List UInt8) (i:Int) (l:List rowE.ty):(dcode cxFind (cin (cin (c2 (c1 (c2 (bodyOf Tryz.f52)))))) [(0,.str nm),(2,.ptr 0 0),(3,.bool false),(6,.sl rowE l [] .ro),(7,.int .i64 l.length),(8,.int .i64 i)] [(.cells [.str [],.int .i64 0,.int .u32 0] 114)]).run=(findRound nm i l).run:=by kernel_rfl
theorem cxFind_ok:CxOk cxFind:=⟨.cons rowsS_ok (.nil _),.nil _,.nil _,fun p h=>by cases h⟩
def findL (nm:List UInt8) (l:List RowT):Option RowT:=l.find? fun r=>strEq r.1 nm
def frow (nm:List UInt8):RowT:=(findL nm rowsL).getD ([],0,0)
def fok (nm:List UInt8):Bool:=(findL nm rowsL).isSome
def findS:Ab.Spec:=fun args=>match args with
 | [.str nm]=>.leaf (.tup [.agg [.str (frow nm).1,.int .i64 (frow nm).2.1,.int .u32 (frow nm).2.2],.bool (fok nm)])
 | _=>.fail
def findSt (nm:List UInt8) (i:{ i:Nat // i≤rowsL.length∧findL nm (rowsL.take i)=none }):T × List O:=
 ([(0,.str nm),(2,.ptr 0 0),(3,.bool false),(6,.sl rowE rowsL [] .ro),(7,.int .i64 rowsL.length),(8,.int .i64 i.1)],[(.cells [.str [],.int .i64 0,.int .u32 0] 114)])
theorem rowsL_len:rowsL.length=64:=by kernel_rfl
theorem find_ok (nm:List UInt8):PCall Tryz.prog 52 [.str nm] (.tup [.agg [.str (frow nm).1,.int .i64 (frow nm).2.1,.int .u32 (frow nm).2.2],.bool (fok nm)]):=by
 refine pcall_of' (c:=bodyOf Tryz.f52) (fn:=Tryz.f52) (by kernel_rfl) (by kernel_rfl) (by kernel_rfl) (by kernel_rfl) ?_
 have e:bodyOf Tryz.f52 = .seq (c1 (bodyOf Tryz.f52)) (.seq (.seq (c1 (c1 (c2 (bodyOf Tryz.f52)))) (.block 0 (.loop (cin (cin (c2 (c1 (c2 (bodyOf Tryz.f52))))))))) (c2 (c2 (bodyOf Tryz.f52)))):=by kernel_rfl
 rw [e]
 generalize hQ:(fun e t H=>(e=AEx.ret∨e = .normal)∧answerV Tryz.prog Tryz.f52.results.toList H t=some (.tup [.agg [.str (frow nm).1,.int .i64 (frow nm).2.1,.int .u32 (frow nm).2.2],.bool (fok nm)]))=Q
 have hlen:=rowsL_len
 refine AWP_seq (AWP_run (cx:=cxFind) rfl rfl cxFind_ok (s:=(.normal,[(0,.str nm),(2,.ptr 0 0),(3,.bool false)],[(.cells [.str [],.int .i64 0,.int .u32 0] 114)])) (by kernel_rfl) ?_)
 refine AWP_seq (AWP_seq (AWP_run (cx:=cxFind) rfl rfl cxFind_ok (s:=(.normal,[(0,.str nm),(2,.ptr 0 0),(3,.bool false),(6,.sl rowE rowsL [] .ro),(7,.int .i64 64),(8,.int .i64 0)],[(.cells [.str [],.int .i64 0,.int .u32 0] 114)])) (by kernel_rfl) ?_))
 refine AWP_block ?_
 refine AWP.less (s:=(findSt nm ⟨0,Nat.zero_le _,rfl⟩).1) (Fits.tle ⟨rfl,rfl,rfl,rfl,by kernel_rfl,rfl,trivial⟩) ?_
 refine AWP_rounds (cx:=cxFind) (P:=Tryz.prog) (n:=19) rfl rfl cxFind_ok (findSt nm) (fun i=>64 - i.1) ?_ ⟨0,Nat.zero_le _,rfl⟩
 rintro ⟨i,hi,hnone⟩
 refine Tree.all_run_eq (findRound_eq nm i rowsL) ?_
 refine ⟨fun hlt=>⟨fun hin=>⟨fun hp=>?_,fun hp=>?_⟩,fun hin=>?_⟩,fun hge=>?_⟩
 ·-- found
  have hlt:i<rowsL.length:=Int.ofNat_lt.1 (of_decide_eq_true hlt)
  have hf:findL nm rowsL=some (rowsL.getD i ([],0,0)):=take_some hlt hnone hp
  refine ⟨[],_,rfl,?_⟩
  subst hQ
  refine ⟨.inl rfl,?_⟩
  have h1:frow nm=rowsL.getD i ([],0,0):=by unfold frow; rw [hf]; rfl
  have h2:fok nm=true:=by unfold fok; rw [hf]; rfl
  show answerV _ _ _ _=some _
  rw [h1,h2]
  kernel_rfl
 ·have hlt:i<rowsL.length:=Int.ofNat_lt.1 (of_decide_eq_true hlt)
  have hf:findL nm (rowsL.take (i+1))=none:=take_none hlt hnone hp
  refine ⟨[],_,rfl,⟨i+1,hlt,hf⟩,by show 64 - (i+1)<64 - i; omega,Fits.tle ⟨rfl,rfl,rfl,rfl,rfl,?_,trivial⟩,rfl⟩
  show V.int .i64 (IntKind.wrap .i64 ((i:Int)+1))=V.int .i64 ((i+1:Nat):Int)
  rw [wrap_i64 (by omega) (by omega)]
  rfl
 ·exfalso
  have hlt:i<rowsL.length:=Int.ofNat_lt.1 (of_decide_eq_true hlt)
  exact Bool.noConfusion ((inside_of (Int.natCast_nonneg i) (Int.ofNat_lt.2 hlt)).symm.trans hin)
 ·have hge:¬ ((i:Int)<rowsL.length):=of_decide_eq_false hge
  have hi' : i=rowsL.length:=by omega
  refine ⟨[],_,rfl,?_⟩
  show AWP _ _ _ _ _ _
  refine AWP.less (s:=[(0,.str nm),(2,.ptr 0 0),(3,.bool false)]) (Fits.tle ⟨rfl,rfl,rfl,trivial⟩) ?_
  refine AWP_run (cx:=cxFind) rfl rfl cxFind_ok (s:=(.ret,[(0,.str nm),(2,.ptr 0 0),(3,.bool false)],[(.cells [.str [],.int .i64 0,.int .u32 0] 114)])) (by kernel_rfl) ?_
  subst hQ
  refine ⟨.inl rfl,?_⟩
  have hf:findL nm rowsL=none:=by rw [← hnone,hi',List.take_length]
  have h1:frow nm=([],0,0):=by unfold frow; rw [hf]; rfl
  have h2:fok nm=false:=by unfold fok; rw [hf]; rfl
  show answerV _ _ _ _=some _
  rw [h1,h2]
  kernel_rfl
theorem findS_ok:Sound Tryz.prog 52 findS:=by
 intro args out h
 unfold findS at h
 split at h
 rotate_left
 ·cases h
 simp only [Tree.run,Option.some.injEq] at h
 subst h
 exact find_ok _
end Go.Rj

namespace Go.Rj
open Go Go.Ab Go.Proofs Go.Ra
noncomputable def cx113:Cx:={ P:=Tryz.prog,n:=38,tab:=[],mtab:=[],refs:=[],keeps:=[0,2,3,4] }
noncomputable def cx114:Cx:={ P:=Tryz.prog,n:=19,tab:=[],mtab:=[],refs:=[],keeps:=[0,2,3,4,5,6,9,11,13,15,17] }
noncomputable def cx115:Cx:={ P:=Tryz.prog,n:=18,tab:=[],mtab:=[],refs:=[],keeps:=[0,1,4] }
noncomputable def cx254:Cx:={ P:=Tryz.prog,n:=19,tab:=[],mtab:=[],refs:=[],keeps:=[0,1,2,3,8] }
noncomputable def cx256:Cx:={ P:=Tryz.prog,n:=14,tab:=[],mtab:=[],refs:=[],keeps:=[0,1,4] }
noncomputable def cx255:Cx:={ P:=Tryz.prog,n:=17,tab:=[],mtab:=[],refs:=[],keeps:=[0,1,2,3,7] }
def usesT (f:Int):Tree V:=
 (.br (f != 4) (.br (f != 5) (.br (f != 6) (.br (f != 7) (.br (f == 0) (.leaf (.tup [(.bool (f != 8)),(.bool (f != 8)),(.bool true)])) (.br (f == 4) (.leaf (.tup [(.bool (f != 8)),(.bool (f != 8)),(.bool true)])) (.leaf (.tup [(.bool (f != 8)),(.bool (f != 8)),(.bool (f == 5))])))) (.br (f == 0) (.leaf (.tup [(.bool (f != 8)),(.bool false),(.bool true)])) (.br (f == 4) (.leaf (.tup [(.bool (f != 8)),(.bool false),(.bool true)])) (.leaf (.tup [(.bool (f != 8)),(.bool false),(.bool (f == 5))]))))) (.br (f == 0) (.leaf (.tup [(.bool (f != 8)),(.bool false),(.bool true)])) (.br (f == 4) (.leaf (.tup [(.bool (f != 8)),(.bool false),(.bool true)])) (.leaf (.tup [(.bool (f != 8)),(.bool false),(.bool (f == 5))]))))) (.br (f != 6) (.br (f != 7) (.br (f == 0) (.leaf (.tup [(.bool false),(.bool (f != 8)),(.bool true)])) (.br (f == 4) (.leaf (.tup [(.bool false),(.bool (f != 8)),(.bool true)])) (.leaf (.tup [(.bool false),(.bool (f != 8)),(.bool (f == 5))])))) (.br (f == 0) (.leaf (.tup [(.bool false),(.bool false),(.bool true)])) (.br (f == 4) (.leaf (.tup [(.bool false),(.bool false),(.bool true)])) (.leaf (.tup [(.bool false),(.bool false),(.bool (f == 5))]))))) (.br (f == 0) (.leaf (.tup [(.bool false),(.bool false),(.bool true)])) (.br (f == 4) (.leaf (.tup [(.bool false),(.bool false),(.bool true)])) (.leaf (.tup [(.bool false),(.bool false),(.bool (f == 5))])))))) (.br (f != 6) (.br (f != 7) (.br (f == 0) (.leaf (.tup [(.bool false),(.bool (f != 8)),(.bool true)])) (.br (f == 4) (.leaf (.tup [(.bool false),(.bool (f != 8)),(.bool true)])) (.leaf (.tup [(.bool false),(.bool (f != 8)),(.bool (f == 5))])))) (.br (f == 0) (.leaf (.tup [(.bool false),(.bool false),(.bool true)])) (.br (f == 4) (.leaf (.tup [(.bool false),(.bool false),(.bool true)])) (.leaf (.tup [(.bool false),(.bool false),(.bool (f == 5))]))))) (.br (f == 0) (.leaf (.tup [(.bool false),(.bool false),(.bool true)])) (.br (f == 4) (.leaf (.tup [(.bool false),(.bool false),(.bool true)])) (.leaf (.tup [(.bool false),(.bool false),(.bool (f == 5))]))))))
theorem usesT_eq (f:Int):(dfun cx113 Tryz.f113 [.int .i64 f]).run=(usesT f).run:=
 (show (dfun cx113 Tryz.f113 [.int .i64 f]).run=(usesT f).out by kernel_rfl).trans (Tree.out_run _)
def boundsT (f:Int):Tree V:=
 (.br (f == 1) (.leaf (.tup [(.int .i64 (-2048)),(.int .i64 2047),(.int .i64 1)])) (.br (f == 4) (.leaf (.tup [(.int .i64 (-2048)),(.int .i64 2047),(.int .i64 1)])) (.br (f == 2) (.leaf (.tup [(.int .i64 0),(.int .i64 63),(.int .i64 1)])) (.br (f == 3) (.leaf (.tup [(.int .i64 0),(.int .i64 31),(.int .i64 1)])) (.br (f == 5) (.leaf (.tup [(.int .i64 (-4096)),(.int .i64 4094),(.int .i64 2)])) (.br (f == 6) (.leaf (.tup [(.int .i64 (-524288)),(.int .i64 524287),(.int .i64 1)])) (.br (f == 7) (.leaf (.tup [(.int .i64 (-1048576)),(.int .i64 1048574),(.int .i64 2)])) (.leaf (.tup [(.int .i64 0),(.int .i64 0),(.int .i64 1)])))))))))
theorem boundsT_eq (f:Int):(dfun cx114 Tryz.f114 [.int .i64 f]).run=(boundsT f).run:=
 (show (dfun cx114 Tryz.f114 [.int .i64 f]).run=(boundsT f).out by kernel_rfl).trans (Tree.out_run _)
def registerT (n:Int) (u:Bool):Tree V:=
 (.br (n == 0) (.leaf (.bool true)) (.br u (.br (decide (0<n)) (.leaf (.bool (decide (n<32)))) (.leaf (.bool false))) (.leaf (.bool false))))
theorem registerT_eq (n:Int) (u:Bool):(dfun cx115 Tryz.f115 [.int .i64 n,.bool u]).run=(registerT n u).run:=
 (show (dfun cx115 Tryz.f115 [.int .i64 n,.bool u]).run=(registerT n u).out by kernel_rfl).trans (Tree.out_run _)
def partT (n fr bi at_:Int):Tree V:=
 (.br (decide (0≤fr)) (.br (decide (0≤bi)) (.br (decide (0≤at_)) (.leaf (.int .u32 (IntKind.wrap IntKind.u32 (IntKind.wrap IntKind.u32 ↑(BitVec.toNat (BitVec.ofInt 32 (IntKind.wrap IntKind.u32 (Int.fdiv n (2 ^ Min.min (Int.toNat fr) 64))) &&& BitVec.ofInt 32 (IntKind.wrap IntKind.u32 (IntKind.wrap IntKind.u32 (1*2 ^ Min.min (Int.toNat bi) 32) - 1))))*2 ^ Min.min (Int.toNat at_) 32)))) .fail) .fail) .fail)
theorem partT_eq (n fr bi at_:Int):(dfun cx254 Tryz.f254 [.int .i64 n,.int .i64 fr,.int .i64 bi,.int .i64 at_]).run=(partT n fr bi at_).run:=
 (show (dfun cx254 Tryz.f254 [.int .i64 n,.int .i64 fr,.int .i64 bi,.int .i64 at_]).run=(partT n fr bi at_).out by kernel_rfl).trans (Tree.out_run _)
def signedT (n bi:Int):Tree V:=
 (.br (decide (0≤IntKind.wrap IntKind.i64 (32 - bi))) (.br (decide (0≤IntKind.wrap IntKind.i64 (32 - bi))) (.leaf (.int .i64 (IntKind.wrap IntKind.i64 (Int.fdiv (IntKind.wrap IntKind.i32 (IntKind.wrap IntKind.u32 (n*2 ^ Min.min (Int.toNat (IntKind.wrap IntKind.i64 (32 - bi))) 32))) (2 ^ Min.min (Int.toNat (IntKind.wrap IntKind.i64 (32 - bi))) 32))))) .fail) .fail)
theorem signedT_eq (n bi:Int):(dfun cx256 Tryz.f256 [.int .u32 n,.int .i64 bi]).run=(signedT n bi).run:=
 (show (dfun cx256 Tryz.f256 [.int .u32 n,.int .i64 bi]).run=(signedT n bi).out by kernel_rfl).trans (Tree.out_run _)
def atT (fr bi at_ w:Int):Tree Res:=
 (.br (decide (0≤fr)) (.br (decide (0≤bi)) (.br (decide (0≤at_)) (.leaf (.ok (.int .u32 (IntKind.wrap IntKind.u32 (IntKind.wrap IntKind.u32 ↑(BitVec.toNat (BitVec.ofInt 32 (Int.fdiv w (2 ^ Min.min (Int.toNat fr) 32)) &&& BitVec.ofInt 32 (IntKind.wrap IntKind.u32 (IntKind.wrap IntKind.u32 (1*2 ^ Min.min (Int.toNat bi) 32) - 1))))*2 ^ Min.min (Int.toNat at_) 32))) [(.cells [(.int .u32 w)] 112)])) .fail) .fail) .fail)
theorem atT_eq (fr bi at_ w:Int):(mfun cx255 Tryz.f255 [.int .i64 fr,.int .i64 bi,.int .i64 at_,.ptr 0 0] [.cells [.int .u32 w] 112]).run=(atT fr bi at_ w).run:=
 (show (mfun cx255 Tryz.f255 [.int .i64 fr,.int .i64 bi,.int .i64 at_,.ptr 0 0] [.cells [.int .u32 w] 112]).run=(atT fr bi at_ w).out by kernel_rfl).trans (Tree.out_run _)
def uA (f:Int):Bool:=f != 4 && (f != 5 && f != 8)
def uB (f:Int):Bool:=f != 6 && (f != 7 && f != 8)
def uC (f:Int):Bool:=f == 0 || (f == 4 || f == 5)
def usesS:Ab.Spec:=fun args=>match args with
 | [.int .i64 f]=>.leaf (.tup [.bool (uA f),.bool (uB f),.bool (uC f)])
 | _=>.fail
theorem usesS_ok:Sound Tryz.prog 113 usesS:=by
 intro args out h
 unfold usesS at h
 split at h
 rotate_left
 ·cases h
 rename_i f
 simp only [Tree.run,Option.some.injEq] at h
 subst h
 refine pcall_fun' (cx:=cx113) (fn:=Tryz.f113) (cx0_ok rfl rfl) (by kernel_rfl) (by kernel_rfl) (by kernel_rfl) ?_
 rw [usesT_eq]
 unfold usesT uA uB uC
 generalize (f != 4)=a4,(f != 5)=a5,(f != 6)=a6,(f != 7)=a7,(f != 8)=a8,(f == 0)=e0,(f == 4)=e4,(f == 5)=e5
 cases a4 <;> cases a5 <;> cases a6 <;> cases a7 <;> cases e0 <;> cases e4 <;> rfl
def bnd (f:Int):Int × Int × Int:=
 cond (f == 1) (-2048,2047,1) (cond (f == 4) (-2048,2047,1) (cond (f == 2) (0,63,1) (cond (f == 3) (0,31,1) (cond (f == 5) (-4096,4094,2)
  (cond (f == 6) (-524288,524287,1) (cond (f == 7) (-1048576,1048574,2) (0,0,1)))))))
def boundsS:Ab.Spec:=fun args=>match args with
 | [.int .i64 f]=>.leaf (.tup [.int .i64 (bnd f).1,.int .i64 (bnd f).2.1,.int .i64 (bnd f).2.2])
 | _=>.fail
theorem boundsS_ok:Sound Tryz.prog 114 boundsS:=by
 intro args out h
 unfold boundsS at h
 split at h
 rotate_left
 ·cases h
 rename_i f
 simp only [Tree.run,Option.some.injEq] at h
 subst h
 refine pcall_fun' (cx:=cx114) (fn:=Tryz.f114) (cx0_ok rfl rfl) (by kernel_rfl) (by kernel_rfl) (by kernel_rfl) ?_
 rw [boundsT_eq]
 unfold boundsT bnd
 cases (f == 1)
 rotate_left
 ·kernel_rfl
 cases (f == 4)
 rotate_left
 ·kernel_rfl
 cases (f == 2)
 rotate_left
 ·kernel_rfl
 cases (f == 3)
 rotate_left
 ·kernel_rfl
 cases (f == 5)
 rotate_left
 ·kernel_rfl
 cases (f == 6)
 rotate_left
 ·kernel_rfl
 cases (f == 7) <;> kernel_rfl
def regOk (n:Int) (u:Bool):Bool:=n == 0 || (u && (decide (0<n) && decide (n<32)))
def registerS:Ab.Spec:=fun args=>match args with
 | [.int .i64 n,.bool u]=>.leaf (.bool (regOk n u))
 | _=>.fail
theorem registerS_ok:Sound Tryz.prog 115 registerS:=by
 intro args out h
 unfold registerS at h
 split at h
 rotate_left
 ·cases h
 rename_i n u
 simp only [Tree.run,Option.some.injEq] at h
 subst h
 refine pcall_fun' (cx:=cx115) (fn:=Tryz.f115) (cx0_ok rfl rfl) (by kernel_rfl) (by kernel_rfl) (by kernel_rfl) ?_
 rw [registerT_eq]
 unfold registerT regOk
 cases (n == 0) <;> cases u <;> cases (decide (0<n)) <;> rfl
def partF (n fr bi at_:Int):Int:=IntKind.wrap IntKind.u32 (IntKind.wrap IntKind.u32 ↑(BitVec.toNat (BitVec.ofInt 32 (IntKind.wrap IntKind.u32 (Int.fdiv n (2 ^ Min.min (Int.toNat fr) 64))) &&& BitVec.ofInt 32 (IntKind.wrap IntKind.u32 (IntKind.wrap IntKind.u32 (1*2 ^ Min.min (Int.toNat bi) 32) - 1))))*2 ^ Min.min (Int.toNat at_) 32)
def partS:Ab.Spec:=fun args=>match args with
 | [.int .i64 n,.int .i64 fr,.int .i64 bi,.int .i64 at_]=>.req (decide (0≤fr)) (.req (decide (0≤bi)) (.req (decide (0≤at_)) (.leaf (.int .u32 (partF n fr bi at_)))))
 | _=>.fail
theorem partS_ok:Sound Tryz.prog 254 partS:=by
 intro args out h
 unfold partS at h
 split at h
 rotate_left
 ·cases h
 rename_i n fr bi at_
 refine pcall_fun' (cx:=cx254) (fn:=Tryz.f254) (cx0_ok rfl rfl) (by kernel_rfl) (by kernel_rfl) (by kernel_rfl) ?_
 rw [partT_eq]
 exact h
def signedF (n bi:Int):Int:=IntKind.wrap IntKind.i64 (Int.fdiv (IntKind.wrap IntKind.i32 (IntKind.wrap IntKind.u32 (n*2 ^ Min.min (Int.toNat (IntKind.wrap IntKind.i64 (32 - bi))) 32))) (2 ^ Min.min (Int.toNat (IntKind.wrap IntKind.i64 (32 - bi))) 32))
def signedS:Ab.Spec:=fun args=>match args with
 | [.int .u32 n,.int .i64 bi]=>.req (decide (0≤IntKind.wrap IntKind.i64 (32 - bi))) (.req (decide (0≤IntKind.wrap IntKind.i64 (32 - bi))) (.leaf (.int .i64 (signedF n bi))))
 | _=>.fail
theorem signedS_ok:Sound Tryz.prog 256 signedS:=by
 intro args out h
 unfold signedS at h
 split at h
 rotate_left
 ·cases h
 rename_i n bi
 refine pcall_fun' (cx:=cx256) (fn:=Tryz.f256) (cx0_ok rfl rfl) (by kernel_rfl) (by kernel_rfl) (by kernel_rfl) ?_
 rw [signedT_eq]
 exact h
def atF (fr bi at_ w:Int):Int:=IntKind.wrap IntKind.u32 (IntKind.wrap IntKind.u32 ↑(BitVec.toNat (BitVec.ofInt 32 (Int.fdiv w (2 ^ Min.min (Int.toNat fr) 32)) &&& BitVec.ofInt 32 (IntKind.wrap IntKind.u32 (IntKind.wrap IntKind.u32 (1*2 ^ Min.min (Int.toNat bi) 32) - 1))))*2 ^ Min.min (Int.toNat at_) 32)
def atS:MSpec:=fun args H=>match args,H with
 | [.int .i64 fr,.int .i64 bi,.int .i64 at_,.ptr 0 0],[.cells [.int .u32 w] 112]=>.req (decide (0≤fr)) (.req (decide (0≤bi)) (.req (decide (0≤at_)) (.leaf (.ok (.int .u32 (atF fr bi at_ w)) [.cells [.int .u32 w] 112]))))
 | _,_=>.fail
theorem atS_ok:MSound Tryz.prog 255 atS:=by
 intro args H out h
 unfold atS at h
 split at h
 rotate_left
 ·cases h
 rename_i fr bi at_ w
 refine mcall_fun' (cx:=cx255) (fn:=Tryz.f255) (cx0_ok rfl rfl) (by kernel_rfl) (by kernel_rfl) (by kernel_rfl) ?_
 rw [atT_eq]
 exact h
end Go.Rj

namespace Go.Rj
open Go Go.Ab Go.Proofs Go.Ra
noncomputable def cx235:Cx:={ P:=Tryz.prog,n:=52,tab:=[(254,partS)],mtab:=[],refs:=[],keeps:=[0,1,4,5,6,10,15,22,35,39] }
noncomputable def cx237:Cx:={ P:=Tryz.prog,n:=64,tab:=[(256,signedS)],mtab:=[(255,atS)],refs:=[],keeps:=[0,1,3,4,5,7,8,13,18,23,31,45,50] }
def immT (f n:Int):Tree V:=
 (.br (f == 1) (.leaf (.int .u32 (Go.Rj.partF n 0 12 20))) (.br (f == 2) (.leaf (.int .u32 (Go.Rj.partF n 0 6 20))) (.br (f == 3) (.leaf (.int .u32 (Go.Rj.partF n 0 6 20))) (.br (f == 4) (.leaf (.int .u32 (IntKind.wrap IntKind.u32 ↑(BitVec.toNat (BitVec.ofInt 32 (Go.Rj.partF n 0 5 7) ||| BitVec.ofInt 32 (Go.Rj.partF n 5 7 25)))))) (.br (f == 5) (.leaf (.int .u32 (IntKind.wrap IntKind.u32 ↑(BitVec.toNat (BitVec.ofInt 32 (IntKind.wrap IntKind.u32 ↑(BitVec.toNat (BitVec.ofInt 32 (IntKind.wrap IntKind.u32 ↑(BitVec.toNat (BitVec.ofInt 32 (Go.Rj.partF n 1 4 8) ||| BitVec.ofInt 32 (Go.Rj.partF n 5 6 25)))) ||| BitVec.ofInt 32 (Go.Rj.partF n 11 1 7)))) ||| BitVec.ofInt 32 (Go.Rj.partF n 12 1 31)))))) (.br (f == 6) (.leaf (.int .u32 (Go.Rj.partF n 0 20 12))) (.br (f == 7) (.leaf (.int .u32 (IntKind.wrap IntKind.u32 ↑(BitVec.toNat (BitVec.ofInt 32 (IntKind.wrap IntKind.u32 ↑(BitVec.toNat (BitVec.ofInt 32 (IntKind.wrap IntKind.u32 ↑(BitVec.toNat (BitVec.ofInt 32 (Go.Rj.partF n 1 10 21) ||| BitVec.ofInt 32 (Go.Rj.partF n 11 1 20)))) ||| BitVec.ofInt 32 (Go.Rj.partF n 12 8 12)))) ||| BitVec.ofInt 32 (Go.Rj.partF n 20 1 31)))))) (.leaf (.int .u32 0)))))))))
theorem immT_eq (f n:Int):(dfun cx235 Tryz.f235 [.int .i64 f,.int .i64 n]).run=(immT f n).run:=
 (show (dfun cx235 Tryz.f235 [.int .i64 f,.int .i64 n]).run=(immT f n).out by kernel_rfl).trans (Tree.out_run _)
def numberT (f w:Int):Tree V:=
 (.br (f == 1) (.leaf (.int .i64 (Go.Rj.signedF (Int.fdiv w (2 ^ 20)) 12))) (.br (f == 2) (.leaf (.int .i64 (IntKind.wrap IntKind.i64 (Go.Rj.atF 20 6 0 w)))) (.br (f == 3) (.leaf (.int .i64 (IntKind.wrap IntKind.i64 (Go.Rj.atF 20 5 0 w)))) (.br (f == 4) (.leaf (.int .i64 (Go.Rj.signedF (IntKind.wrap IntKind.u32 ↑(BitVec.toNat (BitVec.ofInt 32 (Go.Rj.atF 7 5 0 w) ||| BitVec.ofInt 32 (Go.Rj.atF 25 7 5 w)))) 12))) (.br (f == 5) (.leaf (.int .i64 (Go.Rj.signedF (IntKind.wrap IntKind.u32 ↑(BitVec.toNat (BitVec.ofInt 32 (IntKind.wrap IntKind.u32 ↑(BitVec.toNat (BitVec.ofInt 32 (IntKind.wrap IntKind.u32 ↑(BitVec.toNat (BitVec.ofInt 32 (Go.Rj.atF 8 4 1 w) ||| BitVec.ofInt 32 (Go.Rj.atF 25 6 5 w)))) ||| BitVec.ofInt 32 (Go.Rj.atF 7 1 11 w)))) ||| BitVec.ofInt 32 (Go.Rj.atF 31 1 12 w)))) 13))) (.br (f == 6) (.leaf (.int .i64 (Go.Rj.signedF (Int.fdiv w (2 ^ 12)) 20))) (.br (f == 7) (.leaf (.int .i64 (Go.Rj.signedF (IntKind.wrap IntKind.u32 ↑(BitVec.toNat (BitVec.ofInt 32 (IntKind.wrap IntKind.u32 ↑(BitVec.toNat (BitVec.ofInt 32 (IntKind.wrap IntKind.u32 ↑(BitVec.toNat (BitVec.ofInt 32 (Go.Rj.atF 21 10 1 w) ||| BitVec.ofInt 32 (Go.Rj.atF 20 1 11 w)))) ||| BitVec.ofInt 32 (Go.Rj.atF 12 8 12 w)))) ||| BitVec.ofInt 32 (Go.Rj.atF 31 1 20 w)))) 21))) (.leaf (.int .i64 0)))))))))
theorem numberT_eq (f w:Int):(dfun cx237 Tryz.f237 [.int .i64 f,.int .u32 w]).run=(numberT f w).run:=
 (show (dfun cx237 Tryz.f237 [.int .i64 f,.int .u32 w]).run=(numberT f w).out by kernel_rfl).trans (Tree.out_run _)
def immF (f n:Int):Int:=
 cond (f == 1) (partF n 0 12 20) (cond (f == 2) (partF n 0 6 20) (cond (f == 3) (partF n 0 6 20) (cond (f == 4) (or32 (partF n 0 5 7) (partF n 5 7 25))
  (cond (f == 5) (or32 (or32 (or32 (partF n 1 4 8) (partF n 5 6 25)) (partF n 11 1 7)) (partF n 12 1 31)) (cond (f == 6) (partF n 0 20 12)
   (cond (f == 7) (or32 (or32 (or32 (partF n 1 10 21) (partF n 11 1 20)) (partF n 12 8 12)) (partF n 20 1 31)) 0))))))
def numberF (f w:Int):Int:=
 cond (f == 1) (signedF (Int.fdiv w (2 ^ 20)) 12) (cond (f == 2) (IntKind.wrap .i64 (atF 20 6 0 w)) (cond (f == 3) (IntKind.wrap .i64 (atF 20 5 0 w))
  (cond (f == 4) (signedF (or32 (atF 7 5 0 w) (atF 25 7 5 w)) 12) (cond (f == 5) (signedF (or32 (or32 (or32 (atF 8 4 1 w) (atF 25 6 5 w)) (atF 7 1 11 w)) (atF 31 1 12 w)) 13)
   (cond (f == 6) (signedF (Int.fdiv w (2 ^ 12)) 20) (cond (f == 7) (signedF (or32 (or32 (or32 (atF 21 10 1 w) (atF 20 1 11 w)) (atF 12 8 12 w)) (atF 31 1 20 w)) 21) 0))))))
def immS:Ab.Spec:=fun args=>match args with
 | [.int .i64 f,.int .i64 n]=>.leaf (.int .u32 (immF f n))
 | _=>.fail
theorem immS_ok:Sound Tryz.prog 235 immS:=by
 intro args out h
 unfold immS at h
 split at h
 rotate_left
 ·cases h
 rename_i f n
 simp only [Tree.run,Option.some.injEq] at h
 subst h
 refine pcall_fun' (cx:=cx235) (fn:=Tryz.f235) (cx1_ok (.cons partS_ok (.nil _)) (.nil _) rfl rfl) (by kernel_rfl) (by kernel_rfl) (by kernel_rfl) ?_
 rw [immT_eq]
 unfold immT immF
 exact fold7 _ _ _ _ _ _ _ _ _ _ _ _ _ _ _ _
def numberS:Ab.Spec:=fun args=>match args with
 | [.int .i64 f,.int .u32 w]=>.leaf (.int .i64 (numberF f w))
 | _=>.fail
theorem numberS_ok:Sound Tryz.prog 237 numberS:=by
 intro args out h
 unfold numberS at h
 split at h
 rotate_left
 ·cases h
 rename_i f w
 simp only [Tree.run,Option.some.injEq] at h
 subst h
 refine pcall_fun' (cx:=cx237) (fn:=Tryz.f237) (cx1_ok (.cons signedS_ok (.nil _)) (.cons atS_ok (.nil _)) rfl rfl) (by kernel_rfl) (by kernel_rfl) (by kernel_rfl) ?_
 rw [numberT_eq]
 unfold numberT numberF
 exact fold7 _ _ _ _ _ _ _ _ _ _ _ _ _ _ _ _
end Go.Rj

namespace Go.Rj
open Go Go.Ab Go.Proofs Go.Ra
noncomputable def cx199:Cx:={ P:=Tryz.prog,n:=28,tab:=[(235,immS)],mtab:=[],refs:=[],keeps:=[0,1,2,3,4] }
noncomputable def cx53:Cx:={ P:=Tryz.prog,n:=76,tab:=[(113,usesS),(114,boundsS),(115,registerS)],mtab:=[],refs:=[],keeps:=[0,1,2,3,4,5,6,7,8,9,10,25,50,59,70] }
noncomputable def cx202:Cx:={ P:=Tryz.prog,n:=42,tab:=[(113,usesS),(237,numberS)],mtab:=[],refs:=[],keeps:=[0,1,2,4,5,6,7,8,23,29,35] }
def wordT (_rn:List UInt8) (f rw:Int) (_nm:List UInt8) (a b c _d n:Int):Tree V:=
 (.leaf (.int .u32 (IntKind.wrap IntKind.u32 ↑(BitVec.toNat (BitVec.ofInt 32 (IntKind.wrap IntKind.u32 ↑(BitVec.toNat (BitVec.ofInt 32 (IntKind.wrap IntKind.u32 ↑(BitVec.toNat (BitVec.ofInt 32 (IntKind.wrap IntKind.u32 ↑(BitVec.toNat (BitVec.ofInt 32 rw ||| BitVec.ofInt 32 (IntKind.wrap IntKind.u32 (IntKind.wrap IntKind.u32 a*2 ^ 7))))) ||| BitVec.ofInt 32 (IntKind.wrap IntKind.u32 (IntKind.wrap IntKind.u32 b*2 ^ 15))))) ||| BitVec.ofInt 32 (IntKind.wrap IntKind.u32 (IntKind.wrap IntKind.u32 c*2 ^ 20))))) ||| BitVec.ofInt 32 (Go.Rj.immF f n))))))
theorem wordT_eq (rn:List UInt8) (f rw:Int) (nm:List UInt8) (a b c d n:Int):(dfun cx199 Tryz.f199 [.agg [.str rn,.int .i64 f,.int .u32 rw],.agg [.str nm,.int .i64 a,.int .i64 b,.int .i64 c,.int .i64 d,.int .i64 n]]).run=(wordT rn f rw nm a b c d n).run:=
 (show (dfun cx199 Tryz.f199 [.agg [.str rn,.int .i64 f,.int .u32 rw],.agg [.str nm,.int .i64 a,.int .i64 b,.int .i64 c,.int .i64 d,.int .i64 n]]).run=(wordT rn f rw nm a b c d n).out by kernel_rfl).trans (Tree.out_run _)
def faultyT (_rn:List UInt8) (f _rw:Int) (_nm:List UInt8) (a b c d n:Int):Tree V:=
 (.br (!Go.Rj.regOk a (Go.Rj.uA f)) (.leaf (.int .i64 13)) (.br (!Go.Rj.regOk b (Go.Rj.uB f)) (.leaf (.int .i64 13)) (.br (!Go.Rj.regOk c (Go.Rj.uC f)) (.leaf (.int .i64 13)) (.br (d != 0) (.leaf (.int .i64 13)) (.br (Prod.fst (Go.Rj.bnd f) == Prod.fst (Prod.snd (Go.Rj.bnd f))) (.br (n != 0) (.leaf (.int .i64 13)) (.br (decide (n<Prod.fst (Go.Rj.bnd f))) (.leaf (.int .i64 3)) (.br (decide (Prod.fst (Prod.snd (Go.Rj.bnd f))<n)) (.leaf (.int .i64 3)) (.br (!decide (Prod.snd (Prod.snd (Go.Rj.bnd f))=0)) (.br (Int.tmod n (Prod.snd (Prod.snd (Go.Rj.bnd f))) != 0) (.leaf (.int .i64 10)) (.leaf (.int .i64 0))) .fail)))) (.br (decide (n<Prod.fst (Go.Rj.bnd f))) (.leaf (.int .i64 3)) (.br (decide (Prod.fst (Prod.snd (Go.Rj.bnd f))<n)) (.leaf (.int .i64 3)) (.br (!decide (Prod.snd (Prod.snd (Go.Rj.bnd f))=0)) (.br (Int.tmod n (Prod.snd (Prod.snd (Go.Rj.bnd f))) != 0) (.leaf (.int .i64 10)) (.leaf (.int .i64 0))) .fail))))))))
theorem faultyT_eq (rn:List UInt8) (f rw:Int) (nm:List UInt8) (a b c d n:Int):(dfun cx53 Tryz.f53 [.agg [.str rn,.int .i64 f,.int .u32 rw],.agg [.str nm,.int .i64 a,.int .i64 b,.int .i64 c,.int .i64 d,.int .i64 n]]).run=(faultyT rn f rw nm a b c d n).run:=
 (show (dfun cx53 Tryz.f53 [.agg [.str rn,.int .i64 f,.int .u32 rw],.agg [.str nm,.int .i64 a,.int .i64 b,.int .i64 c,.int .i64 d,.int .i64 n]]).run=(faultyT rn f rw nm a b c d n).out by kernel_rfl).trans (Tree.out_run _)
def readT (rn:List UInt8) (f _rw w:Int):Tree V:=
 (.br (Go.Rj.uA f) (.br (Go.Rj.uB f) (.br (Go.Rj.uC f) (.leaf (.agg [(.str rn),(.int .i64 (IntKind.wrap IntKind.i64 (IntKind.wrap IntKind.u32 ↑(BitVec.toNat (BitVec.ofInt 32 (Int.fdiv w (2 ^ 7)) &&& BitVec.ofInt 32 31))))),(.int .i64 (IntKind.wrap IntKind.i64 (IntKind.wrap IntKind.u32 ↑(BitVec.toNat (BitVec.ofInt 32 (Int.fdiv w (2 ^ 15)) &&& BitVec.ofInt 32 31))))),(.int .i64 (IntKind.wrap IntKind.i64 (IntKind.wrap IntKind.u32 ↑(BitVec.toNat (BitVec.ofInt 32 (Int.fdiv w (2 ^ 20)) &&& BitVec.ofInt 32 31))))),(.int .i64 0),(.int .i64 (Go.Rj.numberF f w))])) (.leaf (.agg [(.str rn),(.int .i64 (IntKind.wrap IntKind.i64 (IntKind.wrap IntKind.u32 ↑(BitVec.toNat (BitVec.ofInt 32 (Int.fdiv w (2 ^ 7)) &&& BitVec.ofInt 32 31))))),(.int .i64 (IntKind.wrap IntKind.i64 (IntKind.wrap IntKind.u32 ↑(BitVec.toNat (BitVec.ofInt 32 (Int.fdiv w (2 ^ 15)) &&& BitVec.ofInt 32 31))))),(.int .i64 0),(.int .i64 0),(.int .i64 (Go.Rj.numberF f w))]))) (.br (Go.Rj.uC f) (.leaf (.agg [(.str rn),(.int .i64 (IntKind.wrap IntKind.i64 (IntKind.wrap IntKind.u32 ↑(BitVec.toNat (BitVec.ofInt 32 (Int.fdiv w (2 ^ 7)) &&& BitVec.ofInt 32 31))))),(.int .i64 0),(.int .i64 (IntKind.wrap IntKind.i64 (IntKind.wrap IntKind.u32 ↑(BitVec.toNat (BitVec.ofInt 32 (Int.fdiv w (2 ^ 20)) &&& BitVec.ofInt 32 31))))),(.int .i64 0),(.int .i64 (Go.Rj.numberF f w))])) (.leaf (.agg [(.str rn),(.int .i64 (IntKind.wrap IntKind.i64 (IntKind.wrap IntKind.u32 ↑(BitVec.toNat (BitVec.ofInt 32 (Int.fdiv w (2 ^ 7)) &&& BitVec.ofInt 32 31))))),(.int .i64 0),(.int .i64 0),(.int .i64 0),(.int .i64 (Go.Rj.numberF f w))])))) (.br (Go.Rj.uB f) (.br (Go.Rj.uC f) (.leaf (.agg [(.str rn),(.int .i64 0),(.int .i64 (IntKind.wrap IntKind.i64 (IntKind.wrap IntKind.u32 ↑(BitVec.toNat (BitVec.ofInt 32 (Int.fdiv w (2 ^ 15)) &&& BitVec.ofInt 32 31))))),(.int .i64 (IntKind.wrap IntKind.i64 (IntKind.wrap IntKind.u32 ↑(BitVec.toNat (BitVec.ofInt 32 (Int.fdiv w (2 ^ 20)) &&& BitVec.ofInt 32 31))))),(.int .i64 0),(.int .i64 (Go.Rj.numberF f w))])) (.leaf (.agg [(.str rn),(.int .i64 0),(.int .i64 (IntKind.wrap IntKind.i64 (IntKind.wrap IntKind.u32 ↑(BitVec.toNat (BitVec.ofInt 32 (Int.fdiv w (2 ^ 15)) &&& BitVec.ofInt 32 31))))),(.int .i64 0),(.int .i64 0),(.int .i64 (Go.Rj.numberF f w))]))) (.br (Go.Rj.uC f) (.leaf (.agg [(.str rn),(.int .i64 0),(.int .i64 0),(.int .i64 (IntKind.wrap IntKind.i64 (IntKind.wrap IntKind.u32 ↑(BitVec.toNat (BitVec.ofInt 32 (Int.fdiv w (2 ^ 20)) &&& BitVec.ofInt 32 31))))),(.int .i64 0),(.int .i64 (Go.Rj.numberF f w))])) (.leaf (.agg [(.str rn),(.int .i64 0),(.int .i64 0),(.int .i64 0),(.int .i64 0),(.int .i64 (Go.Rj.numberF f w))])))))
theorem readT_eq (rn:List UInt8) (f rw w:Int):(dfun cx202 Tryz.f202 [.agg [.str rn,.int .i64 f,.int .u32 rw],.int .u32 w]).run=(readT rn f rw w).run:=
 (show (dfun cx202 Tryz.f202 [.agg [.str rn,.int .i64 f,.int .u32 rw],.int .u32 w]).run=(readT rn f rw w).out by kernel_rfl).trans (Tree.out_run _)
def wordF (f rw a b c n:Int):Int:=or32 (or32 (or32 (or32 rw (shl32 (IntKind.wrap .u32 a) 7)) (shl32 (IntKind.wrap .u32 b) 15)) (shl32 (IntKind.wrap .u32 c) 20)) (immF f n)
def wordS:Ab.Spec:=fun args=>match args with
 | [.agg [.str _,.int .i64 f,.int .u32 rw],.agg [.str _,.int .i64 a,.int .i64 b,.int .i64 c,.int .i64 _,.int .i64 n]]=>.leaf (.int .u32 (wordF f rw a b c n))
 | _=>.fail
theorem wordS_ok:Sound Tryz.prog 199 wordS:=by
 intro args out h
 unfold wordS at h
 split at h
 rotate_left
 ·cases h
 simp only [Tree.run,Option.some.injEq] at h
 subst h
 refine pcall_fun' (cx:=cx199) (fn:=Tryz.f199) (cx1_ok (.cons immS_ok (.nil _)) (.nil _) rfl rfl) (by kernel_rfl) (by kernel_rfl) (by kernel_rfl) ?_
 rw [wordT_eq]
 kernel_rfl
def faultyF (f a b c d n:Int):Int:=
 cond (!regOk a (uA f)) 13 (cond (!regOk b (uB f)) 13 (cond (!regOk c (uC f)) 13 (cond (d != 0) 13 (cond ((bnd f).1 == (bnd f).2.1 && n != 0) 13
  (cond (decide (n<(bnd f).1)) 3 (cond (decide ((bnd f).2.1<n)) 3 (cond (Int.tmod n (bnd f).2.2 != 0) 10 0)))))))
theorem bnd_by (f:Int):(!decide ((bnd f).2.2=0))=true:=by
 unfold bnd
 cases (f == 1) <;> cases (f == 4) <;> cases (f == 2) <;> cases (f == 3) <;> cases (f == 5) <;> cases (f == 6) <;> cases (f == 7) <;> rfl
def faultyS:Ab.Spec:=fun args=>match args with
 | [.agg [.str _,.int .i64 f,.int .u32 _],.agg [.str _,.int .i64 a,.int .i64 b,.int .i64 c,.int .i64 d,.int .i64 n]]=>.leaf (.int .i64 (faultyF f a b c d n))
 | _=>.fail
theorem faultyS_ok:Sound Tryz.prog 53 faultyS:=by
 intro args out h
 unfold faultyS at h
 split at h
 rotate_left
 ·cases h
 rename_i rn f rw' nm a b c d n
 simp only [Tree.run,Option.some.injEq] at h
 subst h
 refine pcall_fun' (cx:=cx53) (fn:=Tryz.f53) (cx1_ok (.cons usesS_ok (.cons boundsS_ok (.cons registerS_ok (.nil _)))) (.nil _) rfl rfl) (by kernel_rfl) (by kernel_rfl) (by kernel_rfl) ?_
 rw [faultyT_eq]
 unfold faultyT faultyF
 rw [bnd_by]
 cases (!regOk a (uA f))
 rotate_left
 ·rfl
 cases (!regOk b (uB f))
 rotate_left
 ·rfl
 cases (!regOk c (uC f))
 rotate_left
 ·rfl
 cases (d != 0)
 rotate_left
 ·rfl
 generalize ((bnd f).1 == (bnd f).2.1)=e1,(n != 0)=e2,decide (n<(bnd f).1)=e3,decide ((bnd f).2.1<n)=e4,(Int.tmod n (bnd f).2.2 != 0)=e5
 cases e1 <;> cases e2 <;> cases e3 <;> cases e4 <;> cases e5 <;> rfl
def fld (w:Int) (k:Nat):Int:=IntKind.wrap .i64 (IntKind.wrap .u32 ↑(BitVec.toNat (BitVec.ofInt 32 (Int.fdiv w (2 ^ k)) &&& BitVec.ofInt 32 31)))
def rdA (f w:Int):Int:=cond (uA f) (fld w 7) 0
def rdB (f w:Int):Int:=cond (uB f) (fld w 15) 0
def rdC (f w:Int):Int:=cond (uC f) (fld w 20) 0
def readS:Ab.Spec:=fun args=>match args with
 | [.agg [.str rn,.int .i64 f,.int .u32 _],.int .u32 w]=>.leaf (.agg [.str rn,.int .i64 (rdA f w),.int .i64 (rdB f w),.int .i64 (rdC f w),.int .i64 0,.int .i64 (numberF f w)])
 | _=>.fail
theorem readS_ok:Sound Tryz.prog 202 readS:=by
 intro args out h
 unfold readS at h
 split at h
 rotate_left
 ·cases h
 rename_i rn f rw' w
 simp only [Tree.run,Option.some.injEq] at h
 subst h
 refine pcall_fun' (cx:=cx202) (fn:=Tryz.f202) (cx1_ok (.cons usesS_ok (.cons numberS_ok (.nil _))) (.nil _) rfl rfl) (by kernel_rfl) (by kernel_rfl) (by kernel_rfl) ?_
 rw [readT_eq]
 unfold readT rdA rdB rdC
 cases (uA f)
 ·cases (uB f)
  ·cases (uC f) <;> kernel_rfl
  ·cases (uC f) <;> kernel_rfl
 ·cases (uB f)
  ·cases (uC f) <;> kernel_rfl
  ·cases (uC f) <;> kernel_rfl
end Go.Rj

namespace Go.Rj
open Go Go.Ab Go.Proofs Go.Ra
noncomputable def cx136:Cx:={ P:=Tryz.prog,n:=37,tab:=[(52,findS),(53,faultyS),(199,wordS)],mtab:=[],refs:=[],keeps:=[0,1,2,3,4,5,6,7,15,20] }
noncomputable def cx23:Cx:={ P:=Tryz.prog,n:=18,tab:=[(52,findS),(53,faultyS)],mtab:=[],refs:=[],keeps:=[0,1,2,3,4] }
noncomputable def cx58:Cx:={ P:=Tryz.prog,n:=29,tab:=[(52,findS)],mtab:=[],refs:=[],keeps:=[0,2,3,4,5,12,14,15,17,21,23,25,27] }
def encodeT (nm:List UInt8) (a b c d n:Int):Tree V:=
 (.br (!Go.Rj.fok nm) (.leaf (.tup [(.val (Go.Value.slice Option.none 0 0)),(.int .i64 7)])) (.br (Go.Rj.faultyF (Prod.fst (Prod.snd (Go.Rj.frow nm))) a b c d n != 0) (.leaf (.tup [(.val (Go.Value.slice Option.none 0 0)),(.int .i64 (Go.Rj.faultyF (Prod.fst (Prod.snd (Go.Rj.frow nm))) a b c d n))])) (.leaf (.tup [(.sl (.int .u8) ([IntKind.wrap IntKind.u8 (Go.Rj.wordF (Prod.fst (Prod.snd (Go.Rj.frow nm))) (Prod.snd (Prod.snd (Go.Rj.frow nm))) a b c n),IntKind.wrap IntKind.u8 (Int.fdiv (Go.Rj.wordF (Prod.fst (Prod.snd (Go.Rj.frow nm))) (Prod.snd (Prod.snd (Go.Rj.frow nm))) a b c n) (2 ^ 8)),IntKind.wrap IntKind.u8 (Int.fdiv (Go.Rj.wordF (Prod.fst (Prod.snd (Go.Rj.frow nm))) (Prod.snd (Prod.snd (Go.Rj.frow nm))) a b c n) (2 ^ 16)),IntKind.wrap IntKind.u8 (Int.fdiv (Go.Rj.wordF (Prod.fst (Prod.snd (Go.Rj.frow nm))) (Prod.snd (Prod.snd (Go.Rj.frow nm))) a b c n) (2 ^ 24))]) ([]) Fl.full),(.int .i64 0)]))))
theorem encodeT_eq (nm:List UInt8) (a b c d n:Int):(dfun cx136 Tryz.f136 [.agg [.str nm,.int .i64 a,.int .i64 b,.int .i64 c,.int .i64 d,.int .i64 n]]).run=(encodeT nm a b c d n).run:=
 (show (dfun cx136 Tryz.f136 [.agg [.str nm,.int .i64 a,.int .i64 b,.int .i64 c,.int .i64 d,.int .i64 n]]).run=(encodeT nm a b c d n).out by kernel_rfl).trans (Tree.out_run _)
def mayT (nm:List UInt8) (a b c d n:Int):Tree V:=
 (.br (Go.Rj.fok nm) (.leaf (.bool (Go.Rj.faultyF (Prod.fst (Prod.snd (Go.Rj.frow nm))) a b c d n == 0))) (.leaf (.bool false)))
theorem mayT_eq (nm:List UInt8) (a b c d n:Int):(dfun cx23 Tryz.f23 [.agg [.str nm,.int .i64 a,.int .i64 b,.int .i64 c,.int .i64 d,.int .i64 n]]).run=(mayT nm a b c d n).run:=
 (show (dfun cx23 Tryz.f23 [.agg [.str nm,.int .i64 a,.int .i64 b,.int .i64 c,.int .i64 d,.int .i64 n]]).run=(mayT nm a b c d n).out by kernel_rfl).trans (Tree.out_run _)
def operandsT (nm:List UInt8):Tree V:=
 (.br (!Go.Rj.fok nm) (.leaf (.tup [(.str []),(.bool false)])) (.br (Prod.fst (Prod.snd (Go.Rj.frow nm)) == 0) (.leaf (.tup [(.str [65,66,67]),(.bool true)])) (.br (Prod.fst (Prod.snd (Go.Rj.frow nm)) == 1) (.leaf (.tup [(.str [65,66,105]),(.bool true)])) (.br (Prod.fst (Prod.snd (Go.Rj.frow nm)) == 2) (.leaf (.tup [(.str [65,66,105]),(.bool true)])) (.br (Prod.fst (Prod.snd (Go.Rj.frow nm)) == 3) (.leaf (.tup [(.str [65,66,105]),(.bool true)])) (.br (Prod.fst (Prod.snd (Go.Rj.frow nm)) == 4) (.leaf (.tup [(.str [67,66,105]),(.bool true)])) (.br (Prod.fst (Prod.snd (Go.Rj.frow nm)) == 5) (.leaf (.tup [(.str [66,67,106]),(.bool true)])) (.br (Prod.fst (Prod.snd (Go.Rj.frow nm)) == 6) (.leaf (.tup [(.str [65,105]),(.bool true)])) (.br (Prod.fst (Prod.snd (Go.Rj.frow nm)) == 7) (.leaf (.tup [(.str [65,106]),(.bool true)])) (.leaf (.tup [(.str []),(.bool true)])))))))))))
theorem operandsT_eq (nm:List UInt8):(dfun cx58 Tryz.f58 [.str nm]).run=(operandsT nm).run:=
 (show (dfun cx58 Tryz.f58 [.str nm]).run=(operandsT nm).out by kernel_rfl).trans (Tree.out_run _)
abbrev InsT:=List UInt8 × Int × Int × Int × Int × Int
def insV (i:InsT):V:=.agg [.str i.1,.int .i64 i.2.1,.int .i64 i.2.2.1,.int .i64 i.2.2.2.1,.int .i64 i.2.2.2.2.1,.int .i64 i.2.2.2.2.2]
def encE (i:InsT):Int:=cond (fok i.1) (faultyF (frow i.1).2.1 i.2.1 i.2.2.1 i.2.2.2.1 i.2.2.2.2.1 i.2.2.2.2.2) 7
def encW (i:InsT):Int:=wordF (frow i.1).2.1 (frow i.1).2.2 i.2.1 i.2.2.1 i.2.2.2.1 i.2.2.2.2.2
def bytes4 (w:Int):List Int:=[IntKind.wrap .u8 w,IntKind.wrap .u8 (Int.fdiv w (2 ^ 8)),IntKind.wrap .u8 (Int.fdiv w (2 ^ 16)),IntKind.wrap .u8 (Int.fdiv w (2 ^ 24))]
abbrev nilV:V:=.val (.slice none 0 0)
def encodeS:Ab.Spec:=fun args=>match args with
 | [.agg [.str nm,.int .i64 a,.int .i64 b,.int .i64 c,.int .i64 d,.int .i64 n]] =>
  .br (encE (nm,a,b,c,d,n) == 0) (.leaf (.tup [.sl (.int .u8) (bytes4 (encW (nm,a,b,c,d,n))) [] .full,.int .i64 0])) (.leaf (.tup [nilV,.int .i64 (encE (nm,a,b,c,d,n))]))
 | _=>.fail
theorem encodeS_ok:Sound Tryz.prog 136 encodeS:=by
 intro args out h
 unfold encodeS at h
 split at h
 rotate_left
 ·cases h
 rename_i nm a b c d n
 refine pcall_fun' (cx:=cx136) (fn:=Tryz.f136) (cx1_ok (.cons findS_ok (.cons faultyS_ok (.cons wordS_ok (.nil _)))) (.nil _) rfl rfl) (by kernel_rfl) (by kernel_rfl) (by kernel_rfl) ?_
 rw [encodeT_eq]
 rw [← h]
 unfold encodeT encE encW
 cases (fok nm)
 ·rfl
 simp only [cond_true]
 cases hb:(faultyF (frow nm).2.1 a b c d n == 0)
 ·have:(faultyF (frow nm).2.1 a b c d n != 0)=true:=by simp [bne,hb]
  rw [this]
  rfl
 ·have:(faultyF (frow nm).2.1 a b c d n != 0)=false:=by simp [bne,hb]
  rw [this]
  show Tree.run _=Tree.run _
  kernel_rfl
def mayS:Ab.Spec:=fun args=>match args with
 | [.agg [.str nm,.int .i64 a,.int .i64 b,.int .i64 c,.int .i64 d,.int .i64 n]]=>.leaf (.bool (encE (nm,a,b,c,d,n) == 0))
 | _=>.fail
theorem mayS_ok:Sound Tryz.prog 23 mayS:=by
 intro args out h
 unfold mayS at h
 split at h
 rotate_left
 ·cases h
 rename_i nm a b c d n
 refine pcall_fun' (cx:=cx23) (fn:=Tryz.f23) (cx1_ok (.cons findS_ok (.cons faultyS_ok (.nil _))) (.nil _) rfl rfl) (by kernel_rfl) (by kernel_rfl) (by kernel_rfl) ?_
 rw [mayT_eq]
 rw [← h]
 unfold mayT encE
 cases (fok nm) <;> rfl
def opsF (f:Int):List UInt8:=
 cond (f == 0) [65,66,67] (cond (f == 1) [65,66,105] (cond (f == 2) [65,66,105] (cond (f == 3) [65,66,105] (cond (f == 4) [67,66,105] (cond (f == 5) [66,67,106]
  (cond (f == 6) [65,105] (cond (f == 7) [65,106] [])))))))
def opsOf (nm:List UInt8):List UInt8:=cond (fok nm) (opsF (frow nm).2.1) []
def operandsS:Ab.Spec:=fun args=>match args with
 | [.str nm]=>.leaf (.tup [.str (opsOf nm),.bool (fok nm)])
 | _=>.fail
theorem operandsS_ok:Sound Tryz.prog 58 operandsS:=by
 intro args out h
 unfold operandsS at h
 split at h
 rotate_left
 ·cases h
 rename_i nm
 refine pcall_fun' (cx:=cx58) (fn:=Tryz.f58) (cx1_ok (.cons findS_ok (.nil _)) (.nil _) rfl rfl) (by kernel_rfl) (by kernel_rfl) (by kernel_rfl) ?_
 rw [operandsT_eq]
 rw [← h]
 unfold operandsT opsOf opsF
 cases (fok nm)
 ·rfl
 generalize (frow nm).2.1=f
 cases (f == 0)
 rotate_left
 ·rfl
 cases (f == 1)
 rotate_left
 ·rfl
 cases (f == 2)
 rotate_left
 ·rfl
 cases (f == 3)
 rotate_left
 ·rfl
 cases (f == 4)
 rotate_left
 ·rfl
 cases (f == 5)
 rotate_left
 ·rfl
 cases (f == 6)
 rotate_left
 ·rfl
 cases (f == 7) <;> rfl
end Go.Rj

namespace Go.Ra
open Go Go.Ab Go.Proofs Go.Rj
theorem okReg_of' {n:Int} {u:Bool} (h:regOk n u=true):okReg n=true:=by
 unfold regOk at h
 simp only [okReg,Bool.and_eq_true,decide_eq_true_eq]
 simp only [Bool.or_eq_true,Bool.and_eq_true,decide_eq_true_eq,beq_iff_eq] at h
 omega
theorem may_facts {nm:List UInt8} {a b c d m:Int} (h:encE (nm,a,b,c,d,m)=0):okReg a=true∧okReg b=true∧okReg c=true:=by
 unfold encE at h
 have hf:fok nm=true:=by
  cases hf:fok nm
  ·simp only [hf] at h
   exact absurd (show (7:Int)=0 from h) (by decide)
  ·rfl
 simp only [hf,cond_true] at h
 unfold faultyF at h
 have a1:regOk a (uA (frow nm).2.1)=true:=by
  cases e:regOk a (uA (frow nm).2.1)
  ·rw [e] at h
   exact absurd (show (13:Int)=0 from h) (by decide)
  ·rfl
 rw [a1] at h
 have b1:regOk b (uB (frow nm).2.1)=true:=by
  cases e:regOk b (uB (frow nm).2.1)
  ·rw [e] at h
   exact absurd (show (13:Int)=0 from h) (by decide)
  ·rfl
 rw [b1] at h
 have c1:regOk c (uC (frow nm).2.1)=true:=by
  cases e:regOk c (uC (frow nm).2.1)
  ·rw [e] at h
   exact absurd (show (13:Int)=0 from h) (by decide)
  ·rfl
 exact ⟨okReg_of' a1,okReg_of' b1,okReg_of' c1⟩
theorem nx_even {s:CpuT} {sz:Int} (hp:Int.tmod s.pc 2=0) (hr:rng64 s.pc=true) (hz:sz=2∨sz=4):Int.tmod (nxF s sz) 2=0:=by
 obtain ⟨h0,h1⟩:=rng_spec hr
 rw [Int.tmod_eq_emod_of_nonneg h0] at hp
 have e:nxF s sz=(s.pc+wu sz) % 18446744073709551616:=rfl
 have e0:0≤nxF s sz:=by rw [e]; omega
 rw [Int.tmod_eq_emod_of_nonneg e0,e]
 rcases hz with rfl | rfl
 ·have:wu 2=2:=rfl
  omega
 ·have:wu 4=4:=rfl
  omega
theorem top_alike (mb:InsR→Bool) (ck:InsR→Int) (wd:Int→Int→Int × Int) (hmb:∀ i,mb i=(encE i == 0)) (hck:∀ i,(ck i != 0) = !mb i) (hw:WdOk wd) :
  ∀ x ∈ rowsR,∃ y ∈ rowsG wd,x.1=y.1 ∧ ∀ s a b c d m sz A B C D E,Fine s→lens5 A B C D E=true→Both s (topK mb x.1 x.2 s a b c d m sz A B C D E) (topD ck y.1 y.2 s a b c d m sz A B C D E):=by
 intro x hx
 obtain ⟨y,hy,e,h⟩:=allA_get (all_alike wd hw) rfl x hx
 refine ⟨y,hy,e,fun s a b c d m sz A B C D E hs hl=>?_⟩
 have key:(sz=2∨sz=4)→Both s (topM mb x.1 x.2 s a b c d m sz A B C D E) (topMD ck y.1 y.2 s a b c d m sz A B C D E):=by
  intro hz
  unfold topM topMD
  rw [← e,hck]
  cases hm:mb (x.1,a,b,c,d,m)
  ·exact both_err hs 22 hl
  cases hp:Int.tmod s.pc 2 != 0
  rotate_left
  ·exact both_err hs 10 hl
  have hp:Int.tmod s.pc 2=0:=by simpa using hp
  rw [hmb] at hm
  obtain ⟨f1,f2,f3⟩:=may_facts (beq_iff_eq.1 hm)
  exact h s a b c d m sz A B C D E ⟨hs,f1,f2,f3,hl⟩ (nx_even hp hs.pc hz)
 unfold topK topD
 cases h2:sz != 2
 ·exact key (.inl (by simpa using h2))
 cases h4:sz != 4
 ·exact key (.inr (by simpa using h4))
 ·exact both_err hs 1 hl
theorem rows_parts {α:Type} (l:List α):l.length=64→l=(l.drop 0).take 8++((l.drop 8).take 8++((l.drop 16).take 8++((l.drop 24).take 8++((l.drop 32).take 8++((l.drop 40).take 8++((l.drop 48).take 8++(l.drop 56).take 8)))))):=by
 intro h
 have step:∀ (k:Nat),l.drop k=(l.drop k).take 8++l.drop (k+8):=fun k=>by
  rw [← List.drop_drop,List.take_append_drop]
 have e9:l.drop 64=[]:=List.drop_eq_nil_of_le (by omega)
 rw [show (l.drop 56).take 8=l.drop 56 by rw [step 56,e9,List.append_nil,List.take_take,Nat.min_self],← step 48,← step 40,← step 32,← step 24,← step 16,← step 8,← step 0]
 rfl
theorem run_all (mb:InsR→Bool):∀ x ∈ rowsR,rO mb x=rE mb x:=by
 have h:rowsR.map (rO mb)=rowsR.map (rE mb):=by
  rw [rows_parts rowsR (by kernel_rfl)]
  simp only [List.map_append,run_1,run_2,run_3,run_4,run_5,run_6,run_7,run_8]
 exact List.map_inj_left.1 h
theorem ref_all (ck:InsR→Int) (wd:Int→Int→Int × Int):∀ x ∈ rowsG wd,gO ck wd x=gE ck x:=by
 have h:(rowsG wd).map (gO ck wd)=(rowsG wd).map (gE ck):=by
  rw [rows_parts (rowsG wd) rfl]
  simp only [List.map_append,ref_1,ref_2,ref_3,ref_4,ref_5,ref_6,ref_7,ref_8]
 exact List.map_inj_left.1 h
theorem opsL_ok:opsL.all (fun y=>strEq (opsOf y.1) y.2 && fok y.1)=true:=by kernel_rfl
theorem opP_ok:Sound Tryz.prog 58 opP:=by
 intro args out h
 unfold opP at h
 split at h
 rotate_left
 ·cases h
 rename_i nm
 split at h
 rotate_left
 ·cases h
 rename_i y hy
 have h1:=List.find?_some hy
 have h2:=List.all_eq_true.1 opsL_ok _ (List.mem_of_find?_eq_some hy)
 obtain ⟨h3,h4⟩:=Bool.and_eq_true_iff.1 h2
 have e1:y.1=nm:=eq_of_beq h1
 have e2:opsOf y.1=y.2:=eq_of_beq h3
 refine operandsS_ok _ _ ?_
 rw [← h,← e1]
 show some (V.tup [.str (opsOf y.1),.bool (fok y.1)])=_
 rw [e2,h4]
 rfl
theorem cxNum_ok:CxOk cxNum:=cx1_ok (ok1 opP_ok) (.nil _) rfl rfl
theorem numR_ok:RSound Tryz.prog 25 (qfun cxNum Tryz.f25):=qfun_ok (cx:=cxNum) (fn:=Tryz.f25) cxNum_ok (by kernel_rfl) (by kernel_rfl) (by kernel_rfl) (by kernel_rfl)
section
variable {mb:InsR→Bool} (hm:Sound Tryz.prog 23 (mayP mb))
include hm
theorem ruB_ok:(ruB mb).Ok Tryz.prog:=
 ⟨.cons hm (.cons opP_ok (.cons mulS_ok (.cons highS_ok (.cons divideS_ok (.cons divuS_ok (.cons bitS_ok (.nil _))))))),.cons setM_ok (.cons loadM_ok (.cons storeM_ok (.nil _))),.cons numR_ok (.nil _),fun p h=>by cases h⟩
theorem ruT_ok (d:Nat):(ruT mb d).Ok Tryz.prog:=deep_ok (ruB_ok hm) ruT_ps_ok ruT_ms_ok d
theorem runG_ok:MSound Tryz.prog 10 (runG mb):=mfunR_ok (cx:=cxRunG mb) (fn:=Tryz.f10) [] (ruT_ok hm 4) (by kernel_rfl) (by kernel_rfl)
end
def mbF (i:InsR):Bool:=encE i == 0
theorem mayP_ok:Sound Tryz.prog 23 (mayP mbF):=by
 intro args out h
 unfold mayP at h
 split at h
 rotate_left
 ·cases h
 exact mayS_ok _ _ h
def mayN (mb:InsR→Bool):Ab.Spec:=fun args=>match args with
 | [.agg [.str nm,.int .i64 a,.int .i64 b,.int .i64 c,.int .i64 d,.int .i64 m]]=>.req (!mb (nm,a,b,c,d,m)) (.leaf (.bool false))
 | _=>.fail
theorem mayN_ok:Sound Tryz.prog 23 (mayN mbF):=by
 intro args out h
 unfold mayN at h
 split at h
 rotate_left
 ·cases h
 obtain ⟨h1,h2⟩:=req_run h
 have e:mbF _=false:=Bool.not_eq_true' _ |>.mp h1
 refine mayS_ok _ _ ?_
 rw [← h2]
 show some (V.bool (mbF _))=_
 rw [e]
 rfl
noncomputable def cxRunN (mb:InsR→Bool):Cx:={ cxRunG mb with tab:=(23,mayN mb) :: (ruT mb 4).tab }
noncomputable def runNE (mb:InsR→Bool) (nm:List UInt8):RunTy:=fun s a b c d m sz A B C D E=>(mfunR (cxRunN mb) Tryz.f10 [] [.agg s.l,insV nm a b c d m,.int .i64 sz,.ptr 0 0] (memO A B C D E)).fin
def topN1 (mb:InsR→Bool) (nm:List UInt8):RunTy:=fun s a b c d m _ A B C D E=>cond (!mb (nm,a,b,c,d,m)) (errK s 22 (memO A B C D E)) none
def topN (mb:InsR→Bool) (nm:List UInt8):RunTy:=fun s a b c d m sz A B C D E=>cond (sz != 2) (cond (sz != 4) (errK s 1 (memO A B C D E)) (topN1 mb nm s a b c d m sz A B C D E)) (topN1 mb nm s a b c d m sz A B C D E)
theorem runN_eq (mb:InsR→Bool) (nm:List UInt8):W1 (runNE mb nm)=W2 (topN mb nm):=by kernel_rfl
section
variable {ck:InsR→Int} {wd:Int→Int→Int × Int} (hc:Sound Tryz.prog 41 (ckP ck)) (hw:Sound Tryz.prog 159 (wdP wd))
include hc hw
theorem rgB_ok:(rgB ck wd).Ok Tryz.prog:=
 ⟨.cons hc (.cons hw (.cons (mhS_ok hw) (.cons quS_ok (.cons reS_ok (.cons flS_ok (.nil _)))))),.cons storeRf_ok (.nil _),.cons loadRf_ok (.nil _),fun p h=>by cases h⟩
theorem rgT_ok (d:Nat):(rgT ck wd d).Ok Tryz.prog:=deep_ok (rgB_ok hc hw) rgT_ps_ok rgT_ms_ok d
theorem runR_ok:MSound Tryz.prog 20 (mfunR (cxRg ck wd) Tryz.f20 []):=mfunR_ok (cx:=cxRg ck wd) (fn:=Tryz.f20) [] (rgT_ok hc hw 3) (by kernel_rfl) (by kernel_rfl)
end
def ckN (ck:InsR→Int):Ab.Spec:=fun args=>match args with
 | [.agg [.str nm,.int .i64 a,.int .i64 b,.int .i64 c,.int .i64 d,.int .i64 m]]=>.req (ck (nm,a,b,c,d,m) == 7) (.leaf (.int .i64 7))
 | _=>.fail
noncomputable def cxRgN (ck:InsR→Int) (wd:Int→Int→Int × Int):Cx:={ cxRg ck wd with tab:=(41,ckN ck) :: (rgT ck wd 3).tab }
noncomputable def runRN (ck:InsR→Int) (wd:Int→Int→Int × Int) (nm:List UInt8):RunTy:=fun s a b c d m sz A B C D E=>(mfunR (cxRgN ck wd) Tryz.f20 [] [.agg s.l,insV nm a b c d m,.int .i64 sz,.ptr 0 0] (refO A B C D E)).fin
def topGN1 (ck:InsR→Int) (nm:List UInt8):RunTy:=fun s a b c d m _ A B C D E=>cond (ck (nm,a,b,c,d,m) == 7) (errK s 22 (refO A B C D E)) none
def topGN (ck:InsR→Int) (nm:List UInt8):RunTy:=fun s a b c d m sz A B C D E=>cond (sz != 2) (cond (sz != 4) (errK s 1 (refO A B C D E)) (topGN1 ck nm s a b c d m sz A B C D E)) (topGN1 ck nm s a b c d m sz A B C D E)
theorem refN_eq (ck:InsR→Int) (wd:Int→Int→Int × Int) (nm:List UInt8):W1 (runRN ck wd nm)=W2 (topGN ck nm):=by kernel_rfl
theorem W_of {F G:RunTy} (h:W1 F=W2 G) {s:CpuT} (hs:s.x.length=32) (a b c d m sz:Int) (A B C D E:List Int):F s a b c d m sz A B C D E=G s a b c d m sz A B C D E:=by
 have h:=congrArg (fun f=>f s.pc (s.x.getD 0 0) (s.x.getD 1 0) (s.x.getD 2 0) (s.x.getD 3 0) (s.x.getD 4 0) (s.x.getD 5 0) (s.x.getD 6 0) (s.x.getD 7 0) (s.x.getD 8 0) (s.x.getD 9 0) (s.x.getD 10 0) (s.x.getD 11 0) (s.x.getD 12 0) (s.x.getD 13 0) (s.x.getD 14 0) (s.x.getD 15 0)
  (s.x.getD 16 0) (s.x.getD 17 0) (s.x.getD 18 0) (s.x.getD 19 0) (s.x.getD 20 0) (s.x.getD 21 0) (s.x.getD 22 0) (s.x.getD 23 0) (s.x.getD 24 0) (s.x.getD 25 0) (s.x.getD 26 0) (s.x.getD 27 0) (s.x.getD 28 0) (s.x.getD 29 0) (s.x.getD 30 0) (s.x.getD 31 0) s.th s.z s.n s.c s.v a b c d m sz A B C D E) h
 unfold W1 W2 at h
 rw [cpu_tab hs] at h
 exact h
end Go.Ra

namespace Go.Ra
open Go Go.Ab Go.Proofs
noncomputable def bgB:Tabs:=ruB mbF
noncomputable def bgT_ps:List Fi:=[⟨117,Tryz.f117,[0,2],[],0,[]⟩,⟨61,Tryz.f61,[0,1,4,5],[],0,[]⟩,⟨59,Tryz.f59,[0,2,3,4,5,6,8,10,12,14,16,18],[],0,[]⟩,⟨62,Tryz.f62,[0,2,3,4,5,7,9,11],[],0,[]⟩,⟨64,Tryz.f64,[0,1,2,6,7,8,9,14,19,26,33,38],[],0,[]⟩,⟨54,Tryz.f54,[0,1,2,6,7,8,9,15,20,26,32,38,45,52,61,70],[],0,[]⟩,⟨55,Tryz.f55,[0,1,2,6,7,8,9,16,22,30,40],[],0,[]⟩,⟨56,Tryz.f56,[0,1,2,6,7,8,10,13,14,17,18,19,24,29,34,43,54,65,74],[],0,[]⟩,⟨57,Tryz.f57,[0,1,2,6,7,8,9,10,13,14,17,24,25,31,41,51,65],[],0,[]⟩,⟨24,Tryz.f24,[0,1,2,6,7,9,10,11,12,13,14,15,26],[12],8,[]⟩,⟨122,Tryz.f122,[0,2],[],0,[]⟩,⟨66,Tryz.f66,[0,1,4,5,6],[],0,[]⟩]
theorem bgT_ps_ok:FisOk Tryz.prog bgT_ps:=⟨⟨by kernel_rfl,by kernel_rfl⟩,⟨by kernel_rfl,by kernel_rfl⟩,⟨by kernel_rfl,by kernel_rfl⟩,⟨by kernel_rfl,by kernel_rfl⟩,⟨by kernel_rfl,by kernel_rfl⟩,⟨by kernel_rfl,by kernel_rfl⟩,⟨by kernel_rfl,by kernel_rfl⟩,⟨by kernel_rfl,by kernel_rfl⟩,⟨by kernel_rfl,by kernel_rfl⟩,⟨by kernel_rfl,by kernel_rfl⟩,⟨by kernel_rfl,by kernel_rfl⟩,⟨by kernel_rfl,by kernel_rfl⟩,trivial⟩
noncomputable def bgT_ms:List Fi:=[⟨27,Tryz.f27,[0,2,3,4,5,6,7,8,9,10,11,40,52,53,74,93],[],0,[]⟩,⟨28,Tryz.f28,[0,2,3,4,5,6,7,45,46,65,66,86,107,123],[],0,[]⟩,⟨65,Tryz.f65,[0,1],[],0,[]⟩,⟨9,Tryz.f9,[0],[],0,[]⟩,⟨10,Tryz.f10,[0,1,2,3,4,5,8,9,10,11,12,13,14,15,16,24,29,51,52,66,88,99,101,111],[],0,[]⟩,⟨13,Tryz.f13,[0,1,2,4,5,6,7,8,9,10,19,28,31],[],0,[]⟩,⟨14,Tryz.f14,[0,1,2,6,7,8,9,15,17,18,19,33,45],[],12,[]⟩,⟨33,Tryz.f33,[0,2],[],0,[]⟩,⟨34,Tryz.f34,[0,1,2,3,8,9,10,11,12,14,27,33,53],[],4,[]⟩,⟨35,Tryz.f35,[0,1,4],[],0,[]⟩]
theorem bgT_ms_ok:FisOk Tryz.prog bgT_ms:=⟨⟨by kernel_rfl,by kernel_rfl⟩,⟨by kernel_rfl,by kernel_rfl⟩,⟨by kernel_rfl,by kernel_rfl⟩,⟨by kernel_rfl,by kernel_rfl⟩,⟨by kernel_rfl,by kernel_rfl⟩,⟨by kernel_rfl,by kernel_rfl⟩,⟨by kernel_rfl,by kernel_rfl⟩,⟨by kernel_rfl,by kernel_rfl⟩,⟨by kernel_rfl,by kernel_rfl⟩,⟨by kernel_rfl,by kernel_rfl⟩,trivial⟩
noncomputable def bgT (d:Nat):Tabs:=deep Tryz.prog bgB bgT_ps bgT_ms d
theorem bgT_ok (d:Nat):(bgT d).Ok Tryz.prog:=deep_ok (ruB_ok mayP_ok) bgT_ps_ok bgT_ms_ok d
noncomputable def cxB:Cx:={ P:=Tryz.prog,n:=Tryz.f8.ntmps,tab:=(bgT 6).tab,mtab:=(bgT 6).mtab,rtab:=(bgT 6).rtab,refs:=[],keeps:=[0,1,2,3,4,7],nums:=(bgT 6).nums }
theorem cxB_ok:CxOk cxB:=bgT_ok 6
noncomputable abbrev B10:Code:=bodyOf Tryz.f8
noncomputable def bgOps3:Array Oper:=regOps (c1 (tailN 3 B10))
noncomputable def bgOps4:Array Oper:=regOps (c1 (tailN 4 B10))
theorem bg_eq3:tailN 3 B10 = .seq (.region 4 bgOps3 true) (tailN 4 B10):=by kernel_rfl
theorem bg_eq4:tailN 4 B10 = .seq (.region 5 bgOps4 true) (tailN 5 B10):=by kernel_rfl
def bgC:O:=.cells (cpuL 100 (0 :: 11 :: List.replicate 30 0) false false false false 0) 26
def bgD:O:=.cells (cpuL 14 (0 :: 104 :: List.replicate 30 0) false false false false 0) 26
theorem bg_head:(dcode cxB (headN 3 B10) (initT 0 []) []).run.map (fun s=>(s.1,keep [1] s.2.1,s.2.2))=some (.normal,[(1,.ptr 0 0)],[bgC]):=by kernel_rfl
theorem bg_r3:(allOrds cxB bgOps3 ([(1,.ptr 0 0)],[bgC])).map (fun l=>l.map fun s=>dropS 1 (ordK [2] s.1) (.normal,keep [1,2,3,4] s.1,s.2)) =
  some (List.replicate 7 (some (.normal,[(1,.ptr 0 0),(2,.ptr 1 0),(3,.int .i64 0),(4,.int .i64 0)],[bgC,bgD]))):=by kernel_rfl
theorem bg_r4:(allOrds cxB bgOps4 ([(1,.ptr 0 0),(2,.ptr 1 0),(3,.int .i64 0),(4,.int .i64 0)],[bgC,bgD])).map (fun l=>l.map fun s=>dropS 2 (ordK [] s.1) (.normal,keep [2,3,4,7] s.1,s.2)) =
  some (List.replicate 7 (some (.normal,[(2,.ptr 1 0),(3,.int .i64 0),(4,.int .i64 0),(7,.int .i64 21)],[bgC,bgD]))):=by kernel_rfl
theorem bg_tail:((dcode cxB (tailN 5 B10) [(2,.ptr 1 0),(3,.int .i64 0),(4,.int .i64 0),(7,.int .i64 21)] [bgC,bgD]).bind (answer Tryz.prog Tryz.f8.results.toList)).run=some (.bool true):=by kernel_rfl
def begunS:Ab.Spec:=fun args=>match args with
 | []=>.leaf (.bool true)
 | _=>.fail
theorem begunS_ok:Sound Tryz.prog 8 begunS:=by
 intro args out h
 unfold begunS at h
 split at h
 rotate_left
 ·cases h
 cases h
 refine pcall_of' (c:=B10) (fn:=Tryz.f8) (by kernel_rfl) (by kernel_rfl) (by kernel_rfl) (by kernel_rfl) ?_
 refine AWP_headK (cx:=cxB) rfl rfl cxB_ok 3 [1] (by kernel_rfl) bg_head ?_
 rw [bg_eq3]
 refine AWP_seq (AWP_ordersPK (cx:=cxB) [2] [1,2,3,4] 7 rfl rfl cxB_ok bg_r3 ?_)
 show AWP _ _ _ _ _ _
 rw [bg_eq4]
 refine AWP_seq (AWP_ordersPK (cx:=cxB) [] [2,3,4,7] 7 rfl rfl cxB_ok bg_r4 ?_)
 show AWP _ _ _ _ _ _
 obtain ⟨s,h1,h2⟩:=bind_run bg_tail
 refine AWP_run (cx:=cxB) rfl rfl cxB_ok h1 ?_
 obtain ⟨e,t,H⟩:=s
 unfold answer at h2
 split at h2
 ·rename_i heq
  cases heq
  split at h2
  ·rename_i v hv
   cases h2
   exact ⟨.inl rfl,hv⟩
  ·cases h2
 ·rename_i heq
  cases heq
  split at h2
  ·rename_i v hv
   cases h2
   exact ⟨.inr rfl,hv⟩
  ·cases h2
 ·cases h2
end Go.Ra
