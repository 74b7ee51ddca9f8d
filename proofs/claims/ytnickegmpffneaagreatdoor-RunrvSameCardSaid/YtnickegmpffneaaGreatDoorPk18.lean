/-
  compact's Decode: what a row reads in a word, plainly. Conditions: none.
-/
import Derived.Test.YtnickegmpffneaaGreatDoorCm13
set_option linter.unusedVariables false
set_option linter.unusedSimpArgs false
namespace Go.Cmp
open Go Go.Ab Go.Proofs
def zeroI:InsT:=([],0,0,0,0,0)
def signI (x:RowT) (a b c n top:Int):InsT:=
 (x.1,a,b,c,0,cond (decide (x.2.2.1<0)) (cond (Int.fdiv n (2 ^ min (top - 1).toNat 64) != 0) (i64 (n - i64 (1*2 ^ min top.toNat 64))) n) n)
def readI (x:RowT) (w:Int):List FldT→Int→Int→Int→Int→Int→Int→InsT × Bool
 | [],_,a,b,c,n,top=>(signI x a b c n top,faultyF x (signI x a b c n top) == 0)
 | f :: r,left,a,b,c,n,top =>
  cond (f.2.1 == 0) (cond (takeF takeV f (left - f.1) w != i64 f.2.2.1) (zeroI,false) (readI x w r (left - f.1) a b c n top))
  (cond (f.2.1 == 97) (readI x w r (left - f.1) (takeF takeV f (left - f.1) w) b c n top)
  (cond (f.2.1 == 98) (readI x w r (left - f.1) a (takeF takeV f (left - f.1) w) c n top)
  (cond (f.2.1 == 99) (readI x w r (left - f.1) a b (takeF takeV f (left - f.1) w) n top)
  (readI x w r (left - f.1) a b c (or64 n (i64 (takeF takeV f (left - f.1) w*2 ^ min f.2.2.2.1.toNat 64))) (max top (f.2.2.2.1+f.1))))))
abbrev readV (p:InsT × Bool):V:=.tup [.agg (insL p.1),.bool p.2]
theorem signR_eq (x:RowT) (a b c n top:Int):signR x a b c n top=some (readV (signI x a b c n top,faultyF x (signI x a b c n top) == 0)):=by
 unfold signR signI finR
 cases decide (x.2.2.1<0) <;> cases (Int.fdiv n (2 ^ min (top - 1).toNat 64) != 0) <;> rfl
theorem readR_eq (x:RowT) (w:Int):∀ (fs:List FldT) (left a b c n top:Int),readR takeV x w fs left a b c n top=some (readV (readI x w fs left a b c n top))
 | [],left,a,b,c,n,top=>signR_eq x a b c n top
 | f :: r,left,a,b,c,n,top=>by
  have ih:=readR_eq x w r
  unfold readR readI
  simp only [ih]
  cases (f.2.1 == 0) <;> cases (f.2.1 == 97) <;> cases (f.2.1 == 98) <;> cases (f.2.1 == 99) <;> simp only [cond_true,cond_false]
  all_goals cases (takeF takeV f (left - f.1) w != i64 f.2.2.1) <;> rfl
def readX (x:RowT) (w:Int):InsT × Bool:=readI x w (flds x) 16 0 0 0 0 0
def readS:Ab.Spec:=fun args=>match args with
 | [.agg [.str n,.str b,.int .i64 lo,.int .i64 hi,.int .i64 by_,.str no,.str lg],.int .u16 w]=>.req (isRowB (n,b,lo,hi,by_,no,lg)) (.leaf (readV (readX (n,b,lo,hi,by_,no,lg) w)))
 | _=>.fail
theorem readS_ok:Sound Tryz.prog 201 readS:=by
 intro args out h
 unfold readS at h
 split at h
 rotate_left
 ·cases h
 rename_i n b lo hi by_ no lg w
 obtain ⟨h1,h⟩:=req_run h
 have h:=leaf_out h
 subst h
 have hw:=congrFun (congrFun (rd_all (isRowB_mem h1)) takeV) w
 unfold rdR rdO at hw
 exact pcall_fun' (cx:=cxRd (flds (n,b,lo,hi,by_,no,lg)) takeV) (fn:=Tryz.f201) (cxRd_ok _) (by kernel_rfl) (by kernel_rfl) rfl ((Tree.fin_run _).symm.trans (hw.trans (readR_eq _ _ _ _ _ _ _ _ _)))
end Go.Cmp

namespace Go.Cmp
open Go Go.Ab Go.Proofs
noncomputable def cx137:Cx:={ P:=Tryz.prog,n:=62,tab:=[(142,rowsS),(200,opS),(201,readS)],mtab:=[],refs:=[],keeps:=[0,1,4,5,6,7,9,10,11,12,22,42,43,44,45,51,58] }
def decodeRound (l:List rowE.ty) (w i:Int):Tree St:=
 let s1:=(tS (Prod.fst (List.getD l (Int.toNat i) (EC.dflt Go.Cmp.rowE))),tS (Prod.fst (Prod.snd (List.getD l (Int.toNat i) (EC.dflt Go.Cmp.rowE)))),tI (Prod.fst (Prod.snd (Prod.snd (List.getD l (Int.toNat i) (EC.dflt Go.Cmp.rowE))))),tI (Prod.fst (Prod.snd (Prod.snd (Prod.snd (List.getD l (Int.toNat i) (EC.dflt Go.Cmp.rowE)))))),tI (Prod.fst (Prod.snd (Prod.snd (Prod.snd (Prod.snd (List.getD l (Int.toNat i) (EC.dflt Go.Cmp.rowE))))))),tS (Prod.fst (Prod.snd (Prod.snd (Prod.snd (Prod.snd (Prod.snd (List.getD l (Int.toNat i) (EC.dflt Go.Cmp.rowE)))))))),Prod.snd (Prod.snd (Prod.snd (Prod.snd (Prod.snd (Prod.snd (List.getD l (Int.toNat i) (EC.dflt Go.Cmp.rowE)))))))); let s2:=(Prod.snd (List.getD l (Int.toNat i) (EC.dflt Go.Cmp.rowE))); let s3:=(Prod.snd (Prod.snd (Prod.fst (Go.Cmp.readX s1 w)))); let s4:=(Prod.snd (Prod.snd (Prod.snd s2))); let s5:=(Prod.fst (Go.Cmp.readX s1 w)); let s6:=(tS (Prod.fst (List.getD l (Int.toNat i) (EC.dflt Go.Cmp.rowE)))); let s7:=(tI (Prod.fst (Prod.snd (Prod.snd s2)))); let s8:=(Prod.snd (Prod.snd (Prod.snd s3))); let s9:=(Prod.fst (Prod.snd (Prod.snd s3))); let s10:=(Prod.snd (Go.Cmp.readX s1 w)); let s11:=(tS (Prod.fst (Prod.snd s4))); let s12:=(tI (Prod.fst (Prod.snd s2))); (.br (decide (i < ↑(List.length l))) (.br (inside i (List.length l)) (.br (Go.Cmp.isRowB s1) (.br (!Go.Cmp.opF s1 w) (.leaf (.normal,[(4,(.ptr 0 0)),(5,(.int .i64 0)),(6,(.int .i64 0)),(7,(.int .u16 w)),(9,(.ptr 1 0)),(42,(.sl (.prod [.str,.str,(.int .i64),(.int .i64),(.int .i64),.str,.str]) (l) ([]) Fl.full)),(43,(.int .i64 (↑(List.length l)))),(44,(.int .i64 (IntKind.wrap IntKind.i64 (i+1)))),(45,(.bool true)),(51,(.bool true))],[(.cells [(.str []),(.int .i64 0),(.int .i64 0),(.int .i64 0),(.int .i64 0),(.int .i64 0)] 35),(.cells [(.str s6),(.str (tS (Prod.fst s2))),(.int .i64 s12),(.int .i64 s7),(.int .i64 (tI (Prod.fst s4))),(.str s11),(.str (Prod.snd (Prod.snd s4)))] 91)])) (.br (Go.Cmp.isRowB s1) (.br s10 (.leaf (.ret,[(4,(.ptr 0 0)),(5,(.int .i64 2)),(6,(.int .i64 0)),(7,(.int .u16 w)),(9,(.ptr 1 0)),(10,(.ptr 2 0)),(11,(.bool s10)),(42,(.sl (.prod [.str,.str,(.int .i64),(.int .i64),(.int .i64),.str,.str]) (l) ([]) Fl.full)),(43,(.int .i64 (↑(List.length l)))),(44,(.int .i64 i)),(45,(.bool true)),(51,(.bool false)),(58,(.bool true))],[(.cells [(.str (Prod.fst s5)),(.int .i64 (Prod.fst (Prod.snd s5))),(.int .i64 (Prod.fst s3)),(.int .i64 (Prod.fst (Prod.snd s3))),(.int .i64 s9),(.int .i64 s8)] 35),(.cells [(.str s6),(.str (tS (Prod.fst s2))),(.int .i64 s12),(.int .i64 s7),(.int .i64 (tI (Prod.fst s4))),(.str s11),(.str (Prod.snd (Prod.snd s4)))] 91),(.cells [(.str (Prod.fst s5)),(.int .i64 (Prod.fst (Prod.snd s5))),(.int .i64 (Prod.fst s3)),(.int .i64 (Prod.fst (Prod.snd s3))),(.int .i64 s9),(.int .i64 s8)] 35)])) (.leaf (.normal,[(4,(.ptr 0 0)),(5,(.int .i64 0)),(6,(.int .i64 0)),(7,(.int .u16 w)),(9,(.ptr 1 0)),(10,(.ptr 2 0)),(11,(.bool s10)),(42,(.sl (.prod [.str,.str,(.int .i64),(.int .i64),(.int .i64),.str,.str]) (l) ([]) Fl.full)),(43,(.int .i64 (↑(List.length l)))),(44,(.int .i64 (IntKind.wrap IntKind.i64 (i+1)))),(45,(.bool true)),(51,(.bool false)),(58,(.bool false))],[(.cells [(.str []),(.int .i64 0),(.int .i64 0),(.int .i64 0),(.int .i64 0),(.int .i64 0)] 35),(.cells [(.str s6),(.str (tS (Prod.fst s2))),(.int .i64 s12),(.int .i64 s7),(.int .i64 (tI (Prod.fst s4))),(.str s11),(.str (Prod.snd (Prod.snd s4)))] 91),(.cells [(.str (Prod.fst s5)),(.int .i64 (Prod.fst (Prod.snd s5))),(.int .i64 (Prod.fst s3)),(.int .i64 (Prod.fst (Prod.snd s3))),(.int .i64 s9),(.int .i64 s8)] 35)]))) .fail)) .fail) .fail) (.leaf ((.exit 1),[(4,(.ptr 0 0)),(5,(.int .i64 0)),(6,(.int .i64 0)),(7,(.int .u16 w)),(42,(.sl (.prod [.str,.str,(.int .i64),(.int .i64),(.int .i64),.str,.str]) (l) ([]) Fl.full)),(43,(.int .i64 (↑(List.length l)))),(44,(.int .i64 i)),(45,(.bool false))],[(.cells [(.str []),(.int .i64 0),(.int .i64 0),(.int .i64 0),(.int .i64 0),(.int .i64 0)] 35)])))
theorem decodeRound_eq (l:List rowE.ty) (w i:Int):(dcode cx137 (cin (cin (c2 (c1 (c2 (c2 (c2 (bodyOf Tryz.f137)))))))) [(4,.ptr 0 0),(5,.int .i64 0),(6,.int .i64 0),(7,.int .u16 w),(42,.sl rowE l [] .full),(43,.int .i64 l.length),(44,.int .i64 i)] [.cells [.str [],.int .i64 0,.int .i64 0,.int .i64 0,.int .i64 0,.int .i64 0] 35]).run=(decodeRound l w i).run:=
 (show (dcode cx137 (cin (cin (c2 (c1 (c2 (c2 (c2 (bodyOf Tryz.f137)))))))) [(4,.ptr 0 0),(5,.int .i64 0),(6,.int .i64 0),(7,.int .u16 w),(42,.sl rowE l [] .full),(43,.int .i64 l.length),(44,.int .i64 i)] [.cells [.str [],.int .i64 0,.int .i64 0,.int .i64 0,.int .i64 0,.int .i64 0] 35]).run=(decodeRound l w i).out by kernel_rfl).trans (Tree.out_run _)
def decodeB (l sp:List Int) (fl:Fl) (at_:Int):Tree St:=
 (.br (decide (at_<0)) (.leaf (.ret,[(0,(.sl (.int .u8) (l) (sp) fl)),(1,(.int .i64 at_)),(4,(.ptr 0 0)),(5,(.int .i64 0)),(6,(.int .i64 5)),(12,(.bool true))],[(.cells [(.str []),(.int .i64 0),(.int .i64 0),(.int .i64 0),(.int .i64 0),(.int .i64 0)] 35)])) (.br (decide (↑(List.length l)<at_)) (.leaf (.ret,[(0,(.sl (.int .u8) (l) (sp) fl)),(1,(.int .i64 at_)),(4,(.ptr 0 0)),(5,(.int .i64 0)),(6,(.int .i64 5)),(12,(.bool true))],[(.cells [(.str []),(.int .i64 0),(.int .i64 0),(.int .i64 0),(.int .i64 0),(.int .i64 0)] 35)])) (.br (decide (IntKind.wrap IntKind.i64 (↑(List.length l) - at_)<2)) (.leaf (.ret,[(0,(.sl (.int .u8) (l) (sp) fl)),(1,(.int .i64 at_)),(4,(.ptr 0 0)),(5,(.int .i64 0)),(6,(.int .i64 2)),(12,(.bool false)),(22,(.bool true))],[(.cells [(.str []),(.int .i64 0),(.int .i64 0),(.int .i64 0),(.int .i64 0),(.int .i64 0)] 35)])) (.leaf (.normal,[(0,(.sl (.int .u8) (l) (sp) fl)),(1,(.int .i64 at_)),(4,(.ptr 0 0)),(5,(.int .i64 0)),(6,(.int .i64 0)),(12,(.bool false)),(22,(.bool false))],[(.cells [(.str []),(.int .i64 0),(.int .i64 0),(.int .i64 0),(.int .i64 0),(.int .i64 0)] 35)])))))
theorem decodeB_eq (l sp:List Int) (fl:Fl) (at_:Int):(dcode cx137 (c1 (c2 (bodyOf Tryz.f137))) [(0,.sl (.int .u8) l sp fl),(1,.int .i64 at_),(4,.ptr 0 0),(5,.int .i64 0),(6,.int .i64 0)] [.cells [.str [],.int .i64 0,.int .i64 0,.int .i64 0,.int .i64 0,.int .i64 0] 35]).run=(decodeB l sp fl at_).run:=
 (show (dcode cx137 (c1 (c2 (bodyOf Tryz.f137))) [(0,.sl (.int .u8) l sp fl),(1,.int .i64 at_),(4,.ptr 0 0),(5,.int .i64 0),(6,.int .i64 0)] [.cells [.str [],.int .i64 0,.int .i64 0,.int .i64 0,.int .i64 0,.int .i64 0] 35]).run=(decodeB l sp fl at_).out by kernel_rfl).trans (Tree.out_run _)
def decodeW (l sp:List Int) (fl:Fl) (at_:Int):Tree St:=
 (.br (inside at_ (List.length l)) (.br (inside (IntKind.wrap IntKind.i64 (at_+1)) (List.length l)) (.leaf (.normal,[(0,(.sl (.int .u8) (l) (sp) fl)),(1,(.int .i64 at_)),(4,(.ptr 0 0)),(5,(.int .i64 0)),(6,(.int .i64 0)),(7,(.int .u16 (IntKind.wrap IntKind.u16 ↑(BitVec.toNat (BitVec.ofInt 16 (IntKind.wrap IntKind.u16 (tI (List.getD l (Int.toNat at_) (tI (EC.dflt (EC.int IntKind.u8)))))) ||| BitVec.ofInt 16 (IntKind.wrap IntKind.u16 (IntKind.wrap IntKind.u16 (tI (List.getD l (Int.toNat (IntKind.wrap IntKind.i64 (at_+1))) (tI (EC.dflt (EC.int IntKind.u8)))))*2 ^ 8)))))))],[(.cells [(.str []),(.int .i64 0),(.int .i64 0),(.int .i64 0),(.int .i64 0),(.int .i64 0)] 35)])) .fail) .fail)
theorem decodeW_eq (l sp:List Int) (fl:Fl) (at_:Int):(dcode cx137 (c1 (c2 (c2 (bodyOf Tryz.f137)))) [(0,.sl (.int .u8) l sp fl),(1,.int .i64 at_),(4,.ptr 0 0),(5,.int .i64 0),(6,.int .i64 0)] [.cells [.str [],.int .i64 0,.int .i64 0,.int .i64 0,.int .i64 0,.int .i64 0] 35]).run=(decodeW l sp fl at_).run:=
 (show (dcode cx137 (c1 (c2 (c2 (bodyOf Tryz.f137)))) [(0,.sl (.int .u8) l sp fl),(1,.int .i64 at_),(4,.ptr 0 0),(5,.int .i64 0),(6,.int .i64 0)] [.cells [.str [],.int .i64 0,.int .i64 0,.int .i64 0,.int .i64 0,.int .i64 0] 35]).run=(decodeW l sp fl at_).out by kernel_rfl).trans (Tree.out_run _)
theorem cx137_ok:CxOk cx137:=cx1_ok (.cons rowsS_ok (.cons opS_ok (ok1 readS_ok))) (fun p h=>by cases h) rfl rfl
def dMatch (w:Int) (x:RowT):Bool:=opF x w && (readX x w).2
def drow (w:Int):Option RowT:=rowsL.find? (dMatch w)
def decI (w:Int):InsT:=match drow w with
 | some x=>(readX x w).1
 | none=>zeroI
def decOk (w:Int):Bool:=(drow w).isSome
def gb (l:List Int) (i:Int):Int:=IntKind.wrap .u16 (l.getD i.toNat 0)
def w2 (l:List Int) (at_:Int):Int:=or16 (gb l at_) (u16 (gb l (IntKind.wrap .i64 (at_+1))*2 ^ 8))
abbrev insO (i:InsT):O:=.cells (insL i) 35
theorem rowsL_len:rowsL.length=33:=by kernel_rfl
def decSt (w:Int) (i:{ i:Nat // i≤rowsL.length∧(rowsL.take i).find? (dMatch w)=none }):T × List O:=
 ([(4,.ptr 0 0),(5,.int .i64 0),(6,.int .i64 0),(7,.int .u16 w),(42,.sl rowE rowsL [] .full),(43,.int .i64 rowsL.length),(44,.int .i64 i.1)],[insO zeroI])
def decQ (w:Int) (e:AEx) (t:T) (H:List O):Prop:=
 (e = .ret∨e = .normal)∧answerV Tryz.prog Tryz.f137.results.toList H t=some (.tup [insV (decI w),.int .i64 (cond (decOk w) 2 0),.int .i64 (cond (decOk w) 0 22)])
theorem getD_mem {x:RowT} {l:List RowT} {i:Nat} (h:i<l.length):l.getD i x ∈ l:=by
 rw [List.getD,List.getElem?_eq_getElem h]
 exact List.getElem_mem h
theorem decode_loop (w:Int):AWP Tryz.prog 62 (c2 (c2 (c2 (bodyOf Tryz.f137)))) (decQ w) [(4,.ptr 0 0),(5,.int .i64 0),(6,.int .i64 0),(7,.int .u16 w)] [insO zeroI]:=by
 have e:c2 (c2 (c2 (bodyOf Tryz.f137))) = .seq (.seq (c1 (c1 (c2 (c2 (c2 (bodyOf Tryz.f137)))))) (.block 1 (.loop (cin (cin (c2 (c1 (c2 (c2 (c2 (bodyOf Tryz.f137))))))))))) (c2 (c2 (c2 (c2 (bodyOf Tryz.f137))))):=by kernel_rfl
 rw [e]
 have hlen:=rowsL_len
 refine AWP_seq (AWP_seq (AWP_run (cx:=cx137) rfl rfl cx137_ok (s:=(.normal,[(4,.ptr 0 0),(5,.int .i64 0),(6,.int .i64 0),(7,.int .u16 w),(42,.sl rowE rowsL [] .full),(43,.int .i64 33),(44,.int .i64 0)],[insO zeroI])) (by kernel_rfl) ?_))
 refine AWP_block ?_
 refine AWP.less (s:=(decSt w ⟨0,Nat.zero_le _,rfl⟩).1) (Fits.tle ⟨rfl,rfl,rfl,rfl,rfl,by kernel_rfl,rfl,trivial⟩) ?_
 refine AWP_rounds (cx:=cx137) (P:=Tryz.prog) (n:=62) rfl rfl cx137_ok (decSt w) (fun i=>33 - i.1) ?_ ⟨0,Nat.zero_le _,rfl⟩
 rintro ⟨i,hi,hnone⟩
 refine Tree.all_run_eq (decodeRound_eq rowsL w i) ?_
 have next:∀ (hlt:i<rowsL.length) (hp:dMatch w (rowsL.getD i zeroR)=false),(rowsL.take (i+1)).find? (dMatch w)=none:=fun hlt hp=>take_none hlt hnone hp
 have step:∀ (hlt:i<rowsL.length),V.int .i64 (IntKind.wrap .i64 ((i:Int)+1))=V.int .i64 ((i+1:Nat):Int):=fun hlt=>by
  rw [wrap_i64 (by omega) (by omega)]
  rfl
 refine ⟨fun hlt=>?_,fun hge=>?_⟩
 ·have hlt:i<rowsL.length:=Int.ofNat_lt.1 (of_decide_eq_true hlt)
  have hrow:isRowB (rowsL.getD i zeroR)=true:=isRowB_of (getD_mem hlt)
  refine ⟨fun hin=>⟨fun _=>⟨fun hm=>?_,fun hm=>⟨fun _=>⟨fun hw=>?_,fun hw=>?_⟩,fun h=>Bool.noConfusion (hrow.symm.trans h)⟩⟩,fun h=>Bool.noConfusion (hrow.symm.trans h)⟩,fun hin=>Bool.noConfusion ((inside_of (Int.natCast_nonneg i) (Int.ofNat_lt.2 hlt)).symm.trans hin)⟩
  ·have hp:dMatch w (rowsL.getD i zeroR)=false:=by
    unfold dMatch
    rw [show opF (rowsL.getD i zeroR) w=false from (Bool.not_eq_true' _).mp hm]
    rfl
   exact ⟨[],_,rfl,⟨i+1,hlt,next hlt hp⟩,by show 33 - (i+1)<33 - i; omega,Fits.tle ⟨rfl,rfl,rfl,rfl,rfl,rfl,step hlt,trivial⟩,rfl⟩
  ·have hp:dMatch w (rowsL.getD i zeroR)=true:=by
    unfold dMatch
    rw [show opF (rowsL.getD i zeroR) w=true from (Bool.not_eq_false' _).mp hm]
    exact hw
   have hf:drow w=some (rowsL.getD i zeroR):=take_some hlt hnone hp
   refine ⟨[],_,rfl,?_⟩
   refine ⟨.inl rfl,?_⟩
   have h1:decI w=(readX (rowsL.getD i zeroR) w).1:=by unfold decI; rw [hf]
   have h2:decOk w=true:=by unfold decOk; rw [hf]; rfl
   show answerV _ _ _ _=some _
   rw [h1,h2]
   kernel_rfl
  ·have hp:dMatch w (rowsL.getD i zeroR)=false:=by
    unfold dMatch
    rw [show opF (rowsL.getD i zeroR) w=true from (Bool.not_eq_false' _).mp hm]
    exact hw
   exact ⟨[],_,rfl,⟨i+1,hlt,next hlt hp⟩,by show 33 - (i+1)<33 - i; omega,Fits.tle ⟨rfl,rfl,rfl,rfl,rfl,rfl,step hlt,trivial⟩,rfl⟩
 ·have hge:¬ i<rowsL.length:=fun h=>of_decide_eq_false hge (Int.ofNat_lt.2 h)
  have hi' : i=rowsL.length:=by omega
  refine ⟨[],_,rfl,?_⟩
  show AWP _ _ _ _ _ _
  refine AWP.less (s:=[(4,.ptr 0 0),(5,.int .i64 0),(6,.int .i64 0),(7,.int .u16 w)]) (Fits.tle ⟨rfl,rfl,rfl,rfl,trivial⟩) ?_
  refine AWP_run (cx:=cx137) rfl rfl cx137_ok (s:=(.ret,[(4,.ptr 0 0),(5,.int .i64 0),(6,.int .i64 22),(7,.int .u16 w)],[insO zeroI])) (by kernel_rfl) ?_
  refine ⟨.inl rfl,?_⟩
  have hf:drow w=none:=by unfold drow; rw [← hnone,hi',List.take_length]
  have h1:decI w=zeroI:=by unfold decI; rw [hf]
  have h2:decOk w=false:=by unfold decOk; rw [hf]; rfl
  show answerV _ _ _ _=some _
  rw [h1,h2]
  kernel_rfl
def outOf (l:List Int) (at_:Int):Bool:=decide (at_<0) || decide ((l.length:Int)<at_)
def shortOf (l:List Int) (at_:Int):Bool:=decide (IntKind.wrap .i64 ((l.length:Int) - at_)<2)
def dI (l:List Int) (at_:Int):InsT:=cond (outOf l at_ || shortOf l at_) zeroI (decI (w2 l at_))
def dN (l:List Int) (at_:Int):Int:=cond (outOf l at_ || shortOf l at_) 0 (cond (decOk (w2 l at_)) 2 0)
def dE (l:List Int) (at_:Int):Int:=cond (outOf l at_) 5 (cond (shortOf l at_) 2 (cond (decOk (w2 l at_)) 0 22))
set_option maxRecDepth 8000 in
theorem decode_ok (l sp:List Int) (fl:Fl) (at_:Int) (hl:l.length<1000000000) :
  PCall Tryz.prog 137 [.sl (.int .u8) l sp fl,.int .i64 at_] (.tup [insV (dI l at_),.int .i64 (dN l at_),.int .i64 (dE l at_)]):=by
 refine pcall_of' (c:=bodyOf Tryz.f137) (fn:=Tryz.f137) (by kernel_rfl) (by kernel_rfl) (by kernel_rfl) (by kernel_rfl) ?_
 have e:bodyOf Tryz.f137 = .seq (c1 (bodyOf Tryz.f137)) (.seq (c1 (c2 (bodyOf Tryz.f137))) (.seq (c1 (c2 (c2 (bodyOf Tryz.f137)))) (c2 (c2 (c2 (bodyOf Tryz.f137)))))):=by kernel_rfl
 rw [e]
 generalize hQ:(fun e t H=>(e=AEx.ret∨e = .normal)∧answerV Tryz.prog Tryz.f137.results.toList H t=some (.tup [insV (dI l at_),.int .i64 (dN l at_),.int .i64 (dE l at_)]))=Q
 refine AWP_seq (AWP_run (cx:=cx137) rfl rfl cx137_ok (s:=(.normal,[(0,.sl (.int .u8) l sp fl),(1,.int .i64 at_),(4,.ptr 0 0),(5,.int .i64 0),(6,.int .i64 0)],[insO zeroI])) (by kernel_rfl) ?_)
 refine AWP_seq (AWP_code (cx:=cx137) rfl rfl cx137_ok _ _ _ _ (Tree.all_run_eq (decodeB_eq l sp fl at_) ?_))
 have out1:outOf l at_=true→dI l at_=zeroI∧dN l at_=0∧dE l at_=5:=fun h=>by simp [dI,dN,dE,h]
 refine ⟨fun h1=>?_,fun h1=>⟨fun h2=>?_,fun h2=>⟨fun h3=>?_,fun h3=>?_⟩⟩⟩
 ·obtain ⟨a1,a2,a3⟩:=out1 (by unfold outOf; rw [h1]; rfl)
  subst hQ
  refine ⟨.inl rfl,?_⟩
  show answerV _ _ _ _=some _
  rw [a1,a2,a3]
  kernel_rfl
 ·obtain ⟨a1,a2,a3⟩:=out1 (by unfold outOf; rw [h1,h2]; rfl)
  subst hQ
  refine ⟨.inl rfl,?_⟩
  show answerV _ _ _ _=some _
  rw [a1,a2,a3]
  kernel_rfl
 ·have ho:outOf l at_=false:=by unfold outOf; rw [h1,h2]; rfl
  have hs:shortOf l at_=true:=h3
  have a1:dI l at_=zeroI:=by simp [dI,ho,hs]
  have a2:dN l at_=0:=by simp [dN,ho,hs]
  have a3:dE l at_=2:=by simp [dE,ho,hs]
  subst hQ
  refine ⟨.inl rfl,?_⟩
  show answerV _ _ _ _=some _
  rw [a1,a2,a3]
  kernel_rfl
 ·have ho:outOf l at_=false:=by unfold outOf; rw [h1,h2]; rfl
  have hs:shortOf l at_=false:=h3
  have a1:dI l at_=decI (w2 l at_):=by simp [dI,ho,hs]
  have a2:dN l at_=cond (decOk (w2 l at_)) 2 0:=by simp [dN,ho,hs]
  have a3:dE l at_=cond (decOk (w2 l at_)) 0 22:=by simp [dE,ho,hs]
  have g1:¬ at_<0:=of_decide_eq_false h1
  have g2:¬ (l.length:Int)<at_:=of_decide_eq_false h2
  have g3:¬ IntKind.wrap .i64 ((l.length:Int) - at_)<2:=of_decide_eq_false h3
  rw [wrap_i64 (by omega) (by omega)] at g3
  show AWP _ _ _ _ _ _
  refine AWP.less (s:=[(0,.sl (.int .u8) l sp fl),(1,.int .i64 at_),(4,.ptr 0 0),(5,.int .i64 0),(6,.int .i64 0)]) (Fits.tle ⟨rfl,rfl,rfl,rfl,rfl,trivial⟩) ?_
  refine AWP_seq (AWP_code (cx:=cx137) rfl rfl cx137_ok _ _ _ _ (Tree.all_run_eq (decodeW_eq l sp fl at_) ?_))
  have i0:inside at_ l.length=true:=inside_of (by omega) (by omega)
  have i1:inside (IntKind.wrap .i64 (at_+1)) l.length=true:=by rw [wrap_i64 (by omega) (by omega)]; exact inside_of (by omega) (by omega)
  refine ⟨fun _=>⟨fun _=>?_,fun h=>Bool.noConfusion (i1.symm.trans h)⟩,fun h=>Bool.noConfusion (i0.symm.trans h)⟩
  show AWP _ _ _ _ _ _
  refine AWP.less (s:=[(4,.ptr 0 0),(5,.int .i64 0),(6,.int .i64 0),(7,.int .u16 (w2 l at_))]) (Fits.tle ⟨rfl,rfl,rfl,by kernel_rfl,trivial⟩) ?_
  subst hQ
  rw [a1,a2,a3]
  exact decode_loop (w2 l at_)
def decodeS:Ab.Spec:=fun args=>match args with
 | [.sl (.int .u8) l _ _,.int .i64 at_]=>.req (decide (l.length<1000000000)) (.leaf (.tup [insV (dI l at_),.int .i64 (dN l at_),.int .i64 (dE l at_)]))
 | _=>.fail
theorem decodeS_ok:Sound Tryz.prog 137 decodeS:=by
 intro args out h
 unfold decodeS at h
 split at h
 rotate_left
 ·cases h
 rename_i l sp fl at_
 obtain ⟨h1,h2⟩:=req_run h
 simp only [Tree.run,Option.some.injEq] at h2
 subst h2
 exact decode_ok l sp fl at_ (of_decide_eq_true h1)
end Go.Cmp

namespace Go.Cmp
open Go Go.Ab Go.Proofs
abbrev LongT:=List UInt8 × (Int × Int) × (Int × Int) × (Int × Int) × Bool
def longL:List (List UInt8 × LongT):=[
 ([99,46,97,100,100,105,52,115,112,110],([97,100,100,105],(1,0),(0,2),(0,0),true)),
 ([99,46,108,119],([108,119],(1,0),(2,0),(0,0),true)),
 ([99,46,108,100],([108,100],(1,0),(2,0),(0,0),true)),
 ([99,46,115,119],([115,119],(0,0),(2,0),(3,0),true)),
 ([99,46,115,100],([115,100],(0,0),(2,0),(3,0),true)),
 ([99,46,110,111,112],([97,100,100,105],(0,0),(0,0),(0,0),false)),
 ([99,46,97,100,100,105],([97,100,100,105],(1,0),(1,0),(0,0),true)),
 ([99,46,97,100,100,105,119],([97,100,100,105,119],(1,0),(1,0),(0,0),true)),
 ([99,46,108,105],([97,100,100,105],(1,0),(0,0),(0,0),true)),
 ([99,46,97,100,100,105,49,54,115,112],([97,100,100,105],(0,2),(0,2),(0,0),true)),
 ([99,46,108,117,105],([108,117,105],(1,0),(0,0),(0,0),true)),
 ([99,46,115,114,108,105],([115,114,108,105],(1,0),(1,0),(0,0),true)),
 ([99,46,115,114,97,105],([115,114,97,105],(1,0),(1,0),(0,0),true)),
 ([99,46,97,110,100,105],([97,110,100,105],(1,0),(1,0),(0,0),true)),
 ([99,46,115,117,98],([115,117,98],(1,0),(1,0),(3,0),false)),
 ([99,46,120,111,114],([120,111,114],(1,0),(1,0),(3,0),false)),
 ([99,46,111,114],([111,114],(1,0),(1,0),(3,0),false)),
 ([99,46,97,110,100],([97,110,100],(1,0),(1,0),(3,0),false)),
 ([99,46,115,117,98,119],([115,117,98,119],(1,0),(1,0),(3,0),false)),
 ([99,46,97,100,100,119],([97,100,100,119],(1,0),(1,0),(3,0),false)),
 ([99,46,106],([106,97,108],(0,0),(0,0),(0,0),true)),
 ([99,46,98,101,113,122],([98,101,113],(0,0),(2,0),(0,0),true)),
 ([99,46,98,110,101,122],([98,110,101],(0,0),(2,0),(0,0),true)),
 ([99,46,115,108,108,105],([115,108,108,105],(1,0),(1,0),(0,0),true)),
 ([99,46,108,119,115,112],([108,119],(1,0),(0,2),(0,0),true)),
 ([99,46,108,100,115,112],([108,100],(1,0),(0,2),(0,0),true)),
 ([99,46,106,114],([106,97,108,114],(0,0),(2,0),(0,0),false)),
 ([99,46,106,97,108,114],([106,97,108,114],(0,1),(2,0),(0,0),false)),
 ([99,46,109,118],([97,100,100],(1,0),(0,0),(3,0),false)),
 ([99,46,97,100,100],([97,100,100],(1,0),(1,0),(3,0),false)),
 ([99,46,101,98,114,101,97,107],([101,98,114,101,97,107],(0,0),(0,0),(0,0),false)),
 ([99,46,115,119,115,112],([115,119],(0,0),(0,2),(3,0),true)),
 ([99,46,115,100,115,112],([115,100],(0,0),(0,2),(3,0),true))]
def longs (x:RowT):LongT:=((longL.find? fun p=>p.1 == x.1).map (·.2)).getD ([],(0,0),(0,0),(0,0),false)
def selF (p:Int × Int) (i:InsT):Int:=cond (p.1 == 1) i.2.1 (cond (p.1 == 2) i.2.2.1 (cond (p.1 == 3) i.2.2.2.1 p.2))
def wideF (t:LongT) (i:InsT):InsT:=(t.1,selF t.2.1 i,selF t.2.2.1 i,selF t.2.2.2.1 i,0,cond t.2.2.2.2 i.2.2.2.2.2 0)
def tokL:List (List UInt8 × (Int × Int)):=[([65],(1,0)),([66],(2,0)),([67],(3,0)),([48],(0,0)),([49],(0,1)),([50],(0,2))]
noncomputable def cxV:Cx:={ P:=Tryz.prog,n:=25,tab:=[(89,atoiS)],mtab:=[],refs:=[],keeps:=[0,1,3,4,6,7,11,15] }
theorem cxV_ok:CxOk cxV:=cx1_ok (ok1 atoiS_ok) (fun p h=>by cases h) rfl rfl
noncomputable def tokR (p:List UInt8 × (Int × Int)) (i:InsT):Option (V × List O):=mfunD cxV Tryz.f91 [.str p.1,.ptr 0 0] [insO i] []
def tokO (p:List UInt8 × (Int × Int)) (i:InsT):Option (V × List O):=some (.int .i64 (selF p.2 i),[insO i])
theorem tok_all:tokL.map tokR=tokL.map tokO:=by kernel_rfl
def valueR:RSpec:=fun args H=>match args,H with
 | [.str t,.ptr 0 0],[.cells [.str nm,.int .i64 a,.int .i64 b,.int .i64 c,.int .i64 d,.int .i64 n] 35]=>match tokL.find? (fun p=>p.1 == t) with
  | some p=>.leaf (.int .i64 (selF p.2 (nm,a,b,c,d,n)))
  | none=>.fail
 | _,_=>.fail
theorem valueR_ok:RSound Tryz.prog 91 valueR:=by
 intro args H out h
 unfold valueR at h
 split at h
 rotate_left
 ·cases h
 rename_i t nm a b c d n
 cases hf:tokL.find? (fun p=>p.1 == t) with
 | none=>rw [hf] at h; cases h
 | some p =>
  rw [hf] at h
  cases h
  have he:p.1=t:=by simpa using List.find?_some hf
  subst he
  have hw:=congrFun (of_map tok_all (List.mem_of_find?_eq_some hf)) (nm,a,b,c,d,n)
  unfold tokR tokO at hw
  exact mcall_funD (cx:=cxV) (fn:=Tryz.f91) [] cxV_ok (by kernel_rfl) (by kernel_rfl) (by kernel_rfl) (by kernel_rfl) hw
noncomputable def cxWd:Cx:={ P:=Tryz.prog,n:=39,tab:=[(87,wordsS)],mtab:=[],rtab:=[(91,valueR)],refs:=[],keeps:=[0,1,2,3,4,5,6,7,34] }
theorem cxWd_ok:CxOk cxWd:=⟨ok1 wordsS_ok,(fun p h=>by cases h),.cons valueR_ok (.nil _),fun p h=>by cases h⟩
noncomputable def wideR (p:RowT × LongT) (i:InsT):Option V:=(dfun cxWd Tryz.f40 [.agg (rowL p.1),.agg (insL i)]).fin
def wideO (p:RowT × LongT) (i:InsT):Option V:=some (insV (wideF p.2 i))
def pairsW:List (RowT × LongT):=rowsL.zip (longL.map (·.2))
theorem pairsW_eq:(rowsL.map fun x=>(x,longs x))=pairsW:=by kernel_rfl
theorem pairsW_mem {x:RowT} (hx:x ∈ rowsL):(x,longs x) ∈ pairsW:=by
 rw [← pairsW_eq]
 exact List.mem_map_of_mem hx
def partL (k:Nat):List (RowT × LongT):=(pairsW.drop (6*k)).take 6
theorem wide_0:(partL 0).map wideR=(partL 0).map wideO:=by kernel_rfl
theorem wide_1:(partL 1).map wideR=(partL 1).map wideO:=by kernel_rfl
theorem wide_2:(partL 2).map wideR=(partL 2).map wideO:=by kernel_rfl
theorem wide_3:(partL 3).map wideR=(partL 3).map wideO:=by kernel_rfl
theorem wide_4:(partL 4).map wideR=(partL 4).map wideO:=by kernel_rfl
theorem wide_5:(partL 5).map wideR=(partL 5).map wideO:=by kernel_rfl
theorem pairsW_len:pairsW.length≤36:=by
 have h:rowsL.length=33:=by kernel_rfl
 rw [← pairsW_eq,List.length_map]
 omega
theorem wide_all {x:RowT} (hx:x ∈ rowsL):wideR (x,longs x)=wideO (x,longs x):=
 six_all (l:=pairsW) pairsW_len (fun k hk=>match k,hk with
  | 0,_=>wide_0
  | 1,_=>wide_1
  | 2,_=>wide_2
  | 3,_=>wide_3
  | 4,_=>wide_4
  | 5,_=>wide_5) (pairsW_mem hx)
def wideS:Ab.Spec:=fun args=>match args with
 | [.agg [.str n,.str b,.int .i64 lo,.int .i64 hi,.int .i64 by_,.str no,.str lg],.agg [.str nm,.int .i64 ia,.int .i64 ib,.int .i64 ic,.int .i64 id,.int .i64 im]] =>
  .req (isRowB (n,b,lo,hi,by_,no,lg)) (.leaf (insV (wideF (longs (n,b,lo,hi,by_,no,lg)) (nm,ia,ib,ic,id,im))))
 | _=>.fail
theorem wideS_ok:Sound Tryz.prog 40 wideS:=by
 intro args out h
 unfold wideS at h
 split at h
 rotate_left
 ·cases h
 rename_i n b lo hi by_ no lg nm ia ib ic id im
 obtain ⟨h1,h⟩:=req_run h
 have h:=leaf_out h
 subst h
 have hw:=congrFun (wide_all (isRowB_mem h1)) (nm,ia,ib,ic,id,im)
 unfold wideR wideO at hw
 exact pcall_fun' (cx:=cxWd) (fn:=Tryz.f40) cxWd_ok (by kernel_rfl) (by kernel_rfl) rfl ((Tree.fin_run _).symm.trans hw)
end Go.Cmp

namespace Go.Cmp
open Go Go.Ab Go.Proofs
noncomputable def cx17:Cx:={ P:=Tryz.prog,n:=18,tab:=[(37,chkS),(40,wideS)],mtab:=[],refs:=[],keeps:=[0,1,2,3,4,5,12] }
def wideT (nm:List UInt8) (a b c d n:Int):Tree V:=
 let s1:=(Prod.fst (Go.Cmp.frow nm),Prod.fst (Prod.snd (Go.Cmp.frow nm)),Prod.fst (Prod.snd (Prod.snd (Go.Cmp.frow nm))),Prod.fst (Prod.snd (Prod.snd (Prod.snd (Go.Cmp.frow nm)))),Prod.fst (Prod.snd (Prod.snd (Prod.snd (Prod.snd (Go.Cmp.frow nm))))),Prod.fst (Prod.snd (Prod.snd (Prod.snd (Prod.snd (Prod.snd (Go.Cmp.frow nm)))))),Prod.snd (Prod.snd (Prod.snd (Prod.snd (Prod.snd (Prod.snd (Go.Cmp.frow nm))))))); let s2:=(Go.Cmp.wideF (Go.Cmp.longs s1) (nm,a,b,c,d,n)); let s3:=(Prod.snd (Prod.snd (Prod.snd s2))); (.br (Go.Cmp.encE (nm,a,b,c,d,n) != 0) (.leaf (.tup [(.agg [(.str []),(.int .i64 0),(.int .i64 0),(.int .i64 0),(.int .i64 0),(.int .i64 0)]),(.int .i64 (Go.Cmp.encE (nm,a,b,c,d,n)))])) (.br (Go.Cmp.isRowB s1) (.leaf (.tup [(.agg [(.str (Prod.fst s2)),(.int .i64 (Prod.fst (Prod.snd s2))),(.int .i64 (Prod.fst (Prod.snd (Prod.snd s2)))),(.int .i64 (Prod.fst s3)),(.int .i64 (Prod.fst (Prod.snd s3))),(.int .i64 (Prod.snd (Prod.snd s3)))]),(.int .i64 0)])) .fail))
theorem wideT_eq (nm:List UInt8) (a b c d n:Int):(dfun cx17 Tryz.f17 [.agg [.str nm,.int .i64 a,.int .i64 b,.int .i64 c,.int .i64 d,.int .i64 n]]).run=(wideT nm a b c d n).run:=
 (show (dfun cx17 Tryz.f17 [.agg [.str nm,.int .i64 a,.int .i64 b,.int .i64 c,.int .i64 d,.int .i64 n]]).run=(wideT nm a b c d n).out by kernel_rfl).trans (Tree.out_run _)
def wideA (i:InsT):InsT:=cond (encE i == 0) (wideF (longs (frow i.1)) i) zeroI
def wideAS:Ab.Spec:=fun args=>match args with
 | [.agg [.str nm,.int .i64 a,.int .i64 b,.int .i64 c,.int .i64 d,.int .i64 n]]=>.leaf (.tup [insV (wideA (nm,a,b,c,d,n)),.int .i64 (encE (nm,a,b,c,d,n))])
 | _=>.fail
theorem wideAS_ok:Sound Tryz.prog 17 wideAS:=by
 intro args out h
 unfold wideAS at h
 split at h
 rotate_left
 ·cases h
 rename_i nm a b c d n
 have h:=leaf_out h
 subst h
 refine pcall_fun' (cx:=cx17) (fn:=Tryz.f17) (cx1_ok (.cons chkS_ok (ok1 wideS_ok)) (fun p h=>by cases h) rfl rfl) (by kernel_rfl) (by kernel_rfl) rfl ((wideT_eq nm a b c d n).trans ?_)
 unfold wideT wideA
 rw [br_run]
 unfold bne
 cases he:(encE (nm,a,b,c,d,n) == 0)
 ·rfl
 ·have hE:=eq_of_beq he
  have hrow:isRowB (frow nm)=true:=isRowB_of (frow_mem (enc_parts hE).1).1
  rw [hE]
  show (Tree.br (isRowB (frow nm)) _ _).run=_
  exact (br_t hrow).trans rfl
end Go.Cmp

namespace Go.Cmp
open Go Go.Ab
theorem wrap_u16 (n:Int):IntKind.wrap .u16 n=n % 65536:=by
 simp [IntKind.wrap,IntKind.bits,IntKind.signed]
theorem wrap_u8 (n:Int):IntKind.wrap .u8 n=n % 256:=by
 simp [IntKind.wrap,IntKind.bits,IntKind.signed]
theorem ofInt16_cast {m:Nat} (h:m<2 ^ 16):(BitVec.ofInt 16 (m:Int)).toNat=m:=by
 rw [BitVec.toNat_ofInt]
 omega
theorem or16_cast {a b:Nat} (ha:a<2 ^ 16) (hb:b<2 ^ 16):or16 (a:Int) (b:Int)=((a ||| b:Nat):Int):=by
 unfold or16
 rw [wrap_u16,BitVec.toNat_or,ofInt16_cast ha,ofInt16_cast hb]
 have:a ||| b<2 ^ 16:=Nat.or_lt_two_pow ha hb
 omega
theorem and16_cast {a b:Nat} (ha:a<2 ^ 16) (hb:b<2 ^ 16):and16 (a:Int) (b:Int)=((a &&& b:Nat):Int):=by
 unfold and16
 rw [wrap_u16,BitVec.toNat_and,ofInt16_cast ha,ofInt16_cast hb]
 have:a &&& b<2 ^ 16:=Nat.and_lt_two_pow _ hb
 omega
def wd (f:FldT):Nat:=f.1.toNat
def sumB:List FldT→Nat
 | []=>0
 | f :: r=>wd f+sumB r
def catF:List FldT→List Int→Int→Int
 | f :: fs,v :: vs,w=>catF fs vs (w*2 ^ wd f+v)
 | _,_,w=>w
def InR:List FldT→List Int→Prop
 | [],[]=>True
 | f :: fs,v :: vs=>(0≤v∧v<2 ^ wd f)∧InR fs vs
 | _,_=>False
def takesF (w:Int):List FldT→List Int
 | []=>[]
 | f :: r=>w / 2 ^ sumB r % 2 ^ wd f :: takesF w r
def fOk (f:FldT):Bool:=decide (1≤f.1) && (decide (f.1≤5) && (decide (0≤f.2.2.1) && decide (f.2.2.1<2 ^ wd f)))
theorem pow_pos' (k:Nat):(0:Int)<2 ^ k:=Int.pow_pos (by omega)
theorem div_pow (w:Int) (a b:Nat):w / 2 ^ (a+b)=w / 2 ^ b / 2 ^ a:=by
 rw [Int.pow_add,Int.mul_comm,Int.ediv_ediv_of_nonneg (Int.le_of_lt (pow_pos' b))]
theorem catF_div:∀ {fs:List FldT} {vs:List Int} {w:Int},InR fs vs→catF fs vs w / 2 ^ sumB fs=w
 | [],[],w,_=>by simp [catF,sumB]
 | f :: fs,v :: vs,w,h=>by
  obtain ⟨⟨h1,h2⟩,h3⟩:=h
  show catF fs vs (w*2 ^ wd f+v) / 2 ^ (wd f+sumB fs)=w
  rw [div_pow,catF_div h3,Int.add_comm,Int.add_mul_ediv_right _ _ (Int.ne_of_gt (pow_pos' _)),Int.ediv_eq_zero_of_lt h1 h2]
  omega
theorem takes_cat:∀ {fs:List FldT} {vs:List Int} {w:Int},InR fs vs→takesF (catF fs vs w) fs=vs
 | [],[],w,_=>rfl
 | f :: fs,v :: vs,w,h=>by
  obtain ⟨⟨h1,h2⟩,h3⟩:=h
  show catF fs vs (w*2 ^ wd f+v) / 2 ^ sumB fs % 2 ^ wd f :: takesF (catF fs vs (w*2 ^ wd f+v)) fs=v :: vs
  rw [catF_div h3,takes_cat h3,Int.add_comm,Int.add_mul_emod_self_right,Int.emod_eq_of_lt h1 h2]
theorem takes_in (w:Int):∀ (fs:List FldT),InR fs (takesF w fs)
 | []=>trivial
 | _ :: r=>⟨⟨Int.emod_nonneg _ (Int.ne_of_gt (pow_pos' _)),Int.emod_lt_of_pos _ (pow_pos' _)⟩,takes_in w r⟩
theorem cat_takes (w:Int):∀ (fs:List FldT),catF fs (takesF w fs) (w / 2 ^ sumB fs)=w
 | []=>by simp [catF,sumB]
 | f :: r=>by
  show catF r (takesF w r) (w / 2 ^ (wd f+sumB r)*2 ^ wd f+w / 2 ^ sumB r % 2 ^ wd f)=w
  rw [div_pow,Int.mul_comm,Int.mul_ediv_add_emod]
  exact cat_takes w r
theorem catF_rng:∀ {fs:List FldT} {vs:List Int} {w:Int} {k:Nat},InR fs vs→0≤w→w<2 ^ k→0≤catF fs vs w∧catF fs vs w<2 ^ (k+sumB fs)
 | [],[],w,k,_,h0,h1=>⟨h0,h1⟩
 | f :: fs,v :: vs,w,k,h,h0,h1=>by
  obtain ⟨⟨h2,h3⟩,h4⟩:=h
  have p:=pow_pos' (wd f)
  have a1:0≤w*2 ^ wd f:=Int.mul_nonneg h0 (Int.le_of_lt p)
  have a2:w*2 ^ wd f+v<2 ^ (k+wd f):=by
   rw [Int.pow_add]
   have:(w+1)*2 ^ wd f≤2 ^ k*2 ^ wd f:=Int.mul_le_mul_of_nonneg_right (by omega) (Int.le_of_lt p)
   rw [Int.add_mul,Int.one_mul] at this
   omega
  have:=catF_rng (k:=k+wd f) h4 (by omega:0≤w*2 ^ wd f+v) a2
  show 0≤catF fs vs (w*2 ^ wd f+v)∧catF fs vs (w*2 ^ wd f+v)<2 ^ (k+(wd f+sumB fs))
  rw [← Nat.add_assoc]
  exact this
theorem fOk_spec {f:FldT} (h:fOk f=true):(f.1=((wd f:Nat):Int)∧1≤wd f∧wd f≤5)∧0≤f.2.2.1∧f.2.2.1<2 ^ wd f:=by
 simp only [fOk,Bool.and_eq_true,decide_eq_true_eq] at h
 obtain ⟨h1,h2,h3,h4⟩:=h
 unfold wd at *
 refine ⟨⟨?_,?_,?_⟩,h3,h4⟩ <;> omega
theorem mask_eq {k:Nat} (h1:1≤k) (h5:k≤5):mask16 (k:Int)=((2 ^ k - 1:Nat):Int):=by
 have:k=1∨k=2∨k=3∨k=4∨k=5:=by omega
 rcases this with h | h | h | h | h <;> subst h <;> decide
theorem and_mask {n:Int} {k:Nat} (h1:1≤k) (h5:k≤5):and16 (n % 65536) (mask16 (k:Int))=n % 2 ^ k:=by
 rw [mask_eq h1 h5]
 obtain ⟨m,hm⟩:=Int.eq_ofNat_of_zero_le (Int.emod_nonneg n (by decide:(65536:Int) ≠ 0))
 have hlt:=Int.emod_lt_of_pos n (by decide:(0:Int)<65536)
 rw [hm] at hlt ⊢
 have hp:(2:Nat) ^ k≤2 ^ 5:=Nat.pow_le_pow_right (by omega) h5
 rw [and16_cast (by omega) (by omega),Nat.and_two_pow_sub_one_eq_mod]
 have:n % 2 ^ k=(n % 65536) % 2 ^ k:=by
  refine (Int.emod_emod_of_dvd _ ?_).symm
  exact ⟨2 ^ (16 - k),by rw [← Int.pow_add,show k+(16 - k)=16 by omega]; rfl⟩
 rw [this,hm]
 simp
theorem and_wrap {n:Int} {k:Nat} (h1:1≤k) (h5:k≤5):and16 (u16 n) (mask16 (k:Int))=n % 2 ^ k:=by
 unfold u16
 rw [wrap_u16]
 exact and_mask h1 h5
theorem valF_of {f:FldT} (h:fOk f=true) (i:InsT):valF f i=cond (f.2.1 == 0) f.2.2.1 (srcF f i % 2 ^ wd f):=by
 obtain ⟨⟨h1,h2,h3⟩,_,_⟩:=fOk_spec h
 unfold valF
 rw [h1,and_wrap h2 h3]
theorem valF_rng {f:FldT} (h:fOk f=true) (i:InsT):0≤valF f i∧valF f i<2 ^ wd f:=by
 obtain ⟨_,g1,g2⟩:=fOk_spec h
 rw [valF_of h]
 cases f.2.1 == 0
 ·exact ⟨Int.emod_nonneg _ (Int.ne_of_gt (pow_pos' _)),Int.emod_lt_of_pos _ (pow_pos' _)⟩
 ·exact ⟨g1,g2⟩
theorem vals_in (i:InsT):∀ {fs:List FldT},fs.all fOk=true→InR fs (fs.map fun f=>valF f i)
 | [],_=>trivial
 | f :: r,h=>by
  rw [List.all_cons,Bool.and_eq_true] at h
  exact ⟨valF_rng h.1 i,vals_in i h.2⟩
theorem or_add {w v:Int} {b:Nat} (w0:0≤w) (w1:w*2 ^ b<65536) (v0:0≤v) (v1:v<2 ^ b) (hb:b≤5):or16 (u16 (w*2 ^ min b 16)) v=w*2 ^ b+v:=by
 rw [Nat.min_eq_left (by omega)]
 obtain ⟨n,rfl⟩:=Int.eq_ofNat_of_zero_le w0
 obtain ⟨m,rfl⟩:=Int.eq_ofNat_of_zero_le v0
 unfold u16
 rw [wrap_u16,Int.emod_eq_of_lt (Int.mul_nonneg w0 (Int.le_of_lt (pow_pos' _))) w1]
 have e:(n:Int)*2 ^ b=((n <<< b:Nat):Int):=by rw [Nat.shiftLeft_eq]; simp
 have hp:(2:Nat) ^ b≤2 ^ 5:=Nat.pow_le_pow_right (by omega) hb
 have hm:m<2 ^ b:=by
  have e2:((2:Int) ^ b)=((2 ^ b:Nat):Int):=by simp
  omega
 rw [e] at w1 ⊢
 rw [or16_cast (by omega) (by omega),← Nat.shiftLeft_add_eq_or_of_lt hm]
 omega
theorem enc_cat (i:InsT):∀ {fs:List FldT} {w:Int} {k:Nat},fs.all fOk=true→0≤w→w<2 ^ k→k+sumB fs≤16 →
  fs.foldl (fun w f=>or16 (u16 (w*2 ^ min f.1.toNat 16)) (valF f i)) w=catF fs (fs.map fun f=>valF f i) w
 | [],w,k,_,_,_,_=>rfl
 | f :: r,w,k,h,h0,h1,hk=>by
  rw [List.all_cons,Bool.and_eq_true] at h
  obtain ⟨⟨f1,f2,f3⟩,_,_⟩:=fOk_spec h.1
  obtain ⟨v0,v1⟩:=valF_rng h.1 i
  have hk' : k+wd f+sumB r≤16:=by
   have:sumB (f :: r)=wd f+sumB r:=rfl
   omega
  have p:=pow_pos' (wd f)
  have a1:0≤w*2 ^ wd f:=Int.mul_nonneg h0 (Int.le_of_lt p)
  have a2:w*2 ^ wd f+2 ^ wd f≤2 ^ (k+wd f):=by
   rw [Int.pow_add]
   have:(w+1)*2 ^ wd f≤2 ^ k*2 ^ wd f:=Int.mul_le_mul_of_nonneg_right (by omega) (Int.le_of_lt p)
   rw [Int.add_mul,Int.one_mul] at this
   exact this
  have a3:(2:Int) ^ (k+wd f)≤2 ^ 16:=by
   have:=Nat.pow_le_pow_right (n:=2) (by omega) (show k+wd f≤16 by omega)
   have e:∀ j:Nat,((2:Int) ^ j)=((2 ^ j:Nat):Int):=fun j=>by simp
   rw [e,e]
   omega
  show r.foldl _ (or16 (u16 (w*2 ^ min (wd f) 16)) (valF f i))=catF r (r.map fun f=>valF f i) (w*2 ^ wd f+valF f i)
  rw [or_add h0 (by omega) v0 v1 f3]
  exact enc_cat i h.2 (by omega) (by omega:w*2 ^ wd f+valF f i<2 ^ (k+wd f)) hk'
theorem take_eq' {w:Int} {k l:Nat} (h1:1≤k) (h5:k≤5) (hl:l≤16) (w0:0≤w) (w1:w<65536):takeV w (k:Int) (l:Int)=w / 2 ^ l % 2 ^ k:=by
 unfold takeV
 rw [Int.toNat_natCast,Nat.min_eq_left hl,Int.fdiv_eq_ediv_of_nonneg _ (Int.le_of_lt (pow_pos' _))]
 have a:=Int.ediv_nonneg w0 (Int.le_of_lt (pow_pos' l))
 have b:w / 2 ^ l≤w:=Int.ediv_le_self _ w0
 rw [← and_mask h1 h5,Int.emod_eq_of_lt a (by omega)]
def shV (f:FldT) (v:Int):Int:=cond f.2.2.2.2 (i64 (i64 v+8)) (i64 v)
def givL:List FldT→List Int→Bool
 | f :: fs,v :: vs=>cond (f.2.1 == 0) (shV f v == i64 f.2.2.1) true && givL fs vs
 | _,_=>true
def regL (c:Int):List FldT→List Int→Int→Int
 | f :: fs,v :: vs,a=>regL c fs vs (cond (f.2.1 == c) (shV f v) a)
 | _,_,a=>a
def isN (f:FldT):Bool:=!(f.2.1 == 0) && (!(f.2.1 == 97) && (!(f.2.1 == 98) && !(f.2.1 == 99)))
def immL:List FldT→List Int→Int × Int→Int × Int
 | f :: fs,v :: vs,p=>immL fs vs (cond (isN f) (or64 p.1 (i64 (shV f v*2 ^ min f.2.2.2.1.toNat 64)),max p.2 (f.2.2.2.1+f.1)) p)
 | _,_,p=>p
def insA (x:RowT) (fs:List FldT) (vs:List Int) (a b c:Int) (p:Int × Int):InsT:=
 signI x (regL 97 fs vs a) (regL 98 fs vs b) (regL 99 fs vs c) (immL fs vs p).1 (immL fs vs p).2
theorem insA_cons (x:RowT) (f:FldT) (fs:List FldT) (v:Int) (vs:List Int) (a b c:Int) (p:Int × Int) :
  insA x (f :: fs) (v :: vs) a b c p=insA x fs vs (cond (f.2.1 == 97) (shV f v) a) (cond (f.2.1 == 98) (shV f v) b) (cond (f.2.1 == 99) (shV f v) c)
   (cond (isN f) (or64 p.1 (i64 (shV f v*2 ^ min f.2.2.2.1.toNat 64)),max p.2 (f.2.2.2.1+f.1)) p):=rfl
theorem givL_cons (f:FldT) (fs:List FldT) (v:Int) (vs:List Int):givL (f :: fs) (v :: vs)=(cond (f.2.1 == 0) (shV f v == i64 f.2.2.1) true && givL fs vs):=rfl
theorem immL_cons (f:FldT) (fs:List FldT) (v:Int) (vs:List Int) (p:Int × Int) :
  immL (f :: fs) (v :: vs) p=immL fs vs (cond (isN f) (or64 p.1 (i64 (shV f v*2 ^ min f.2.2.2.1.toNat 64)),max p.2 (f.2.2.2.1+f.1)) p):=rfl
theorem read_parts {x:RowT} {w:Int} (w0:0≤w) (w1:w<65536):∀ {fs:List FldT} {left a b c n top:Int},fs.all fOk=true→left=(sumB fs:Nat)→sumB fs≤16 →
  readI x w fs left a b c n top=cond (givL fs (takesF w fs)) (insA x fs (takesF w fs) a b c (n,top),faultyF x (insA x fs (takesF w fs) a b c (n,top)) == 0) (zeroI,false)
 | [],left,a,b,c,n,top,_,_,_=>rfl
 | f :: r,left,a,b,c,n,top,h,hl,h16=>by
  rw [List.all_cons,Bool.and_eq_true] at h
  obtain ⟨⟨f1,f2,f3⟩,_,_⟩:=fOk_spec h.1
  have hs:sumB (f :: r)=wd f+sumB r:=rfl
  have hl' : left - f.1=(sumB r:Nat):=by omega
  have ht:takeF takeV f (left - f.1) w=shV f (w / 2 ^ sumB r % 2 ^ wd f):=by
   unfold takeF shV
   rw [hl',f1,take_eq' f2 f3 (by omega) w0 w1]
  have ih:=fun a b c n top=>read_parts (x:=x) w0 w1 (fs:=r) (left:=left - f.1) (a:=a) (b:=b) (c:=c) (n:=n) (top:=top) h.2 hl' (by omega)
  rw [show takesF w (f :: r)=w / 2 ^ sumB r % 2 ^ wd f :: takesF w r from rfl,insA_cons,givL_cons]
  unfold readI isN
  rw [ht,ih,ih,ih,ih,ih]
  generalize shV f (w / 2 ^ sumB r % 2 ^ wd f)=T
  have hne:∀ {a b:Int},(f.2.1 == a)=true→a ≠ b→(f.2.1 == b)=false:=fun h hn=>by
   rw [eq_of_beq h]
   exact beq_eq_false_iff_ne.2 hn
  cases h0:(f.2.1 == 0)
  ·cases h1:(f.2.1 == 97)
   ·cases h2:(f.2.1 == 98)
    ·cases h3:(f.2.1 == 99) <;> rfl
    ·rw [hne h2 (by decide:(98:Int) ≠ 99)]; rfl
   ·rw [hne h1 (by decide:(97:Int) ≠ 98),hne h1 (by decide:(97:Int) ≠ 99)]; rfl
  ·rw [hne h0 (by decide:(0:Int) ≠ 97),hne h0 (by decide:(0:Int) ≠ 98),hne h0 (by decide:(0:Int) ≠ 99)]
   unfold bne
   cases (T == i64 f.2.2.1) <;> rfl
def fine1 (p:RowT × List FldT):Bool:=p.2.all fOk && sumB p.2 == 16
theorem fine1_all:pairsL.all fine1=true:=by kernel_rfl
theorem row_fine {x:RowT} (hx:x ∈ rowsL):(flds x).all fOk=true∧sumB (flds x)=16:=by
 have h:=List.all_eq_true.1 fine1_all _ (pairs_mem hx)
 unfold fine1 at h
 rw [Bool.and_eq_true] at h
 exact ⟨h.1,eq_of_beq h.2⟩
theorem encW_cat {x:RowT} (hx:x ∈ rowsL) (i:InsT):encW x i=catF (flds x) ((flds x).map fun f=>valF f i) 0:=by
 obtain ⟨h1,h2⟩:=row_fine hx
 exact enc_cat i (k:=0) h1 (by omega) (by decide) (by omega)
theorem encW_rng {x:RowT} (hx:x ∈ rowsL) (i:InsT):0≤encW x i∧encW x i<65536:=by
 obtain ⟨h1,h2⟩:=row_fine hx
 rw [encW_cat hx]
 have:=catF_rng (k:=0) (vals_in i h1) (show (0:Int)≤0 by omega) (by decide)
 rw [h2] at this
 exact this
theorem readX_parts {x:RowT} (hx:x ∈ rowsL) {w:Int} (w0:0≤w) (w1:w<65536) :
  readX x w=cond (givL (flds x) (takesF w (flds x))) (insA x (flds x) (takesF w (flds x)) 0 0 0 (0,0),faultyF x (insA x (flds x) (takesF w (flds x)) 0 0 0 (0,0)) == 0) (zeroI,false):=by
 obtain ⟨h1,h2⟩:=row_fine hx
 exact read_parts w0 w1 h1 (by rw [h2]; rfl) (by omega)
theorem takes_enc {x:RowT} (hx:x ∈ rowsL) (i:InsT):takesF (encW x i) (flds x)=(flds x).map fun f=>valF f i:=by
 rw [encW_cat hx]
 exact takes_cat (vals_in i (row_fine hx).1)
end Go.Cmp

namespace Go.Cmp
open Go Go.Ab
theorem faulty_parts {x:RowT} {i:InsT} (h:faultyF x i=0) :
  regF x 97 i.2.1=true∧regF x 98 i.2.2.1=true∧regF x 99 i.2.2.2.1=true∧i.2.2.2.2.1=0∧((hasF x 115).2 || i.2.2.2.2.2 == 0)=true∧rngF x i.2.2.2.2.2=0:=by
 unfold faultyF at h
 cases h1:regF x 97 i.2.1
 ·rw [h1] at h; cases h
 cases h2:regF x 98 i.2.2.1
 ·rw [h1,h2] at h; cases h
 cases h3:regF x 99 i.2.2.2.1
 ·rw [h1,h2,h3] at h; cases h
 cases h4:(i.2.2.2.2.1 == 0)
 ·rw [h1,h2,h3,h4] at h; cases h
 cases h5:((hasF x 115).2 || i.2.2.2.2.2 == 0)
 ·rw [h1,h2,h3,h4,h5] at h; cases h
 ·rw [h1,h2,h3,h4,h5] at h
  exact ⟨rfl,rfl,rfl,eq_of_beq h4,rfl,h⟩
theorem hasF_any (x:RowT) (c:Int):(hasF x c).2=(flds x).any fun f=>f.2.1 == c:=by
 unfold hasF
 generalize flds x=fs
 induction fs with
 | nil=>rfl
 | cons f r ih =>
  rw [List.find?_cons,List.any_cons]
  cases h:(f.2.1 == c)
  ·exact ih
  ·rfl
def chOk (p:RowT × List FldT) (c:Int):Bool:=
 (p.2.all fun f=>!(f.2.1 == c) || (f.2.2.2.2 == (hasF p.1 c).1 && f.1 == cond f.2.2.2.2 3 5)) && decide ((p.2.filter fun f=>f.2.1 == c).length≤1)
def giOk (p:RowT × List FldT):Bool:=p.2.all fun f=>!(f.2.1 == 0) || !f.2.2.2.2
def fine2 (p:RowT × List FldT):Bool:=chOk p 97 && (chOk p 98 && (chOk p 99 && giOk p))
theorem fine2_all:pairsL.all fine2=true:=by kernel_rfl
theorem row_ch {x:RowT} (hx:x ∈ rowsL) {c:Int} (hc:c=97∨c=98∨c=99) :
  (∀ f ∈ flds x,f.2.1=c→f.2.2.2.2=(hasF x c).1∧wd f=cond f.2.2.2.2 3 5)∧((flds x).filter fun f=>f.2.1 == c).length≤1:=by
 have h:=List.all_eq_true.1 fine2_all _ (pairs_mem hx)
 unfold fine2 at h
 simp only [Bool.and_eq_true] at h
 have hk:chOk (x,flds x) c=true:=by
  rcases hc with rfl | rfl | rfl
  ·exact h.1
  ·exact h.2.1
  ·exact h.2.2.1
 unfold chOk at hk
 simp only [Bool.and_eq_true,decide_eq_true_eq] at hk
 refine ⟨fun f hf he=>?_,hk.2⟩
 have:=List.all_eq_true.1 hk.1 f hf
 rw [he] at this
 simp only [beq_self_eq_true,Bool.not_true,Bool.false_or,Bool.and_eq_true,beq_iff_eq] at this
 refine ⟨this.1,?_⟩
 unfold wd
 rw [this.2]
 cases f.2.2.2.2 <;> rfl
theorem row_gi {x:RowT} (hx:x ∈ rowsL):∀ f ∈ flds x,f.2.1=0→f.2.2.2.2=false:=by
 have h:=List.all_eq_true.1 fine2_all _ (pairs_mem hx)
 unfold fine2 at h
 simp only [Bool.and_eq_true] at h
 intro f hf he
 have:=List.all_eq_true.1 h.2.2.2 f hf
 rw [he] at this
 simpa using this
theorem regL_map (c:Int) (val:FldT→Int) (n:Int):∀ (fs:List FldT) (acc:Int),(∀ f ∈ fs,f.2.1=c→shV f (val f)=n) →
  regL c fs (fs.map val) acc=cond (fs.any fun f=>f.2.1 == c) n acc
 | [],acc,_=>rfl
 | f :: r,acc,h=>by
  show regL c r (r.map val) (cond (f.2.1 == c) (shV f (val f)) acc)=_
  rw [regL_map c val n r _ (fun g hg=>h g (List.mem_cons_of_mem _ hg)),List.any_cons]
  cases he:(f.2.1 == c)
  ·rfl
  ·rw [cond_true,h f List.mem_cons_self (eq_of_beq he),Bool.true_or,cond_true]
   cases (r.any fun f=>f.2.1 == c) <;> rfl
theorem i64_of {n:Int} (h0 : -1000000≤n) (h1:n≤1000000):i64 n=n:=wrap_i64 (by omega) (by omega)
theorem reg_back {x:RowT} (hx:x ∈ rowsL) {i:InsT} {c n:Int} (hc:c=97∨c=98∨c=99) (hs:∀ f:FldT,f.2.1=c→srcF f i=n) (hr:regF x c n=true) :
  regL c (flds x) ((flds x).map fun f=>valF f i) 0=n:=by
 obtain ⟨hk,_⟩:=row_ch hx hc
 have hok:=(row_fine hx).1
 unfold regF at hr
 have key:(hasF x c).2=true → ∀ f ∈ flds x,f.2.1=c→shV f (valF f i)=n:=by
  intro h2 f hf he
  obtain ⟨k1,k2⟩:=hk f hf he
  have hc0:(f.2.1 == 0)=false:=by
   rw [he]
   rcases hc with rfl | rfl | rfl <;> rfl
  rw [valF_of (List.all_eq_true.1 hok f hf),hc0,cond_false,hs f he,k2]
  unfold shV
  rw [h2,cond_true,← k1] at hr
  cases hsh:f.2.2.2.2
  ·rw [hsh] at hr
   simp only [cond_false,Bool.and_eq_true,decide_eq_true_eq] at hr
   show i64 (n % 2 ^ 5)=n
   rw [show ((2:Int) ^ 5)=32 from rfl,i64_of (by omega) (by omega)]
   omega
  ·rw [hsh] at hr
   simp only [cond_true,Bool.and_eq_true,decide_eq_true_eq] at hr
   show i64 (i64 (n % 2 ^ 3)+8)=n
   rw [show ((2:Int) ^ 3)=8 from rfl,i64_of (n:=n % 8) (by omega) (by omega),i64_of (by omega) (by omega)]
   omega
 cases h2:(hasF x c).2
 ·rw [h2,cond_false] at hr
  have hn:n=0:=eq_of_beq hr
  rw [hasF_any] at h2
  rw [regL_map c _ n _ 0 (fun f hf he=>?_),h2,cond_false,hn]
  have:=List.any_eq_false.1 h2 f hf
  rw [he] at this
  simp at this
 ·rw [regL_map c _ n _ 0 (key h2),← hasF_any,h2,cond_true]
theorem giv_back (i:InsT):∀ {fs:List FldT},(∀ f ∈ fs,f.2.1=0→f.2.2.2.2=false)→givL fs (fs.map fun f=>valF f i)=true
 | [],_=>rfl
 | f :: r,h=>by
  show (cond (f.2.1 == 0) (shV f (valF f i) == i64 f.2.2.1) true && givL r (r.map fun f=>valF f i))=true
  rw [giv_back i (fun g hg=>h g (List.mem_cons_of_mem _ hg)),Bool.and_true]
  cases h0:(f.2.1 == 0)
  ·rfl
  ·unfold shV valF
   rw [h f List.mem_cons_self (eq_of_beq h0),h0]
   exact beq_self_eq_true _
def immI (n:Int):InsT:=([],0,0,0,0,n)
def sgnX (x:RowT) (p:Int × Int):Int:=cond (decide (x.2.2.1<0)) (cond (Int.fdiv p.1 (2 ^ min (p.2 - 1).toNat 64) != 0) (i64 (p.1 - i64 (1*2 ^ min p.2.toNat 64))) p.1) p.1
theorem valF_imm {f:FldT} (h:isN f=true) (i:InsT):valF f i=valF f (immI i.2.2.2.2.2):=by
 unfold isN at h
 simp only [Bool.and_eq_true,Bool.not_eq_true'] at h
 obtain ⟨_,h1,h2,h3⟩:=h
 unfold valF srcF
 rw [h1,h2,h3]
 rfl
theorem imm_only (i:InsT) (fs:List FldT):∀ p:Int × Int,immL fs (fs.map fun f=>valF f i) p=immL fs (fs.map fun f=>valF f (immI i.2.2.2.2.2)) p:=by
 induction fs with
 | nil=>intro p; rfl
 | cons f r ih =>
  intro p
  rw [List.map_cons,List.map_cons,immL_cons,immL_cons,ih]
  cases h:isN f
  ·rw [cond_false,cond_false]
  ·rw [valF_imm h i]
def imms (x:RowT):List Int:=(List.range (((x.2.2.2.1 - x.2.2.1) / x.2.2.2.2.1).toNat+1)).map fun k:Nat=>x.2.2.1+x.2.2.2.2.1*(k:Int)
def byOk (x:RowT):Bool:=decide (0<x.2.2.2.2.1) && x.2.2.1 % x.2.2.2.2.1 == 0
theorem byOk_all:rowsL.all byOk=true:=by kernel_rfl
theorem imms_mem {x:RowT} (hx:x ∈ rowsL) {n:Int} (h:rngF x n=0):n ∈ imms x:=by
 have hb:=List.all_eq_true.1 byOk_all _ hx
 unfold byOk at hb
 simp only [Bool.and_eq_true,decide_eq_true_eq,beq_iff_eq] at hb
 unfold rngF at h
 cases h1:decide (n<x.2.2.1)
 ·cases h2:decide (x.2.2.2.1<n)
  ·rw [h1,h2] at h
   simp only [cond_false] at h
   cases h3:(n == 0 && bars x 115)
   ·rw [h3,cond_false] at h
    cases h4:(Int.tmod n x.2.2.2.2.1 != 0)
    ·have h4:Int.tmod n x.2.2.2.2.1=0:=by simpa using h4
     have g1:¬ n<x.2.2.1:=of_decide_eq_false h1
     have g2:¬ x.2.2.2.1<n:=of_decide_eq_false h2
     have d1:x.2.2.2.2.1 ∣ n:=Int.dvd_of_tmod_eq_zero h4
     have d2:x.2.2.2.2.1 ∣ x.2.2.1:=Int.dvd_of_emod_eq_zero hb.2
     obtain ⟨k,hk⟩:=Int.dvd_sub d1 d2
     have hp:=hb.1
     have hk0:0≤k:=by
      refine Int.not_lt.1 fun hneg=>?_
      have:x.2.2.2.2.1*k<0:=Int.mul_neg_of_pos_of_neg hp hneg
      omega
     have hk1:k≤(x.2.2.2.1 - x.2.2.1) / x.2.2.2.2.1:=by
      refine (Int.le_ediv_iff_mul_le hp).2 ?_
      rw [Int.mul_comm,← hk]
      omega
     unfold imms
     refine List.mem_map.2 ⟨k.toNat,List.mem_range.2 (by omega),?_⟩
     rw [Int.toNat_of_nonneg hk0,← hk]
     omega
    ·rw [h4] at h; cases h
   ·rw [h3] at h; cases h
  ·rw [h1,h2] at h; cases h
 ·rw [h1] at h; cases h
def immOk (p:RowT × List FldT):Bool:=(imms p.1).all fun n=>sgnX p.1 (immL p.2 (p.2.map fun f=>valF f (immI n)) (0,0)) == n
theorem imm_0:(partP 0).all immOk=true:=by kernel_rfl
theorem imm_1:(partP 1).all immOk=true:=by kernel_rfl
theorem imm_2:(partP 2).all immOk=true:=by kernel_rfl
theorem imm_3:(partP 3).all immOk=true:=by kernel_rfl
theorem imm_4:(partP 4).all immOk=true:=by kernel_rfl
theorem imm_5:(partP 5).all immOk=true:=by kernel_rfl
theorem all_map {α:Type} {l:List α} {f:α→Bool} (h:l.all f=true):l.map f=l.map fun _=>true:=
 List.map_inj_left.2 fun _ hx=>List.all_eq_true.1 h _ hx
theorem imm_all {x:RowT} (hx:x ∈ rowsL):immOk (x,flds x)=true:=
 six_all (l:=pairsL) (f:=immOk) (g:=fun _=>true) pairs_len (fun k hk=>match k,hk with
  | 0,_=>all_map imm_0
  | 1,_=>all_map imm_1
  | 2,_=>all_map imm_2
  | 3,_=>all_map imm_3
  | 4,_=>all_map imm_4
  | 5,_=>all_map imm_5) (pairs_mem hx)
theorem imm_back {x:RowT} (hx:x ∈ rowsL) {i:InsT} (h:rngF x i.2.2.2.2.2=0) :
  sgnX x (immL (flds x) ((flds x).map fun f=>valF f i) (0,0))=i.2.2.2.2.2:=by
 rw [imm_only]
 exact eq_of_beq (List.all_eq_true.1 (imm_all hx) _ (imms_mem hx h))
theorem read_enc {x:RowT} (hx:x ∈ rowsL) {i:InsT} (h:faultyF x i=0) (hn:i.1=x.1):readX x (encW x i)=(i,true):=by
 obtain ⟨h1,h2,h3,h4,_,h6⟩:=faulty_parts h
 obtain ⟨w0,w1⟩:=encW_rng hx i
 have hi:insA x (flds x) (takesF (encW x i) (flds x)) 0 0 0 (0,0)=i:=by
  rw [takes_enc hx]
  have e1:=reg_back hx (i:=i) (c:=97) (.inl rfl) (fun f he=>by unfold srcF; rw [he]; rfl) h1
  have e2:=reg_back hx (i:=i) (c:=98) (.inr (.inl rfl)) (fun f he=>by unfold srcF; rw [he]; rfl) h2
  have e3:=reg_back hx (i:=i) (c:=99) (.inr (.inr rfl)) (fun f he=>by unfold srcF; rw [he]; rfl) h3
  have e4:=imm_back hx h6
  show (x.1,regL 97 (flds x) ((flds x).map fun f=>valF f i) 0,regL 98 (flds x) ((flds x).map fun f=>valF f i) 0,regL 99 (flds x) ((flds x).map fun f=>valF f i) 0,(0:Int),
   sgnX x (immL (flds x) ((flds x).map fun f=>valF f i) (0,0)))=i
  rw [e1,e2,e3,e4,← hn,← h4]
 have hg:givL (flds x) (takesF (encW x i) (flds x))=true:=by
  rw [takes_enc hx]
  exact giv_back i (row_gi hx)
 rw [readX_parts hx w0 w1,hi,hg,cond_true,h]
 rfl
end Go.Cmp
