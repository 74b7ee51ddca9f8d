/-
  compact: the document's number out of two bytes. Conditions: none.
-/
import Derived.Test.YtnickegmpffneaaGreatDoorPk19
import Derived.Test.YtnickegmpffneaaGreatDoorCm32
import Derived.Test.YtnickegmpffneaaGreatDoorPk10
import Derived.Test.YtnickegmpffneaaGreatDoorPk18
set_option linter.unusedVariables false
set_option linter.unusedSimpArgs false
namespace Go.Cmp
open Go Go.Ab Go.Proofs
noncomputable def cx156:Cx:={ P:=Tryz.prog,n:=21,tab:=[],mtab:=[],refs:=[],keeps:=[0,2,3,4,9],fuel:=4 }
noncomputable def cx215:Cx:={ P:=Tryz.prog,n:=17,tab:=[],mtab:=[],refs:=[],keeps:=[0,2] }
def num2F (a b:Int):Int:=IntKind.wrap .u64 ↑(BitVec.toNat (BitVec.ofInt 64 (IntKind.wrap .u64 (IntKind.wrap .u64 ↑(BitVec.toNat (BitVec.ofInt 64 (IntKind.wrap .u64 (0*2 ^ 8)) ||| BitVec.ofInt 64 (IntKind.wrap .u64 b)))*2 ^ 8)) ||| BitVec.ofInt 64 (IntKind.wrap .u64 a)))
theorem num2_eq (a b:Int) (sp:List Int) (fl:Fl):(dfun cx156 Tryz.f156 [.sl (.int .u8) [a,b] sp fl]).fin=some (.int .u64 (num2F a b)):=by kernel_rfl
theorem sized2_eq:(dfun cx215 Tryz.f215 [.int .i64 2]).fin=some (.bool true):=by kernel_rfl
def numP (l:List Int):Int:=num2F (l.getD 0 0) (l.getD 1 0)
def sizedS:Ab.Spec:=fun args=>match args with
 | [.int .i64 n]=>.req (n == 2) (.leaf (.bool true))
 | _=>.fail
theorem sizedS_ok:Sound Tryz.prog 215 sizedS:=by
 intro args out h
 unfold sizedS at h
 split at h
 rotate_left
 ·cases h
 obtain ⟨h1,h⟩:=req_run h
 have h:=leaf_out h
 subst h
 rw [eq_of_beq h1]
 exact pcall_fun' (cx:=cx215) (fn:=Tryz.f215) (cx0_ok rfl rfl) (by kernel_rfl) (by kernel_rfl) (by kernel_rfl) ((Tree.fin_run _).symm.trans sized2_eq)
theorem num_ok (a b:Int) (sp:List Int) (fl:Fl):PCall Tryz.prog 156 [.sl (.int .u8) [a,b] sp fl] (.int .u64 (numP [a,b])):=
 pcall_fun' (cx:=cx156) (fn:=Tryz.f156) (out:=.int .u64 (num2F a b)) (cx0_ok rfl rfl) (by kernel_rfl) (by kernel_rfl) rfl ((Tree.fin_run _).symm.trans (num2_eq a b sp fl))
theorem br_true {α:Type} {c:Bool} {x y:Tree α} (h:c=true):(Tree.br c x y).run=x.run:=by rw [h]; rfl
theorem two_of {l:List Int} (h:(l.length == 2)=true):∃ a b,l=[a,b]:=
 match l,eq_of_beq h with
 | [a,b],_=>⟨a,b,rfl⟩
def numS:Ab.Spec:=fun args=>match args with
 | [.sl (.int .u8) l _ _]=>.req (l.length == 2) (.leaf (.int .u64 (numP l)))
 | _=>.fail
theorem numS_ok:Sound Tryz.prog 156 numS:=by
 intro args out h
 unfold numS at h
 split at h
 rotate_left
 ·cases h
 rename_i l sp fl
 obtain ⟨h1,h⟩:=req_run h
 have h:=leaf_out h
 subst h
 obtain ⟨a,b,e⟩:=two_of h1
 subst e
 exact num_ok a b sp fl
noncomputable def cx164:Cx:={ P:=Tryz.prog,n:=39,tab:=[(215,sizedS),(156,numS)],mtab:=[],refs:=[],keeps:=[0,1,2,3,8,9,10,13,21,27,34] }
def getXT (l sp:List Int) (_fl:Fl) (at_:Int):Tree V:=
 (.br (decide (at_<0)) (.leaf (.tup [(.int .u64 0),(.int .i64 5)])) (.br (decide (↑(List.length l)<at_)) (.leaf (.tup [(.int .u64 0),(.int .i64 5)])) (.br (decide (IntKind.wrap IntKind.i64 (↑(List.length l) - at_)<2)) (.leaf (.tup [(.int .u64 0),(.int .i64 2)])) (.br (decide (0≤at_) && decide (at_≤IntKind.wrap IntKind.i64 (at_+2)) && decide (IntKind.wrap IntKind.i64 (at_+2) ≤ ↑(List.length l+List.length sp))) (.br (List.length (sub (l++sp) (Int.toNat at_) (Int.toNat (IntKind.wrap IntKind.i64 (at_+2)))) == 2) (.leaf (.tup [(.int .u64 (Go.Cmp.numP (sub (l++sp) (Int.toNat at_) (Int.toNat (IntKind.wrap IntKind.i64 (at_+2)))))),(.int .i64 0)])) .fail) .fail))))
theorem getXT_eq (l sp:List Int) (fl:Fl) (at_:Int):(dfun cx164 Tryz.f164 [.sl (.int .u8) l sp fl,.int .i64 at_,.int .i64 2,.bool false]).run=(getXT l sp fl at_).run:=
 (show (dfun cx164 Tryz.f164 [.sl (.int .u8) l sp fl,.int .i64 at_,.int .i64 2,.bool false]).run=(getXT l sp fl at_).out by kernel_rfl).trans (Tree.out_run _)
def uE (l:List Int) (at_:Int):Int:=cond (outOf l at_) 5 (cond (shortOf l at_) 2 0)
def uV (l:List Int) (at_:Int):Int:=cond (outOf l at_) 0 (cond (shortOf l at_) 0 (numP (sub l at_.toNat (at_.toNat+2))))
theorem sub_left {l s:List Int} {a b:Nat} (h:b≤l.length):sub (l++s) a b=sub l a b:=by
 simp only [sub]
 rw [List.take_append_of_le_length h]
set_option maxRecDepth 8000 in
theorem getX_ok (l sp:List Int) (fl:Fl) (at_:Int) (h3:l.length<1000000000):PCall Tryz.prog 164 [.sl (.int .u8) l sp fl,.int .i64 at_,.int .i64 2,.bool false] (.tup [.int .u64 (uV l at_),.int .i64 (uE l at_)]):=by
 refine pcall_fun' (cx:=cx164) (fn:=Tryz.f164) (cx1_ok (.cons sizedS_ok (ok1 numS_ok)) (fun p h=>by cases h) rfl rfl) (by kernel_rfl) (by kernel_rfl) (by kernel_rfl) ?_
 refine (getXT_eq l sp fl at_).trans ?_
 unfold getXT uV uE outOf shortOf
 cases g1:decide (at_<0)
 rotate_left
 ·rfl
 cases g2:decide ((l.length:Int)<at_)
 rotate_left
 ·rfl
 cases g3:decide (IntKind.wrap IntKind.i64 ((l.length:Int) - at_)<2)
 rotate_left
 ·rfl
 have g1:=of_decide_eq_false g1
 have g2:=of_decide_eq_false g2
 have g3:=of_decide_eq_false g3
 rw [wrap_i64 (by omega) (by omega)] at g3
 have e:IntKind.wrap IntKind.i64 (at_+2)=at_+2:=wrap_i64 (by omega) (by omega)
 rw [e,show (at_+2).toNat=at_.toNat+2 from by omega,sub_left (by omega)]
 have c1:(decide (0≤at_) && decide (at_≤at_+2) && decide (at_+2≤((l.length+sp.length:Nat):Int)))=true:=by
  simp only [Bool.and_eq_true,decide_eq_true_eq]
  omega
 have c2:((sub l at_.toNat (at_.toNat+2)).length == 2)=true:=by
  refine beq_iff_eq.2 ?_
  simp only [sub,List.length_drop,List.length_take]
  omega
 rw [c1,c2]
 rfl
def getXS:Ab.Spec:=fun args=>match args with
 | [.sl (.int .u8) l _ _,.int .i64 at_,.int .i64 si,.bool big]=>.req (decide (si=2)) (.req (!big) (.req (decide (l.length<1000000000)) (.leaf (.tup [.int .u64 (uV l at_),.int .i64 (uE l at_)]))))
 | _=>.fail
theorem getXS_ok:Sound Tryz.prog 164 getXS:=by
 intro args out h
 unfold getXS at h
 split at h
 rotate_left
 ·cases h
 obtain ⟨h1,h⟩:=req_run h
 obtain ⟨h2,h⟩:=req_run h
 obtain ⟨h3,h⟩:=req_run h
 have h:=leaf_out h
 subst h
 have h1:=of_decide_eq_true h1
 have h2:=(Bool.not_eq_true' _).mp h2
 subst h1
 subst h2
 exact getX_ok _ _ _ _ (of_decide_eq_true h3)
noncomputable def cx103:Cx:={ P:=Tryz.prog,n:=14,tab:=[(164,getXS)],mtab:=[],refs:=[],keeps:=[0,1,2,6,7] }
def uXT (l _sp:List Int) (_fl:Fl) (at_:Int):Tree V:=
 (.br (decide (List.length l<1000000000)) (.leaf (.tup [(.int .u64 (Go.Cmp.uV l at_)),(.int .i64 (Go.Cmp.uE l at_))])) .fail)
theorem uXT_eq (l sp:List Int) (fl:Fl) (at_:Int):(dfun cx103 Tryz.f103 [.sl (.int .u8) l sp fl,.int .i64 at_,.int .i64 2]).run=(uXT l sp fl at_).run:=
 (show (dfun cx103 Tryz.f103 [.sl (.int .u8) l sp fl,.int .i64 at_,.int .i64 2]).run=(uXT l sp fl at_).out by kernel_rfl).trans (Tree.out_run _)
def uS:Ab.Spec:=fun args=>match args with
 | [.sl (.int .u8) l _ _,.int .i64 at_,.int .i64 si]=>.req (decide (si=2)) (.req (decide (l.length<1000000000)) (.leaf (.tup [.int .u64 (uV l at_),.int .i64 (uE l at_)])))
 | _=>.fail
theorem uS_ok:Sound Tryz.prog 103 uS:=by
 intro args out h
 unfold uS at h
 split at h
 rotate_left
 ·cases h
 rename_i l sp fl at_ si
 obtain ⟨h1,h⟩:=req_run h
 obtain ⟨h3,h⟩:=req_run h
 have h:=leaf_out h
 subst h
 have h1:=of_decide_eq_true h1
 subst h1
 refine pcall_fun' (cx:=cx103) (fn:=Tryz.f103) (cx1_ok (ok1 getXS_ok) (fun p h=>by cases h) rfl rfl) (by kernel_rfl) (by kernel_rfl) (by kernel_rfl) ((uXT_eq l sp fl at_).trans ?_)
 exact (br_true h3).trans rfl
theorem or64_nat {a b:Nat} (ha:a<2 ^ 64) (hb:b<2 ^ 64):((BitVec.toNat (BitVec.ofInt 64 (a:Int) ||| BitVec.ofInt 64 (b:Int)):Nat):Int)=((a ||| b:Nat):Int):=by
 rw [BitVec.toNat_or,BitVec.toNat_ofInt,BitVec.toNat_ofInt]
 congr 2 <;> omega
theorem num2F_eq {a b:Int} (ha:0≤a∧a<256) (hb:0≤b∧b<256):num2F a b=a+256*b:=by
 obtain ⟨A,rfl⟩:=Int.eq_ofNat_of_zero_le ha.1
 obtain ⟨B,rfl⟩:=Int.eq_ofNat_of_zero_le hb.1
 have w:∀ n:Nat,n<2 ^ 64→IntKind.wrap .u64 (n:Int)=(n:Int):=fun n hn=>by
  simp only [IntKind.wrap,IntKind.bits,IntKind.signed]
  simp
  omega
 unfold num2F
 have e0:IntKind.wrap .u64 (0*2 ^ 8)=((0:Nat):Int):=by decide
 rw [e0,w B (by omega),or64_nat (by omega) (by omega),Nat.zero_or,w B (by omega)]
 have e1:(B:Int)*2 ^ 8=((B*2 ^ 8:Nat):Int):=by simp
 rw [e1,w (B*2 ^ 8) (by omega),w A (by omega),or64_nat (by omega) (by omega),← Nat.shiftLeft_eq,← Nat.shiftLeft_add_eq_or_of_lt (by omega),Nat.shiftLeft_eq,w _ (by omega)]
 omega
end Go.Cmp

namespace Go.Cmp
open Go Go.Ab Go.Proofs
noncomputable def cx49:Cx:={ P:=Tryz.prog,n:=48,tab:=[(103,uS),(104,tableS),(105,readXS),(106,checkXS),(107,wordXS)],mtab:=[],refs:=[],keeps:=[0,1,4,5,6,7,8,9,10,11,19,26,45] }
noncomputable abbrev B16:Code:=bodyOf Tryz.f49
def decXPre (l sp:List Int) (fl:Fl) (at_:Int):Tree St:=
 (.br (decide (List.length l<1000000000)) (.br (Go.Cmp.uE l at_ != 0) (.leaf (.ret,[(0,(.sl (.int .u8) (l) (sp) fl)),(1,(.int .i64 at_)),(4,(.ptr 0 0)),(5,(.int .i64 0)),(6,(.int .i64 (Go.Cmp.uE l at_))),(7,(.int .u64 (Go.Cmp.uV l at_))),(8,(.int .i64 (Go.Cmp.uE l at_))),(19,(.bool true))],[(.cells [(.str []),(.int .i64 0),(.int .i64 0),(.int .i64 0),(.int .i64 0),(.int .i64 0)] 35)])) (.leaf (.normal,[(0,(.sl (.int .u8) (l) (sp) fl)),(1,(.int .i64 at_)),(4,(.ptr 0 0)),(5,(.int .i64 0)),(6,(.int .i64 0)),(7,(.int .u64 (Go.Cmp.uV l at_))),(8,(.int .i64 (Go.Cmp.uE l at_))),(9,(.sl (.prod [.str,.str,.str,.bool,(.int .i64),(.int .i64),(.int .i64),.bool]) (Go.Cmp.tabL) ([]) Fl.full)),(19,(.bool false))],[(.cells [(.str []),(.int .i64 0),(.int .i64 0),(.int .i64 0),(.int .i64 0),(.int .i64 0)] 35)]))) .fail)
theorem decXPre_eq (l sp:List Int) (fl:Fl) (at_:Int):(dcode cx49 (headN 3 B16) (initT 0 [.sl (.int .u8) l sp fl,.int .i64 at_]) []).run=(decXPre l sp fl at_).run:=
 (show (dcode cx49 (headN 3 B16) (initT 0 [.sl (.int .u8) l sp fl,.int .i64 at_]) []).run=(decXPre l sp fl at_).out by kernel_rfl).trans (Tree.out_run _)
def decXEnd  : Tree St:=
 (.leaf (.ret,[(4,(.ptr 0 0)),(5,(.int .i64 0)),(6,(.int .i64 22))],[(.cells [(.str []),(.int .i64 0),(.int .i64 0),(.int .i64 0),(.int .i64 0),(.int .i64 0)] 35)]))
theorem decXEnd_eq  : (dcode cx49 (tailN 4 B16) [(4,.ptr 0 0),(5,.int .i64 0),(6,.int .i64 0)] [.cells [.str [],.int .i64 0,.int .i64 0,.int .i64 0,.int .i64 0,.int .i64 0] 35]).run=(decXEnd ).run:=
 (show (dcode cx49 (tailN 4 B16) [(4,.ptr 0 0),(5,.int .i64 0),(6,.int .i64 0)] [.cells [.str [],.int .i64 0,.int .i64 0,.int .i64 0,.int .i64 0,.int .i64 0] 35]).run=(decXEnd ).out by kernel_rfl).trans (Tree.out_run _)
abbrev tabAt (l:List TabT) (i:Nat):TabT:=l.getD i zeroT
def decXI (l:List TabT) (w i:Int):InsT:=rdI (frow (tabAt l i.toNat).1) (IntKind.wrap IntKind.u16 w)
def decXRound (l:List TabT) (w i:Int):Tree St:=
 .br (decide (i<(l.length:Int))) (.br (inside i l.length) (.br (isTabB (tabAt l i.toNat)) (.br (decide (0≤IntKind.wrap IntKind.u16 w) && decide (IntKind.wrap IntKind.u16 w<65536)) (.br (encE (decXI l w i) == 0) (.br (fok (decXI l w i).1)
  (.br (wdX (tabs (frow (decXI l w i).1)) (decXI l w i).2.1 (decXI l w i).2.2.1 (decXI l w i).2.2.2.1 (decXI l w i).2.2.2.2.2 == IntKind.wrap IntKind.u16 w)
  (.leaf (.ret,[(4,(.ptr 0 0)),(5,(.int .i64 2)),(6,(.int .i64 0)),(7,(.int .u64 w)),(9,.sl tabE l [] .full),(10,(.int .i64 i)),(11,(.ptr 1 0)),(26,(.bool true)),(45,(.bool true))],[insO (decXI l w i),insO (decXI l w i)]))
  (.leaf (.normal,[(4,(.ptr 0 0)),(5,(.int .i64 0)),(6,(.int .i64 0)),(7,(.int .u64 w)),(9,.sl tabE l [] .full),(10,(.int .i64 (IntKind.wrap IntKind.i64 (i+1)))),(11,(.ptr 1 0)),(26,(.bool true)),(45,(.bool false))],[insO zeroI,insO (decXI l w i)]))) .fail)
  (.leaf (.normal,[(4,(.ptr 0 0)),(5,(.int .i64 0)),(6,(.int .i64 0)),(7,(.int .u64 w)),(9,.sl tabE l [] .full),(10,(.int .i64 (IntKind.wrap IntKind.i64 (i+1)))),(11,(.ptr 1 0)),(26,(.bool true)),(45,(.bool false))],[insO zeroI,insO (decXI l w i)]))) .fail) .fail) .fail)
  (.leaf ((.exit 0),[(4,(.ptr 0 0)),(5,(.int .i64 0)),(6,(.int .i64 0)),(7,(.int .u64 w)),(9,.sl tabE l [] .full),(10,(.int .i64 i)),(26,(.bool false))],[insO zeroI]))
theorem decXRound_eq (l:List TabT) (w i:Int):(dcode cx49 (cin (cin (c2 (c1 (tailN 3 B16))))) [(4,.ptr 0 0),(5,.int .i64 0),(6,.int .i64 0),(7,.int .u64 w),(9,.sl tabE l [] .full),(10,.int .i64 i)] [insO zeroI]).run=(decXRound l w i).run:=
 (show _=(decXRound l w i).out by kernel_rfl).trans (Tree.out_run _)
theorem cx49_ok:CxOk cx49:=cx1_ok (.cons uS_ok (.cons tableS_ok (.cons readXS_ok (.cons checkXS_ok (ok1 wordXS_ok))))) (fun p h=>by cases h) rfl rfl
theorem all_t {α:Type} {c:Bool} {x y:Tree α} {Q:α→Prop} (h:c=true) (hx:x.all Q):(Tree.br c x y).all Q:=⟨fun _=>hx,fun e=>Bool.noConfusion (h.symm.trans e)⟩
theorem all_f {α:Type} {c:Bool} {x y:Tree α} {Q:α→Prop} (h:c=false) (hy:y.all Q):(Tree.br c x y).all Q:=⟨fun e=>Bool.noConfusion (h.symm.trans e),fun _=>hy⟩
def drowX (w:Int):Option RowT:=rowsL.find? (matchX w)
theorem find_congr {p q:RowT→Bool}:∀ {l:List RowT},(∀ x ∈ l,p x=q x)→l.find? p=l.find? q
 | [],_=>rfl
 | x :: r,h=>by
  rw [List.find?_cons,List.find?_cons,h x List.mem_cons_self,find_congr (fun y hy=>h y (List.mem_cons_of_mem _ hy))]
theorem drow_eq {w:Int} (w0:0≤w) (w1:w<65536):drowX w=drow w:=find_congr fun _ hx=>(matchX_eq hx w0 w1).1
theorem dec_found {w:Int} (w0:0≤w) (w1:w<65536) {x:RowT} (h:drowX w=some x):decI w=rdI x w∧decOk w=true:=by
 have hd:=drow_eq w0 w1
 rw [h] at hd
 have hx:x ∈ rowsL:=List.mem_of_find?_eq_some h
 have hm:matchX w x=true:=List.find?_some (p:=matchX w) h
 obtain ⟨m1,m2⟩:=matchX_eq hx w0 w1
 rw [m1] at hm
 refine ⟨?_,?_⟩
 ·unfold decI
  rw [← hd]
  exact (m2 hm).symm
 ·unfold decOk
  rw [← hd]
  rfl
theorem dec_none {w:Int} (w0:0≤w) (w1:w<65536) (h:drowX w=none):decI w=zeroI∧decOk w=false:=by
 have hd:=drow_eq w0 w1
 rw [h] at hd
 refine ⟨?_,?_⟩
 ·unfold decI
  rw [← hd]
 ·unfold decOk
  rw [← hd]
  rfl
def decXSt (w:Int) (i:{ i:Nat // i≤rowsL.length∧(rowsL.take i).find? (matchX w)=none }):T × List O:=
 ([(4,.ptr 0 0),(5,.int .i64 0),(6,.int .i64 0),(7,.int .u64 w),(9,.sl tabE tabL [] .full),(10,.int .i64 i.1)],[insO zeroI])
def decXQ (w:Int) (e:AEx) (t:T) (H:List O):Prop:=
 (e = .ret∨e = .normal)∧answerV Tryz.prog Tryz.f49.results.toList H t=some (.tup [insV (decI w),.int .i64 (cond (decOk w) 2 0),.int .i64 (cond (decOk w) 0 22)])
theorem tabAt_eq {i:Nat} (h:i<rowsL.length):tabAt tabL i=tabs (rowsL.getD i zeroR):=by
 unfold tabAt
 rw [tabL_eq,List.getD,List.getElem?_map,List.getElem?_eq_getElem h,List.getD,List.getElem?_eq_getElem h]
 rfl
theorem tabL_len:tabL.length=rowsL.length:=by
 rw [tabL_eq,List.length_map]
theorem isTabB_of {x:RowT} (hx:x ∈ rowsL):isTabB (tabs x)=true:=by
 obtain ⟨o1,o2⟩:=row_names hx
 unfold isTabB
 rw [tabs_name hx,o1,o2,tabs_name hx]
 simp [strEq,isDoc]
set_option maxRecDepth 8000 in
theorem decX_loop (w:Int) (w0:0≤w) (w1:w<65536):AWP Tryz.prog 48 (tailN 3 B16) (decXQ w) [(4,.ptr 0 0),(5,.int .i64 0),(6,.int .i64 0),(7,.int .u64 w),(9,.sl tabE tabL [] .full)] [insO zeroI]:=by
 have e:tailN 3 B16 = .seq (.seq (c1 (c1 (tailN 3 B16))) (.block 0 (.loop (cin (cin (c2 (c1 (tailN 3 B16)))))))) (tailN 4 B16):=by kernel_rfl
 rw [e]
 have hlen:=rowsL_len
 have hw:IntKind.wrap IntKind.u16 w=w:=by rw [wrap_u16]; omega
 refine AWP_seq (AWP_seq (AWP_run (cx:=cx49) rfl rfl cx49_ok (s:=(.normal,(decXSt w ⟨0,Nat.zero_le _,rfl⟩).1,[insO zeroI])) (by kernel_rfl) ?_))
 refine AWP_block ?_
 refine AWP_rounds (cx:=cx49) (P:=Tryz.prog) (n:=48) rfl rfl cx49_ok (decXSt w) (fun i=>33 - i.1) ?_ ⟨0,Nat.zero_le _,rfl⟩
 rintro ⟨i,hi,hnone⟩
 refine Tree.all_run_eq (decXRound_eq tabL w i) ?_
 unfold decXRound
 rw [tabL_len]
 refine ⟨fun hlt=>?_,fun hge=>?_⟩
 ·have hlt:i<rowsL.length:=Int.ofNat_lt.1 (of_decide_eq_true hlt)
  have hm:rowsL.getD i zeroR ∈ rowsL:=getD_mem hlt
  have hy:tabAt tabL ((i:Int).toNat)=tabs (rowsL.getD i zeroR):=tabAt_eq hlt
  obtain ⟨o1,o2⟩:=row_names hm
  have hI:decXI tabL w (i:Int)=rdI (rowsL.getD i zeroR) w:=by unfold decXI; rw [hw,hy,tabs_name hm,o1]
  have hn:(rdI (rowsL.getD i zeroR) w).1=(rowsL.getD i zeroR).1:=rdI_name _ _
  have step:V.int .i64 (IntKind.wrap .i64 ((i:Int)+1))=V.int .i64 ((i+1:Nat):Int):=by
   rw [wrap_i64 (by omega) (by omega)]
   rfl
  rw [hy,hI]
  have hE:encE (rdI (rowsL.getD i zeroR) w)=faultyF (rowsL.getD i zeroR) (rdI (rowsL.getD i zeroR) w):=by
   unfold encE
   rw [hn,o1,o2]
   rfl
  refine all_t (inside_of (Int.natCast_nonneg i) (Int.ofNat_lt.2 hlt)) (all_t (isTabB_of hm) (all_t (by rw [hw]; simp only [Bool.and_eq_true,decide_eq_true_eq]; exact ⟨w0,w1⟩) ?_))
  have next:matchX w (rowsL.getD i zeroR)=false→(rowsL.take (i+1)).find? (matchX w)=none:=fun hp=>take_none hlt hnone hp
  refine ⟨fun h1=>all_t (by rw [hn]; exact o2) ?_,fun h1=>?_⟩
  ·rw [hE] at h1
   have hwd:=wdX_eq hm (eq_of_beq h1)
   rw [hn,o1,hw,hwd]
   have hmx:matchX w (rowsL.getD i zeroR)=(encW (rowsL.getD i zeroR) (rdI (rowsL.getD i zeroR) w) == w):=by unfold matchX; rw [h1,Bool.true_and]
   refine ⟨fun h2=>?_,fun h2=>?_⟩
   ·have hf:drowX w=some (rowsL.getD i zeroR):=take_some hlt hnone (by rw [hmx]; exact h2)
    obtain ⟨e1,e2⟩:=dec_found w0 w1 hf
    refine ⟨[],_,rfl,.inl rfl,?_⟩
    show answerV _ _ _ _=some _
    rw [e1,e2]
    kernel_rfl
   ·exact ⟨[],_,rfl,⟨i+1,hlt,next (by rw [hmx]; exact h2)⟩,by show 33 - (i+1)<33 - i; omega,Fits.tle ⟨rfl,rfl,rfl,rfl,rfl,step,trivial⟩,rfl⟩
  ·rw [hE] at h1
   have hmf:matchX w (rowsL.getD i zeroR)=false:=by unfold matchX; rw [h1]; rfl
   exact ⟨[],_,rfl,⟨i+1,hlt,next hmf⟩,by show 33 - (i+1)<33 - i; omega,Fits.tle ⟨rfl,rfl,rfl,rfl,rfl,step,trivial⟩,rfl⟩
 ·have hge:¬ i<rowsL.length:=fun h=>of_decide_eq_false hge (Int.ofNat_lt.2 h)
  have hi' : i=rowsL.length:=by omega
  refine ⟨[],_,rfl,?_⟩
  show AWP _ _ _ _ _ _
  refine AWP.less (s:=[(4,.ptr 0 0),(5,.int .i64 0),(6,.int .i64 0)]) (Fits.tle ⟨rfl,rfl,rfl,trivial⟩) ?_
  refine AWP_run (cx:=cx49) rfl rfl cx49_ok decXEnd_eq ?_
  refine ⟨.inl rfl,?_⟩
  have hf:drowX w=none:=by unfold drowX; rw [← hnone,hi',List.take_length]
  obtain ⟨h1,h2⟩:=dec_none w0 w1 hf
  show answerV _ _ _ _=some _
  rw [h1,h2]
  kernel_rfl
theorem decX_ok (l sp:List Int) (fl:Fl) (at_:Int) (hl:l.length<1000000000) (hb:Bytes l) :
  PCall Tryz.prog 49 [.sl (.int .u8) l sp fl,.int .i64 at_] (.tup [insV (dI l at_),.int .i64 (dN l at_),.int .i64 (dE l at_)]):=by
 refine pcall_of' (c:=bodyOf Tryz.f49) (fn:=Tryz.f49) (by kernel_rfl) (by kernel_rfl) (by kernel_rfl) (by kernel_rfl) ?_
 refine AWP_headE (cx:=cx49) rfl rfl cx49_ok 3 (by kernel_rfl) (decXPre_eq l sp fl at_) ?_
 refine all_t (decide_eq_true (by omega)) ⟨fun he=>?_,fun he=>?_⟩
 ·have key:dI l at_=zeroI∧dN l at_=0∧dE l at_=uE l at_:=by
   unfold uE at he ⊢
   unfold dI dN dE
   cases ho:outOf l at_
   ·rw [ho] at he
    cases hs:shortOf l at_
    ·rw [hs] at he; cases he
    ·exact ⟨rfl,rfl,rfl⟩
   ·exact ⟨rfl,rfl,rfl⟩
  obtain ⟨a1,a2,a3⟩:=key
  refine ⟨.inl rfl,?_⟩
  show answerV _ _ _ _=some _
  rw [a1,a2,a3]
  kernel_rfl
 ·have ho:outOf l at_=false∧shortOf l at_=false:=by
   unfold uE at he
   cases ho:outOf l at_
   ·rw [ho] at he
    cases hs:shortOf l at_
    ·exact ⟨rfl,rfl⟩
    ·rw [hs] at he; cases he
   ·rw [ho] at he; cases he
  obtain ⟨ho,hs⟩:=ho
  have g1:0≤at_∧at_≤l.length:=by
   simp only [outOf,Bool.or_eq_false_iff,decide_eq_false_iff_not] at ho
   omega
  have g2:at_+2≤l.length:=by
   simp only [shortOf,decide_eq_false_iff_not] at hs
   rw [wrap_i64 (by omega) (by omega)] at hs
   omega
  have hw:=w2_sum hb g1.1 g2 hl
  obtain ⟨r0,r1⟩:=sum2_rng hb at_.toNat
  have hu:uV l at_=sum2 l at_.toNat:=by
   unfold uV
   rw [ho,hs]
   show numP (sub l at_.toNat (at_.toNat+2))=_
   rw [sub2 (by omega)]
   exact num2F_eq (bytes_getD hb _) (bytes_getD hb _)
  have a1:dI l at_=decI (sum2 l at_.toNat):=by unfold dI; rw [ho,hs,hw]; rfl
  have a2:dN l at_=cond (decOk (sum2 l at_.toNat)) 2 0:=by unfold dN; rw [ho,hs,hw]; rfl
  have a3:dE l at_=cond (decOk (sum2 l at_.toNat)) 0 22:=by unfold dE; rw [ho,hs,hw]; rfl
  show AWP _ _ _ _ _ _
  refine AWP.less (s:=[(4,.ptr 0 0),(5,.int .i64 0),(6,.int .i64 0),(7,.int .u64 (sum2 l at_.toNat)),(9,.sl tabE tabL [] .full)]) (Fits.tle ⟨rfl,rfl,rfl,congrArg (V.int .u64) hu,rfl,trivial⟩) ?_
  rw [a1,a2,a3]
  exact decX_loop (sum2 l at_.toNat) r0 r1
def bytesB (l:List Int):Bool:=l.all fun b=>decide (0≤b) && decide (b<256)
theorem bytesB_to {l:List Int} (h:bytesB l=true):Bytes l:=by
 intro x hx
 have:=List.all_eq_true.1 h x hx
 simpa using this
def decXS:Ab.Spec:=fun args=>match args with
 | [.sl (.int .u8) l _ _,.int .i64 at_]=>.req (decide (l.length<1000000000)) (.req (bytesB l) (.leaf (.tup [insV (dI l at_),.int .i64 (dN l at_),.int .i64 (dE l at_)])))
 | _=>.fail
theorem decXS_ok:Sound Tryz.prog 49 decXS:=by
 intro args out h
 unfold decXS at h
 split at h
 rotate_left
 ·cases h
 obtain ⟨h1,h⟩:=req_run h
 obtain ⟨h2,h⟩:=req_run h
 have h:=leaf_out h
 subst h
 exact decX_ok _ _ _ _ (of_decide_eq_true h1) (bytesB_to h2)
end Go.Cmp

namespace Go.Cmp
open Go Go.Ab Go.Proofs
def chkE (E:InsT→Int):Ab.Spec:=fun args=>match args with
 | [.agg [.str nm,.int .i64 a,.int .i64 b,.int .i64 c,.int .i64 d,.int .i64 n]]=>.leaf (.int .i64 (E (nm,a,b,c,d,n)))
 | _=>.fail
theorem chkE_ok:Sound Tryz.prog 106 (chkE encE):=checkXS_ok
noncomputable def cxWi (E:InsT→Int):Cx:={ P:=Tryz.prog,n:=153,tab:=[(106,chkE E)],mtab:=[],refs:=[],keeps:=[0,1,2,3,4,5,9,15,16,22,34,46,49,65,71,75,81,99,103,109,115,125,130,135,142] }
theorem cxWi_ok:CxOk (cxWi encE):=cx1_ok (ok1 chkE_ok) (fun p h=>by cases h) rfl rfl
noncomputable def wiR (p:RowT × LongT) (E:InsT→Int) (a b c d n:Int):Option V:=(dfun (cxWi E) Tryz.f50 [.agg [.str p.1.1,.int .i64 a,.int .i64 b,.int .i64 c,.int .i64 d,.int .i64 n]]).fin
def wiO (p:RowT × LongT) (E:InsT→Int) (a b c d n:Int):Option V:=
 cond (E (p.1.1,a,b,c,d,n) != 0) (some (.tup [insV zeroI,.int .i64 (E (p.1.1,a,b,c,d,n))])) (some (.tup [insV (wideF p.2 (p.1.1,a,b,c,d,n)),.int .i64 0]))
theorem wi_0:(partL 0).map wiR=(partL 0).map wiO:=by kernel_rfl
theorem wi_1:(partL 1).map wiR=(partL 1).map wiO:=by kernel_rfl
theorem wi_2:(partL 2).map wiR=(partL 2).map wiO:=by kernel_rfl
theorem wi_3:(partL 3).map wiR=(partL 3).map wiO:=by kernel_rfl
theorem wi_4:(partL 4).map wiR=(partL 4).map wiO:=by kernel_rfl
theorem wi_5:(partL 5).map wiR=(partL 5).map wiO:=by kernel_rfl
theorem wi_all {x:RowT} (hx:x ∈ rowsL):wiR (x,longs x)=wiO (x,longs x):=
 six_all (l:=pairsW) pairsW_len (fun k hk=>match k,hk with
  | 0,_=>wi_0
  | 1,_=>wi_1
  | 2,_=>wi_2
  | 3,_=>wi_3
  | 4,_=>wi_4
  | 5,_=>wi_5) (pairsW_mem hx)
def chk7:Ab.Spec:=fun args=>match args with
 | [.agg [.str nm,.int .i64 _,.int .i64 _,.int .i64 _,.int .i64 _,.int .i64 _]]=>.req (!fok nm) (.leaf (.int .i64 7))
 | _=>.fail
theorem chk7_ok:Sound Tryz.prog 106 chk7:=by
 intro args out h
 refine checkXS_ok args out ?_
 unfold chk7 at h
 split at h
 rotate_left
 ·cases h
 obtain ⟨h1,h⟩:=req_run h
 have h:=leaf_out h
 subst h
 have h1:fok _=false:=(Bool.not_eq_true' _).mp h1
 unfold checkXS encE
 simp only
 rw [h1]
 rfl
noncomputable def cxW7:Cx:={ P:=Tryz.prog,n:=153,tab:=[(106,chk7)],mtab:=[],refs:=[],keeps:=[0,1,2,3,4,5,9,15,16,22,34,46,49,65,71,75,81,99,103,109,115,125,130,135,142] }
theorem wi7_eq (nm:List UInt8) (a b c d n:Int):(dfun cxW7 Tryz.f50 [.agg [.str nm,.int .i64 a,.int .i64 b,.int .i64 c,.int .i64 d,.int .i64 n]]).fin=cond (!fok nm) (some (.tup [insV zeroI,.int .i64 7])) none:=by kernel_rfl
def wideXS:Ab.Spec:=fun args=>match args with
 | [.agg [.str nm,.int .i64 a,.int .i64 b,.int .i64 c,.int .i64 d,.int .i64 n]]=>.leaf (.tup [insV (wideA (nm,a,b,c,d,n)),.int .i64 (encE (nm,a,b,c,d,n))])
 | _=>.fail
theorem wideXS_ok:Sound Tryz.prog 50 wideXS:=by
 intro args out h
 unfold wideXS at h
 split at h
 rotate_left
 ·cases h
 rename_i nm a b c d n
 have h:=leaf_out h
 subst h
 cases hf:fok nm
 ·have e:encE (nm,a,b,c,d,n)=7:=by unfold encE; simp only; rw [hf]; rfl
  have w:wideA (nm,a,b,c,d,n)=zeroI:=by unfold wideA; rw [e]; rfl
  rw [e,w]
  refine pcall_fun' (cx:=cxW7) (fn:=Tryz.f50) (cx1_ok (ok1 chk7_ok) (fun p h=>by cases h) rfl rfl) (by kernel_rfl) (by kernel_rfl) rfl ((Tree.fin_run _).symm.trans ((wi7_eq nm a b c d n).trans ?_))
  rw [hf]
  rfl
 ·obtain ⟨hx,hn,_⟩:=frow_mem hf
  have hw:=congrFun (congrFun (congrFun (congrFun (congrFun (congrFun (wi_all hx) encE) a) b) c) d) n
  unfold wiR wiO at hw
  simp only at hw
  rw [hn] at hw
  refine pcall_fun' (cx:=cxWi encE) (fn:=Tryz.f50) cxWi_ok (by kernel_rfl) (by kernel_rfl) rfl ((Tree.fin_run _).symm.trans (hw.trans ?_))
  unfold wideA bne
  cases he:(encE (nm,a,b,c,d,n) == 0)
  ·rfl
  ·rw [eq_of_beq he]
   rfl
end Go.Cmp
