/-
  The table of amd: like, moves, sums, jumps, rows. Conditions: none.
-/
import Derived.Test.YtbefgnmdliefjaaGreatDoorPk10
import Derived.Test.YtbefgnmdliefjaaGreatDoorProg
import Derived.KernelRfl
set_option linter.unusedVariables false
set_option linter.unusedSimpArgs false
namespace Go.Amd
open Go Go.Ab Go.Proofs
theorem cx0_ok {cx:Cx} (h1:cx.tab=[]) (h2:cx.mtab=[]) (h3:cx.rtab=[]:=by rfl) (h4:∀ p ∈ cx.globs,p ∈ globsOf cx.P:=by intro p h; cases h):CxOk cx:=by
 refine ⟨?_,?_,?_,h4⟩
 ·rw [h1]; exact .nil _
 ·rw [h2]; exact .nil _
 ·rw [h3]; exact .nil _
theorem cx1_ok {cx:Cx} {t:List (Nat × Ab.Spec)} {m:List (Nat × MSpec)} (ht:TabOk cx.P t) (hm:MTabOk cx.P m) (h1:cx.tab=t) (h2:cx.mtab=m) (h3:cx.rtab=[]:=by rfl) (h4:∀ p ∈ cx.globs,p ∈ globsOf cx.P:=by intro p h; cases h):CxOk cx:=by
 refine ⟨?_,?_,?_,h4⟩
 ·rw [h1]; exact ht
 ·rw [h2]; exact hm
 ·rw [h3]; exact .nil _
theorem cx2_ok {cx:Cx} {t:List (Nat × Ab.Spec)} {m:List (Nat × MSpec)} {r:List (Nat × RSpec)} (ht:TabOk cx.P t) (hm:MTabOk cx.P m) (hr:RTabOk cx.P r) (h1:cx.tab=t) (h2:cx.mtab=m) (h3:cx.rtab=r) (h4:∀ p ∈ cx.globs,p ∈ globsOf cx.P:=by intro p h; cases h):CxOk cx:=by
 refine ⟨?_,?_,?_,h4⟩
 ·rw [h1]; exact ht
 ·rw [h2]; exact hm
 ·rw [h3]; exact hr
abbrev rowE:EC:=.prod [.str,.int .i64,.int .u16,.int .i64,.int .u8,.bool,.int .i64,.int .i64,.str]
abbrev RowT:=List UInt8 × Int × Int × Int × Int × Bool × Int × Int × List UInt8
noncomputable def cx199:Cx:={ P:=Tryz.prog,n:=32,tab:=[],mtab:=[],refs:=[],keeps:=[0,1,2,4,7,8,9,10,11],fuel:=10 }
noncomputable def likeS:MSpec:=fun args H=>.req (Nat.ble args.length Tryz.f199.ntmps) (mfun cx199 Tryz.f199 args H)
theorem likeS_ok:MSound Tryz.prog 199 likeS:=msound_fun (cx:=cx199) (fn:=Tryz.f199) (cx0_ok rfl rfl) (by kernel_rfl) (by kernel_rfl)
noncomputable def cx140:Cx:={ P:=Tryz.prog,n:=62,tab:=[],mtab:=[(199,likeS)],refs:=[],keeps:=[0,2,3,4] }
noncomputable def cx141:Cx:={ P:=Tryz.prog,n:=75,tab:=[],mtab:=[(199,likeS)],refs:=[],keeps:=[0] }
noncomputable def cx142:Cx:={ P:=Tryz.prog,n:=43,tab:=[],mtab:=[(199,likeS)],refs:=[],keeps:=[0] }
def movesL:List RowT:=[
 ([109,111,118,46,114,114],1,137,7,0,false,0,0,[65,66]),
 ([109,111,118,46,114,105],1,184,2,0,false,-9223372036854775808,9223372036854775807,[65,105]),
 ([109,111,118,46,114,115],1,199,4,0,false,-2147483648,2147483647,[65,105]),
 ([109,111,118,46,114,109],1,139,9,0,false,-2147483648,2147483647,[65,109]),
 ([109,111,118,108,46,114,109],0,139,9,0,false,-2147483648,2147483647,[65,109]),
 ([109,111,118,115,108,46,114,109],1,99,9,0,false,-2147483648,2147483647,[65,109]),
 ([109,111,118,122,98,46,114,109],1,4022,9,0,false,-2147483648,2147483647,[65,109]),
 ([108,101,97],1,141,9,0,false,-2147483648,2147483647,[65,109]),
 ([109,111,118,46,109,114],1,137,9,0,false,-2147483648,2147483647,[65,109]),
 ([109,111,118,108,46,109,114],0,137,9,0,false,-2147483648,2147483647,[65,109]),
 ([109,111,118,98,46,109,114],2,136,9,0,false,-2147483648,2147483647,[65,109]),
 ([109,111,118,46,102,115],1,139,10,0,false,-2147483648,2147483647,[65,105])]
@[irreducible] def rowsL:List RowT:=[
 ([109,111,118,46,114,114],1,137,7,0,false,0,0,[65,66]),
 ([109,111,118,46,114,105],1,184,2,0,false,-9223372036854775808,9223372036854775807,[65,105]),
 ([109,111,118,46,114,115],1,199,4,0,false,-2147483648,2147483647,[65,105]),
 ([109,111,118,46,114,109],1,139,9,0,false,-2147483648,2147483647,[65,109]),
 ([109,111,118,108,46,114,109],0,139,9,0,false,-2147483648,2147483647,[65,109]),
 ([109,111,118,115,108,46,114,109],1,99,9,0,false,-2147483648,2147483647,[65,109]),
 ([109,111,118,122,98,46,114,109],1,4022,9,0,false,-2147483648,2147483647,[65,109]),
 ([108,101,97],1,141,9,0,false,-2147483648,2147483647,[65,109]),
 ([109,111,118,46,109,114],1,137,9,0,false,-2147483648,2147483647,[65,109]),
 ([109,111,118,108,46,109,114],0,137,9,0,false,-2147483648,2147483647,[65,109]),
 ([109,111,118,98,46,109,114],2,136,9,0,false,-2147483648,2147483647,[65,109]),
 ([109,111,118,46,102,115],1,139,10,0,false,-2147483648,2147483647,[65,105]),
 ([97,100,100,46,114,114],1,1,7,0,false,0,0,[65,66]),
 ([111,114,46,114,114],1,9,7,0,false,0,0,[65,66]),
 ([97,110,100,46,114,114],1,33,7,0,false,0,0,[65,66]),
 ([115,117,98,46,114,114],1,41,7,0,false,0,0,[65,66]),
 ([120,111,114,46,114,114],1,49,7,0,false,0,0,[65,66]),
 ([99,109,112,46,114,114],1,57,7,0,false,0,0,[65,66]),
 ([97,100,100,46,114,109],1,3,9,0,false,-2147483648,2147483647,[65,109]),
 ([111,114,46,114,109],1,11,9,0,false,-2147483648,2147483647,[65,109]),
 ([97,110,100,46,114,109],1,35,9,0,false,-2147483648,2147483647,[65,109]),
 ([115,117,98,46,114,109],1,43,9,0,false,-2147483648,2147483647,[65,109]),
 ([120,111,114,46,114,109],1,51,9,0,false,-2147483648,2147483647,[65,109]),
 ([99,109,112,46,114,109],1,59,9,0,false,-2147483648,2147483647,[65,109]),
 ([97,100,100,46,114,105],1,131,6,0,false,-2147483648,2147483647,[65,105]),
 ([111,114,46,114,105],1,131,6,1,false,-2147483648,2147483647,[65,105]),
 ([97,110,100,46,114,105],1,131,6,4,false,-2147483648,2147483647,[65,105]),
 ([115,117,98,46,114,105],1,131,6,5,false,-2147483648,2147483647,[65,105]),
 ([120,111,114,46,114,105],1,131,6,6,false,-2147483648,2147483647,[65,105]),
 ([99,109,112,46,114,105],1,131,6,7,false,-2147483648,2147483647,[65,105]),
 ([116,101,115,116,46,114,114],1,133,7,0,false,0,0,[65,66]),
 ([105,109,117,108,46,114,114],1,4015,8,0,false,0,0,[65,66]),
 ([110,111,116],1,247,3,2,false,0,0,[65]),
 ([110,101,103],1,247,3,3,false,0,0,[65]),
 ([109,117,108],1,247,3,4,false,0,0,[65]),
 ([100,105,118],1,247,3,6,false,0,0,[65]),
 ([105,100,105,118],1,247,3,7,false,0,0,[65]),
 ([99,113,111],1,153,0,0,false,0,0,[]),
 ([115,104,108,46,114,105],1,193,5,4,false,0,63,[65,105]),
 ([115,104,114,46,114,105],1,193,5,5,false,0,63,[65,105]),
 ([115,97,114,46,114,105],1,193,5,7,false,0,63,[65,105]),
 ([115,104,108,46,114,99],1,211,3,4,false,0,0,[65]),
 ([115,104,114,46,114,99],1,211,3,5,false,0,0,[65]),
 ([115,97,114,46,114,99],1,211,3,7,false,0,0,[65]),
 ([99,109,111,118],1,3904,8,0,true,0,0,[65,66,99]),
 ([112,117,115,104],0,80,1,0,false,0,0,[65]),
 ([112,111,112],0,88,1,0,false,0,0,[65]),
 ([99,97,108,108],0,232,11,0,false,-2147483648,2147483647,[106]),
 ([106,109,112],0,233,11,0,false,-2147483648,2147483647,[106]),
 ([106,109,112,46,115],0,235,12,0,false,-128,127,[106]),
 ([99,97,108,108,46,114],0,255,3,2,false,0,0,[65]),
 ([106,109,112,46,114],0,255,3,4,false,0,0,[65]),
 ([106,99,99],0,3968,11,0,true,-2147483648,2147483647,[99,106]),
 ([106,99,99,46,115],0,112,12,0,true,-128,127,[99,106]),
 ([114,101,116],0,195,0,0,false,0,0,[]),
 ([115,121,115,99,97,108,108],0,3845,0,0,false,0,0,[]),
 ([110,111,112],0,144,0,0,false,0,0,[]),
 ([117,100,50],0,3851,0,0,false,0,0,[])]
def mvH:List O:=[.cells [.gro 1 rowE []] 176,.tok 0 9]
noncomputable def mvOf (x:Option St):T × List O:=match x with
 | some (.normal,t,H)=>(t,H)
 | _=>([],[])
@[irreducible] noncomputable def mv4:T × List O:=mvOf (dcode cx140 (headN 3 (bodyOf Tryz.f140)) [(0,.ptr 0 0)] mvH).run
theorem mv4_eq:(dcode cx140 (headN 3 (bodyOf Tryz.f140)) [(0,.ptr 0 0)] mvH).run=some (.normal,mv4.1,mv4.2):=by kernel_rfl
noncomputable def mvOps:Array Oper:=regOps (c1 (tailN 3 (bodyOf Tryz.f140)))
@[irreducible] noncomputable def mv5:T × List O:=mvOf (((ordsF cx140 mvOps mvOps.size (Array.replicate mvOps.size false) mv4).map (fun l=>l.map fun s=>dropS mv4.2.length (ordK [3,4] s.1) (.normal,s.1,s.2))).getD []).head?.join
set_option maxRecDepth 8000 in
theorem mv5_eq:(ordsF cx140 mvOps mvOps.size (Array.replicate mvOps.size false) (mv4.1,mv4.2)).map (fun l=>l.map fun s=>dropS mv4.2.length (ordK [3,4] s.1) (.normal,s.1,s.2))=some (List.replicate 30 (some (.normal,mv5.1,mv5.2))):=by kernel_rfl
@[irreducible] noncomputable def mvE:St:=((dcode cx140 (c2 (tailN 3 (bodyOf Tryz.f140))) mv5.1 mv5.2).run).getD (.normal,[],[])
theorem mvE_eq:(dcode cx140 (c2 (tailN 3 (bodyOf Tryz.f140))) mv5.1 mv5.2).run=some mvE:=by kernel_rfl
theorem mvE_out:(dropS 2 [] mvE).map (fun s=>(match s.1 with | .normal=>true | _=>false,s.2.2))=some (true,[.cells [.gro 1 rowE movesL] 176,.tok 12 9]):=by kernel_rfl
def movesS:MSpec:=fun args H=>match args,H with
 | [.ptr 0 0],[.cells [.gro 1 (.prod [.str,.int .i64,.int .u16,.int .i64,.int .u8,.bool,.int .i64,.int .i64,.str]) []] 176,.tok 0 9]=>.leaf (.ok (.tup []) [.cells [.gro 1 rowE movesL] 176,.tok 12 9])
 | _,_=>.fail
theorem cxMoves_ok:CxOk cx140:=cx1_ok (.nil _) (.cons likeS_ok (.nil _)) rfl rfl
set_option maxHeartbeats 2000000 in
set_option maxRecDepth 8000 in
theorem movesS_ok:MSound Tryz.prog 140 movesS:=by
 intro args H r h
 unfold movesS at h
 split at h
 rotate_left
 ·cases h
 simp only [Tree.run,Option.some.injEq] at h
 subst h
 refine mcall_of' (c:=bodyOf Tryz.f140) (fn:=Tryz.f140) (by kernel_rfl) (by kernel_rfl) (by kernel_rfl) (by kernel_rfl) ?_
 refine AWP_scope ?_
 refine AWP_head (cx:=cx140) rfl rfl cxMoves_ok 3 _ _ _ _ (by kernel_rfl) (Tree.run_all mv4_eq ?_)
 show AWP _ _ _ _ _ _
 have e:tailN 3 (bodyOf Tryz.f140) = .seq (.region 4 mvOps true) (c2 (tailN 3 (bodyOf Tryz.f140))):=by kernel_rfl
 rw [e]
 refine AWP_seq (AWP_ordersK (cx:=cx140) [3,4] 30 rfl rfl cxMoves_ok (by kernel_rfl) mv5_eq ?_)
 show AWP _ _ _ _ _ _
 refine AWP_run (cx:=cx140) rfl rfl cxMoves_ok mvE_eq ?_
 obtain ⟨⟨ex,t,H⟩,h1,h2⟩:=Option.map_eq_some_iff.1 mvE_out
 simp only [Prod.mk.injEq] at h2
 obtain ⟨h2,rfl⟩:=h2
 refine ⟨[],_,h1,?_⟩
 cases ex with
 | normal =>
  show MPost Tryz.prog Tryz.f140 (.ok (.tup []) [.cells [.gro 1 rowE movesL] 176,.tok 12 9]) .normal t [.cells [.gro 1 rowE movesL] 176,.tok 12 9]
  unfold MPost
  exact ⟨.inr rfl,rfl,by kernel_rfl⟩
 | exit _=>cases h2
 | ret=>cases h2
 | panic _=>cases h2
noncomputable def sumsS:MSpec:=fun args H=>.req (Nat.ble args.length Tryz.f141.ntmps) (mfun cx141 Tryz.f141 args H)
theorem sumsS_ok:MSound Tryz.prog 141 sumsS:=msound_fun (cx:=cx141) (fn:=Tryz.f141) (cx1_ok (.nil _) (.cons likeS_ok (.nil _)) rfl rfl) (by kernel_rfl) (by kernel_rfl)
noncomputable def jumpsS:MSpec:=fun args H=>.req (Nat.ble args.length Tryz.f142.ntmps) (mfun cx142 Tryz.f142 args H)
theorem jumpsS_ok:MSound Tryz.prog 142 jumpsS:=msound_fun (cx:=cx142) (fn:=Tryz.f142) (cx1_ok (.nil _) (.cons likeS_ok (.nil _)) rfl rfl) (by kernel_rfl) (by kernel_rfl)
noncomputable def cx92:Cx:={ P:=Tryz.prog,n:=7,tab:=[],mtab:=[(140,movesS),(141,sumsS),(142,jumpsS)],refs:=[],keeps:=[0,1] }
def rowsS:Ab.Spec:=fun args=>match args with
 | []=>.leaf (.sl rowE rowsL [] .ro)
 | _=>.fail
theorem rows_run:(dfun cx92 Tryz.f92 []).run=some (.sl rowE rowsL [] .ro):=by kernel_rfl
theorem rowsL_len:rowsL.length=58:=by kernel_rfl
theorem rowsS_ok:Sound Tryz.prog 92 rowsS:=by
 intro args out h
 unfold rowsS at h
 split at h
 rotate_left
 ·cases h
 simp only [Tree.run,Option.some.injEq] at h
 subst h
 exact pcall_fun' (cx:=cx92) (fn:=Tryz.f92) (cx1_ok (.nil _) (.cons movesS_ok (.cons sumsS_ok (.cons jumpsS_ok (.nil _)))) rfl rfl) (by kernel_rfl) (by kernel_rfl) (by kernel_rfl) rows_run
end Go.Amd

namespace Go.Amd
open Go Go.Ab Go.Proofs
def rowL (r:RowT):List V:=[.str r.1,.int .i64 r.2.1,.int .u16 r.2.2.1,.int .i64 r.2.2.2.1,.int .u8 r.2.2.2.2.1,.bool r.2.2.2.2.2.1,.int .i64 r.2.2.2.2.2.2.1,.int .i64 r.2.2.2.2.2.2.2.1,.str r.2.2.2.2.2.2.2.2]
noncomputable def cx51:Cx:={ P:=Tryz.prog,n:=19,tab:=[(92,rowsS)],mtab:=[],refs:=[],keeps:=[0,2,3,5,6,7,8,9,15] }
noncomputable abbrev cxFind:Cx:=cx51
def zeroR:RowT:=([],0,0,0,0,false,0,0,[])
abbrev rowAt (l:List RowT) (i:Nat):RowT:=l.getD i zeroR
def findRound (nm:List UInt8) (i:Int) (l:List RowT):Tree St:=
 (.br (decide (i<(l.length:Nat))) (.br (inside i l.length) (.br (strEq (rowAt l i.toNat).1 nm)
  (.leaf (.ret,[(0,.str nm),(2,.ptr 0 0),(3,.bool true),(5,.ptr 1 0),(6,.sl rowE l [] .ro),(7,.int .i64 (l.length:Nat)),(8,.int .i64 i),(9,.bool true),(15,.bool true)],[.cells (rowL (rowAt l i.toNat)) 104,.cells (rowL (rowAt l i.toNat)) 104]))
  (.leaf (.normal,[(0,.str nm),(2,.ptr 0 0),(3,.bool false),(5,.ptr 1 0),(6,.sl rowE l [] .ro),(7,.int .i64 (l.length:Nat)),(8,.int .i64 (IntKind.wrap .i64 (i+1))),(9,.bool true),(15,.bool false)],[.cells (rowL zeroR) 104,.cells (rowL (rowAt l i.toNat)) 104]))) .fail)
  (.leaf (.exit 0,[(0,.str nm),(2,.ptr 0 0),(3,.bool false),(6,.sl rowE l [] .ro),(7,.int .i64 (l.length:Nat)),(8,.int .i64 i),(9,.bool false)],[.cells (rowL zeroR) 104])))
theorem findRound_eq (nm:List UInt8) (i:Int) (l:List RowT):(dcode cxFind (cin (cin (c2 (c1 (c2 (bodyOf Tryz.f51)))))) [(0,.str nm),(2,.ptr 0 0),(3,.bool false),(6,.sl rowE l [] .ro),(7,.int .i64 l.length),(8,.int .i64 i)] [.cells (rowL zeroR) 104]).run=(findRound nm i l).run:=
 (show (dcode cxFind (cin (cin (c2 (c1 (c2 (bodyOf Tryz.f51)))))) [(0,.str nm),(2,.ptr 0 0),(3,.bool false),(6,.sl rowE l [] .ro),(7,.int .i64 l.length),(8,.int .i64 i)] [.cells (rowL zeroR) 104]).run=(findRound nm i l).out by kernel_rfl).trans (Tree.out_run _)
theorem cxFind_ok:CxOk cxFind:=cx1_ok (.cons rowsS_ok (.nil _)) (fun p h=>by cases h) rfl rfl
def findL (nm:List UInt8) (l:List RowT):Option RowT:=l.find? fun r=>strEq r.1 nm
def frow (nm:List UInt8):RowT:=(findL nm rowsL).getD zeroR
def fok (nm:List UInt8):Bool:=(findL nm rowsL).isSome
def findS:Ab.Spec:=fun args=>match args with
 | [.str nm]=>.leaf (.tup [.agg (rowL (frow nm)),.bool (fok nm)])
 | _=>.fail
def findSt (nm:List UInt8) (i:{ i:Nat // i≤rowsL.length∧findL nm (rowsL.take i)=none }):T × List O:=
 ([(0,.str nm),(2,.ptr 0 0),(3,.bool false),(6,.sl rowE rowsL [] .ro),(7,.int .i64 rowsL.length),(8,.int .i64 i.1)],[.cells (rowL zeroR) 104])
theorem find_ok (nm:List UInt8):PCall Tryz.prog 51 [.str nm] (.tup [.agg (rowL (frow nm)),.bool (fok nm)]):=by
 refine pcall_of' (c:=bodyOf Tryz.f51) (fn:=Tryz.f51) (by kernel_rfl) (by kernel_rfl) (by kernel_rfl) (by kernel_rfl) ?_
 have e:bodyOf Tryz.f51 = .seq (c1 (bodyOf Tryz.f51)) (.seq (.seq (c1 (c1 (c2 (bodyOf Tryz.f51)))) (.block 0 (.loop (cin (cin (c2 (c1 (c2 (bodyOf Tryz.f51))))))))) (c2 (c2 (bodyOf Tryz.f51)))):=by kernel_rfl
 rw [e]
 generalize hQ:(fun e t H=>(e=AEx.ret∨e = .normal)∧answerV Tryz.prog Tryz.f51.results.toList H t=some (.tup [.agg (rowL (frow nm)),.bool (fok nm)]))=Q
 have hlen:=rowsL_len
 refine AWP_seq (AWP_run (cx:=cxFind) rfl rfl cxFind_ok (s:=(.normal,[(0,.str nm),(2,.ptr 0 0),(3,.bool false)],[.cells (rowL zeroR) 104])) (by kernel_rfl) ?_)
 refine AWP_seq (AWP_seq (AWP_run (cx:=cxFind) rfl rfl cxFind_ok (s:=(.normal,[(0,.str nm),(2,.ptr 0 0),(3,.bool false),(6,.sl rowE rowsL [] .ro),(7,.int .i64 58),(8,.int .i64 0)],[.cells (rowL zeroR) 104])) (by kernel_rfl) ?_))
 refine AWP_block ?_
 refine AWP.less (s:=(findSt nm ⟨0,Nat.zero_le _,rfl⟩).1) (Fits.tle ⟨rfl,rfl,rfl,rfl,by kernel_rfl,rfl,trivial⟩) ?_
 refine AWP_rounds (cx:=cxFind) (P:=Tryz.prog) (n:=19) rfl rfl cxFind_ok (findSt nm) (fun i=>58 - i.1) ?_ ⟨0,Nat.zero_le _,rfl⟩
 rintro ⟨i,hi,hnone⟩
 refine Tree.all_run_eq (findRound_eq nm i rowsL) ?_
 refine ⟨fun hlt=>⟨fun hin=>⟨fun hp=>?_,fun hp=>?_⟩,fun hin=>?_⟩,fun hge=>?_⟩
 ·-- found
  have hlt:i<rowsL.length:=Int.ofNat_lt.1 (of_decide_eq_true hlt)
  have hf:findL nm rowsL=some (rowsL.getD i zeroR):=take_some hlt hnone hp
  refine ⟨[],_,rfl,?_⟩
  subst hQ
  refine ⟨.inl rfl,?_⟩
  have h1:frow nm=rowsL.getD i zeroR:=by unfold frow; rw [hf]; rfl
  have h2:fok nm=true:=by unfold fok; rw [hf]; rfl
  show answerV _ _ _ _=some _
  rw [h1,h2]
  kernel_rfl
 ·have hlt:i<rowsL.length:=Int.ofNat_lt.1 (of_decide_eq_true hlt)
  have hf:findL nm (rowsL.take (i+1))=none:=take_none hlt hnone hp
  refine ⟨[],_,rfl,⟨i+1,hlt,hf⟩,by show 58 - (i+1)<58 - i; omega,Fits.tle ⟨rfl,rfl,rfl,rfl,rfl,?_,trivial⟩,rfl⟩
  show V.int .i64 (IntKind.wrap .i64 ((i:Int)+1))=V.int .i64 ((i+1:Nat):Int)
  rw [wrap_i64 (by omega) (by omega)]
  rfl
 ·exfalso
  have hlt:i<rowsL.length:=Int.ofNat_lt.1 (of_decide_eq_true hlt)
  exact Bool.noConfusion ((inside_of (Int.natCast_nonneg i) (Int.ofNat_lt.2 hlt)).symm.trans hin)
 ·have hge:¬ ((i:Int)<rowsL.length):=of_decide_eq_false hge
  have hi' : i=rowsL.length:=by omega
  refine ⟨[],_,rfl,?_⟩
  show AWP _ _ _ _ _ _
  refine AWP.less (s:=[(0,.str nm),(2,.ptr 0 0),(3,.bool false)]) (Fits.tle ⟨rfl,rfl,rfl,trivial⟩) ?_
  refine AWP_run (cx:=cxFind) rfl rfl cxFind_ok (s:=(.ret,[(0,.str nm),(2,.ptr 0 0),(3,.bool false)],[.cells (rowL zeroR) 104])) (by kernel_rfl) ?_
  subst hQ
  refine ⟨.inl rfl,?_⟩
  have hf:findL nm rowsL=none:=by rw [← hnone,hi',List.take_length]
  have h1:frow nm=zeroR:=by unfold frow; rw [hf]; rfl
  have h2:fok nm=false:=by unfold fok; rw [hf]; rfl
  show answerV _ _ _ _=some _
  rw [h1,h2]
  kernel_rfl
theorem findS_ok:Sound Tryz.prog 51 findS:=by
 intro args out h
 unfold findS at h
 split at h
 rotate_left
 ·cases h
 simp only [Tree.run,Option.some.injEq] at h
 subst h
 exact find_ok _
end Go.Amd

namespace Go.Amd
open Go Go.Ab Go.Proofs
theorem leaf_out {α:Type} {b o:α} (h:(Tree.leaf b).run=some o):o=b:=by simpa [Tree.run] using h.symm
theorem ok1 {P:Program} {f:Nat} {s:Ab.Spec} (h:Sound P f s):TabOk P [(f,s)]:=.cons h (.nil _)
theorem br_t {α:Type} {c:Bool} {x y:Tree α} (h:c=true):(Tree.br c x y).run=x.run:=by rw [h]; rfl
theorem all_t {α:Type} {c:Bool} {x y:Tree α} {Q:α→Prop} (h:c=true) (hx:x.all Q):(Tree.br c x y).all Q:=⟨fun _=>hx,fun e=>Bool.noConfusion (h.symm.trans e)⟩
abbrev InsT:=List UInt8 × Int × Int × Int × Int × Int
def insL (i:InsT):List V:=[.str i.1,.int .i64 i.2.1,.int .i64 i.2.2.1,.int .i64 i.2.2.2.1,.int .i64 i.2.2.2.2.1,.int .i64 i.2.2.2.2.2]
abbrev insV (i:InsT):V:=.agg (insL i)
noncomputable def cx94:Cx:={ P:=Tryz.prog,n:=18,tab:=[],mtab:=[],refs:=[],keeps:=[0,1,4] }
noncomputable def cx96:Cx:={ P:=Tryz.prog,n:=17,tab:=[],mtab:=[],refs:=[],keeps:=[0,2] }
noncomputable def cx95:Cx:={ P:=Tryz.prog,n:=67,tab:=[],mtab:=[],refs:=[],keeps:=[0,1,2,3,19] }
noncomputable def cx156:Cx:={ P:=Tryz.prog,n:=9,tab:=[],mtab:=[],refs:=[],keeps:=[0,2] }
def regT (n:Int) (u:Bool):Tree V:=
 (.br (n == 0) (.leaf (.bool true)) (.br u (.br (decide (0<n)) (.leaf (.bool (decide (n≤15)))) (.leaf (.bool false))) (.leaf (.bool false))))
theorem regT_eq (n:Int) (u:Bool):(dfun cx94 Tryz.f94 [.int .i64 n,.bool u]).run=(regT n u).run:=
 (show (dfun cx94 Tryz.f94 [.int .i64 n,.bool u]).run=(regT n u).out by kernel_rfl).trans (Tree.out_run _)
def condT (n:Int):Tree V:=
 (.br (decide (0≤n)) (.br (decide (n≤9)) (.leaf (.bool true)) (.br (decide (12≤n)) (.leaf (.bool (decide (n≤15)))) (.leaf (.bool false)))) (.br (decide (12≤n)) (.leaf (.bool (decide (n≤15)))) (.leaf (.bool false))))
theorem condT_eq (n:Int):(dfun cx96 Tryz.f96 [.int .i64 n]).run=(condT n).run:=
 (show (dfun cx96 Tryz.f96 [.int .i64 n]).run=(condT n).out by kernel_rfl).trans (Tree.out_run _)
def fitsT (n:Int):Tree V:=
 (.br (decide (-128≤n)) (.leaf (.bool (decide (n≤127)))) (.leaf (.bool false)))
theorem fitsT_eq (n:Int):(dfun cx156 Tryz.f156 [.int .i64 n]).run=(fitsT n).run:=
 (show (dfun cx156 Tryz.f156 [.int .i64 n]).run=(fitsT n).out by kernel_rfl).trans (Tree.out_run _)
def regF (n:Int) (u:Bool):Bool:=cond (n == 0) true (cond u (cond (decide (0<n)) (decide (n≤15)) false) false)
def condF (n:Int):Bool:=cond (cond (decide (0≤n)) (decide (n≤9)) false) true (cond (decide (12≤n)) (decide (n≤15)) false)
def fitsF (n:Int):Bool:=cond (decide (-128≤n)) (decide (n≤127)) false
def baseF (b:Int):Bool:=cond (cond (decide (0≤b)) (decide (b≤15)) false) true (b == 17)
def scaleF (d:Int):Bool:=cond (d == 1) true (cond (d == 2) true (cond (d == 4) true (d == 8)))
def placeF (b c d:Int):Bool:=cond (c == 16) (cond (baseF b) (d == 0) false) (cond (baseF b) (cond (b != 17) (cond (decide (0≤c)) (cond (decide (c≤15)) (cond (c != 4) (scaleF d) false) false) false) false) false)
def registerS:Ab.Spec:=fun args=>match args with
 | [.int .i64 n,.bool u]=>.leaf (.bool (regF n u))
 | _=>.fail
theorem registerS_ok:Sound Tryz.prog 94 registerS:=by
 intro args out h
 unfold registerS at h
 split at h
 rotate_left
 ·cases h
 rename_i n u
 have h:=leaf_out h
 subst h
 refine pcall_fun' (cx:=cx94) (fn:=Tryz.f94) (cx0_ok rfl rfl) (by kernel_rfl) (by kernel_rfl) (by kernel_rfl) ((regT_eq n u).trans ?_)
 unfold regT regF
 cases (n == 0)
 ·cases u
  ·rfl
  ·cases decide (0<n) <;> rfl
 ·rfl
def conditionS:Ab.Spec:=fun args=>match args with
 | [.int .i64 n]=>.leaf (.bool (condF n))
 | _=>.fail
theorem conditionS_ok:Sound Tryz.prog 96 conditionS:=by
 intro args out h
 unfold conditionS at h
 split at h
 rotate_left
 ·cases h
 rename_i n
 have h:=leaf_out h
 subst h
 refine pcall_fun' (cx:=cx96) (fn:=Tryz.f96) (cx0_ok rfl rfl) (by kernel_rfl) (by kernel_rfl) (by kernel_rfl) ((condT_eq n).trans ?_)
 unfold condT condF
 cases decide (0≤n) <;> cases decide (n≤9) <;> cases decide (12≤n) <;> rfl
def fitsS:Ab.Spec:=fun args=>match args with
 | [.int .i64 n]=>.leaf (.bool (fitsF n))
 | _=>.fail
theorem fitsS_ok:Sound Tryz.prog 156 fitsS:=by
 intro args out h
 unfold fitsS at h
 split at h
 rotate_left
 ·cases h
 rename_i n
 have h:=leaf_out h
 subst h
 refine pcall_fun' (cx:=cx156) (fn:=Tryz.f156) (cx0_ok rfl rfl) (by kernel_rfl) (by kernel_rfl) (by kernel_rfl) ((fitsT_eq n).trans ?_)
 unfold fitsT fitsF
 cases decide (-128≤n) <;> rfl
def tB (b:Bool):Tree V:=.leaf (.bool b)
def placeD (d:Int):Tree V:=.br (d == 1) (tB true) (.br (d == 2) (tB true) (.br (d == 4) (tB true) (tB (d == 8))))
def placeC (x:Bool) (b c d:Int):Tree V:=.br (c == 16) (.br x (tB (d == 0)) (tB false))
 (.br x (.br (b != 17) (.br (decide (0≤c)) (.br (decide (c≤15)) (.br (c != 4) (placeD d) (tB false)) (tB false)) (tB false)) (tB false)) (tB false))
def placeT (b c d:Int):Tree V:=.br (decide (0≤b)) (.br (decide (b≤15)) (placeC true b c d) (placeC (b == 17) b c d)) (placeC (b == 17) b c d)
theorem placeT_eq (nm:List UInt8) (a b c d n:Int):(dfun cx95 Tryz.f95 [.agg [.str nm,.int .i64 a,.int .i64 b,.int .i64 c,.int .i64 d,.int .i64 n]]).run=(placeT b c d).run:=
 (show (dfun cx95 Tryz.f95 [.agg [.str nm,.int .i64 a,.int .i64 b,.int .i64 c,.int .i64 d,.int .i64 n]]).run=(placeT b c d).out by kernel_rfl).trans (Tree.out_run _)
theorem placeC_run (x:Bool) (b c d:Int):(placeC x b c d).run=some (.bool (cond (c == 16) (cond x (d == 0) false) (cond x (cond (b != 17) (cond (decide (0≤c)) (cond (decide (c≤15)) (cond (c != 4) (scaleF d) false) false) false) false) false))):=by
 unfold placeC placeD scaleF tB
 cases (c == 16)
 ·cases x
  ·rfl
  ·cases (b != 17)
   ·rfl
   ·cases decide (0≤c)
    ·rfl
    ·cases decide (c≤15)
     ·rfl
     ·cases (c != 4)
      ·rfl
      ·cases (d == 1) <;> cases (d == 2) <;> cases (d == 4) <;> rfl
 ·cases x <;> rfl
theorem placeT_run (b c d:Int):(placeT b c d).run=some (.bool (placeF b c d)):=by
 unfold placeT placeF baseF
 cases decide (0≤b)
 ·exact placeC_run _ b c d
 ·cases decide (b≤15)
  ·exact placeC_run _ b c d
  ·exact placeC_run _ b c d
def placeS:Ab.Spec:=fun args=>match args with
 | [.agg [.str _,.int .i64 _,.int .i64 b,.int .i64 c,.int .i64 d,.int .i64 _]]=>.leaf (.bool (placeF b c d))
 | _=>.fail
theorem placeS_ok:Sound Tryz.prog 95 placeS:=by
 intro args out h
 unfold placeS at h
 split at h
 rotate_left
 ·cases h
 rename_i nm a b c d n
 have h:=leaf_out h
 subst h
 exact pcall_fun' (cx:=cx95) (fn:=Tryz.f95) (cx0_ok rfl rfl) (by kernel_rfl) (by kernel_rfl) (by kernel_rfl) ((placeT_eq nm a b c d n).trans (placeT_run b c d))
end Go.Amd

namespace Go.Amd
open Go Go.Ab Go.Proofs
noncomputable def cx93:Cx:={ P:=Tryz.prog,n:=29,tab:=[],mtab:=[],refs:=[],keeps:=[0,1,2,3,4,5,7,8,11,17,20,22] }
noncomputable def usesS:Ab.Spec:=fun args=>.req (Nat.ble args.length Tryz.f93.ntmps) (dfun cx93 Tryz.f93 args)
theorem usesS_ok:Sound Tryz.prog 93 usesS:=sound_fun (cx:=cx93) (fn:=Tryz.f93) (cx0_ok rfl rfl) (by kernel_rfl) (by kernel_rfl)
noncomputable def cx52:Cx:={ P:=Tryz.prog,n:=81,tab:=[(93,usesS),(94,registerS),(95,placeS),(96,conditionS)],mtab:=[],refs:=[],keeps:=[0,1,2,3,4,5,6,7,8,9,21,53,65] }
theorem cxFa_ok:CxOk cx52:=cx1_ok (.cons usesS_ok (.cons registerS_ok (.cons placeS_ok (ok1 conditionS_ok)))) (.nil _) rfl rfl
def formR (x:RowT):Int:=x.2.2.2.1
def condR (x:RowT):Bool:=x.2.2.2.2.2.1
def lowR (x:RowT):Int:=x.2.2.2.2.2.2.1
def highR (x:RowT):Int:=x.2.2.2.2.2.2.2.1
def uA (x:RowT):Bool:=!(formR x == 0 || formR x == 11 || formR x == 12)
def uB (x:RowT):Bool:=formR x == 7 || formR x == 8
def uM (x:RowT):Bool:=formR x == 9
def uI (x:RowT):Bool:=formR x == 2 || formR x == 4 || formR x == 5 || formR x == 6 || formR x == 9 || formR x == 10 || formR x == 11 || formR x == 12
def tE (n:Int):Tree V:=.leaf (.int .i64 n)
def tailH (x:RowT) (o:Bool) (n:Int):Tree V:=
 .br (!o) (tE 13) (.br (uI x) (.br (decide (n<lowR x)) (tE 3) (.br (decide (highR x<n)) (tE 3) (tE 0))) (.br (n != 0) (tE 13) (tE 0)))
def faultyH (x:RowT) (a b c d n:Int):Tree V:=
 .br (uM x) (.br (regF a (uA x)) (tailH x (placeF b c d) n) (tailH x false n))
  (.br (regF a (uA x)) (.br (regF b (uB x)) (.br (c == 0) (.br (d == 0) (tailH x true n) (.br (condR x) (tailH x (condF d) n) (tailH x false n))) (tailH x false n)) (tailH x false n)) (tailH x false n))
def forms:List Int:=[0,1,2,3,4,5,6,7,8,9,10,11,12]
def formOk (x:RowT):Bool:=forms.contains (formR x)
theorem rows_forms:rowsL.all formOk=true:=by kernel_rfl
theorem forms_of {β:Type} {f g:Int→β} (h:forms.map f=forms.map g) {x:RowT} (hx:formOk x=true):f (formR x)=g (formR x):=
 List.map_inj_left.1 h _ (by simpa [formOk] using hx)
theorem faulty_forms:forms.map (fun f nm rex op dg cn lo hi ops i a b c d n=>(dfun cx52 Tryz.f52 [.agg (rowL (nm,rex,op,f,dg,cn,lo,hi,ops)),.agg [.str i,.int .i64 a,.int .i64 b,.int .i64 c,.int .i64 d,.int .i64 n]]).out) =
  forms.map (fun f nm rex op dg cn lo hi ops _ a b c d n=>(faultyH (nm,rex,op,f,dg,cn,lo,hi,ops) a b c d n).out):=by kernel_rfl
end Go.Amd

namespace Go.Amd
open Go Go.Ab Go.Proofs
def tailF (x:RowT) (o:Bool) (n:Int):Int:=cond (!o) 13 (cond (uI x) (cond (decide (n<lowR x)) 3 (cond (decide (highR x<n)) 3 0)) (cond (n != 0) 13 0))
def okF (x:RowT) (a b c d:Int):Bool:=
 cond (uM x) (cond (regF a (uA x)) (placeF b c d) false) (cond (regF a (uA x)) (cond (regF b (uB x)) (cond (c == 0) (cond (d == 0) true (cond (condR x) (condF d) false)) false) false) false)
def faultyF (x:RowT) (i:InsT):Int:=tailF x (okF x i.2.1 i.2.2.1 i.2.2.2.1 i.2.2.2.2.1) i.2.2.2.2.2
theorem tailH_run (x:RowT) (o:Bool) (n:Int):(tailH x o n).run=some (.int .i64 (tailF x o n)):=by
 unfold tailH tailF tE
 cases o
 ·rfl
 ·cases (uI x)
  ·cases (n != 0) <;> rfl
  ·cases decide (n<lowR x)
   ·cases decide (highR x<n) <;> rfl
   ·rfl
theorem faultyH_run (x:RowT) (a b c d n:Int):(faultyH x a b c d n).run=some (.int .i64 (tailF x (okF x a b c d) n)):=by
 unfold faultyH okF
 simp only [br_run,tailH_run]
 cases (uM x) <;> cases regF a (uA x) <;> cases regF b (uB x) <;> cases (c == 0) <;> cases (d == 0) <;> cases condR x <;> rfl
def faultyS:Ab.Spec:=fun args=>match args with
 | [.agg [.str nm,.int .i64 rex,.int .u16 op,.int .i64 f,.int .u8 dg,.bool cn,.int .i64 lo,.int .i64 hi,.str ops],.agg [.str i,.int .i64 a,.int .i64 b,.int .i64 c,.int .i64 d,.int .i64 n]] =>
  .req (formOk (nm,rex,op,f,dg,cn,lo,hi,ops)) (.leaf (.int .i64 (faultyF (nm,rex,op,f,dg,cn,lo,hi,ops) (i,a,b,c,d,n))))
 | _=>.fail
theorem faultyS_ok:Sound Tryz.prog 52 faultyS:=by
 intro args out h
 unfold faultyS at h
 split at h
 rotate_left
 ·cases h
 rename_i nm rex op f dg cn lo hi ops i a b c d n
 obtain ⟨h1,h⟩:=req_run h
 have h:=leaf_out h
 subst h
 refine pcall_fun' (cx:=cx52) (fn:=Tryz.f52) cxFa_ok (by kernel_rfl) (by kernel_rfl) (by kernel_rfl) ?_
 have e:=congrFun (congrFun (congrFun (congrFun (congrFun (congrFun (congrFun (congrFun (congrFun (congrFun (congrFun (congrFun (congrFun (congrFun (forms_of faulty_forms h1) nm) rex) op) dg) cn) lo) hi) ops) i) a) b) c) d) n
 exact (Tree.out_run _).symm.trans (e.trans ((Tree.out_run _).trans (faultyH_run (nm,rex,op,f,dg,cn,lo,hi,ops) a b c d n)))
end Go.Amd
