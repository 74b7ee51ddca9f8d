/-
  The row whose prefixes and opcode were taken: its contract. Conditions: none.
-/
import Derived.Test.YtbefgnmdliefjaaGreatDoorPk19
import Derived.Test.YtbefgnmdliefjaaGreatDoorPk10
set_option linter.unusedVariables false
set_option linter.unusedSimpArgs false
namespace Go.Amd
open Go Go.Ab Go.Proofs
section
variable {l sp:List Int} {fl:Fl} {k R:Int} {op:List Int} {fs has:Bool}
theorem chosen_tail {G:List RowT} {r0:RowT} (hG:∀ r ∈ r0 :: G,r ∈ rowsL) (hlen:(r0 :: G).length≤58) (k0:0≤k) (k1:k<1000000000) (hl:l.length<1000000000) {res:Res}
  (hres:(Tree.br (modOf (formR r0)) (.br (decide ((l.length:Nat)≤k)) (.leaf (.pan (fltV 2) [wkO l sp fl k fs R has])) (fitT l sp fl (k+1) R (l.getD k.toNat 0) fs has (r0 :: G)))
   (.leaf (.ok (.tup [.agg (rowL r0),.int .u8 0]) [wkO l sp fl k fs R has,rO r0]))).run=some res) :
  AWP Tryz.prog 65 T3 (chQ res) (t3S (.gro 2 rowE (r0 :: G))) (H3 l sp fl k R fs has (r0 :: G) zeroR):=by
 refine AWP_headE (cx:=cxCh) rfl rfl cxCh_ok 1 (by kernel_rfl) (chT_eq l sp fl k R fs has (r0 :: G)) ?_
 have hpos:decide (0<(((r0 :: G).length:Nat):Int))=true:=decide_eq_true (by rw [List.length_cons]; omega)
 have hin:inside 0 (r0 :: G).length=true:=inside_of (by omega) (by rw [List.length_cons]; omega)
 have h0:rowAt (r0 :: G) 0=r0:=rfl
 refine ⟨fun h=>(by rw [hpos] at h; cases h),fun _=>all_t hin (all_t (cand_fine hG List.mem_cons_self) ⟨fun hm=>all_t hin ?_,fun hm=>?_⟩)⟩
 ·-- no ModRM
  have hm:modOf (formR r0)=false:=by simpa [h0] using hm
  rw [hm] at hres
  simp only [Tree.run,cond_false,Option.some.injEq] at hres
  subst hres
  exact ⟨[1],(.ret,[(0,.ptr 0 0),(4,.ptr 1 0),(5,.int .u8 0),(6,.any),(39,.bool true)],[wkO l sp fl k fs R has,rO r0]),by kernel_rfl,.inl rfl,rfl,by kernel_rfl⟩
 ·have hm:modOf (formR r0)=true:=by simpa [h0] using hm
  rw [hm,br_run,cond_true] at hres
  show AWP _ _ _ _ _ _
  refine AWP.less (s:=t3S (.gro 2 rowE (r0 :: G))) (Fits.tle ⟨rfl,rfl,rfl,rfl,trivial⟩) ?_
  refine AWP_headE (cx:=cxCh) rfl rfl cxCh_ok 0 (by kernel_rfl) (chN_eq l sp fl k R fs has (r0 :: G)) ?_
  have w1:IntKind.wrap .i64 (k+1)=k+1:=wrap_i64 (by omega) (by omega)
  have w2:IntKind.wrap .i64 (IntKind.wrap .i64 (k+1) - 1)=k:=by rw [w1,wrap_i64 (by omega) (by omega)]; omega
  refine ⟨fun hs=>?_,fun hs=>?_⟩
  ·rw [hs] at hres
   simp only [Tree.run,cond_true,Option.some.injEq] at hres
   subst hres
   exact ⟨[],(.panic (fltV 2),[(0,.ptr 0 0),(4,.any),(5,.int .u8 0),(6,.any),(43,.ptr 0 0)],[wkO l sp fl k fs R has]),by kernel_rfl,rfl,rfl⟩
  ·rw [hs] at hres
   rw [br_run,cond_false] at hres
   have hk:k<(l.length:Int):=by have:=of_decide_eq_false hs; omega
   rw [w2,w1]
   refine all_t (inside_of k0 hk) ?_
   show AWP _ _ _ _ _ _
   exact chosen_fit _ hG hlen hres
theorem filter_take {p:RowT→Bool} {i:Nat} (hi:i<rowsL.length):(rowsL.take (i+1)).filter p=(rowsL.take i).filter p++(cond (p (rowAt rowsL i)) [rowAt rowsL i] []):=by
 rw [List.take_add_one,List.filter_append]
 congr 1
 rw [List.getElem?_eq_getElem hi]
 have:rowAt rowsL i=rowsL[i]:=getD_lt hi
 rw [this]
 cases h:p rowsL[i] <;> simp [h]
def slotG (G:List RowT):V:=match G with
 | []=>nilV
 | _ :: _=>.gro 2 rowE G
def tokG (G:List RowT):List O:=match G with
 | []=>[]
 | _ :: _=>[.tok G.length 9]
def chSt (l sp:List Int) (fl:Fl) (k R:Int) (op:List Int) (fs has:Bool) (j:{ j:Nat // j≤58 }):T × List O:=
 (t1S op rowsL (slotG ((rowsL.take j.1).filter (cand op fs R has))) (j.1:Int),[wkO l sp fl k fs R has,rO zeroR]++tokG ((rowsL.take j.1).filter (cand op fs R has)))
theorem chosen_ok (hop:opLen op=true) (k0:0≤k) (k1:k<1000000000) (hl:l.length<1000000000) {res:Res} (hres:(chosenT l sp fl k R op fs has).run=some res) :
  MCall Tryz.prog 160 [.ptr 0 0,opV op] [wkO l sp fl k fs R has] res:=by
 refine mcall_of' (c:=Bch) (fn:=Tryz.f160) (by kernel_rfl) (by kernel_rfl) (by kernel_rfl) (by kernel_rfl) ?_
 refine AWP_scope ?_
 show AWP _ _ _ (chQ res) _ _
 have e:Bch = .seq (c1 Bch) (.seq (c1 (c2 Bch)) (.seq (.seq (c1 (c1 (c2 (c2 Bch)))) (.block 0 (.loop rnd1))) T3)):=by kernel_rfl
 rw [e]
 have hlen:=rowsL_len
 refine AWP_seq (AWP_run (cx:=cxCh) rfl rfl cxCh_ok (s:=(.normal,[(0,.ptr 0 0),(1,opV op),(4,.ptr 1 0),(5,.int .u8 0)],[wkO l sp fl k fs R has,rO zeroR])) (by kernel_rfl) ?_)
 refine AWP_seq (AWP_run (cx:=cxCh) rfl rfl cxCh_ok (s:=(.normal,[(0,.ptr 0 0),(1,opV op),(4,.ptr 1 0),(5,.int .u8 0),(6,nilV)],[wkO l sp fl k fs R has,rO zeroR])) (by kernel_rfl) ?_)
 refine AWP_seq (AWP_seq (AWP_run (cx:=cxCh) rfl rfl cxCh_ok (s:=(.normal,t1S op rowsL nilV 0,[wkO l sp fl k fs R has,rO zeroR])) (by kernel_rfl) ?_))
 refine AWP_block ?_
 have hst:([wkO l sp fl k fs R has,rO zeroR]:List O)=[wkO l sp fl k fs R has,rO zeroR]++tokG ((rowsL.take 0).filter (cand op fs R has)):=rfl
 refine AWP.less (s:=t1S op rowsL (slotG ((rowsL.take 0).filter (cand op fs R has))) ((0:Nat):Int)) (Fits.tle ⟨rfl,rfl,rfl,rfl,rfl,rfl,rfl,rfl,trivial⟩) ?_
 rw [hst]
 refine AWP_rounds (cx:=cxCh) (P:=Tryz.prog) (n:=65) rfl rfl cxCh_ok (chSt l sp fl k R op fs has) (fun j=>58 - j.1) ?_ ⟨0,Nat.zero_le _⟩
 rintro ⟨j,hj⟩
 have step:∀ hlt:j<rowsL.length,V.int .i64 (IntKind.wrap .i64 ((j:Int)+1))=V.int .i64 ((j+1:Nat):Int):=fun hlt=>by
  rw [wrap_i64 (by omega) (by omega)]
  rfl
 have hform:j<rowsL.length→formOk (rowAt rowsL j)=true:=fun hlt=>List.all_eq_true.1 rows_forms _ (by show rowsL.getD j zeroR ∈ rowsL; rw [getD_lt hlt]; exact List.getElem_mem hlt)
 have hmem:∀ r ∈ (rowsL.take j).filter (cand op fs R has),r ∈ rowsL:=fun r hr=>List.mem_of_mem_take (List.mem_filter.1 hr).1
 have hle:((rowsL.take j).filter (cand op fs R has)).length≤58:=Nat.le_trans (List.length_filter_le _ _) (by rw [List.length_take]; omega)
 have hall:j=rowsL.length→(rowsL.take j).filter (cand op fs R has)=cands R op fs has:=fun h=>by rw [h,List.take_length]; rfl
 have hnext:=fun hlt=>filter_take (p:=cand op fs R has) (i:=j) hlt
 generalize hG:(rowsL.take j).filter (cand op fs R has)=G at hmem hle hall hnext
 have hS:chSt l sp fl k R op fs has ⟨j,hj⟩=(t1S op rowsL (slotG G) (j:Int),[wkO l sp fl k fs R has,rO zeroR]++tokG G):=by unfold chSt; rw [hG]
 have hS1:∀ (h:j+1≤58) (G' : List RowT),(rowsL.take (j+1)).filter (cand op fs R has)=G' → chSt l sp fl k R op fs has ⟨j+1,h⟩=(t1S op rowsL (slotG G') ((j+1:Nat):Int),[wkO l sp fl k fs R has,rO zeroR]++tokG G'):=by
  intro h G' hn
  unfold chSt
  rw [hn]
 have hL:(chSt l sp fl k R op fs has ⟨j,hj⟩).2.length=([wkO l sp fl k fs R has,rO zeroR]++tokG G).length:=by rw [hS]
 cases G with
 | nil =>
  rw [hS]
  refine Tree.all_run_eq (chR1_eq l sp fl k R j op fs has rowsL) ?_
  refine ⟨fun hlt=>?_,fun hge=>?_⟩
  ·have hlt:j<rowsL.length:=Int.ofNat_lt.1 (of_decide_eq_true hlt)
   refine all_t (inside_of (Int.natCast_nonneg j) (Int.ofNat_lt.2 hlt)) (all_t hop (all_t (hform hlt) ⟨fun ho=>all_t (hform hlt) ⟨fun hp=>?_,fun hp=>?_⟩,fun ho=>?_⟩))
   ·have hn:(rowsL.take (j+1)).filter (cand op fs R has)=[rowAt rowsL j]:=by
     rw [hnext hlt,show cand op fs R has (rowAt rowsL j)=true from by unfold cand; rw [show opensF (rowAt rowsL j) op=true from ho]; exact hp]
     rfl
    refine ⟨[4],(.normal,[(0,.ptr 0 0),(1,opV op),(4,.ptr 1 0),(5,.int .u8 0),(6,.gro 2 rowE [rowAt rowsL j]),(8,.any),(12,.sl rowE rowsL [] .ro),(13,.int .i64 rowsL.length),(14,.int .i64 (IntKind.wrap .i64 ((j:Int)+1))),(15,.bool true),(25,.bool true)],[wkO l sp fl k fs R has,rO zeroR,.tok 1 9]),(by rw [hL]; kernel_rfl),
     ⟨j+1,by omega⟩,by show 58 - (j+1)<58 - j; omega,?_,?_⟩
    ·rw [hS1 _ _ hn]
     exact Fits.tle ⟨rfl,rfl,rfl,rfl,rfl,rfl,rfl,step hlt,trivial⟩
    ·rw [hS1 _ _ hn]
     rfl
   ·have hn:(rowsL.take (j+1)).filter (cand op fs R has)=[]:=by
     rw [hnext hlt,show cand op fs R has (rowAt rowsL j)=false from by unfold cand; rw [show opensF (rowAt rowsL j) op=true from ho]; exact hp]
     rfl
    refine ⟨[],(.normal,[(0,.ptr 0 0),(1,opV op),(4,.ptr 1 0),(5,.int .u8 0),(6,nilV),(8,.any),(12,.sl rowE rowsL [] .ro),(13,.int .i64 rowsL.length),(14,.int .i64 (IntKind.wrap .i64 ((j:Int)+1))),(15,.bool true),(25,.bool false)],[wkO l sp fl k fs R has,rO zeroR]),(by rw [hL]; kernel_rfl),
     ⟨j+1,by omega⟩,by show 58 - (j+1)<58 - j; omega,?_,?_⟩
    ·rw [hS1 _ _ hn]
     exact Fits.tle ⟨rfl,rfl,rfl,rfl,rfl,rfl,rfl,step hlt,trivial⟩
    ·rw [hS1 _ _ hn]
     rfl
   ·have hn:(rowsL.take (j+1)).filter (cand op fs R has)=[]:=by
     rw [hnext hlt,show cand op fs R has (rowAt rowsL j)=false from by unfold cand; rw [show opensF (rowAt rowsL j) op=false from ho]; rfl]
     rfl
    refine ⟨[],(.normal,[(0,.ptr 0 0),(1,opV op),(4,.ptr 1 0),(5,.int .u8 0),(6,nilV),(8,.any),(12,.sl rowE rowsL [] .ro),(13,.int .i64 rowsL.length),(14,.int .i64 (IntKind.wrap .i64 ((j:Int)+1))),(15,.bool true),(25,.bool false)],[wkO l sp fl k fs R has,rO zeroR]),(by rw [hL]; kernel_rfl),
     ⟨j+1,by omega⟩,by show 58 - (j+1)<58 - j; omega,?_,?_⟩
    ·rw [hS1 _ _ hn]
     exact Fits.tle ⟨rfl,rfl,rfl,rfl,rfl,rfl,rfl,step hlt,trivial⟩
    ·rw [hS1 _ _ hn]
     rfl
  ·have hge:¬ j<rowsL.length:=fun h=>of_decide_eq_false hge (Int.ofNat_lt.2 h)
   have hc:=hall (by omega)
   unfold chosenT at hres
   rw [← hc] at hres
   simp only [Tree.run,Option.some.injEq] at hres
   subst hres
   refine ⟨[],(.exit 0,t1E op rowsL nilV (j:Int),[wkO l sp fl k fs R has,rO zeroR]),(by rw [hL]; kernel_rfl),?_⟩
   show AWP _ _ _ _ _ _
   refine AWP.less (s:=t3S nilV) (Fits.tle ⟨rfl,rfl,rfl,rfl,trivial⟩) ?_
   have e3:T3 = .seq (c1 T3) (c2 T3):=by kernel_rfl
   rw [e3]
   refine AWP_seq (AWP_run (cx:=cxCh) rfl rfl cxCh_ok (s:=(.panic (fltV 22),[(0,.ptr 0 0),(4,.ptr 1 0),(5,.int .u8 0),(6,nilV),(31,nilV),(32,.int .i64 0),(33,.bool false)],[wkO l sp fl k fs R has,rO zeroR])) (by kernel_rfl) ?_)
   exact ⟨[],(.panic (fltV 22),[(0,.ptr 0 0),(4,.any),(5,.int .u8 0),(6,nilV),(31,nilV),(32,.int .i64 0),(33,.bool false)],[wkO l sp fl k fs R has]),by kernel_rfl,rfl,rfl⟩
 | cons g G =>
  rw [hS]
  refine Tree.all_run_eq (chR2_eq l sp fl k R j op fs has rowsL (g :: G)) ?_
  refine ⟨fun hlt=>?_,fun hge=>?_⟩
  ·have hlt:j<rowsL.length:=Int.ofNat_lt.1 (of_decide_eq_true hlt)
   refine all_t (inside_of (Int.natCast_nonneg j) (Int.ofNat_lt.2 hlt)) (all_t hop (all_t (hform hlt) ⟨fun ho=>all_t (hform hlt) ⟨fun hp=>?_,fun hp=>?_⟩,fun ho=>?_⟩))
   ·have hn:(rowsL.take (j+1)).filter (cand op fs R has)=g :: G++[rowAt rowsL j]:=by
     rw [hnext hlt,show cand op fs R has (rowAt rowsL j)=true from by unfold cand; rw [show opensF (rowAt rowsL j) op=true from ho]; exact hp]
     rfl
    have hroom:(decide ((g :: G).length=(g :: G).length) && roomy ((g :: G).length+1) 80)=true:=by
     rw [decide_eq_true rfl,Bool.true_and]
     exact decide_eq_true (by omega)
    refine all_t hroom ?_
    refine ⟨[],(.normal,[(0,.ptr 0 0),(1,opV op),(4,.ptr 1 0),(5,.int .u8 0),(6,.gro 2 rowE (g :: G++[rowAt rowsL j])),(8,.any),(12,.sl rowE rowsL [] .ro),(13,.int .i64 rowsL.length),(14,.int .i64 (IntKind.wrap .i64 ((j:Int)+1))),(15,.bool true),(25,.bool true)],[wkO l sp fl k fs R has,rO zeroR,.tok ((g :: G).length+1) 9]),(by rw [hL]; kernel_rfl),
     ⟨j+1,by omega⟩,by show 58 - (j+1)<58 - j; omega,?_,?_⟩
    ·rw [hS1 _ _ hn]
     exact Fits.tle ⟨rfl,rfl,rfl,rfl,rfl,rfl,rfl,step hlt,trivial⟩
    ·rw [hS1 _ _ hn]
     show [wkO l sp fl k fs R has,rO zeroR,O.tok ((g :: G).length+1) 9]=[wkO l sp fl k fs R has,rO zeroR,O.tok (g :: G++[rowAt rowsL j]).length 9]
     rw [List.length_append]
     rfl
   ·have hn:(rowsL.take (j+1)).filter (cand op fs R has)=g :: G:=by
     rw [hnext hlt,show cand op fs R has (rowAt rowsL j)=false from by unfold cand; rw [show opensF (rowAt rowsL j) op=true from ho]; exact hp]
     exact List.append_nil _
    refine ⟨[],(.normal,[(0,.ptr 0 0),(1,opV op),(4,.ptr 1 0),(5,.int .u8 0),(6,.gro 2 rowE (g :: G)),(8,.any),(12,.sl rowE rowsL [] .ro),(13,.int .i64 rowsL.length),(14,.int .i64 (IntKind.wrap .i64 ((j:Int)+1))),(15,.bool true),(25,.bool false)],[wkO l sp fl k fs R has,rO zeroR,.tok (g :: G).length 9]),(by rw [hL]; kernel_rfl),
     ⟨j+1,by omega⟩,by show 58 - (j+1)<58 - j; omega,?_,?_⟩
    ·rw [hS1 _ _ hn]
     exact Fits.tle ⟨rfl,rfl,rfl,rfl,rfl,rfl,rfl,step hlt,trivial⟩
    ·rw [hS1 _ _ hn]
     rfl
   ·have hn:(rowsL.take (j+1)).filter (cand op fs R has)=g :: G:=by
     rw [hnext hlt,show cand op fs R has (rowAt rowsL j)=false from by unfold cand; rw [show opensF (rowAt rowsL j) op=false from ho]; rfl]
     exact List.append_nil _
    refine ⟨[],(.normal,[(0,.ptr 0 0),(1,opV op),(4,.ptr 1 0),(5,.int .u8 0),(6,.gro 2 rowE (g :: G)),(8,.any),(12,.sl rowE rowsL [] .ro),(13,.int .i64 rowsL.length),(14,.int .i64 (IntKind.wrap .i64 ((j:Int)+1))),(15,.bool true),(25,.bool false)],[wkO l sp fl k fs R has,rO zeroR,.tok (g :: G).length 9]),(by rw [hL]; kernel_rfl),
     ⟨j+1,by omega⟩,by show 58 - (j+1)<58 - j; omega,?_,?_⟩
    ·rw [hS1 _ _ hn]
     exact Fits.tle ⟨rfl,rfl,rfl,rfl,rfl,rfl,rfl,step hlt,trivial⟩
    ·rw [hS1 _ _ hn]
     rfl
  ·have hge:¬ j<rowsL.length:=fun h=>of_decide_eq_false hge (Int.ofNat_lt.2 h)
   have hc:=hall (by omega)
   unfold chosenT at hres
   rw [← hc] at hres
   refine ⟨[],(.exit 0,t1E op rowsL (.gro 2 rowE (g :: G)) (j:Int),[wkO l sp fl k fs R has,rO zeroR,.tok (g :: G).length 9]),(by rw [hL]; kernel_rfl),?_⟩
   show AWP _ _ _ _ _ _
   refine AWP.less (s:=t3S (.gro 2 rowE (g :: G))) (Fits.tle ⟨rfl,rfl,rfl,rfl,trivial⟩) ?_
   exact chosen_tail hmem hle k0 k1 hl hres
end
end Go.Amd

namespace Go.Amd
open Go Go.Ab Go.Proofs
def bitF (R n:Int):Int:=cond (and8 R n != 0) 8 0
def bitT (l sp:List Int) (fl:Fl) (k:Int) (fs:Bool) (R:Int) (has:Bool) (n:Int):Tree Res:=
 .br (and8 R n != 0) (.leaf (.ok (.int .i64 8) [wkO l sp fl k fs R has])) (.leaf (.ok (.int .i64 0) [wkO l sp fl k fs R has]))
theorem bitT_eq (l sp:List Int) (fl:Fl) (k:Int) (fs:Bool) (R:Int) (has:Bool) (n:Int):(mfun cx161 Tryz.f161 [.ptr 0 0,.int .u8 n] [wkO l sp fl k fs R has]).run=(bitT l sp fl k fs R has n).run:=
 (show _=(bitT l sp fl k fs R has n).out by kernel_rfl).trans (Tree.out_run _)
def bitS:RSpec:=fun args H=>match args,H with
 | [.ptr 0 0,.int .u8 n],[.cells [.sl (.int .u8) _ _ _,.int .i64 _,.bool _,.int .u8 R,.bool _] 146]=>.leaf (.int .i64 (bitF R n))
 | _,_=>.fail
theorem bitS_ok:RSound Tryz.prog 161 bitS:=by
 intro args H r h
 unfold bitS at h
 split at h
 rotate_left
 ·cases h
 rename_i n l sp fl k fs R has
 have h:=leaf_out h
 subst h
 refine mcall_fun' (cx:=cx161) (fn:=Tryz.f161) (cx1_ok (.nil _) (.nil _) rfl rfl) (by kernel_rfl) (by kernel_rfl) (by kernel_rfl) ((bitT_eq l sp fl k fs R has n).trans ?_)
 unfold bitT bitF
 cases (and8 R n != 0) <;> rfl
def nxK (l:List Int) (k:Int) (E:Int→Int→Tree Res) (K:Int→Int→Tree Res):Tree Res:=
 .br (decide ((l.length:Nat)≤k)) (E 2 k) (.br (inside (IntKind.wrap .i64 (IntKind.wrap .i64 (k+1) - 1)) l.length) (K (l.getD (Int.toNat (IntKind.wrap .i64 (IntKind.wrap .i64 (k+1) - 1))) 0) (IntKind.wrap .i64 (k+1))) .fail)
theorem nxK_run {l:List Int} {k:Int} (k0:0≤k) (k1:k<1000000000) (E K:Int→Int→Tree Res) :
  (nxK l k E K).run=cond (decide ((l.length:Nat)≤k)) (E 2 k).run (K (l.getD k.toNat 0) (k+1)).run:=by
 have w1:IntKind.wrap .i64 (k+1)=k+1:=wrap_i64 (by omega) (by omega)
 have w2:IntKind.wrap .i64 (IntKind.wrap .i64 (k+1) - 1)=k:=by rw [w1,wrap_i64 (by omega) (by omega)]; omega
 unfold nxK
 rw [br_run,w2,w1]
 by_cases h:(l.length:Int)≤k
 ·rw [decide_eq_true h]; rfl
 ·rw [decide_eq_false h,cond_false,cond_false]
  exact br_t (inside_of k0 (by omega))
section
variable (l sp:List Int) (fl:Fl)
abbrev panT (e k:Int) (fs:Bool) (R:Int) (has:Bool):Tree Res:=.leaf (.pan (fltV e) [wkO l sp fl k fs R has])
abbrev okT (op:List Int) (k:Int) (fs:Bool) (R:Int) (has:Bool):Tree Res:=.leaf (.ok (opV op) [wkO l sp fl k fs R has])
def sh4 (c:Int):Int:=Int.fdiv c (2 ^ 4)
def opcE (c k R:Int):Tree Res:=.br (c != 15) (okT l sp fl [c] k false R true) (.br (!(and8 R 8 != 0)) (panT l sp fl 22 k false R true) (nxK l k (fun e k=>panT l sp fl e k false R true) fun d k=>okT l sp fl [c,d] k false R true))
def opcT:Tree Res:=
 nxK l 0 (fun e k=>panT l sp fl e k false 0 false) fun c k =>
  .br (c == 100) (nxK l k (fun e k=>panT l sp fl e k true 0 false) fun c1 k=>.br (!(and8 c1 251 == 72)) (panT l sp fl 22 k true 0 false)
    (.br (sh4 c1 == 4) (nxK l k (fun e k=>panT l sp fl e k true (and8 c1 15) true) fun c2 k=>.br (c2 != 15) (okT l sp fl [c2] k true (and8 c1 15) true) (panT l sp fl 22 k true (and8 c1 15) true))
     (.br (c1 != 15) (okT l sp fl [c1] k true 0 false) (panT l sp fl 22 k true 0 false))))
   (.br (sh4 c == 4) (nxK l k (fun e k=>panT l sp fl e k false (and8 c 15) true) fun c1 k=>opcE l sp fl c1 k (and8 c 15))
    (.br (c != 15) (okT l sp fl [c] k false 0 false) (nxK l k (fun e k=>panT l sp fl e k false 0 false) fun d k=>okT l sp fl [c,d] k false 0 false)))
theorem opcT_eq:(mfun cx159 Tryz.f159 [.ptr 0 0] [wkO l sp fl 0 false 0 false]).run=(opcT l sp fl).run:=
 (show _=(opcT l sp fl).out by kernel_rfl).trans (Tree.out_run _)
end
theorem nxK_at {l p t:List Int} {k:Int} (hl:l=p++t) (hk:k=(p.length:Int)) (h1:l.length<1000000000) (E K:Int→Int→Tree Res) :
  (nxK l k E K).run=match t with
   | []=>(E 2 k).run
   | c :: _=>(K c (k+1)).run:=by
 have hlen:l.length=p.length+t.length:=by rw [hl,List.length_append]
 rw [nxK_run (by omega) (by omega)]
 cases t with
 | nil =>
  rw [decide_eq_true (by simp only [List.length_nil] at hlen; omega)]
  rfl
 | cons c t =>
  have hg:l.getD k.toNat 0=c:=by
   rw [hl,hk,Int.toNat_natCast,List.getD_eq_getElem?_getD,List.getElem?_append_right (Nat.le_refl _),Nat.sub_self]
   rfl
  rw [decide_eq_false (by simp only [List.length_cons] at hlen; omega),hg]
  rfl
abbrev OpR:=Except (Int × Int × Bool × Int × Bool) (List Int × Int × Bool × Int × Bool)
def opc2 (R c:Int) (t:List Int):OpR:=cond (c != 15) (.ok ([c],2,false,R,true)) (cond (!(and8 R 8 != 0)) (.error (22,2,false,R,true)) (match t with
  | []=>.error (2,2,false,R,true)
  | d :: _=>.ok ([c,d],3,false,R,true)))
def opc1 (c:Int) (t:List Int):OpR:=cond (!(and8 c 251 == 72)) (.error (22,2,true,0,false)) (cond (sh4 c == 4) (match t with
  | []=>.error (2,2,true,and8 c 15,true)
  | d :: _=>cond (d != 15) (.ok ([d],3,true,and8 c 15,true)) (.error (22,3,true,and8 c 15,true)))
  (cond (c != 15) (.ok ([c],2,true,0,false)) (.error (22,2,true,0,false))))
def opc0 (c:Int) (t:List Int):OpR:=cond (c == 100) (match t with
  | []=>.error (2,1,true,0,false)
  | d :: t=>opc1 d t) (cond (sh4 c == 4) (match t with
  | []=>.error (2,1,false,and8 c 15,true)
  | d :: t=>opc2 (and8 c 15) d t) (cond (c != 15) (.ok ([c],1,false,0,false)) (match t with
  | []=>.error (2,1,false,0,false)
  | d :: _=>.ok ([c,d],2,false,0,false))))
def opcP:List Int→OpR
 | []=>.error (2,0,false,0,false)
 | c :: t=>opc0 c t
section
variable (l sp:List Int) (fl:Fl)
def opcR:OpR→Res
 | .ok (op,k,fs,R,has)=>.ok (opV op) [wkO l sp fl k fs R has]
 | .error (e,k,fs,R,has)=>.pan (fltV e) [wkO l sp fl k fs R has]
theorem opcE_run {p t:List Int} {c R:Int} (hl:l=p++(c :: t)) (hp:p.length=1) (h1:l.length<1000000000):(opcE l sp fl c 2 R).run=some (opcR l sp fl (opc2 R c t)):=by
 unfold opcE opc2
 rw [br_run,br_run,nxK_at (p:=p++[c]) (t:=t) (by rw [hl]; simp) (by rw [List.length_append,hp]; rfl) h1]
 cases t with
 | nil=>cases (c != 15) <;> cases (!(and8 R 8 != 0)) <;> rfl
 | cons d t=>cases (c != 15) <;> cases (!(and8 R 8 != 0)) <;> rfl
theorem opcT_run (h1:l.length<1000000000):(opcT l sp fl).run=some (opcR l sp fl (opcP l)):=by
 unfold opcT
 refine (nxK_at (l:=l) (p:=[]) (t:=l) (k:=0) rfl rfl h1 _ _).trans ?_
 cases l with
 | nil=>rfl
 | cons c t =>
  show (Tree.br (c == 100) _ _).run=some (opcR (c :: t) sp fl (opc0 c t))
  unfold opc0
  rw [br_run,br_run,br_run]
  cases h0:(c == 100)
  ·cases h4:(sh4 c == 4)
   ·cases h15:(c != 15)
    ·simp only [cond_false]
     refine (nxK_at (l:=c :: t) (p:=[c]) (t:=t) (k:=0+1) rfl rfl h1 _ _).trans ?_
     cases t <;> rfl
    ·rfl
   ·simp only [cond_false,cond_true]
    refine (nxK_at (l:=c :: t) (p:=[c]) (t:=t) (k:=0+1) rfl rfl h1 _ _).trans ?_
    cases t with
    | nil=>rfl
    | cons d t=>exact opcE_run _ sp fl (p:=[c]) (t:=t) rfl rfl h1
  ·simp only [cond_true]
   refine (nxK_at (l:=c :: t) (p:=[c]) (t:=t) (k:=0+1) rfl rfl h1 _ _).trans ?_
   cases t with
   | nil=>rfl
   | cons d t =>
    simp only
    unfold opc1
    rw [br_run,br_run,br_run]
    cases h48:(!(and8 d 251 == 72))
    ·cases h4:(sh4 d == 4)
     ·cases h15:(d != 15) <;> rfl
     ·simp only [cond_false,cond_true]
      refine (nxK_at (l:=c :: d :: t) (p:=[c,d]) (t:=t) (k:=0+1+1) rfl rfl h1 _ _).trans ?_
      cases t with
      | nil=>rfl
      | cons e t =>
       simp only
       rw [br_run]
       cases h15:(e != 15) <;> rfl
    ·rfl
theorem opcode_ok (h1:l.length<1000000000):MCall Tryz.prog 159 [.ptr 0 0] [wkO l sp fl 0 false 0 false] (opcR l sp fl (opcP l)):=
 mcall_fun' (cx:=cx159) (fn:=Tryz.f159) (cx1_ok (.nil _) (.cons mustM_ok (.cons nextM_ok (.nil _))) rfl rfl) (by kernel_rfl) (by kernel_rfl) (by kernel_rfl) ((opcT_eq l sp fl).trans (opcT_run l sp fl h1))
end
end Go.Amd

namespace Go.Wd
open Go Go.Ab
def or32 (a b:Int):Int:=IntKind.wrap .u32 ↑(BitVec.toNat (BitVec.ofInt 32 a ||| BitVec.ofInt 32 b))
def shl32 (a:Int) (n:Nat):Int:=IntKind.wrap .u32 (a*2 ^ n)
theorem wrap_u64 (n:Int):IntKind.wrap .u64 n=n % 18446744073709551616:=by
 simp [IntKind.wrap,IntKind.bits,IntKind.signed]
theorem wrap_u8 (n:Int):IntKind.wrap .u8 n=n % 256:=by
 simp [IntKind.wrap,IntKind.bits,IntKind.signed]
theorem ofInt64_toNat {a:Int} (h0:0≤a) (h1:a<18446744073709551616):(BitVec.ofInt 64 a).toNat=a.toNat:=by
 rw [BitVec.toNat_ofInt]
 have:((2 ^ 64:Nat):Int)=18446744073709551616:=rfl
 rw [this,Int.emod_eq_of_lt h0 h1]
theorem or_disj:∀ (x y:Nat),x &&& y=0→x ||| y=x+y:=by
 intro x
 induction x using Nat.strongRecOn with
 | ind x ih =>
  intro y h
  by_cases hx:x=0
  ·subst hx; simp
  ·have h1:=ih (x / 2) (by omega) (y / 2) (by rw [← Nat.and_div_two,h])
   have e1:(x ||| y) / 2=x / 2 ||| y / 2:=Nat.or_div_two
   have b1:Nat.testBit (x &&& y) 0=false:=by rw [h]; rfl
   have b2:Nat.testBit (x ||| y) 0=(Nat.testBit x 0 || Nat.testBit y 0):=Nat.testBit_or x y 0
   rw [Nat.testBit_and] at b1
   simp only [Nat.testBit_zero] at b1 b2
   rw [h1] at e1
   generalize x ||| y=z at e1 b2 ⊢
   have hxm:x % 2=0∨x % 2=1:=by omega
   have hym:y % 2=0∨y % 2=1:=by omega
   rcases hxm with hxm | hxm <;> rcases hym with hym | hym <;> simp [hxm,hym] at b1 b2 <;> omega
def OffN (x lo hi:Nat):Prop:=∀ j,lo≤j→j<hi→x.testBit j=false
theorem or_step {x p k b:Nat} (h:OffN x k (k+b)) (hp:p<2 ^ b):x ||| p <<< k=x+p <<< k:=by
 refine or_disj _ _ ?_
 apply Nat.eq_of_testBit_eq
 intro j
 rw [Nat.testBit_and,Nat.testBit_shiftLeft,Nat.zero_testBit]
 by_cases h1:k≤j
 ·by_cases h2:j<k+b
  ·rw [h j h1 h2]; rfl
  ·have:p.testBit (j - k)=false:=Nat.testBit_lt_two_pow (Nat.lt_of_lt_of_le hp (Nat.pow_le_pow_right (by omega) (by omega)))
   rw [this]; simp
 ·simp [h1]
abbrev Fd:=Nat × Nat × Nat
def Fine (x:Nat) (fs:List Fd):Prop:=∀ f ∈ fs,f.1<2 ^ f.2.2∧OffN x f.2.1 (f.2.1+f.2.2)
theorem OffN.zero (lo hi:Nat):OffN 0 lo hi:=fun j _ _=>Nat.zero_testBit j
theorem OffN.low {x lo hi:Nat} (h:x<2 ^ lo):OffN x lo hi:=fun j h1 _=>Nat.testBit_lt_two_pow (Nat.lt_of_lt_of_le h (Nat.pow_le_pow_right (by omega) h1))
def gb (l:List Int) (i:Int):Int:=IntKind.wrap .u32 (l.getD i.toNat 0)
def w4 (l:List Int) (at_:Int):Int:=
 or32 (or32 (or32 (gb l at_) (shl32 (gb l (IntKind.wrap .i64 (at_+1))) 8)) (shl32 (gb l (IntKind.wrap .i64 (at_+2))) 16)) (shl32 (gb l (IntKind.wrap .i64 (at_+3))) 24)
def or64 (a b:Int):Int:=IntKind.wrap .u64 ↑(BitVec.toNat (BitVec.ofInt 64 a ||| BitVec.ofInt 64 b))
theorem ofInt64_cast {m:Nat} (h:m<2 ^ 64):(BitVec.ofInt 64 (m:Int)).toNat=m:=by
 rw [ofInt64_toNat (by omega) (by omega),Int.toNat_natCast]
theorem or64_cast {a b:Nat} (ha:a<2 ^ 64) (hb:b<2 ^ 64):or64 (a:Int) (b:Int)=((a ||| b:Nat):Int):=by
 unfold or64
 rw [wrap_u64,BitVec.toNat_or,ofInt64_cast ha,ofInt64_cast hb]
 have:a ||| b<2 ^ 64:=Nat.or_lt_two_pow ha hb
 omega
def InMask (x m:Nat):Prop:=x &&& m=x
theorem InMask.disj {x m n:Nat} (h:InMask x m) (hd:m &&& n=0):x &&& n=0:=by
 unfold InMask at h
 rw [← h,Nat.and_assoc,hd,Nat.and_zero]
theorem InMask.zero (m:Nat):InMask 0 m:=Nat.zero_and m
theorem InMask.or {x y m:Nat} (hx:InMask x m) (hy:InMask y m):InMask (x ||| y) m:=by
 unfold InMask at *
 rw [Nat.and_or_distrib_right,hx,hy]
end Go.Wd

namespace Go.Amd
open Go Go.Ab Go.Proofs
def viewR (P:Program) (rs:List ResultVar) (s:St):Option Res:=match s.1 with
 | .panic _=>match dropS 1 [] s with
  | some (.panic v,_,H)=>some (.pan v H)
  | _=>none
 | .ret=>match dropS 1 [1] s with
  | some (.ret,t,H)=>(answerI P rs H t).map fun v=>.ok v H
  | _=>none
 | _=>none
def vfun (cx:Cx) (fn:Func) (args:List V) (H:List O):Tree Res:=
 (dcode { cx with n:=fn.ntmps } (bodyOf fn) (initT 0 args) H).bind fun s=>.ofOption (viewR cx.P fn.results.toList s)
theorem mcall_view {cx:Cx} {f:Nat} {fn:Func} {args:List V} {H:List O} {r:Res} (hT:CxOk cx) (hf:cx.P.funcs[f]? = some fn) (hb:fn.body=some (bodyOf fn))
  (hname : (fn.name == "runtime.NumGoroutine") = false) (hn : Nat.ble args.length fn.ntmps = true) (hH : H.length = 1) (h : (vfun cx fn args H).run = some r) : MCall cx.P f args H r := by
 refine mcall_of' hf hb hname hn ?_
 unfold vfun at h
 obtain ⟨s,h1,h2⟩:=bind_run h
 have h2:=ofOption_run h2
 refine AWP_scope (AWP_run (cx:={ cx with n:=fn.ntmps }) rfl rfl hT h1 ?_)
 rw [hH]
 obtain ⟨e,t,H2⟩:=s
 unfold viewR at h2
 cases e with
 | normal=>cases h2
 | exit id=>cases h2
 | ret =>
  simp only at h2
  split at h2
  ·rename_i t' H' hd
   obtain ⟨v,hv,rfl⟩:=Option.map_eq_some_iff.1 h2
   exact ⟨[1],_,hd,.inl rfl,rfl,hv⟩
  ·cases h2
 | panic v =>
  simp only at h2
  split at h2
  ·rename_i v' t' H' hd
   simp only [Option.some.injEq] at h2
   subst h2
   exact ⟨[],_,hd,rfl,rfl⟩
  ·cases h2
noncomputable def cxSib:Cx:={ P:=Tryz.prog,n:=Tryz.f208.ntmps,tab:=[],mtab:=[(164,nextM),(163,mustM)],refs:=[],keeps:=[0,1,2,6,7,8,37],rtab:=[(161,bitS)] }
theorem cxSib_ok:CxOk cxSib:=cx2_ok (.nil _) (.cons nextM_ok (.cons mustM_ok (.nil _))) (.cons bitS_ok (.nil _)) rfl rfl rfl
noncomputable def sibG:MSpec:=fun args H=>.req (Nat.ble args.length Tryz.f208.ntmps) (mfun cxSib Tryz.f208 args H)
theorem sibG_ok:MSound Tryz.prog 208 sibG:=msound_fun (cx:=cxSib) (fn:=Tryz.f208) cxSib_ok (by kernel_rfl) (by kernel_rfl)
def w64 (x:Int):Int:=IntKind.wrap .u64 x
def or64 (a b:Int):Int:=IntKind.wrap .u64 ↑(BitVec.toNat (BitVec.ofInt 64 a ||| BitVec.ofInt 64 b))
def byU (c:Int) (j:Nat):Int:=w64 (w64 c*2 ^ j)
def sgnV (n:Int) (j:Nat):Int:=Int.fdiv (wi (w64 (n*2 ^ j))) (2 ^ j)
def num1V (a:Int):Int:=sgnV (or64 0 (byU a 0)) 56
def num4V (a b c d:Int):Int:=sgnV (or64 (or64 (or64 (or64 0 (byU a 0)) (byU b 8)) (byU c 16)) (byU d 24)) 32
def num8V (a b c d e f g h:Int):Int:=sgnV (or64 (or64 (or64 (or64 (or64 (or64 (or64 (or64 0 (byU a 0)) (byU b 8)) (byU c 16)) (byU d 24)) (byU e 32)) (byU f 40)) (byU g 48)) (byU h 56)) 0
abbrev NumF:=(Int→Int) × (Int→Int→Int→Int→Int) × (Int→Int→Int→Int→Int→Int→Int→Int→Int)
def numV:NumF:=(num1V,num4V,num8V)
section
variable (N:NumF) (l sp:List Int) (fl:Fl) (fs:Bool) (R:Int) (has:Bool)
abbrev panA (e k:Int):Tree Res:=.leaf (.pan (fltV e) [wkO l sp fl k fs R has])
abbrev nxA (k:Int) (K:Int→Int→Tree Res):Tree Res:=nxK l k (fun e k=>panA l sp fl fs R has e k) K
abbrev num1A (k:Int) (K:Int→Int→Tree Res):Tree Res:=nxA l sp fl fs R has k fun a k=>K (N.1 a) k
abbrev num4A (k:Int) (K:Int→Int→Tree Res):Tree Res:=nxA l sp fl fs R has k fun a k=>nxA l sp fl fs R has k fun b k=>nxA l sp fl fs R has k fun c k=>nxA l sp fl fs R has k fun d k=>K (N.2.1 a b c d) k
abbrev num8A (k:Int) (K:Int→Int→Tree Res):Tree Res:=nxA l sp fl fs R has k fun a k=>nxA l sp fl fs R has k fun b k=>nxA l sp fl fs R has k fun c k=>nxA l sp fl fs R has k fun d k =>
 nxA l sp fl fs R has k fun e k=>nxA l sp fl fs R has k fun f k=>nxA l sp fl fs R has k fun g k=>nxA l sp fl fs R has k fun h k=>K (N.2.2 a b c d e f g h) k
abbrev numK (n k:Int):Tree Res:=.leaf (.ok (.int .i64 n) [wkO l sp fl k fs R has])
end
def numberG (N:NumF):MSpec:=fun args H=>match args,H with
 | [.ptr 0 0,.int .i64 s],[.cells [.sl (.int .u8) l sp fl,.int .i64 k,.bool fs,.int .u8 R,.bool has] 146] =>
  cond (s == 1) (num1A N l sp fl fs R has k fun n k=>numK l sp fl fs R has n k) (cond (s == 4) (num4A N l sp fl fs R has k fun n k=>numK l sp fl fs R has n k) (cond (s == 8) (num8A N l sp fl fs R has k fun n k=>numK l sp fl fs R has n k) .fail))
 | _,_=>.fail
section
variable (l sp:List Int) (fl:Fl) (fs:Bool) (R:Int) (has:Bool) (k:Int)
theorem number1_raw:(numberM [.ptr 0 0,.int .i64 1] [wkO l sp fl k fs R has]).out=(nxA l sp fl fs R has k fun a k=>numK l sp fl fs R has (num1V a) k).out:=by kernel_rfl
theorem number1_eq:(numberM [.ptr 0 0,.int .i64 1] [wkO l sp fl k fs R has]).out=(num1A numV l sp fl fs R has k fun n k=>numK l sp fl fs R has n k).out:=number1_raw l sp fl fs R has k
theorem number4_raw:(numberM [.ptr 0 0,.int .i64 4] [wkO l sp fl k fs R has]).out=(nxA l sp fl fs R has k fun a k=>nxA l sp fl fs R has k fun b k=>nxA l sp fl fs R has k fun c k=>nxA l sp fl fs R has k fun d k=>numK l sp fl fs R has (num4V a b c d) k).out:=by kernel_rfl
theorem number4_eq:(numberM [.ptr 0 0,.int .i64 4] [wkO l sp fl k fs R has]).out=(num4A numV l sp fl fs R has k fun n k=>numK l sp fl fs R has n k).out:=number4_raw l sp fl fs R has k
theorem number8_raw:(numberM [.ptr 0 0,.int .i64 8] [wkO l sp fl k fs R has]).out=(nxA l sp fl fs R has k fun a k=>nxA l sp fl fs R has k fun b k=>nxA l sp fl fs R has k fun c k=>nxA l sp fl fs R has k fun d k=>nxA l sp fl fs R has k fun e k=>nxA l sp fl fs R has k fun f k=>nxA l sp fl fs R has k fun g k=>nxA l sp fl fs R has k fun h k=>numK l sp fl fs R has (num8V a b c d e f g h) k).out:=by kernel_rfl
theorem number8_eq:(numberM [.ptr 0 0,.int .i64 8] [wkO l sp fl k fs R has]).out=(num8A numV l sp fl fs R has k fun n k=>numK l sp fl fs R has n k).out:=number8_raw l sp fl fs R has k
end
theorem numberG_ok:MSound Tryz.prog 207 (numberG numV):=by
 intro args H r h
 unfold numberG at h
 split at h
 rotate_left
 ·cases h
 rename_i s l sp fl k fs R has
 have key:∀ s:Int,(numberM [.ptr 0 0,.int .i64 s] [wkO l sp fl k fs R has]).run=some r→MCall Tryz.prog 207 [.ptr 0 0,.int .i64 s] [wkO l sp fl k fs R has] r:=fun s h =>
  numberM_ok _ _ _ h
 have go:∀ {a b:Tree Res},a.out=b.out→b.run=some r→a.run=some r:=fun e h=>(Tree.out_run _).symm.trans (e.trans ((Tree.out_run _).trans h))
 cases h1:(s == 1)
 ·rw [h1,cond_false] at h
  cases h4:(s == 4)
  ·rw [h4,cond_false] at h
   cases h8:(s == 8)
   ·rw [h8] at h; cases h
   ·rw [h8,cond_true] at h
    have:=eq_of_beq h8
    subst this
    exact key 8 (go (number8_eq l sp fl fs R has k) h)
  ·rw [h4,cond_true] at h
   have:=eq_of_beq h4
   subst this
   exact key 4 (go (number4_eq l sp fl fs R has k) h)
 ·rw [h1,cond_true] at h
  have:=eq_of_beq h1
  subst this
  exact key 1 (go (number1_eq l sp fl fs R has k) h)
noncomputable def cxPl (N:NumF):Cx:={ P:=Tryz.prog,n:=Tryz.f162.ntmps,tab:=[(156,fitsS)],mtab:=[(207,numberG N),(163,mustM),(208,sibG)],refs:=[],keeps:=[0,1,2,6,7,18,48,60,61,82],rtab:=[(161,bitS)] }
theorem cxPl_ok:CxOk (cxPl numV):=cx2_ok (ok1 fitsS_ok) (.cons numberG_ok (.cons mustM_ok (.cons sibG_ok (.nil _)))) (.cons bitS_ok (.nil _)) rfl rfl rfl
noncomputable def placeG (N:NumF):MSpec:=fun args H=>.req (Nat.ble args.length Tryz.f162.ntmps) (mfun (cxPl N) Tryz.f162 args H)
theorem placeG_ok:MSound Tryz.prog 162 (placeG numV):=msound_fun (cx:=cxPl numV) (fn:=Tryz.f162) cxPl_ok (by kernel_rfl) (by kernel_rfl)
noncomputable def cxIm (N:NumF):Cx:={ P:=Tryz.prog,n:=Tryz.f165.ntmps,tab:=[(156,fitsS)],mtab:=[(207,numberG N),(163,mustM)],refs:=[],keeps:=[0,1,2,4,6,7,9,10,14,20,25,30] }
noncomputable def immG (N:NumF):MSpec:=fun args H=>.req (Nat.ble args.length Tryz.f165.ntmps) (mfun (cxIm N) Tryz.f165 args H)
theorem immG_ok:MSound Tryz.prog 165 (immG numV):=msound_fun (cx:=cxIm numV) (fn:=Tryz.f165) (cx1_ok (ok1 fitsS_ok) (.cons numberG_ok (.cons mustM_ok (.nil _))) rfl rfl) (by kernel_rfl) (by kernel_rfl)
abbrev WS:=List Int × List Int × Fl × Int × Bool × Int × Bool
abbrev wkS (w:WS):O:=wkO w.1 w.2.1 w.2.2.1 w.2.2.2.1 w.2.2.2.2.1 w.2.2.2.2.2.1 w.2.2.2.2.2.2
def eqW (a b:WS):Bool:=decide (a=b)
def eqL (a b:List Int):Bool:=decide (a=b)
theorem eqL_eq {a b:List Int} (h:eqL a b=true):a=b:=of_decide_eq_true h
def opAt (w0:WS) (r:Res):MSpec:=fun args H=>match args,H with
 | [.ptr 0 0],[.cells [.sl (.int .u8) l sp fl,.int .i64 k,.bool fs,.int .u8 R,.bool has] 146]=>.req (eqW (l,sp,fl,k,fs,R,has) w0) (.leaf r)
 | _,_=>.fail
def chAt (w0:WS) (op:List Int) (r:Res):MSpec:=fun args H=>match args,H with
 | [.ptr 0 0,.sl (.int .u8) o [] .full],[.cells [.sl (.int .u8) l sp fl,.int .i64 k,.bool fs,.int .u8 R,.bool has] 146]=>.req (eqW (l,sp,fl,k,fs,R,has) w0) (.req (eqL o op) (.leaf r))
 | _,_=>.fail
theorem opAt_ok {w0:WS} {r:Res} (h0:MCall Tryz.prog 159 [.ptr 0 0] [wkS w0] r):MSound Tryz.prog 159 (opAt w0 r):=by
 intro args H res h
 unfold opAt at h
 split at h
 rotate_left
 ·cases h
 obtain ⟨h1,h⟩:=req_run h
 have h:=leaf_out h
 subst h
 have h1:=of_decide_eq_true h1
 subst h1
 exact h0
theorem chAt_ok {w0:WS} {op:List Int} {r:Res} (h0:MCall Tryz.prog 160 [.ptr 0 0,opV op] [wkS w0] r):MSound Tryz.prog 160 (chAt w0 op r):=by
 intro args H res h
 unfold chAt at h
 split at h
 rotate_left
 ·cases h
 obtain ⟨h1,h⟩:=req_run h
 obtain ⟨h2,h⟩:=req_run h
 have h:=leaf_out h
 subst h
 have h1:=of_decide_eq_true h1
 have h2:=eqL_eq h2
 subst h1
 subst h2
 exact h0
noncomputable def cxAll (N:NumF) (w0 w1:WS) (op:List Int) (r1 r2:Res):Cx:={ P:=Tryz.prog,n:=Tryz.f111.ntmps,tab:=[(156,fitsS),(52,faultyS)],mtab:=[(159,opAt w0 r1),(160,chAt w1 op r2),(162,placeG N),(164,nextM),(163,mustM),(165,immG N)],refs:=[],keeps:=[0,2,3,4,5,6,7,8,9,25,50,51,67,74,80,86,93,103],rtab:=[(161,bitS)] }
theorem cxAll_ok {w0 w1:WS} {op:List Int} {r1 r2:Res} (h1:MCall Tryz.prog 159 [.ptr 0 0] [wkS w0] r1) (h2:MCall Tryz.prog 160 [.ptr 0 0,opV op] [wkS w1] r2):CxOk (cxAll numV w0 w1 op r1 r2):=
 cx2_ok (.cons fitsS_ok (ok1 faultyS_ok)) (.cons (opAt_ok h1) (.cons (chAt_ok h2) (.cons placeG_ok (.cons nextM_ok (.cons mustM_ok (.cons immG_ok (.nil _))))))) (.cons bitS_ok (.nil _)) rfl rfl rfl
section
variable (N:NumF) (l sp:List Int) (fl:Fl) (fs:Bool) (R:Int) (has:Bool)
variable (x:RowT) (op:List Int) (c k:Int)
abbrev insO (i:InsT):O:=.cells (insL i) 36
abbrev finA (a b cc d n k:Int):Tree Res:=.br (formOk x) (.br (!(faultyF x (x.1,a,b,cc,d,n) == 0)) (panA l sp fl fs R has 22 k) (.leaf (.ok (insV (x.1,a,b,cc,d,n)) [wkO l sp fl k fs R has,insO (x.1,a,b,cc,d,n)]))) .fail
def lastI (op:List Int):Int:=IntKind.wrap .i64 ((op.length:Nat) - 1)
abbrev lastA (K:Int→Tree Res):Tree Res:=.br (inside (lastI op) op.length) (K (wi (w8 (op.getD (lastI op).toNat 0 - w8 x.2.2.1)))) .fail
def midF (c R:Int):Int:=wi (wi (and8 (Int.fdiv c (2 ^ 3)) 7)+bitF R 4)
def lowF (c R:Int):Int:=wi (wi (and8 c 7)+bitF R 1)
def modF (c:Int):Int:=Int.fdiv c (2 ^ 6)
def rmF (c:Int):Int:=wi (and8 c 7)
abbrev form0A (d:Int):Tree Res:=finA l sp fl fs R has x 0 0 0 d 0 k
abbrev form1A (d:Int):Tree Res:=lastA x op fun n=>finA l sp fl fs R has x (wi (n+bitF R 1)) 0 0 d 0 k
abbrev form2A (d:Int):Tree Res:=lastA x op fun a=>num8A N l sp fl fs R has k fun n k=>finA l sp fl fs R has x (wi (a+bitF R 1)) 0 0 d n k
abbrev form3A (d:Int):Tree Res:=finA l sp fl fs R has x (lowF c R) 0 0 d 0 k
abbrev form4A (d:Int):Tree Res:=num4A N l sp fl fs R has k fun n k=>finA l sp fl fs R has x (lowF c R) 0 0 d n k
abbrev form5A (d:Int):Tree Res:=num1A N l sp fl fs R has k fun n k=>finA l sp fl fs R has x (lowF c R) 0 0 d n k
abbrev form6A (d:Int):Tree Res:=.br (inside 0 op.length) (.br (op.getD 0 0 == 131) (num1A N l sp fl fs R has k fun n k=>finA l sp fl fs R has x (lowF c R) 0 0 d n k)
 (num4A N l sp fl fs R has k fun n k=>.br (!(!fitsF n)) (panA l sp fl fs R has 22 k) (finA l sp fl fs R has x (lowF c R) 0 0 d n k))) .fail
abbrev form7A (d:Int):Tree Res:=finA l sp fl fs R has x (lowF c R) (midF c R) 0 d 0 k
abbrev form8A (d:Int):Tree Res:=finA l sp fl fs R has x (midF c R) (lowF c R) 0 d 0 k
abbrev modA (b cc d k:Int) (K:Int→Int→Tree Res):Tree Res:=
 .br (modF c == 1) (num1A N l sp fl fs R has k fun n k=>.br (n != 0) (K n k) (.br (!(andi b 7 == 5)) (panA l sp fl fs R has 22 k) (K n k)))
  (.br (modF c == 2) (num4A N l sp fl fs R has k fun n k=>.br (!(!fitsF n)) (panA l sp fl fs R has 22 k) (K n k)) (K 0 k))
def idxF (c R:Int):Int:=wi (wi (and8 (Int.fdiv c (2 ^ 3)) 7)+bitF R 2)
def scF (c:Int):Int:=IntKind.wrap .i64 (1*2 ^ Min.min (Int.toNat (modF c)) 64)
abbrev sibB (e k:Int) (K:Int→Int→Int→Int→Int→Tree Res):Tree Res:=
 .br (idxF e R == 4) (.br (modF e == 0) (.br (!(andi (lowF e R) 7 == 4)) (panA l sp fl fs R has 22 k) (modA N l sp fl fs R has c (lowF e R) 16 0 k (K (lowF e R) 16 0))) (panA l sp fl fs R has 22 k))
  (.br (decide (0≤modF e)) (modA N l sp fl fs R has c (lowF e R) (idxF e R) (scF e) k (K (lowF e R) (idxF e R) (scF e))) .fail)
abbrev sibA (k:Int) (K:Int→Int→Int→Int→Int→Tree Res):Tree Res:=
 nxA l sp fl fs R has k fun e k=>.br (modF c != 0) (sibB N l sp fl fs R has c e k K) (.br (!(andi (lowF e R) 7 != 5)) (panA l sp fl fs R has 22 k) (sibB N l sp fl fs R has c e k K))
abbrev baseA (k:Int) (K:Int→Int→Int→Int→Int→Tree Res):Tree Res:=
 .br (rmF c == 4) (sibA N l sp fl fs R has c k K) (.br (!(and8 R 2 == 0)) (panA l sp fl fs R has 22 k) (modA N l sp fl fs R has c (wi (rmF c+bitF R 1)) 16 0 k (K (wi (rmF c+bitF R 1)) 16 0)))
abbrev placeA (k:Int) (K:Int→Int→Int→Int→Int→Tree Res):Tree Res:=
 .br (modF c == 0) (.br (rmF c == 5) (.br (!(and8 R 3 == 0)) (panA l sp fl fs R has 22 k) (num4A N l sp fl fs R has k fun n k=>K 17 16 0 n k)) (baseA N l sp fl fs R has c k K)) (baseA N l sp fl fs R has c k K)
abbrev form9A:Tree Res:=placeA N l sp fl fs R has c k fun b cc d n k=>finA l sp fl fs R has x (midF c R) b cc d n k
abbrev form10A (d:Int):Tree Res:=nxA l sp fl fs R has k fun e k=>.br (!(e == 37)) (panA l sp fl fs R has 22 k) (num4A N l sp fl fs R has k fun n k=>finA l sp fl fs R has x (midF c R) 0 0 d n k)
abbrev form11A (d:Int):Tree Res:=num4A N l sp fl fs R has k fun n k=>finA l sp fl fs R has x 0 0 0 d n k
abbrev form12A (d:Int):Tree Res:=num1A N l sp fl fs R has k fun n k=>finA l sp fl fs R has x 0 0 0 d n k
end
end Go.Amd

namespace Go.Amd
open Go Go.Ab Go.Proofs
abbrev RestT:=NumF→List Int→List Int→Fl→Bool→Int→Bool→RowT→List Int→Int→Int→Tree Res
def formsA:List ((Int × Bool) × RestT):=[
 ((0,false),fun _N l sp fl fs R has x _op _c k=>form0A l sp fl fs R has x k 0),
 ((1,false),fun _N l sp fl fs R has x op _c k=>form1A l sp fl fs R has x op k 0),
 ((2,false),fun N l sp fl fs R has x op _c k=>form2A N l sp fl fs R has x op k 0),
 ((3,false),fun _N l sp fl fs R has x _op c k=>form3A l sp fl fs R has x c k 0),
 ((4,false),fun N l sp fl fs R has x _op c k=>form4A N l sp fl fs R has x c k 0),
 ((5,false),fun N l sp fl fs R has x _op c k=>form5A N l sp fl fs R has x c k 0),
 ((6,false),fun N l sp fl fs R has x op c k=>form6A N l sp fl fs R has x op c k 0),
 ((7,false),fun _N l sp fl fs R has x _op c k=>form7A l sp fl fs R has x c k 0),
 ((8,false),fun _N l sp fl fs R has x _op c k=>form8A l sp fl fs R has x c k 0),
 ((8,true),fun _N l sp fl fs R has x op c k=>lastA x op fun d=>form8A l sp fl fs R has x c k d),
 ((9,false),fun N l sp fl fs R has x _op c k=>form9A N l sp fl fs R has x c k),
 ((10,false),fun N l sp fl fs R has x _op c k=>form10A N l sp fl fs R has x c k 0),
 ((11,false),fun N l sp fl fs R has x _op _c k=>form11A N l sp fl fs R has x k 0),
 ((11,true),fun N l sp fl fs R has x op _c k=>lastA x op fun d=>form11A N l sp fl fs R has x k d),
 ((12,false),fun N l sp fl fs R has x _op _c k=>form12A N l sp fl fs R has x k 0),
 ((12,true),fun N l sp fl fs R has x op _c k=>lastA x op fun d=>form12A N l sp fl fs R has x k d)]
abbrev w0S (l sp:List Int) (fl:Fl):WS:=(l,sp,fl,0,false,0,false)
noncomputable def allE (N:NumF) (l sp:List Int) (fl:Fl) (k1:Int) (fs:Bool) (R:Int) (has:Bool) (x:RowT) (op:List Int) (c k:Int):Tree Res:=
 vfun (cxAll N (w0S l sp fl) (l,sp,fl,k1,fs,R,has) op (.ok (opV op) [wkO l sp fl k1 fs R has]) (.ok (.tup [.agg (rowL x),.int .u8 c]) [wkO l sp fl k fs R has,rO x])) Tryz.f111 [.ptr 0 0] [wkS (w0S l sp fl)]
def allH (t:RestT) (N:NumF) (l sp:List Int) (fl:Fl) (k1:Int) (fs:Bool) (R:Int) (has:Bool) (x:RowT) (op:List Int) (c k:Int):Tree Res:=
 .br (eqW (l,sp,fl,0,false,0,false) (w0S l sp fl)) (.br (eqW (l,sp,fl,k1,fs,R,has) (l,sp,fl,k1,fs,R,has)) (.br (eqL op op) (t N l sp fl fs R has x op c k) .fail) .fail) .fail
theorem all_0:((formsA.drop 0).take 7).map (fun p N l sp fl k1 fs R has nm rex o16 dg lo hi os op c k=>(allE N l sp fl k1 fs R has (nm,rex,o16,p.1.1,dg,p.1.2,lo,hi,os) op c k).out) =
  ((formsA.drop 0).take 7).map (fun p N l sp fl k1 fs R has nm rex o16 dg lo hi os op c k=>(allH p.2 N l sp fl k1 fs R has (nm,rex,o16,p.1.1,dg,p.1.2,lo,hi,os) op c k).out):=by kernel_rfl
theorem all_1:((formsA.drop 7).take 4).map (fun p N l sp fl k1 fs R has nm rex o16 dg lo hi os op c k=>(allE N l sp fl k1 fs R has (nm,rex,o16,p.1.1,dg,p.1.2,lo,hi,os) op c k).out) =
  ((formsA.drop 7).take 4).map (fun p N l sp fl k1 fs R has nm rex o16 dg lo hi os op c k=>(allH p.2 N l sp fl k1 fs R has (nm,rex,o16,p.1.1,dg,p.1.2,lo,hi,os) op c k).out):=by kernel_rfl
theorem all_2:((formsA.drop 11).take 1).map (fun p N l sp fl k1 fs R has nm rex o16 dg lo hi os op c k=>(allE N l sp fl k1 fs R has (nm,rex,o16,p.1.1,dg,p.1.2,lo,hi,os) op c k).out) =
  ((formsA.drop 11).take 1).map (fun p N l sp fl k1 fs R has nm rex o16 dg lo hi os op c k=>(allH p.2 N l sp fl k1 fs R has (nm,rex,o16,p.1.1,dg,p.1.2,lo,hi,os) op c k).out):=by kernel_rfl
theorem all_3:((formsA.drop 12).take 4).map (fun p N l sp fl k1 fs R has nm rex o16 dg lo hi os op c k=>(allE N l sp fl k1 fs R has (nm,rex,o16,p.1.1,dg,p.1.2,lo,hi,os) op c k).out) =
  ((formsA.drop 12).take 4).map (fun p N l sp fl k1 fs R has nm rex o16 dg lo hi os op c k=>(allH p.2 N l sp fl k1 fs R has (nm,rex,o16,p.1.1,dg,p.1.2,lo,hi,os) op c k).out):=by kernel_rfl
end Go.Amd

namespace Go.Amd
open Go Go.Ab Go.Proofs
abbrev RestR:=Except (Int × Int) (InsT × Int)
def nxQ (t:List Int) (k:Int) (K:Int→List Int→Int→RestR):RestR:=match t with
 | []=>.error (2,k)
 | c :: t=>K c t (k+1)
def num1Q (t:List Int) (k:Int) (K:Int→List Int→Int→RestR):RestR:=nxQ t k fun a t k=>K (num1V a) t k
def num4Q (t:List Int) (k:Int) (K:Int→List Int→Int→RestR):RestR:=nxQ t k fun a t k=>nxQ t k fun b t k=>nxQ t k fun c t k=>nxQ t k fun d t k=>K (num4V a b c d) t k
def num8Q (t:List Int) (k:Int) (K:Int→List Int→Int→RestR):RestR:=nxQ t k fun a t k=>nxQ t k fun b t k=>nxQ t k fun c t k=>nxQ t k fun d t k =>
 nxQ t k fun e t k=>nxQ t k fun f t k=>nxQ t k fun g t k=>nxQ t k fun h t k=>K (num8V a b c d e f g h) t k
def finQ (x:RowT) (i:InsT) (k:Int):RestR:=cond (!(faultyF x i == 0)) (.error (22,k)) (.ok (i,k))
def mustQ (b:Bool) (k:Int) (r:RestR):RestR:=cond (!b) (.error (22,k)) r
structure At (l:List Int) (k:Int) (t:List Int):Prop where
 at' : ∃ p:List Int,l=p++t∧k=(p.length:Int)
 fine:∀ x ∈ t,0≤x∧x<256
theorem At.next {l t:List Int} {k c:Int} (h:At l k (c :: t)):At l (k+1) t:=by
 obtain ⟨p,h1,h2⟩:=h.at'
 exact ⟨⟨p++[c],by rw [h1]; simp,by rw [h2,List.length_append]; rfl⟩,fun x hx=>h.fine x (List.mem_cons_of_mem _ hx)⟩
section
variable {l sp:List Int} {fl:Fl} {fs:Bool} {R:Int} {has:Bool}
def toRes (l sp:List Int) (fl:Fl) (fs:Bool) (R:Int) (has:Bool):RestR→Res
 | .ok (i,k)=>.ok (insV i) [wkO l sp fl k fs R has,insO i]
 | .error (e,k)=>.pan (fltV e) [wkO l sp fl k fs R has]
def Comes' (l sp:List Int) (fl:Fl) (fs:Bool) (R:Int) (has:Bool) (T:Tree Res) (r:RestR):Prop:=T.run=some (toRes l sp fl fs R has r)
abbrev CK (l sp:List Int) (fl:Fl) (fs:Bool) (R:Int) (has:Bool) (K:Int→Int→Tree Res) (Q:Int→List Int→Int→RestR):Prop:=∀ (n k:Int) (t:List Int),At l k t→Comes' l sp fl fs R has (K n k) (Q n t k)
theorem nx_run (h1:l.length<1000000000) {K:Int→Int→Tree Res} {Q:Int→List Int→Int→RestR} (hK:∀ (n k:Int) (t:List Int),0≤n→At l k t→Comes' l sp fl fs R has (K n k) (Q n t k)) {k:Int} {t:List Int} (ha:At l k t) :
  Comes' l sp fl fs R has (nxA l sp fl fs R has k K) (nxQ t k Q):=by
 obtain ⟨p,e1,e2⟩:=ha.at'
 unfold Comes' nxQ
 refine (nxK_at e1 e2 h1 _ _).trans ?_
 cases t with
 | nil=>rfl
 | cons c t=>exact hK c (k+1) t (ha.fine c List.mem_cons_self).1 ha.next
theorem num1_run (h1:l.length<1000000000) {K:Int→Int→Tree Res} {Q:Int→List Int→Int→RestR} (hK:CK l sp fl fs R has K Q) {k:Int} {t:List Int} (ha:At l k t) :
  Comes' l sp fl fs R has (num1A numV l sp fl fs R has k K) (num1Q t k Q):=
 nx_run h1 (fun a k t _ ha=>hK _ k t ha) ha
theorem num4_run (h1:l.length<1000000000) {K:Int→Int→Tree Res} {Q:Int→List Int→Int→RestR} (hK:CK l sp fl fs R has K Q) {k:Int} {t:List Int} (ha:At l k t) :
  Comes' l sp fl fs R has (num4A numV l sp fl fs R has k K) (num4Q t k Q):=
 nx_run h1 (fun _ _ _ _ ha=>nx_run h1 (fun _ _ _ _ ha=>nx_run h1 (fun _ _ _ _ ha=>nx_run h1 (fun _ k t _ ha=>hK _ k t ha) ha) ha) ha) ha
theorem num8_run (h1:l.length<1000000000) {K:Int→Int→Tree Res} {Q:Int→List Int→Int→RestR} (hK:CK l sp fl fs R has K Q) {k:Int} {t:List Int} (ha:At l k t) :
  Comes' l sp fl fs R has (num8A numV l sp fl fs R has k K) (num8Q t k Q):=
 nx_run h1 (fun _ _ _ _ ha=>nx_run h1 (fun _ _ _ _ ha=>nx_run h1 (fun _ _ _ _ ha=>nx_run h1 (fun _ _ _ _ ha=>nx_run h1 (fun _ _ _ _ ha=>nx_run h1 (fun _ _ _ _ ha=>nx_run h1 (fun _ _ _ _ ha=>nx_run h1 (fun _ k t _ ha=>hK _ k t ha) ha) ha) ha) ha) ha) ha) ha) ha
theorem fin_run {x:RowT} (hx:formOk x=true) (a b cc d n k:Int):Comes' l sp fl fs R has (finA l sp fl fs R has x a b cc d n k) (finQ x (x.1,a,b,cc,d,n) k):=by
 unfold Comes' finQ
 refine (br_t hx).trans ?_
 rw [br_run]
 cases (!(faultyF x (x.1,a,b,cc,d,n) == 0)) <;> rfl
theorem br_run' {c:Bool} {X Y:Tree Res} {p q:RestR} (hx:Comes' l sp fl fs R has X p) (hy:Comes' l sp fl fs R has Y q):Comes' l sp fl fs R has (.br c X Y) (cond c p q):=by
 unfold Comes' at hx hy ⊢
 rw [br_run,hx,hy]
 cases c <;> rfl
theorem pan_run (e k:Int):Comes' l sp fl fs R has (panA l sp fl fs R has e k) (.error (e,k)):=rfl
theorem must_run {b:Bool} {k:Int} {Y:Tree Res} {q:RestR} (hy:Comes' l sp fl fs R has Y q):Comes' l sp fl fs R has (.br (!b) (panA l sp fl fs R has 22 k) Y) (mustQ b k q):=
 br_run' (pan_run 22 k) hy
theorem req_run' {c:Bool} {X:Tree Res} {p:RestR} (hc:c=true) (hx:Comes' l sp fl fs R has X p):Comes' l sp fl fs R has (.br c X .fail) p:=by
 unfold Comes' at hx ⊢
 rw [br_t hc]
 exact hx
end
def lastB (op:List Int):Int:=op.getD (lastI op).toNat 0
def lastQ (x:RowT) (op:List Int) (K:Int→RestR):RestR:=K (wi (w8 (lastB op - w8 x.2.2.1)))
def modQ (c b:Int) (t:List Int) (k:Int) (K:Int→List Int→Int→RestR):RestR:=
 cond (modF c == 1) (num1Q t k fun n t k=>cond (n != 0) (K n t k) (mustQ (andi b 7 == 5) k (K n t k))) (cond (modF c == 2) (num4Q t k fun n t k=>mustQ (!fitsF n) k (K n t k)) (K 0 t k))
abbrev PlaceK:=Int→Int→Int→Int→List Int→Int→RestR
def sibQ2 (R c e:Int) (t:List Int) (k:Int) (K:PlaceK):RestR:=
 cond (idxF e R == 4) (cond (modF e == 0) (mustQ (andi (lowF e R) 7 == 4) k (modQ c (lowF e R) t k (K (lowF e R) 16 0))) (.error (22,k))) (modQ c (lowF e R) t k (K (lowF e R) (idxF e R) (scF e)))
def sibQ (R c:Int) (t:List Int) (k:Int) (K:PlaceK):RestR:=
 nxQ t k fun e t k=>cond (modF c != 0) (sibQ2 R c e t k K) (mustQ (andi (lowF e R) 7 != 5) k (sibQ2 R c e t k K))
def baseQ (R c:Int) (t:List Int) (k:Int) (K:PlaceK):RestR:=
 cond (rmF c == 4) (sibQ R c t k K) (mustQ (and8 R 2 == 0) k (modQ c (wi (rmF c+bitF R 1)) t k (K (wi (rmF c+bitF R 1)) 16 0)))
def placeQ (R c:Int) (t:List Int) (k:Int) (K:PlaceK):RestR:=
 cond (modF c == 0) (cond (rmF c == 5) (mustQ (and8 R 3 == 0) k (num4Q t k fun n t k=>K 17 16 0 n t k)) (baseQ R c t k K)) (baseQ R c t k K)
def formQ (f R:Int) (x:RowT) (op:List Int) (c:Int) (t:List Int) (k d:Int):RestR:=
 cond (f == 0) (finQ x (x.1,0,0,0,d,0) k)
 (cond (f == 1) (lastQ x op fun a=>finQ x (x.1,wi (a+bitF R 1),0,0,d,0) k)
 (cond (f == 2) (lastQ x op fun a=>num8Q t k fun n _ k=>finQ x (x.1,wi (a+bitF R 1),0,0,d,n) k)
 (cond (f == 3) (finQ x (x.1,lowF c R,0,0,d,0) k)
 (cond (f == 4) (num4Q t k fun n _ k=>finQ x (x.1,lowF c R,0,0,d,n) k)
 (cond (f == 5) (num1Q t k fun n _ k=>finQ x (x.1,lowF c R,0,0,d,n) k)
 (cond (f == 6) (cond (op.getD 0 0 == 131) (num1Q t k fun n _ k=>finQ x (x.1,lowF c R,0,0,d,n) k) (num4Q t k fun n _ k=>mustQ (!fitsF n) k (finQ x (x.1,lowF c R,0,0,d,n) k)))
 (cond (f == 7) (finQ x (x.1,lowF c R,midF c R,0,d,0) k)
 (cond (f == 8) (finQ x (x.1,midF c R,lowF c R,0,d,0) k)
 (cond (f == 9) (placeQ R c t k fun b cc d n _ k=>finQ x (x.1,midF c R,b,cc,d,n) k)
 (cond (f == 10) (nxQ t k fun e t k=>mustQ (e == 37) k (num4Q t k fun n _ k=>finQ x (x.1,midF c R,0,0,d,n) k))
 (cond (f == 11) (num4Q t k fun n _ k=>finQ x (x.1,0,0,0,d,n) k)
 (num1Q t k fun n _ k=>finQ x (x.1,0,0,0,d,n) k))))))))))))
def restQ (R:Int) (x:RowT) (op:List Int) (c:Int) (t:List Int) (k:Int):RestR:=
 cond (condR x) (lastQ x op fun d=>formQ (formR x) R x op c t k d) (formQ (formR x) R x op c t k 0)
section
variable {l sp:List Int} {fl:Fl} {fs:Bool} {R:Int} {has:Bool}
theorem last_in {op:List Int} (h:opLen op=true):inside (lastI op) op.length=true∧inside 0 op.length=true:=by
 match op,h with
 | [c],_=>exact ⟨rfl,rfl⟩
 | [c,e],_=>exact ⟨rfl,rfl⟩
 | [],h=>cases h
 | _ :: _ :: _ :: _,h=>cases h
theorem last_run {x:RowT} {op:List Int} (h:opLen op=true) {K:Int→Tree Res} {Q:Int→RestR} (hK:∀ a,Comes' l sp fl fs R has (K a) (Q a)):Comes' l sp fl fs R has (lastA x op K) (lastQ x op Q):=
 req_run' (last_in h).1 (hK _)
theorem mod_run (h1:l.length<1000000000) {c b:Int} {K:Int→Int→Tree Res} {Q:Int→List Int→Int→RestR} (hK:CK l sp fl fs R has K Q) (cc d:Int) {k:Int} {t:List Int} (ha:At l k t) :
  Comes' l sp fl fs R has (modA numV l sp fl fs R has c b cc d k K) (modQ c b t k Q):=
 br_run' (num1_run h1 (fun n k t ha=>br_run' (hK n k t ha) (must_run (hK n k t ha))) ha) (br_run' (num4_run h1 (fun n k t ha=>must_run (hK n k t ha)) ha) (hK 0 k t ha))
theorem modF_nonneg {c:Int} (h:0≤c):0≤modF c:=by
 unfold modF
 rw [Int.fdiv_eq_ediv_of_nonneg _ (by decide)]
 exact Int.ediv_nonneg h (by decide)
theorem sib2_run (h1:l.length<1000000000) {c e:Int} (he:0≤e) {K:Int→Int→Int→Int→Int→Tree Res} {Q:PlaceK} (hK:∀ b cc d,CK l sp fl fs R has (K b cc d) (Q b cc d)) {k:Int} {t:List Int} (ha:At l k t) :
  Comes' l sp fl fs R has (sibB numV l sp fl fs R has c e k K) (sibQ2 R c e t k Q):=
 br_run' (br_run' (must_run (mod_run h1 (hK _ _ _) 16 0 ha)) (pan_run 22 k)) (req_run' (decide_eq_true (modF_nonneg he)) (mod_run h1 (hK _ _ _) _ _ ha))
theorem sib_run (h1:l.length<1000000000) {c:Int} {K:Int→Int→Int→Int→Int→Tree Res} {Q:PlaceK} (hK:∀ b cc d,CK l sp fl fs R has (K b cc d) (Q b cc d)) {k:Int} {t:List Int} (ha:At l k t) :
  Comes' l sp fl fs R has (sibA numV l sp fl fs R has c k K) (sibQ R c t k Q):=
 nx_run h1 (fun _ _ _ he ha=>br_run' (sib2_run h1 he hK ha) (must_run (sib2_run h1 he hK ha))) ha
theorem base_run (h1:l.length<1000000000) {c:Int} {K:Int→Int→Int→Int→Int→Tree Res} {Q:PlaceK} (hK:∀ b cc d,CK l sp fl fs R has (K b cc d) (Q b cc d)) {k:Int} {t:List Int} (ha:At l k t) :
  Comes' l sp fl fs R has (baseA numV l sp fl fs R has c k K) (baseQ R c t k Q):=
 br_run' (sib_run h1 hK ha) (must_run (mod_run h1 (hK _ _ _) 16 0 ha))
theorem place_run (h1:l.length<1000000000) {c:Int} {K:Int→Int→Int→Int→Int→Tree Res} {Q:PlaceK} (hK:∀ b cc d,CK l sp fl fs R has (K b cc d) (Q b cc d)) {k:Int} {t:List Int} (ha:At l k t) :
  Comes' l sp fl fs R has (placeA numV l sp fl fs R has c k K) (placeQ R c t k Q):=
 br_run' (br_run' (must_run (num4_run h1 (hK 17 16 0) ha)) (base_run h1 hK ha)) (base_run h1 hK ha)
theorem rests_run:∀ p ∈ formsA,∀ {x:RowT} {op:List Int} (_:formR x=p.1.1) (_:condR x=p.1.2) (_:formOk x=true) (_:opLen op=true) (h1:l.length<1000000000) {c k:Int} {t:List Int} (_:At l k t),
  Comes' l sp fl fs R has (p.2 numV l sp fl fs R has x op c k) (restQ R x op c t k):=by
 intro p hp x op hf hc hx hop h1 c k t ha
 unfold formsA at hp
 simp only [List.mem_cons,List.not_mem_nil,or_false] at hp
 unfold restQ
 have fin:∀ a b cc d n k,Comes' l sp fl fs R has (finA l sp fl fs R has x a b cc d n k) (finQ x (x.1,a,b,cc,d,n) k):=fun a b cc d n k=>fin_run hx a b cc d n k
 rcases hp with rfl | rfl | rfl | rfl | rfl | rfl | rfl | rfl | rfl | rfl | rfl | rfl | rfl | rfl | rfl | rfl
 all_goals
  simp only at hf hc
  rw [hf,hc]
 ·exact fin 0 0 0 0 0 k
 ·exact last_run (x:=x) hop fun a=>fin _ 0 0 0 0 k
 ·exact last_run (x:=x) hop fun a=>num8_run h1 (fun n k _ _=>fin _ 0 0 0 n k) ha
 ·exact fin _ 0 0 0 0 k
 ·exact num4_run h1 (fun n k _ _=>fin _ 0 0 0 n k) ha
 ·exact num1_run h1 (fun n k _ _=>fin _ 0 0 0 n k) ha
 ·exact req_run' (last_in hop).2 (br_run' (num1_run h1 (fun n k _ _=>fin _ 0 0 0 n k) ha) (num4_run h1 (fun n k _ _=>must_run (fin _ 0 0 0 n k)) ha))
 ·exact fin _ _ 0 0 0 k
 ·exact fin _ _ 0 0 0 k
 ·exact last_run (x:=x) hop fun d=>fin _ _ 0 d 0 k
 ·exact place_run h1 (fun b cc d n k _ _=>fin _ b cc d n k) ha
 ·exact nx_run h1 (K:=fun e k=>.br (!(e == 37)) (panA l sp fl fs R has 22 k) (num4A numV l sp fl fs R has k fun n k=>finA l sp fl fs R has x (midF c R) 0 0 0 n k)) (Q:=fun e t k=>mustQ (e == 37) k (num4Q t k fun n _ k=>finQ x (x.1,midF c R,0,0,0,n) k))
   (fun e k t _ ha=>must_run (num4_run h1 (fun n k _ _=>fin _ 0 0 0 n k) ha)) ha
 ·exact num4_run h1 (fun n k _ _=>fin 0 0 0 0 n k) ha
 ·exact last_run (x:=x) hop fun d=>num4_run h1 (fun n k _ _=>fin 0 0 0 d n k) ha
 ·exact num1_run h1 (fun n k _ _=>fin 0 0 0 0 n k) ha
 ·exact last_run (x:=x) hop fun d=>num1_run h1 (fun n k _ _=>fin 0 0 0 d n k) ha
end
end Go.Amd

namespace Go.Amd
open Go Go.Ab Go.Proofs
noncomputable def cxA1 (w0:WS) (r1:Res):Cx:={ P:=Tryz.prog,n:=Tryz.f111.ntmps,tab:=[],mtab:=[(159,opAt w0 r1)],refs:=[],keeps:=[0,2,3,4,5,6,7,8,9,25,50,51,67,74,80,86,93,103] }
noncomputable def cxA2 (w0 w1:WS) (op:List Int) (r1 r2:Res):Cx:={ P:=Tryz.prog,n:=Tryz.f111.ntmps,tab:=[],mtab:=[(159,opAt w0 r1),(160,chAt w1 op r2)],refs:=[],keeps:=[0,2,3,4,5,6,7,8,9,25,50,51,67,74,80,86,93,103] }
noncomputable def allE1 (l sp:List Int) (fl:Fl) (e k:Int) (fs:Bool) (R:Int) (has:Bool):Tree Res:=
 vfun (cxA1 (w0S l sp fl) (.pan (fltV e) [wkO l sp fl k fs R has])) Tryz.f111 [.ptr 0 0] [wkS (w0S l sp fl)]
theorem allE1_eq (l sp:List Int) (fl:Fl) (e k:Int) (fs:Bool) (R:Int) (has:Bool):(allE1 l sp fl e k fs R has).out=(Tree.br (eqW (l,sp,fl,0,false,0,false) (w0S l sp fl)) (panA l sp fl fs R has e k) .fail).out:=by kernel_rfl
noncomputable def allE2 (l sp:List Int) (fl:Fl) (k1:Int) (fs:Bool) (R:Int) (has:Bool) (op:List Int) (e k:Int):Tree Res:=
 vfun (cxA2 (w0S l sp fl) (l,sp,fl,k1,fs,R,has) op (.ok (opV op) [wkO l sp fl k1 fs R has]) (.pan (fltV e) [wkO l sp fl k fs R has])) Tryz.f111 [.ptr 0 0] [wkS (w0S l sp fl)]
theorem allE2_eq (l sp:List Int) (fl:Fl) (k1:Int) (fs:Bool) (R:Int) (has:Bool) (op:List Int) (e k:Int):(allE2 l sp fl k1 fs R has op e k).out =
  (Tree.br (eqW (l,sp,fl,0,false,0,false) (w0S l sp fl)) (.br (eqW (l,sp,fl,k1,fs,R,has) (l,sp,fl,k1,fs,R,has)) (.br (eqL op op) (panA l sp fl fs R has e k) .fail) .fail) .fail).out:=by kernel_rfl
theorem eqW_refl (w:WS):eqW w w=true:=decide_eq_true rfl
theorem eqL_refl (l:List Int):eqL l l=true:=decide_eq_true rfl
def rowForm (x:RowT):Bool:=(formsA.map (·.1)).contains (formR x,condR x)
theorem rows_formsA:rowsL.all rowForm=true:=by kernel_rfl
theorem form_mem {x:RowT} (h:x ∈ rowsL):∃ p ∈ formsA,formR x=p.1.1∧condR x=p.1.2:=by
 have:=List.all_eq_true.1 rows_formsA x h
 unfold rowForm at this
 simp only [List.contains_iff_mem,List.mem_map] at this
 obtain ⟨p,h1,h2⟩:=this
 exact ⟨p,h1,by rw [h2],by rw [h2]⟩
theorem forms_parts:((formsA.drop 0).take 7++(formsA.drop 7).take 4++(formsA.drop 11).take 1++(formsA.drop 12).take 4)=formsA:=rfl
theorem forms_all {β:Type} {f g:(Int × Bool) × RestT→β} (h0:((formsA.drop 0).take 7).map f=((formsA.drop 0).take 7).map g) (h1:((formsA.drop 7).take 4).map f=((formsA.drop 7).take 4).map g)
  (h2:((formsA.drop 11).take 1).map f=((formsA.drop 11).take 1).map g) (h3:((formsA.drop 12).take 4).map f=((formsA.drop 12).take 4).map g):formsA.map f=formsA.map g:=by
 rw [← forms_parts]
 simp only [List.map_append,h0,h1,h2,h3]
theorem opcP_fine {l:List Int} {op:List Int} {k:Int} {fs:Bool} {R:Int} {has:Bool} (h:opcP l = .ok (op,k,fs,R,has)):opLen op=true∧0≤k∧k≤(l.length:Int):=by
 have ok:∀ {o:List Int} {j:Int} {f:Bool} {r:Int} {b:Bool},(Except.ok (o,j,f,r,b):OpR) = .ok (op,k,fs,R,has)→o=op∧j=k:=by
  intro o j f r b h
  cases h
  exact ⟨rfl,rfl⟩
 cases l with
 | nil=>cases h
 | cons c t =>
  unfold opcP opc0 at h
  simp only at h
  cases h0:(c == 100)
  ·rw [h0,cond_false] at h
   cases h4:(sh4 c == 4)
   ·rw [h4,cond_false] at h
    cases h15:(c != 15)
    ·rw [h15,cond_false] at h
     cases t with
     | nil=>cases h
     | cons d t=>obtain ⟨rfl,rfl⟩:=ok h; exact ⟨rfl,by decide,by simp only [List.length_cons]; omega⟩
    ·rw [h15,cond_true] at h
     obtain ⟨rfl,rfl⟩:=ok h
     exact ⟨rfl,by decide,by simp only [List.length_cons]; omega⟩
   ·rw [h4,cond_true] at h
    cases t with
    | nil=>cases h
    | cons d t =>
     simp only at h
     unfold opc2 at h
     cases h15:(d != 15)
     ·rw [h15,cond_false] at h
      cases h8:(!(and8 (and8 c 15) 8 != 0))
      ·rw [h8,cond_false] at h
       cases t with
       | nil=>cases h
       | cons e t=>obtain ⟨rfl,rfl⟩:=ok h; exact ⟨rfl,by decide,by simp only [List.length_cons]; omega⟩
      ·rw [h8] at h; cases h
     ·rw [h15,cond_true] at h
      obtain ⟨rfl,rfl⟩:=ok h
      exact ⟨rfl,by decide,by simp only [List.length_cons]; omega⟩
  ·rw [h0,cond_true] at h
   cases t with
   | nil=>cases h
   | cons d t =>
    simp only at h
    unfold opc1 at h
    cases h48:(!(and8 d 251 == 72))
    ·rw [h48,cond_false] at h
     cases h4:(sh4 d == 4)
     ·rw [h4,cond_false] at h
      cases h15:(d != 15)
      ·rw [h15] at h; cases h
      ·rw [h15,cond_true] at h
       obtain ⟨rfl,rfl⟩:=ok h
       exact ⟨rfl,by decide,by simp only [List.length_cons]; omega⟩
     ·rw [h4,cond_true] at h
      cases t with
      | nil=>cases h
      | cons e t =>
       simp only at h
       cases h15:(e != 15)
       ·rw [h15] at h; cases h
       ·rw [h15,cond_true] at h
        obtain ⟨rfl,rfl⟩:=ok h
        exact ⟨rfl,by decide,by simp only [List.length_cons]; omega⟩
    ·rw [h48] at h; cases h
def plainR:RestR→Except Int (InsT × Int)
 | .ok p=>.ok p
 | .error (e,_)=>.error e
def decC (R:Int) (op:List Int) (k:Int) (G:List RowT):List Int→Except Int (InsT × Int)
 | []=>.error 2
 | c :: t=>match G.find? (fitC c) with
  | some x=>plainR (restQ R x op c t (k+1))
  | none=>.error 22
def decQ (l:List Int):Except Int (InsT × Int):=match opcP l with
 | .error (e,_)=>.error e
 | .ok (op,k,fs,R,has)=>match cands R op fs has with
  | []=>.error 22
  | r0 :: G=>cond (modOf (formR r0)) (decC R op k (r0 :: G) (l.drop k.toNat)) (plainR (restQ R r0 op 0 (l.drop k.toNat) k))
def AllRes (l sp:List Int) (fl:Fl) (res:Res):Except Int (InsT × Int)→Prop
 | .ok (i,k)=>∃ fs R has,res = .ok (insV i) [wkO l sp fl k fs R has,insO i]
 | .error e=>∃ k fs R has,res = .pan (fltV e) [wkO l sp fl k fs R has]
theorem allRes_rest {l sp:List Int} {fl:Fl} {fs:Bool} {R:Int} {has:Bool} (r:RestR):AllRes l sp fl (toRes l sp fl fs R has r) (plainR r):=by
 cases r with
 | ok p=>exact ⟨fs,R,has,rfl⟩
 | error p=>exact ⟨p.2,fs,R,has,rfl⟩
section
variable {l sp:List Int} {fl:Fl}
abbrev AllCall (l sp:List Int) (fl:Fl) (res:Res):Prop:=MCall Tryz.prog 111 [.ptr 0 0] [wkO l sp fl 0 false 0 false] res
theorem all_chosen (h1:l.length<1000000000) {op:List Int} {k1 k c R:Int} {fs has:Bool} {x:RowT} (ho:opcP l = .ok (op,k1,fs,R,has)) (hx:x ∈ rowsL)
  (hch:MCall Tryz.prog 160 [.ptr 0 0,opV op] [wkO l sp fl k1 fs R has] (.ok (.tup [.agg (rowL x),.int .u8 c]) [wkO l sp fl k fs R has,rO x])) {t:List Int} (ha:At l k t) :
  AllCall l sp fl (toRes l sp fl fs R has (restQ R x op c t k)):=by
 have hop:=opcode_ok l sp fl h1
 rw [ho] at hop
 obtain ⟨p,hp,hf,hc⟩:=form_mem hx
 have hform:formOk x=true:=List.all_eq_true.1 rows_forms x hx
 have hrun:=rests_run (sp:=sp) (fl:=fl) (fs:=fs) (R:=R) (has:=has) p hp hf hc hform (opcP_fine ho).1 h1 (c:=c) ha
 obtain ⟨nm,rex,o16,f,dg,cn,lo,hi,os⟩:=x
 simp only [formR,condR] at hf hc
 subst hf
 subst hc
 have e:=congrFun (congrFun (congrFun (congrFun (congrFun (congrFun (congrFun (congrFun (congrFun (congrFun (congrFun (congrFun (congrFun (congrFun (congrFun (congrFun (congrFun (congrFun (List.map_inj_left.1 (forms_all all_0 all_1 all_2 all_3) p hp) numV) l) sp) fl) k1) fs) R) has) nm) rex) o16) dg) lo) hi) os) op) c) k
 refine mcall_view (cx:=cxAll numV (w0S l sp fl) (l,sp,fl,k1,fs,R,has) op (.ok (opV op) [wkO l sp fl k1 fs R has]) (.ok (.tup [.agg (rowL (nm,rex,o16,p.1.1,dg,p.1.2,lo,hi,os)),.int .u8 c]) [wkO l sp fl k fs R has,rO (nm,rex,o16,p.1.1,dg,p.1.2,lo,hi,os)])) (fn:=Tryz.f111)
  (cxAll_ok hop hch) (by kernel_rfl) (by kernel_rfl) (by kernel_rfl) (by kernel_rfl) rfl ?_
 refine (Tree.out_run _).symm.trans (e.trans ((Tree.out_run _).trans ?_))
 unfold allH
 rw [br_t (eqW_refl _),br_t (eqW_refl _),br_t (eqL_refl _)]
 exact hrun
theorem all_ok (h1:l.length<1000000000) (hb:∀ x ∈ l,0≤x∧x<256):∃ res,AllRes l sp fl res (decQ l)∧AllCall l sp fl res:=by
 have hop:=opcode_ok l sp fl h1
 unfold decQ
 cases ho:opcP l with
 | error p =>
  obtain ⟨e,k,fs,R,has⟩:=p
  rw [ho] at hop
  refine ⟨.pan (fltV e) [wkO l sp fl k fs R has],⟨k,fs,R,has,rfl⟩,?_⟩
  refine mcall_view (cx:=cxA1 (w0S l sp fl) (.pan (fltV e) [wkO l sp fl k fs R has])) (fn:=Tryz.f111) (cx1_ok (.nil _) (.cons (opAt_ok hop) (.nil _)) rfl rfl) (by kernel_rfl) (by kernel_rfl) (by kernel_rfl) (by kernel_rfl) rfl ?_
  refine (Tree.out_run _).symm.trans ((allE1_eq l sp fl e k fs R has).trans ((Tree.out_run _).trans ?_))
  rw [br_t (eqW_refl _)]
  rfl
 | ok p =>
  obtain ⟨op,k1,fs,R,has⟩:=p
  rw [ho] at hop
  obtain ⟨o1,k0,k2⟩:=opcP_fine ho
  have pan:∀ e k,(chosenT l sp fl k1 R op fs has).run=some (.pan (fltV e) [wkO l sp fl k fs R has]) → ∃ res,AllRes l sp fl res (.error e)∧AllCall l sp fl res:=by
   intro e k hr
   have hch:=chosen_ok (sp:=sp) (fl:=fl) o1 k0 (by omega) h1 hr
   refine ⟨.pan (fltV e) [wkO l sp fl k fs R has],⟨k,fs,R,has,rfl⟩,?_⟩
   refine mcall_view (cx:=cxA2 (w0S l sp fl) (l,sp,fl,k1,fs,R,has) op (.ok (opV op) [wkO l sp fl k1 fs R has]) (.pan (fltV e) [wkO l sp fl k fs R has])) (fn:=Tryz.f111)
    (cx1_ok (.nil _) (.cons (opAt_ok hop) (.cons (chAt_ok hch) (.nil _))) rfl rfl) (by kernel_rfl) (by kernel_rfl) (by kernel_rfl) (by kernel_rfl) rfl ?_
   refine (Tree.out_run _).symm.trans ((allE2_eq l sp fl k1 fs R has op e k).trans ((Tree.out_run _).trans ?_))
   rw [br_t (eqW_refl _),br_t (eqW_refl _),br_t (eqL_refl _)]
   rfl
  have at1:At l k1 (l.drop k1.toNat):=⟨⟨l.take k1.toNat,(List.take_append_drop _ _).symm,by rw [List.length_take]; omega⟩,fun x hx=>hb x (List.mem_of_mem_drop hx)⟩
  have good:∀ x c k t,x ∈ rowsL→At l k t→(chosenT l sp fl k1 R op fs has).run=some (.ok (.tup [.agg (rowL x),.int .u8 c]) [wkO l sp fl k fs R has,rO x]) → ∃ res,AllRes l sp fl res (plainR (restQ R x op c t k))∧AllCall l sp fl res:=by
   intro x c k t hx ha hr
   exact ⟨_,allRes_rest _,all_chosen h1 ho hx (chosen_ok (sp:=sp) (fl:=fl) o1 k0 (by omega) h1 hr) ha⟩
  simp only
  unfold chosenT at pan good
  have hmem:∀ r ∈ cands R op fs has,r ∈ rowsL:=fun r hr=>(List.mem_filter.1 hr).1
  cases hG:cands R op fs has with
  | nil =>
   rw [hG] at pan
   exact pan 22 k1 rfl
  | cons r0 G =>
   rw [hG] at pan good hmem
   simp only at pan good ⊢
   cases hm:modOf (formR r0)
   ·rw [hm] at pan good
    exact good r0 0 k1 _ (hmem r0 List.mem_cons_self) at1 rfl
   ·rw [hm] at pan good
    simp only [br_run,cond_true] at pan good ⊢
    generalize hd:l.drop k1.toNat=t at at1
    cases t with
    | nil =>
     have hle:l.length≤k1.toNat:=List.drop_eq_nil_iff.1 hd
     have hs:decide ((l.length:Nat)≤k1)=true:=decide_eq_true (by omega)
     exact pan 2 k1 (by rw [hs]; rfl)
    | cons c t =>
     have hlt:k1.toNat<l.length:=by
      rcases Nat.lt_or_ge k1.toNat l.length with h | h
      ·exact h
      ·rw [List.drop_eq_nil_iff.2 h] at hd; cases hd
     have hs:decide ((l.length:Nat)≤k1)=false:=decide_eq_false (by omega)
     have hc:l.getD k1.toNat 0=c:=by
      rw [List.drop_eq_getElem_cons hlt] at hd
      rw [List.getD_eq_getElem?_getD,List.getElem?_eq_getElem hlt]
      exact (List.cons.inj hd).1
     rw [hs] at pan good
     rw [hc] at pan good
     simp only [cond_false] at pan good
     unfold fitT at pan good
     unfold decC
     simp only
     cases hx:(r0 :: G).find? (fitC c) with
     | none =>
      rw [hx] at pan
      exact pan 22 (k1+1) rfl
     | some x =>
      rw [hx] at good
      exact good x c (k1+1) t (hmem x (List.mem_of_find?_eq_some hx)) at1.next rfl
end
end Go.Amd
