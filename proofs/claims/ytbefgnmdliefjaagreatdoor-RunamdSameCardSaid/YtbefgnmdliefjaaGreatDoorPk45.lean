/-
  The program's memory: all bytes of a page. Conditions: none.
-/
import Derived.Test.YtbefgnmdliefjaaGreatDoorPk13
import Derived.Test.YtbefgnmdliefjaaGreatDoorPk12
import Derived.Test.YtbefgnmdliefjaaGreatDoorPk18
import Derived.Test.YtbefgnmdliefjaaGreatDoorPk22
import Derived.Test.YtbefgnmdliefjaaGreatDoorPk41
set_option linter.unusedVariables false
set_option linter.unusedSimpArgs false
namespace Go.Ra
open Go Go.Ab Go.Proofs
def newPg (l:List Int):O:=.obj (.page 0 .u8 l) []
theorem selF_len {a b c d e:List Int} (hl:lens5 a b c d e=true) (k:Int):(selF k a b c d e).length=4096:=by
 obtain ⟨l1,l2,l3,l4,l5⟩:=lens5_spec hl
 unfold selF
 cases k == 1 <;> cases k == 2 <;> cases k == 16 <;> cases k == 17 <;> assumption
end Go.Ra

namespace Go.Ra
open Go Go.Ab Go.Proofs
noncomputable def cxRcb:Cx:={ P:=Tryz.prog,n:=Tryz.f49.ntmps,tab:=[],mtab:=[],refs:=[],keeps:=[0,1,2,3,8,9,10,20,23,35,61],rtab:=[(48,findR)],lz:=[55] }
theorem cxRcb_ok:CxOk cxRcb:=⟨.nil _,.nil _,.cons findR_ok (.nil _),fun p h=>by cases h⟩
noncomputable abbrev Bcb:Code:=bodyOf Tryz.f49
def cbT (x n k:Int):T:=[(0,.ptr 0 0),(1,.int .u64 x),(2,.int .i64 n),(3,.int .i64 0),(9,.int .i64 k)]
def cbNext (x n:Int) (k:Nat) (H:List O):Tree St:=.leaf (.normal,cbT x n (IntKind.wrap .i64 ((k:Int)+1)),H)
def cbFind (L:Bool) (x n:Int) (k:Nat) (H:List O):Tree St:=.br L (.br (decide (idxF (pgF (adr x k))<0)) (.leaf (.ret,cbT x n k,H)) (cbNext x n k H)) .fail
def cbRound (x n:Int) (k:Nat) (A B C D E:List Int):Tree St:=
 .br (decide ((k:Int)<n)) (.br (decide (0<(k:Int))) (.br (Int.tmod (adr x k) 4096 != 0) (cbNext x n k (refO A B C D E)) (cbFind (lens5 A B C D E) x n k (refO A B C D E))) (cbFind (lens5 A B C D E) x n k (refO A B C D E)))
  (.leaf (.exit 0,cbT x n k,refO A B C D E))
theorem cbRound_eq (x n:Int) (k:Nat) (A B C D E:List Int) :
  ((dcode cxRcb (cin (cin (c2 (c1 (tailN 1 Bcb))))) (cbT x n k) (refO A B C D E)).bind (rnd 7 [] [0,1,2,3,9])).run=(cbRound x n k A B C D E).run:=
 (show _=(cbRound x n k A B C D E).out by kernel_rfl).trans (Tree.out_run _)
def cbHead (x n:Int) (H:List O):Option St:=
 cond (decide (0<n)) (cond (decide (IntKind.wrap .u64 (18446744073709551615 - x)<IntKind.wrap .u64 (IntKind.wrap .i64 (n - 1)))) (some (.ret,[(0,.ptr 0 0),(1,.int .u64 x),(2,.int .i64 n),(3,.int .i64 0)],H)) (some (.normal,[(0,.ptr 0 0),(1,.int .u64 x),(2,.int .i64 n),(3,.int .i64 0)],H)))
  (some (.normal,[(0,.ptr 0 0),(1,.int .u64 x),(2,.int .i64 n),(3,.int .i64 0)],H))
theorem cb_head (x n:Int) (H:List O):((dcode cxRcb (headN 1 Bcb) (initT 0 [.ptr 0 0,.int .u64 x,.int .i64 n,.int .i64 0]) H).bind (cutK [0,1,2,3])).run=cbHead x n H:=by kernel_rfl
theorem cb_start (x n:Int) (H:List O):((dcode cxRcb (c1 (c1 (tailN 1 Bcb))) [(0,.ptr 0 0),(1,.int .u64 x),(2,.int .i64 n),(3,.int .i64 0)] H).bind (cutK [0,1,2,3,9])).run=some (.normal,cbT x n 0,H):=by kernel_rfl
theorem cb_end (H:List O):((dcode cxRcb (tailN 2 Bcb) [] H).bind (answerM Tryz.prog Tryz.f49.results.toList)).run=some (.ok (.bool true) H):=by kernel_rfl
def cbSt (x n:Int) (A B C D E:List Int) (k:{ k:Nat // k≤n.toNat }):T × List O:=(cbT x n k.1,refO A B C D E)
theorem idx_base {x:Int} (hx:isBase x=true) {i:Nat} (hi:i<8192):¬ idxF (pgF (adr x i))<0:=by
 have h:=usable_base hx hi
 unfold usable at h
 obtain ⟨_,h⟩:=Bool.and_eq_true_iff.1 h
 simp only [isPg,Bool.or_eq_true,beq_iff_eq] at h
 rcases h with h | h | h | h | h <;> rw [h] <;> decide
theorem cb_ok {x n:Int} (hx:isBase x=true) (h0:0≤n) (h1:n≤8192) {A B C D E:List Int} (hl:lens5 A B C D E=true) :
  MCall Tryz.prog 49 [.ptr 0 0,.int .u64 x,.int .i64 n,.int .i64 0] (refO A B C D E) (.ok (.bool true) (refO A B C D E)):=by
 have hx' : x=4096∨x=65536:=by simpa [isBase] using hx
 refine mcall_of' (c:=Bcb) (fn:=Tryz.f49) (by kernel_rfl) (by kernel_rfl) (by kernel_rfl) (by kernel_rfl) ?_
 have hh:cbHead x n (refO A B C D E)=some (.normal,[(0,.ptr 0 0),(1,.int .u64 x),(2,.int .i64 n),(3,.int .i64 0)],refO A B C D E):=by
  unfold cbHead
  cases hp:decide (0<n)
  ·rfl
  have hp:=of_decide_eq_true hp
  have e1:IntKind.wrap .u64 (18446744073709551615 - x)=(18446744073709551615 - x) % 18446744073709551616:=rfl
  have e2:IntKind.wrap .u64 (IntKind.wrap .i64 (n - 1))=IntKind.wrap .i64 (n - 1) % 18446744073709551616:=rfl
  rw [e1,e2,wrap_i64 (by omega) (by omega),decide_eq_false (by omega)]
  rfl
 refine AWP_headK (cx:=cxRcb) rfl rfl cxRcb_ok 1 [0,1,2,3] (by kernel_rfl) ((cutK_run _ _).symm.trans ((cb_head x n _).trans hh)) ?_
 have eb:tailN 1 Bcb = .seq (.seq (c1 (c1 (tailN 1 Bcb))) (.block 0 (.loop (cin (cin (c2 (c1 (tailN 1 Bcb)))))))) (tailN 2 Bcb):=by kernel_rfl
 rw [eb]
 obtain ⟨s,g1,g2⟩:=Option.map_eq_some_iff.1 ((cutK_run _ _).symm.trans (cb_start x n (refO A B C D E)))
 refine AWP_seq (AWP_seq (AWP_run (cx:=cxRcb) rfl rfl cxRcb_ok g1 ?_))
 obtain ⟨ex,t,H⟩:=s
 simp only [Prod.mk.injEq] at g2
 obtain ⟨rfl,g2,rfl⟩:=g2
 refine AWP_block (AWP.less (s:=cbT x n 0) (g2 ▸ TLe.keep _ _) ?_)
 refine AWP_roundsK (cx:=cxRcb) (P:=Tryz.prog) (n:=62) rfl rfl cxRcb_ok (cbSt x n A B C D E) (fun k=>n.toNat - k.1) [] [0,1,2,3,9] ?_ ⟨0,Nat.zero_le _⟩
 rintro ⟨k,hk⟩
 refine Tree.all_run_eq (cbRound_eq x n k A B C D E) ?_
 refine ⟨fun hlt=>?_,fun hge=>?_⟩
 ·have hlt:=of_decide_eq_true hlt
  have hnext:(cbNext x n k (refO A B C D E)).all (RoundK (cbSt x n A B C D E) (fun k=>n.toNat - k.1) [0,1,2,3,9] (blockQ 0 (seqQ (AWP Tryz.prog 62 (tailN 2 Bcb) (MPost Tryz.prog Tryz.f49 (.ok (.bool true) (refO A B C D E)))) (MPost Tryz.prog Tryz.f49 (.ok (.bool true) (refO A B C D E))))) ⟨k,hk⟩):=by
   refine ⟨⟨k+1,by omega⟩,by show n.toNat - (k+1)<n.toNat - k; omega,?_,rfl⟩
   rw [wrap_i64 (by omega) (by omega)]
   exact TLe.refl _
  have hfind:=all_t (y:=.fail) hl (all_f (x:=.leaf (.ret,cbT x n k,refO A B C D E)) (decide_eq_false (idx_base hx (i:=k) (by omega))) hnext)
  exact ⟨fun _=>⟨fun _=>hnext,fun _=>hfind⟩,fun _=>hfind⟩
 ·have hge:=of_decide_eq_false hge
  intro t ht
  show AWP _ _ _ _ _ _
  refine AWP.less (s:=[]) (fun _=>.inr rfl) ?_
  obtain ⟨s,g1,g2⟩:=bind_run (cb_end (refO A B C D E))
  refine AWP_run (cx:=cxRcb) rfl rfl cxRcb_ok g1 ?_
  exact answerM_post g2
def canBig:RSpec:=fun args H=>match args with
 | [.ptr 0 0,.int .u64 x,.int .i64 n,.int .i64 r]=>refM (fun _ _ _ _ _=>.req (isBase x && (decide (0≤n) && (decide (n≤8192) && r == 0))) (.leaf (.bool true))) H
 | _=>.fail
theorem canBig_ok:RSound Tryz.prog 49 canBig:=by
 intro args H out h
 unfold canBig at h
 split at h
 rotate_left
 ·cases h
 rename_i x n r
 obtain ⟨a,b,c,d,e,rfl,hl,h⟩:=refM_run h
 obtain ⟨h1,h⟩:=req_run h
 cases h
 simp only [Bool.and_eq_true,decide_eq_true_eq,beq_iff_eq] at h1
 obtain ⟨hx,h2,h3,rfl⟩:=h1
 exact cb_ok hx h2 h3 hl
noncomputable def cxRset:Cx:={ P:=Tryz.prog,n:=Tryz.f25.ntmps,tab:=[],mtab:=[(50,putRf)],refs:=[],keeps:=[0,1,2,6,7,13,17],rtab:=[(49,canBig)] }
noncomputable def cxRset0:Cx:={ cxRset with fuel:=1 }
theorem cxRset_ok:CxOk cxRset:=⟨.nil _,.cons putRf_ok (.nil _),.cons canBig_ok (.nil _),fun p h=>by cases h⟩
noncomputable abbrev Brs:Code:=bodyOf Tryz.f25
def rsS (x:Int) (l:List Int) (n:Nat) (a b c d e:List Int):List O:=refO (layL 1 x l n a) (layL 2 x l n b) (layL 16 x l n c) (layL 17 x l n d) (layL 32 x l n e)
def rsT (x:Int) (l sp:List Int) (fl:Fl) (i:Int):T:=[(0,.ptr 0 0),(1,.int .u64 x),(2,.sl (.int .u8) l sp fl),(7,.int .i64 i)]
def rsRound (x:Int) (l sp:List Int) (fl:Fl) (i:Nat) (a b c d e:List Int):Tree St:=
 .br (decide ((i:Int)<l.length)) (.br (inside i l.length) (.br (lens5 a b c d e) (.br (usable (adr x i)) (.leaf (.normal,rsT x l sp fl (IntKind.wrap .i64 ((i:Int)+1)),
   refO (setF 1 (adr x i) (l.getD i 0) a) (setF 2 (adr x i) (l.getD i 0) b) (setF 16 (adr x i) (l.getD i 0) c) (setF 17 (adr x i) (l.getD i 0) d) (setF 32 (adr x i) (l.getD i 0) e))) .fail) .fail) .fail)
  (.leaf (.exit 0,rsT x l sp fl i,refO a b c d e))
theorem rsRound_eq (x:Int) (l sp:List Int) (fl:Fl) (i:Nat) (a b c d e:List Int) :
  ((dcode cxRset (cin (cin (c2 (c1 (tailN 1 Brs))))) (rsT x l sp fl i) (refO a b c d e)).bind (rnd 7 [] [0,1,2,7])).run=(rsRound x l sp fl i a b c d e).run:=
 (show _=(rsRound x l sp fl i a b c d e).out by kernel_rfl).trans (Tree.out_run _)
theorem rs_head (x:Int) (l sp:List Int) (fl:Fl) (a b c d e:List Int):((dcode cxRset (headN 1 Brs) (initT 0 [.ptr 0 0,.int .u64 x,.sl (.int .u8) l sp fl]) (refO a b c d e)).bind (cutK [0,1,2])).run =
  cond (lens5 a b c d e) (cond (isBase x && (decide ((0:Int)≤l.length) && (decide ((l.length:Int)≤8192) && true))) (some (.normal,[(0,.ptr 0 0),(1,.int .u64 x),(2,.sl (.int .u8) l sp fl)],refO a b c d e)) none) none:=by kernel_rfl
theorem rs_start (x:Int) (l sp:List Int) (fl:Fl) (H:List O):((dcode cxRset (c1 (c1 (tailN 1 Brs))) [(0,.ptr 0 0),(1,.int .u64 x),(2,.sl (.int .u8) l sp fl)] H).bind (cutK [0,1,2,7])).run=some (.normal,rsT x l sp fl 0,H):=by kernel_rfl
theorem rs_end (H:List O):((dcode cxRset (tailN 2 Brs) [] H).bind (answerM Tryz.prog Tryz.f25.results.toList)).run=some (.ok (.int .i64 0) H):=by kernel_rfl
theorem rs_nil (x:Int) (a b c d e:List Int):(mfun cxRset0 Tryz.f25 [.ptr 0 0,.int .u64 x,.val (.slice none 0 0)] (refO a b c d e)).fin=cond (lens5 a b c d e) (cond (isBase x && true) (some (.ok (.int .i64 0) (refO a b c d e))) none) none:=by kernel_rfl
def rsSt (x:Int) (l sp:List Int) (fl:Fl) (a b c d e:List Int) (i:{ i:Nat // i≤l.length }):T × List O:=(rsT x l sp fl i.1,rsS x l i.1 a b c d e)
set_option maxRecDepth 8000 in
theorem rs_ok {x:Int} {l:List Int} (sp:List Int) (fl:Fl) {a b c d e:List Int} (hx:isBase x=true) (hn:l.length≤8192) (hb8:l.all byteB=true) (hl:lens5 a b c d e=true) :
  MCall Tryz.prog 25 [.ptr 0 0,.int .u64 x,.sl (.int .u8) l sp fl] (refO a b c d e) (.ok (.int .i64 0) (rsS x l l.length a b c d e)):=by
 refine mcall_of' (c:=Brs) (fn:=Tryz.f25) (by kernel_rfl) (by kernel_rfl) (by kernel_rfl) (by kernel_rfl) ?_
 have hb:(isBase x && (decide ((0:Int)≤l.length) && (decide ((l.length:Int)≤8192) && true)))=true:=by
  rw [hx,decide_eq_true (by omega),decide_eq_true (by omega)]
  rfl
 refine AWP_headK (cx:=cxRset) rfl rfl cxRset_ok 1 [0,1,2] (by kernel_rfl) (by rw [← cutK_run,rs_head,hl,hb]; rfl) ?_
 have eb:tailN 1 Brs = .seq (.seq (c1 (c1 (tailN 1 Brs))) (.block 0 (.loop (cin (cin (c2 (c1 (tailN 1 Brs)))))))) (tailN 2 Brs):=by kernel_rfl
 rw [eb]
 obtain ⟨s,g1,g2⟩:=Option.map_eq_some_iff.1 ((cutK_run _ _).symm.trans (rs_start x l sp fl (refO a b c d e)))
 refine AWP_seq (AWP_seq (AWP_run (cx:=cxRset) rfl rfl cxRset_ok g1 ?_))
 obtain ⟨ex,t,H⟩:=s
 simp only [Prod.mk.injEq] at g2
 obtain ⟨rfl,g2,rfl⟩:=g2
 refine AWP_block (AWP.less (s:=rsT x l sp fl 0) (g2 ▸ TLe.keep _ _) ?_)
 refine AWP_roundsK (cx:=cxRset) (P:=Tryz.prog) (n:=30) rfl rfl cxRset_ok (rsSt x l sp fl a b c d e) (fun i=>l.length - i.1) [] [0,1,2,7] ?_ ⟨0,Nat.zero_le _⟩
 rintro ⟨i,hi⟩
 have hl' := lens5_layL x l hb8 hl i
 refine Tree.all_run_eq (rsRound_eq x l sp fl i _ _ _ _ _) ?_
 refine ⟨fun hlt=>?_,fun hge=>?_⟩
 ·have hlt:i<l.length:=Int.ofNat_lt.1 (of_decide_eq_true hlt)
  refine all_t (inside_of (Int.natCast_nonneg i) (Int.ofNat_lt.2 hlt)) (all_t hl' (all_t (usable_base hx (by omega)) ⟨⟨i+1,hlt⟩,by show l.length - (i+1)<l.length - i; omega,?_,rfl⟩))
  rw [wrap_i64 (by omega) (by omega)]
  exact TLe.refl _
 ·have hge:¬ i<l.length:=fun h=>of_decide_eq_false hge (Int.ofNat_lt.2 h)
  have hi' : i=l.length:=by omega
  subst hi'
  intro t _
  show AWP _ _ _ _ _ _
  refine AWP.less (s:=[]) (fun _=>.inr rfl) ?_
  obtain ⟨s,g1,g2⟩:=bind_run (rs_end (rsS x l l.length a b c d e))
  refine AWP_run (cx:=cxRset) rfl rfl cxRset_ok g1 ?_
  exact answerM_post g2
def okLast:V→Bool
 | .rng .i64 0 5=>true
 | .int .i64 0=>true
 | _=>false
def refMW {α:Type} (f:List Int→List Int→List Int→List Int→List Int→Tree α):List O→Tree α
 | .cells [.ref 1 3 0 5,v] t :: H=>.req (okLast v) (refM f (.cells [.ref 1 3 0 5,.rng .i64 0 5] t :: H))
 | _=>.fail
theorem refMW_run {f:List Int→List Int→List Int→List Int→List Int→Tree Res} {H:List O} {out:Res} (h:(refMW f H).run=some out) :
  ∃ v a b c d e,H=refH v a b c d e∧okLast v=true∧lens5 a b c d e=true∧(f a b c d e).run=some out:=by
 unfold refMW at h
 split at h
 rotate_left
 ·cases h
 rename_i v t H
 obtain ⟨h1,h⟩:=req_run h
 obtain ⟨a,b,c,d,e,g1,g2,g3⟩:=refM_run h
 refine ⟨v,a,b,c,d,e,?_,h1,g2,g3⟩
 unfold refO refH at g1
 simp only [List.cons.injEq,O.cells.injEq] at g1
 obtain ⟨⟨_,rfl⟩,rfl⟩:=g1
 rfl
theorem mcall_last {f:Nat} {args:List V} {v:V} {A B C D E:List Int} {o:V} {H' : List O} (hv:okLast v=true) (h:MCall Tryz.prog f args (refO A B C D E) (.ok o H')):MCall Tryz.prog f args (refH v A B C D E) (.ok o H'):=by
 unfold okLast at hv
 split at hv
 ·exact h
 ·exact mcall_in (A:=[]) (pre:=[.ref 1 3 0 5]) (post:=[]) (lo:=0) (hi:=5) (by decide) (by decide) h
 ·cases hv
def setRM:MSpec:=fun args H=>match args with
 | [.ptr 0 0,.int .u64 x,.sl (.int .u8) l _ _]=>refMW (fun a b c d e=>.req (isBase x && (decide (l.length≤8192) && l.all byteB)) (.leaf (.ok (.int .i64 0) (refO (layL 1 x l l.length a) (layL 2 x l l.length b) (layL 16 x l l.length c) (layL 17 x l l.length d) (layL 32 x l l.length e))))) H
 | [.ptr 0 0,.int .u64 x,.val (.slice none 0 0)]=>refMW (fun a b c d e=>.req (isBase x) (.leaf (.ok (.int .i64 0) (refO a b c d e)))) H
 | _=>.fail
theorem setRM_ok:MSound Tryz.prog 25 setRM:=by
 intro args H out h
 unfold setRM at h
 split at h
 ·rename_i x l sp fl
  obtain ⟨v,a,b,c,d,e,rfl,hv,hl,h⟩:=refMW_run h
  obtain ⟨h1,h⟩:=req_run h
  cases h
  obtain ⟨hx,hn⟩:=Bool.and_eq_true_iff.1 h1
  obtain ⟨hn,h8⟩:=Bool.and_eq_true_iff.1 hn
  exact mcall_last hv (rs_ok sp fl hx (of_decide_eq_true hn) h8 hl)
 ·rename_i x
  obtain ⟨v,a,b,c,d,e,rfl,hv,hl,h⟩:=refMW_run h
  obtain ⟨h1,h⟩:=req_run h
  cases h
  refine mcall_last hv (msound_fun (cx:=cxRset0) (fn:=Tryz.f25) cxRset_ok (by kernel_rfl) (by kernel_rfl) _ _ _ ?_)
  refine run_req (by kernel_rfl) ?_
  rw [← Tree.fin_run,rs_nil,hl,cond_true,h1]
  rfl
 ·cases h
end Go.Ra

namespace Go.Ra
open Go Go.Ab Go.Proofs
noncomputable def memC:Tabs:={ mtab:=[(46,thereM),(24,setPM),(25,setRM)] }
theorem memC_ok:memC.Ok Tryz.prog:=⟨.nil _,.cons thereM_ok (.cons setPM_ok (.cons setRM_ok fun p h=>by cases h)),.nil _,fun p h=>by cases h⟩
noncomputable def memD_ps:List Fi:=[⟨45,Tryz.f45,[0,1,4,5,6],[],0,[]⟩]
theorem memD_ps_ok:FisOk Tryz.prog memD_ps:=⟨⟨by kernel_rfl,by kernel_rfl⟩,trivial⟩
noncomputable def memD_ms:List Fi:=[⟨21,Tryz.f21,[0],[],0,[]⟩,⟨30,Tryz.f30,[0,2],[],0,[]⟩,⟨22,Tryz.f22,[0,1,2,3,8,9,10,11,12,13,14,15,22,37,52,54,78,87],[],4,[]⟩,⟨48,Tryz.f48,[0,1,4,5,30,41,53],[],8,[]⟩,⟨23,Tryz.f23,[0,1,2,3,8,9,10,11,12,13,14,15,16,33,44,53,61,76,84,88,95],[103,105,106],4,[103]⟩]
theorem memD_ms_ok:FisOk Tryz.prog memD_ms:=⟨⟨by kernel_rfl,by kernel_rfl⟩,⟨by kernel_rfl,by kernel_rfl⟩,⟨by kernel_rfl,by kernel_rfl⟩,⟨by kernel_rfl,by kernel_rfl⟩,⟨by kernel_rfl,by kernel_rfl⟩,trivial⟩
noncomputable def memD (d:Nat):Tabs:=deep Tryz.prog memC memD_ps memD_ms d
theorem memD_ok (d:Nat):(memD d).Ok Tryz.prog:=deep_ok memC_ok memD_ps_ok memD_ms_ok d
noncomputable def cxWd:Cx:={ P:=Tryz.prog,n:=Tryz.f10.ntmps,tab:=(memD 4).tab,mtab:=(memD 4).mtab,rtab:=(memD 4).rtab,refs:=[],keeps:=[0,1,4,5,6,7] }
theorem cxWd_ok:CxOk cxWd:=memD_ok 4
noncomputable abbrev Bwd:Code:=bodyOf Tryz.f10
def wdPg (r:Int) (l:List Int):O:=.obj (.page 1 .u8 l) [.int .i64 r]
def wdHeap (A B C D E:List Int):List O:=[.obj (.map [1,2,16,17,32]) [.ptr 3 0,.ptr 4 0,.ptr 11 0,.ptr 12 0,.ptr 19 0],.cells [.bool true,.mp 0] 72,.cells [.ref 22 3 0 5,.int .i64 0] 58,
 wdPg 5 A,wdPg 5 B,newPg A,.cells (wRow 1 5 5) (95+4294967296),.dead,newPg B,.cells (wRow 2 5 8) (95+4294967296),.dead,wdPg 6 C,wdPg 6 D,newPg C,.cells (wRow 16 6 13) (95+4294967296),.dead,newPg D,.cells (wRow 17 6 16) (95+4294967296),.dead,wdPg 4 E,newPg E,
 .cells (wRow 32 4 20) (95+4294967296),.cells (wRow 1 5 5++(wRow 2 5 8++(wRow 16 6 13++(wRow 17 6 16++wRow 32 4 20)))) 0]
theorem wd_head (c d:V):(dcode cxWd (headN 7 Bwd) (initT 0 [c,d]) []).run.map (fun s=>(s.1,keep [0,1,6,7] s.2.1,s.2.2)) =
  some (.normal,[(0,c),(1,d),(6,.ptr 1 0),(7,.ptr 2 0)],wdHeap zeros zeros zeros zeros zeros):=by kernel_rfl
def bothO (A B C D E:List Int):List O:=[.cells [.bool true,.mp 1] 72,.obj (.map [1,2,16,17,32]) [.ptr 2 0,.ptr 3 0,.ptr 4 0,.ptr 5 0,.ptr 6 0],wdPg 5 A,wdPg 5 B,wdPg 6 C,wdPg 6 D,wdPg 4 E,
 .cells [.ref 8 3 0 5,lastV] 58,.cells (wRow 1 5 9++(wRow 2 5 10++(wRow 16 6 11++(wRow 17 6 12++wRow 32 4 13)))) 0,newPg A,newPg B,newPg C,newPg D,newPg E]
def wdKeep:List Nat:=[1,0,3,4,11,12,19,2,22,5,8,13,16,20]
def wdK (k:Int) (l m P:List Int):List Int:=layL k 65536 m m.length (layL k 4096 l l.length P)
def wdL (l m A B C D E:List Int):List O:=bothO (wdK 1 l m A) (wdK 2 l m B) (wdK 16 l m C) (wdK 17 l m D) (wdK 32 l m E)
noncomputable def wdT (c d:V) (A B C D E:List Int):Option Res:=(((dcode cxWd (tailN 7 Bwd) [(0,c),(1,d),(6,.ptr 1 0),(7,.ptr 2 0)] (wdHeap A B C D E)).bind (answerM Tryz.prog Tryz.f10.results.toList)).bind (dropR 0 wdKeep)).fin
def setB (l:List Int):Bool:=decide (l.length≤8192) && l.all byteB
def wdC (L n:Bool) (r:Option Res):Option Res:=cond (true && L) (cond (true && n) (cond (true && (true && (true && L))) (cond (true && n) r none) none) none) none
def wdN (L:Bool) (r:Option Res):Option Res:=cond (true && L) (cond (true && (true && (true && L))) r none) none
def wdS1 (l A B C D E:List Int):Bool:=lens5 (layL 1 4096 l l.length A) (layL 2 4096 l l.length B) (layL 16 4096 l l.length C) (layL 17 4096 l l.length D) (layL 32 4096 l l.length E)
def wdOk (l m A B C D E:List Int):Option Res:=some (.ok (.tup [.ptr 0 0,.ptr 7 0]) (wdL l m A B C D E))
theorem wd_ss (l sp m sq:List Int) (fl fm:Fl) (A B C D E:List Int):wdT (.sl (.int .u8) l sp fl) (.sl (.int .u8) m sq fm) A B C D E =
  wdC (lens5 A B C D E) (setB l) (wdC (wdS1 l A B C D E) (setB m) (wdOk l m A B C D E)):=by kernel_rfl
theorem wd_ns (m sq:List Int) (fm:Fl) (A B C D E:List Int):wdT (.val (.slice none 0 0)) (.sl (.int .u8) m sq fm) A B C D E =
  wdN (lens5 A B C D E) (wdC (lens5 A B C D E) (setB m) (wdOk [] m A B C D E)):=by kernel_rfl
theorem wd_sn (l sp:List Int) (fl:Fl) (A B C D E:List Int):wdT (.sl (.int .u8) l sp fl) (.val (.slice none 0 0)) A B C D E =
  wdC (lens5 A B C D E) (setB l) (wdN (wdS1 l A B C D E) (wdOk l [] A B C D E)):=by kernel_rfl
theorem wd_nn (A B C D E:List Int):wdT (.val (.slice none 0 0)) (.val (.slice none 0 0)) A B C D E =
  wdN (lens5 A B C D E) (wdN (lens5 A B C D E) (wdOk [] [] A B C D E)):=by kernel_rfl
def wdArg:V→Option (List Int)
 | .sl (.int .u8) l _ _=>some l
 | .val (.slice none 0 0)=>some []
 | _=>none
theorem wdArg_spec {v:V} {l:List Int} (h:wdArg v=some l):(∃ sp fl,v = .sl (.int .u8) l sp fl)∨(v = .val (.slice none 0 0)∧l=[]):=by
 unfold wdArg at h
 split at h
 ·cases h; exact .inl ⟨_,_,rfl⟩
 ·cases h; exact .inr ⟨rfl,rfl⟩
 ·cases h
theorem zeros_len:zeros.length=4096:=List.length_replicate
theorem lens_zeros:lens5 zeros zeros zeros zeros zeros=true:=by
 have h:pgB zeros=true:=by
  unfold pgB
  rw [zeros_len,Bool.and_eq_true_iff]
  refine ⟨rfl,?_⟩
  unfold zeros
  rw [List.all_replicate]
  rfl
 unfold lens5
 rw [h]
 rfl
theorem wd_run {c d:V} {l m:List Int} (hc:wdArg c=some l) (hd:wdArg d=some m) (h1:setB l=true) (h2:setB m=true) {A B C D E:List Int} (hl:lens5 A B C D E=true) :
  wdT c d A B C D E=wdOk l m A B C D E:=by
 have hs:wdS1 l A B C D E=true:=lens5_layL _ _ (Bool.and_eq_true_iff.1 h1).2 hl _
 rcases wdArg_spec hc with ⟨sp,fl,rfl⟩ | ⟨rfl,rfl⟩ <;> rcases wdArg_spec hd with ⟨sq,fm,rfl⟩ | ⟨rfl,rfl⟩
 ·exact (wd_ss l sp m sq fl fm A B C D E).trans (by rw [hl,hs,h1,h2]; rfl)
 ·exact (wd_sn l sp fl A B C D E).trans (by rw [hl,hs,h1]; rfl)
 ·exact (wd_ns m sq fm A B C D E).trans (by rw [hl,h2]; rfl)
 ·rw [wd_nn,hl]; rfl
def worldD:MSpec:=fun args H=>match args,H with
 | [c,d],[]=>match wdArg c,wdArg d with
  | some l,some m=>.req (setB l && setB m) (.leaf (.ok (.tup [.ptr 0 0,.ptr 7 0]) (wdL l m zeros zeros zeros zeros zeros)))
  | _,_=>.fail
 | _,_=>.fail
theorem worldD_ok:MSound Tryz.prog 10 worldD:=by
 intro args H out h
 unfold worldD at h
 split at h
 rotate_left
 ·cases h
 rename_i c d
 split at h
 rotate_left
 ·cases h
 rename_i l m hc hd
 obtain ⟨h0,h⟩:=req_run h
 cases h
 obtain ⟨h1,h2⟩:=Bool.and_eq_true_iff.1 h0
 have e:=wd_run hc hd h1 h2 lens_zeros
 unfold wdT at e
 rw [Tree.fin_run] at e
 obtain ⟨r0,e1,e2⟩:=bind_run e
 refine mcall_drop (H:=[]) (r:=r0) (κ:=wdKeep) ?_ e2
 obtain ⟨s,g1,g2⟩:=bind_run e1
 refine mcall_of' (c:=Bwd) (fn:=Tryz.f10) (by kernel_rfl) (by kernel_rfl) (by kernel_rfl) (by kernel_rfl) ?_
 refine AWP_headK (cx:=cxWd) rfl rfl cxWd_ok 7 [0,1,6,7] (by kernel_rfl) (wd_head c d) ?_
 exact AWP_run (cx:=cxWd) rfl rfl cxWd_ok g1 (answerM_post g2)
theorem lens5_wd {l m:List Int} (hl:setB l=true) (hm:setB m=true) {A B C D E:List Int} (h:lens5 A B C D E=true):lens5 (wdK 1 l m A) (wdK 2 l m B) (wdK 16 l m C) (wdK 17 l m D) (wdK 32 l m E)=true:=lens5_layL _ _ (Bool.and_eq_true_iff.1 hm).2 (lens5_layL _ _ (Bool.and_eq_true_iff.1 hl).2 h _) _
end Go.Ra

namespace Go.Ra
open Go Go.Ab Go.Proofs
def bothA (A B C D E:List Int):List O:=[.cells [.bool true,.mp 2] 72,.obj (.map [1,2,16,17,32]) [.ptr 3 0,.ptr 4 0,.ptr 5 0,.ptr 6 0,.ptr 7 0],wdPg 5 A,wdPg 5 B,wdPg 6 C,wdPg 6 D,wdPg 4 E,
 .cells [.ref 9 3 0 5,lastV] 58,.cells (wRow 1 5 10++(wRow 2 5 11++(wRow 16 6 12++(wRow 17 6 13++wRow 32 4 14)))) 0,newPg A,newPg B,newPg C,newPg D,newPg E]
def cpuO (s:CpuT):O:=.cells (tabS s).l 26
theorem answer_post {fn:Func} {s:St} {v:V} (h:(answer Tryz.prog fn.results.toList s).run=some v):(s.1 = .ret∨s.1 = .normal)∧answerV Tryz.prog fn.results.toList s.2.2 s.2.1=some v:=by
 obtain ⟨e,t,H⟩:=s
 unfold answer at h
 split at h
 ·rename_i heq
  cases heq
  split at h
  ·rename_i v hv
   cases h
   exact ⟨.inl rfl,hv⟩
  ·cases h
 ·rename_i heq
  cases heq
  split at h
  ·rename_i v hv
   cases h
   exact ⟨.inr rfl,hv⟩
  ·cases h
 ·cases h
structure RnSt where
 k:Nat
 s:CpuT
 A:List Int
 B:List Int
 C:List Int
 D:List Int
 E:List Int
 hk:k≤80
 hs:Fine s
 hl:lens5 A B C D E=true
end Go.Ra

namespace Go.Ra
open Go Go.Ab Go.Proofs
structure CnSt (x:Int) (m:Nat) (v:Bool) where
 k:Nat
 hk:k≤m
 hg:canGo true x 1 (m - k) k=some (.bool v)
end Go.Ra

namespace Go.Ra
open Go Go.Ab Go.Proofs
def adv (x i:Int):Int:=IntKind.wrap .u64 (x+i)
noncomputable def cxPf:Cx:={ P:=Tryz.prog,n:=Tryz.f16.ntmps,tab:=[],mtab:=[(31,mayM),(33,getM)],refs:=[],keeps:=[0,1,2,6,7,8,9,15,17,18,19,33,45],fuel:=11 }
theorem cxPf_ok:CxOk cxPf:=cx1_ok (.nil _) (.cons mayM_ok (.cons getM_ok fun p h=>by cases h)) rfl rfl
noncomputable def pfE (a b c d e:List Int) (x:Int):Option Res:=(mfun cxPf Tryz.f16 [.ptr 0 0,.int .u64 x,.int .i64 10] (memO a b c d e)).fin
def pfAns (H:List O) (l:List Int):Option Res:=match l with
 | []=>some (.ok (.tup [.val (.slice none 0 0),.int .i64 21]) H)
 | _=>some (.ok (.tup [.gro 7 (.int .u8) l,.int .i64 0]) (H++[.tok l.length 1]))
def pfGo (a b c d e:List Int) (x:Int):Nat→Nat→List Int→Option Res
 | 0,_,l=>pfAns (memO a b c d e) l
 | m+1,i,l=>cond (decide (adv x (i:Int)<x)) (pfAns (memO a b c d e) l) (cond (true && lens5 a b c d e) (cond (rng64 (adv x (i:Int)) && true) (cond (!mayB (adv x (i:Int)) 1 1) (pfAns (memO a b c d e) l)
  (cond (true && lens5 a b c d e) (cond (rng64 (adv x (i:Int)) && isPg (pgF (adv x (i:Int)))) (pfGo a b c d e x m (i+1) (l++[byteF a b c d e (adv x (i:Int))])) none) none)) none) none)
theorem pf_eq (a b c d e:List Int) (x:Int):pfE a b c d e x=pfGo a b c d e x 10 0 []:=by kernel_rfl
end Go.Ra

namespace Go.Ra
open Go Go.Ab Go.Proofs
def fetN (x:Int):Nat:=if 4096≤x∧x<12288 then min 10 (12288 - x).toNat else 0
def fetL (a b c d e:List Int) (x:Int):List Int:=(List.range (fetN x)).map fun (i:Nat)=>byteF a b c d e (x+(i:Int))
theorem fetN_le (x:Int):fetN x≤10:=by
 unfold fetN
 split <;> omega
theorem fetL_len (a b c d e:List Int) (x:Int):(fetL a b c d e x).length=fetN x:=by
 unfold fetL
 rw [List.length_map,List.length_range]
theorem okP1 (k:Int):okP 1 k=(k == 1 || k == 2):=by
 unfold okP pgR
 cases k == 1
 ·cases k == 2
  ·cases k == 16 <;> cases k == 17 <;> cases k == 32 <;> rfl
  ·rfl
 ·rfl
theorem mayB_exec {x n:Int} (hx:rng64 x=true) (h1:1≤n) (h2:n≤16):mayB x n 1=(decide (4096≤x) && decide (x+n≤12288)):=by
 have hy:=endF_rng x n
 have px:=pgF_eq hx
 have py:=pgF_eq hy
 have e:endF x n=((x+n % 18446744073709551616) % 18446744073709551616 - 1) % 18446744073709551616:=rfl
 unfold mayB
 rw [okP1,okP1,px,py,e,Bool.eq_iff_iff]
 simp only [rng64,Bool.and_eq_true,decide_eq_true_eq] at hx
 simp only [Bool.and_eq_true,Bool.or_eq_true,decide_eq_true_eq,beq_iff_eq]
 omega
theorem mayB_out {x n:Int} (hx:rng64 x=true) (h1:1≤n) (h2:n≤16) (h:¬ (4096≤x∧x+n≤12288)):mayB x n 1=false:=by
 rw [mayB_exec hx h1 h2]
 by_cases h3:4096≤x
 ·rw [decide_eq_false (show ¬ x+n≤12288 from fun h4=>h ⟨h3,h4⟩),Bool.and_false]
 ·rw [decide_eq_false h3]
  rfl
theorem mayB_in {x n:Int} (hx:rng64 x=true) (h1:1≤n) (h2:n≤16) (h3:4096≤x) (h4:x+n≤12288):mayB x n 1=true:=by
 rw [mayB_exec hx h1 h2,decide_eq_true h3,decide_eq_true h4]
 rfl
theorem rgs_of {x:Int} (h0:0≤x) (h1:x<18446744073709551616):rng64 x=true:=by
 simp only [rng64,Bool.and_eq_true,decide_eq_true_eq]
 exact ⟨h0,h1⟩
theorem usable_exec {x:Int} (h0:4096≤x) (h1:x<12288):(rng64 x && isPg (pgF x))=true:=by
 have hr:rng64 x=true:=rgs_of (by omega) (by omega)
 have hp:=pgF_eq hr
 have:pgF x=1∨pgF x=2:=by omega
 rw [hr]
 rcases this with h | h <;> rw [h] <;> rfl
theorem adv_rng (x i:Int):rng64 (adv x i)=true:=by
 have e:adv x i=(x+i) % 18446744073709551616:=rfl
 rw [e]
 exact rgs_of (by omega) (by omega)
theorem map_more {f:Nat→Int} (i:Nat):(List.range (i+1)).map f=(List.range i).map f++[f i]:=by
 rw [List.range_succ,List.map_append]
 rfl
theorem pfGo_eq {a b c d e:List Int} {x:Int} (hl:lens5 a b c d e=true) (hx:rng64 x=true):∀ (m i:Nat),i+m=10→i≤fetN x →
  pfGo a b c d e x m i ((List.range i).map fun (j:Nat)=>byteF a b c d e (x+(j:Int)))=pfAns (memO a b c d e) (fetL a b c d e x)
 | 0,i,hi,hf=>by
  have:i=fetN x:=by have:=fetN_le x; omega
  subst this
  rfl
 | m+1,i,hi,hf=>by
  have hr:=adv_rng x (i:Int)
  have e0:adv x (i:Int)=(x+(i:Int)) % 18446744073709551616:=rfl
  unfold pfGo
  rw [hl,hr,Bool.true_and,Bool.true_and]
  simp only [cond_true]
  simp only [rng64,Bool.and_eq_true,decide_eq_true_eq] at hx
  by_cases hlt:i<fetN x
  ·have hin:4096≤x∧x+i<12288:=by
    unfold fetN at hlt
    split at hlt <;> omega
   have ea:adv x (i:Int)=x+i:=by rw [e0]; omega
   rw [decide_eq_false (by omega),cond_false,ea,mayB_in (rgs_of (by omega) (by omega)) (by omega) (by omega) (by omega) (by omega)]
   have hu:=usable_exec (x:=x+i) (by omega) hin.2
   rw [rgs_of (x:=x+i) (by omega) (by omega),Bool.true_and] at hu
   rw [hu]
   simp only [Bool.not_true,cond_false,cond_true]
   rw [← map_more (f:=fun (j:Nat)=>byteF a b c d e (x+(j:Int))) i]
   exact pfGo_eq hl (rgs_of hx.1 hx.2) m (i+1) (by omega) hlt
  ·have hif:i=fetN x:=by omega
   have hans:pfAns (memO a b c d e) ((List.range i).map fun (j:Nat)=>byteF a b c d e (x+(j:Int)))=pfAns (memO a b c d e) (fetL a b c d e x):=by
    rw [hif]
    rfl
   rw [hans]
   cases hov:decide (adv x (i:Int)<x)
   ·have hov:=of_decide_eq_false hov
    have ho:mayB (adv x (i:Int)) 1 1=false:=by
     refine mayB_out hr (by omega) (by omega) ?_
     unfold fetN at hif
     split at hif <;> omega
    rw [cond_false,ho]
    rfl
   ·rfl
theorem fetL_nil {a b c d e:List Int} {x:Int} (h:Nat.beq (fetN x) 0=true):fetL a b c d e x=[]:=by
 unfold fetL
 rw [Nat.eq_of_beq_eq_true h]
 rfl
theorem pfAns_eq (a b c d e:List Int) (x:Int):pfAns (memO a b c d e) (fetL a b c d e x) =
  cond (Nat.beq (fetN x) 0) (some (.ok (.tup [.val (.slice none 0 0),.int .i64 21]) (memO a b c d e))) (some (.ok (.tup [.gro 7 (.int .u8) (fetL a b c d e x),.int .i64 0]) (memO a b c d e++[.tok (fetL a b c d e x).length 1]))):=by
 cases h:Nat.beq (fetN x) 0
 ·have hlen:=fetL_len a b c d e x
  cases hL:fetL a b c d e x with
  | nil =>
   rw [hL] at hlen
   rw [← hlen] at h
   cases h
  | cons y r=>rfl
 ·rw [fetL_nil h]
  rfl
def fetchM:MSpec:=fun args H=>match args with
 | [.ptr 0 0,.int .u64 x,.int .i64 n]=>memM (fun a b c d e=>.req (rng64 x && n == 10) (.br (Nat.beq (fetN x) 0) (.leaf (.ok (.tup [.val (.slice none 0 0),.int .i64 21]) (memO a b c d e)))
   (.leaf (.ok (.tup [.gro 7 (.int .u8) (fetL a b c d e x),.int .i64 0]) (memO a b c d e++[.tok (fetL a b c d e x).length 1]))))) H
 | _=>.fail
theorem br_cond {α:Type} (c:Bool) (x y:Tree α):(Tree.br c x y).run=cond c x.run y.run:=by cases c <;> rfl
theorem fetchM_ok:MSound Tryz.prog 16 fetchM:=by
 intro args H out h
 unfold fetchM at h
 split at h
 rotate_left
 ·cases h
 rename_i x n
 obtain ⟨a,b,c,d,e,rfl,hl,h⟩:=memM_run h
 obtain ⟨h1,hres⟩:=req_run h
 clear h
 obtain ⟨hx,hn⟩:=Bool.and_eq_true_iff.1 h1
 have hn:n=10:=by simpa using hn
 subst hn
 refine msound_fun (cx:=cxPf) (fn:=Tryz.f16) cxPf_ok (by kernel_rfl) (by kernel_rfl) _ _ _ ?_
 refine run_req (by kernel_rfl) ?_
 rw [← Tree.fin_run]
 refine (pf_eq a b c d e x).trans ?_
 refine (pfGo_eq hl hx 10 0 rfl (Nat.zero_le _)).trans ?_
 rw [pfAns_eq,← hres,br_cond]
 rfl
end Go.Ra

namespace Go.Ra
open Go Go.Ab Go.Proofs Go.Amd
noncomputable def dcB:Tabs:={ tab:=[(58,decodeT)] }
theorem dcB_ok:dcB.Ok Tryz.prog:=⟨ok1 decodeT_ok,(fun p h=>by cases h),.nil _,fun p h=>by cases h⟩
noncomputable def dcT_ps:List Fi:=[⟨17,Tryz.f17,[0,1,2,6,7,8,9,10,17],[],0,[]⟩,⟨34,Tryz.f34,[0,2,3,4,5,8,11],[],0,[]⟩]
theorem dcT_ps_ok:FisOk Tryz.prog dcT_ps:=⟨⟨by kernel_rfl,by kernel_rfl⟩,⟨by kernel_rfl,by kernel_rfl⟩,trivial⟩
noncomputable def dcT_ms:List Fi:=[]
theorem dcT_ms_ok:FisOk Tryz.prog dcT_ms:=trivial
noncomputable def dcT (d:Nat):Tabs:=deep Tryz.prog dcB dcT_ps dcT_ms d
theorem dcT_ok (d:Nat):(dcT d).Ok Tryz.prog:=deep_ok dcB_ok dcT_ps_ok dcT_ms_ok d
noncomputable def isaE (l sp:List Int) (fl:Fl) (at_:Int):Option V:=(dfun { P:=Tryz.prog,n:=Tryz.f17.ntmps,tab:=(dcT 1).tab,mtab:=[],refs:=[],keeps:=[0,1,2,6,7,8,9,10,17] } Tryz.f17 [.int .i64 1,.sl (.int .u8) l sp fl,.int .i64 at_]).fin
theorem isa_eq (l sp:List Int) (fl:Fl) (at_:Int):isaE l sp fl at_=cond (decide (l.length<1000000000)) (cond (bytesB l) (some (.tup [Go.Amd.insV (dI l at_),.int .i64 (dN l at_),.int .i64 (dE l at_)])) none) none:=by kernel_rfl
theorem cond_of {α:Type} {c:Bool} {x y:α} (h:c=true):cond c x y=x:=by
 rw [h]
 rfl
def isaS:Ab.Spec:=fun args=>match args with
 | [.int .i64 k,.sl (.int .u8) l _ _,.int .i64 at_]=>.req (k == 1 && decide (l.length<1000000000)) (.req (bytesB l) (.leaf (.tup [Go.Amd.insV (dI l at_),.int .i64 (dN l at_),.int .i64 (dE l at_)])))
 | _=>.fail
theorem isaS_ok:Sound Tryz.prog 17 isaS:=by
 intro args out h
 unfold isaS at h
 split at h
 rotate_left
 ·cases h
 rename_i k l sp fl at_
 obtain ⟨h1,h⟩:=req_run h
 obtain ⟨hb,h⟩:=req_run h
 cases h
 obtain ⟨hk,hl⟩:=Bool.and_eq_true_iff.1 h1
 have hk:k=1:=by simpa using hk
 subst hk
 have e:=((isa_eq l sp fl at_).trans (cond_of hl)).trans (cond_of hb)
 exact pcall_fun' (cx:={ P:=Tryz.prog,n:=Tryz.f17.ntmps,tab:=(dcT 1).tab,mtab:=[],refs:=[],keeps:=[0,1,2,6,7,8,9,10,17] }) (fn:=Tryz.f17) (dcT_ok 1) (by kernel_rfl) (by kernel_rfl) (by kernel_rfl) ((Tree.fin_run _).symm.trans e)
abbrev StFn:=CpuT→List Int→List Int→List Int→List Int→List Int→Out
def stG (f:OutFn):StFn:=fun s A B C D E=>cond (Nat.beq (fetN s.pc) 0) ⟨s,0,21,A,B,C,D,E⟩ (cond (dE (fetL A B C D E s.pc) 0 != 0) ⟨s,0,22,A,B,C,D,E⟩
 (f (dI (fetL A B C D E s.pc) 0).1 s (dI (fetL A B C D E s.pc) 0).2.1 (dI (fetL A B C D E s.pc) 0).2.2.1 (dI (fetL A B C D E s.pc) 0).2.2.2.1 (dI (fetL A B C D E s.pc) 0).2.2.2.2.1 (dI (fetL A B C D E s.pc) 0).2.2.2.2.2 (dN (fetL A B C D E s.pc) 0) A B C D E))
def ansM (o:Out):Option Res:=some (.ok (outV o) (memO o.A o.B o.C o.D o.E))
noncomputable def cxSt (f:OutFn):Cx:={ P:=Tryz.prog,n:=Tryz.f15.ntmps,tab:=[(17,isaS)],mtab:=[(16,fetchM),(11,runS f)],refs:=[],keeps:=[0,1,2,4,5,6,7,8,9,10,19,28] }
noncomputable def stpE (f:OutFn) (s:CpuT) (A B C D E:List Int):Option Res:=(mfunR (cxSt f) Tryz.f15 [] [.agg (tabS s).l,.ptr 0 0] (memO A B C D E)).fin
def stpX (f:OutFn) (s:CpuT) (A B C D E:List Int):Option Res:=
 cond (true && lens5 A B C D E) (cond (rng64 s.pc && true) (cond (Nat.beq (fetN s.pc) 0) (ansM ⟨s,0,21,A,B,C,D,E⟩) (cond (true && decide ((fetL A B C D E s.pc).length<1000000000)) (cond (bytesB (fetL A B C D E s.pc)) (cond (dE (fetL A B C D E s.pc) 0 != 0) (ansM ⟨s,0,22,A,B,C,D,E⟩)
  (cond (true && lens5 A B C D E) (cond (fineB (tabS s) && i64r (dI (fetL A B C D E s.pc) 0).2.2.2.2.2) (ansM (f (dI (fetL A B C D E s.pc) 0).1 (tabS s) (dI (fetL A B C D E s.pc) 0).2.1 (dI (fetL A B C D E s.pc) 0).2.2.1 (dI (fetL A B C D E s.pc) 0).2.2.2.1 (dI (fetL A B C D E s.pc) 0).2.2.2.2.1 (dI (fetL A B C D E s.pc) 0).2.2.2.2.2 (dN (fetL A B C D E s.pc) 0) A B C D E)) none) none)) none) none)) none) none
theorem st_eq (f:OutFn) (s:CpuT) (A B C D E:List Int):stpE f s A B C D E=stpX f s A B C D E:=by kernel_rfl
theorem byteF_byte {A B C D E:List Int} (hl:lens5 A B C D E=true) (x:Int):byteB (byteF A B C D E x)=true:=by
 unfold lens5 at hl
 simp only [Bool.and_eq_true] at hl
 obtain ⟨h1,h2,h3,h4,h5⟩:=hl
 have g:∀ {l:List Int},pgB l=true→byteB (l.getD (offF x) 0)=true:=fun h=>byte_getD (Bool.and_eq_true_iff.1 h).2 _
 unfold byteF selF
 cases pgF x == 1 <;> cases pgF x == 2 <;> cases pgF x == 16 <;> cases pgF x == 17 <;> first | exact g h1 | exact g h2 | exact g h3 | exact g h4 | exact g h5
theorem fetL_bytes {A B C D E:List Int} (hl:lens5 A B C D E=true) (x:Int):Go.Amd.bytesB (fetL A B C D E x)=true:=by
 unfold Go.Amd.bytesB fetL
 rw [List.all_eq_true]
 intro y hy
 obtain ⟨i,_,rfl⟩:=List.mem_map.1 hy
 exact byteF_byte hl _
theorem rows_imm:rowsM.all (fun x=>decide (-9223372036854775808≤lowR x) && decide (highR x≤9223372036854775807))=true:=by kernel_rfl
theorem enc_imm {i:Go.Amd.InsT} (h:encE i=0):i64r i.2.2.2.2.2=true:=by
 cases hf:fok i.1
 ·have e7:=encE_no hf i.2.1 i.2.2.1 i.2.2.2.1 i.2.2.2.2.1 i.2.2.2.2.2
  have e7:encE i=7:=e7
  rw [h] at e7
  cases e7
 ·obtain ⟨hm,_⟩:=frow_in hf
  have hr:=List.all_eq_true.1 rows_imm _ hm
  simp only [Bool.and_eq_true,decide_eq_true_eq] at hr
  have h0:faultyF (frow i.1) i=0:=by
   unfold encE at h
   simp only [hf,cond_true] at h
   exact h
  obtain ⟨g1,g2⟩:=Go.Amd.ok_imm h0
  simp only [i64r,Bool.and_eq_true,decide_eq_true_eq]
  cases hu:uI (frow i.1)
  ·have:=g2 hu
   omega
  ·have:=g1 hu
   omega
theorem dec_imm {l:List Int} (hb:bytesB l=true):i64r (dI l 0).2.2.2.2.2=true:=by
 have ha:AllB l:=fun c hc=>by
  have:=bytesB_of hb c hc
  exact ⟨by omega,by omega⟩
 cases he:dE l 0 != 0
 ·exact enc_imm (dec_fine ha he).2.2.2.1
 ·rw [(dec_err he).1]
  rfl
theorem stpX_eq {f:OutFn} {s:CpuT} {A B C D E:List Int} (hs:Fine s) (hl:lens5 A B C D E=true):stpX f s A B C D E=ansM (stG f s A B C D E):=by
 have hts:tabS s=s:=cpu_tab hs.len
 have h4:decide ((fetL A B C D E s.pc).length<1000000000)=true:=decide_eq_true (by rw [fetL_len]; have:=fetN_le s.pc; omega)
 unfold stpX stG
 have hb:=fetL_bytes hl s.pc
 rw [hts,hl,hs.pc,h4,fineB_of hs,hb,dec_imm hb]
 cases Nat.beq (fetN s.pc) 0
 ·cases dE (fetL A B C D E s.pc) 0 != 0 <;> rfl
 ·rfl
def stpS (g:StFn):MSpec:=fun args H=>match args with
 | [.agg cs,.ptr 0 0]=>match cpuOf cs with
  | some s=>memM (fun A B C D E=>.req (fineB s) (.leaf (.ok (outV (g s A B C D E)) (memO (g s A B C D E).A (g s A B C D E).B (g s A B C D E).C (g s A B C D E).D (g s A B C D E).E)))) H
  | none=>.fail
 | _=>.fail
theorem cxSt_ok {f:OutFn} (h:MSound Tryz.prog 11 (runS f)):CxOk (cxSt f):=⟨ok1 isaS_ok,.cons fetchM_ok (.cons h (.nil _)),.nil _,fun p h=>by cases h⟩
theorem stpS_ok {f:OutFn} (hf:MSound Tryz.prog 11 (runS f)):MSound Tryz.prog 15 (stpS (stG f)):=by
 intro args H out h
 unfold stpS at h
 split at h
 rotate_left
 ·cases h
 rename_i cs
 split at h
 rotate_left
 ·cases h
 rename_i s hs
 obtain ⟨A,B,C,D,E,rfl,hl,h⟩:=memM_run h
 obtain ⟨hfb,h⟩:=req_run h
 cases h
 obtain ⟨rfl,e2⟩:=cpuOf_spec hs
 have hF:=fine_of e2 hfb
 refine mfunR_ok (cx:=cxSt f) (fn:=Tryz.f15) [] (cxSt_ok hf) (by kernel_rfl) (by kernel_rfl) _ _ _ ?_
 rw [← Tree.fin_run]
 have e:=(st_eq f s A B C D E).trans (stpX_eq hF hl)
 unfold stpE at e
 rw [show tabS s=s from cpu_tab e2] at e
 exact e
end Go.Ra

namespace Go.Ra
open Go Go.Ab Go.Proofs
def ssA (s:CpuT) (l m:List Int) (t:T):T:=(0,.agg (tabS s).l) :: (1,.sl (.int .u8) l [] .may) :: (2,.sl (.int .u8) m [] .may) :: (3,.ptr 0 0) :: t
structure SsSt where
 k:Nat
 s:CpuT
 A:List Int
 B:List Int
 C:List Int
 D:List Int
 E:List Int
 hk:k≤200
 hs:Fine s
 hl:lens5 A B C D E=true
theorem argS (x:EC.tys [cpuE,.sl (.int .u8),.sl (.int .u8)]):argVs [cpuE,.sl (.int .u8),.sl (.int .u8)] x=[.agg (cpuA x.1).l,.sl (.int .u8) (x.2.1.getD []) [] .may,.sl (.int .u8) (x.2.2.getD []) [] .may]:=by kernel_rfl
end Go.Ra

namespace Go.Ra
open Go Go.Ab Go.Proofs
noncomputable def cpT0_ps:List Fi:=[]
theorem cpT0_ps_ok:FisOk Tryz.prog cpT0_ps:=trivial
noncomputable def cpT0_ms:List Fi:=[⟨21,Tryz.f21,[0],[],0,[]⟩]
theorem cpT0_ms_ok:FisOk Tryz.prog cpT0_ms:=⟨⟨by kernel_rfl,by kernel_rfl⟩,trivial⟩
noncomputable def cpT0 (d:Nat):Tabs:=deep Tryz.prog {} cpT0_ps cpT0_ms d
noncomputable def cxCp:Cx:={ P:=Tryz.prog,n:=Tryz.f14.ntmps,tab:=[],mtab:=(30,noneM) :: (cpT0 1).mtab,refs:=[],keeps:=[0,2,3,4,5,6,8,14,16] }
theorem cxCp_ok:CxOk cxCp:=⟨.nil _,.cons noneM_ok (deep_ok (T:={}) ⟨.nil _,(fun p h=>by cases h),.nil _,fun p h=>by cases h⟩ cpT0_ps_ok cpT0_ms_ok 1).2.1,.nil _,fun p h=>by cases h⟩
noncomputable abbrev Bcp:Code:=bodyOf Tryz.f14
def cpKeys:List Int:=[1,2,16,17,32]
def cpRt (k:Int):Int:=cond (k == 1) 5 (cond (k == 2) 5 (cond (k == 16) 6 (cond (k == 17) 6 4)))
def cpId (k:Int):Nat:=cond (k == 1) 2 (cond (k == 2) 3 (cond (k == 16) 4 (cond (k == 17) 5 6)))
def cpPg (a b c d e:List Int) (k:Int):O:=.obj (.page 1 .u8 (selF k a b c d e)) [.int .i64 (cpRt k)]
def cpAt (k:Int):List Int→Nat
 | []=>0
 | j :: r=>cond (j == k) 0 (cpAt k r+1)
def cpHas (d:List Int) (k:Int):Bool:=d.any (· == k)
def cpMap (d:List Int):O:=.obj (.map (cpKeys.filter (cpHas d))) ((cpKeys.filter (cpHas d)).map fun k=>.ptr (9+cpAt k d) 0)
def cpOld (a b c d e:List Int):List O:=[.cells [.bool true,.mp 1] 72,.dead,mO 5 a,mO 5 b,mO 6 c,mO 6 d,mO 4 e]
def cpH (q:List Int) (a b c d e:List Int):List O:=cpOld a b c d e++(cpMap q :: .cells [.bool true,.mp 7] 72 :: q.map (cpPg a b c d e))
def cpT (it:V):T:=[(3,.ptr 8 0),(14,it)]
noncomputable def cpLoop:Code:=c1 (tailN 2 Bcp)
noncomputable def cpBody:Code:=cin (cin (c2 cpLoop))
noncomputable def cpOps2:Array Oper:=regOps (c1 cpLoop)
noncomputable def cpOps3:Array Oper:=regOps (c1 cpBody)
noncomputable def cpBlk:Code:=cin (c2 (c2 cpBody))
noncomputable def cpOps4:Array Oper:=regOps (c1 cpBlk)
noncomputable def cpRest:Code:=c2 cpBlk
noncomputable def cpOps7:Array Oper:=regOps (c1 cpRest)
theorem cp_eq:tailN 2 Bcp = .seq (.seq (.region 4 cpOps2 false) (.block 0 (.loop (.seq (.region 5 cpOps3 false) (.seq (.cond (.tmp 16) .skip (.exit 0)) (.block 1 (.seq (.region 6 cpOps4 false) cpRest))))))) (tailN 3 Bcp):=by kernel_rfl
theorem cp_rest:cpRest = .seq (.region 7 cpOps7 false) (c2 cpRest):=by kernel_rfl
noncomputable def cpO3a:Oper:=cpOps3.getD 0 default
noncomputable def cpO3b:Oper:=cpOps3.getD 1 default
noncomputable def cpO4:Oper:=cpOps4.getD 0 default
theorem cp_F:ForMap cxCp cpOps3 cpOps4 (cpOps4.toList.drop 1) cpO3a cpO3b cpO4 14 15 16 17 where
 ops3:=by kernel_rfl
 ops4:=by kernel_rfl
 next:=by kernel_rfl
 ok:=by kernel_rfl
 entry:=by kernel_rfl
 g3a:=by kernel_rfl
 g3b:=by kernel_rfl
 g4:=by kernel_rfl
 t3a:=by kernel_rfl
 t3b:=by kernel_rfl
 t4:=by kernel_rfl
 l19:=by kernel_rfl
 l20:=by kernel_rfl
 l21:=by kernel_rfl
 n1:=by kernel_rfl
 n2:=by kernel_rfl
theorem cp_head (a b c d e:List Int):((dcode cxCp (headN 2 Bcp) (initT 0 [.ptr 0 0]) (memO a b c d e)).bind (cutK [0,3])).run =
  some (.normal,[(0,.ptr 0 0),(3,.ptr 8 0)],memO a b c d e++[.obj (.map []) [],.cells [.bool true,.mp 7] 72]):=by kernel_rfl
theorem cp_pre (H:List O) (it:V) (a b c d e:List Int) (Z:List O):(druns { cxCp with keeps:=[0,3,13] } cpOps2 (cpOps2.toList.take 4) [(0,.ptr 0 0),(3,.ptr 8 0)] (memO a b c d e++Z)).run =
  some (.normal,[(0,.ptr 0 0),(3,.ptr 8 0),(13,.mp 1)],memO a b c d e++Z):=by kernel_rfl
theorem cp_d (k:Int) (v it:V) (H:List O):(druns cxCp cpOps4 (cpOps4.toList.drop 1) (put 17 (.tup [.int .u64 k,v]) (put 16 (.bool true) (put 15 .any (cpT it)))) H).run =
  some (.normal,[(3,.ptr 8 0),(4,.int .u64 k),(5,v),(14,it),(16,.bool true)],H):=by kernel_rfl
theorem cp_7 (k:Int) (id:Nat) (it:V) (H:List O):(druns { cxCp with keeps:=[3,4,14,21] } cpOps7 (cpOps7.toList.take 2) [(3,.ptr 8 0),(4,.int .u64 k),(5,.ptr id 0),(14,it),(16,.bool true)] H).run =
  some (.normal,[(3,.ptr 8 0),(4,.int .u64 k),(14,it),(21,.ptr id 0)],H):=by kernel_rfl
def cpLv:Nat→List (List Int)
 | 0=>[[]]
 | n+1=>(cpLv n).flatMap fun q=>(cpKeys.filter fun k=>!cpHas q k).map fun k=>q++[k]
def cpPairs (n:Nat):List (List Int × Int):=(cpLv n).flatMap fun q=>(cpKeys.filter fun k=>!cpHas q k).map fun k=>(q,k)
noncomputable def cpE (x:List Int × Int) (it:V) (a b c d e:List Int):Option St:=((dcode cxCp (c2 cpRest) [(3,.ptr 8 0),(4,.int .u64 x.2),(6,.ptr (9+x.1.length) 0),(14,it)] (cpH x.1 a b c d e++[cpPg a b c d e x.2])).bind (cutK [3,14])).fin
def cpX (x:List Int × Int) (it:V) (a b c d e:List Int):Option St:=some (.normal,cpT it,cpH (x.1++[x.2]) a b c d e)
theorem cp_0:(cpPairs 0).map cpE=(cpPairs 0).map cpX:=by kernel_rfl
theorem cp_1:(cpPairs 1).map cpE=(cpPairs 1).map cpX:=by kernel_rfl
theorem cp_2:(cpPairs 2).map cpE=(cpPairs 2).map cpX:=by kernel_rfl
theorem cp_3:(cpPairs 3).map cpE=(cpPairs 3).map cpX:=by kernel_rfl
theorem cp_4:(cpPairs 4).map cpE=(cpPairs 4).map cpX:=by kernel_rfl
def cpNew (a b c d e:List Int):List O:=[.cells [.bool true,.mp 8] 72,.obj (.map [1,2,16,17,32]) [.ptr 9 0,.ptr 10 0,.ptr 11 0,.ptr 12 0,.ptr 13 0],mO 5 a,mO 5 b,mO 6 c,mO 6 d,mO 4 e]
def cpFull (q:List Int) (a b c d e:List Int):List O:=(cpH q a b c d e).set 1 (.obj (.map [1,2,16,17,32]) [.ptr 2 0,.ptr 3 0,.ptr 4 0,.ptr 5 0,.ptr 6 0])
def cpOrd (q:List Int):List Nat:=8 :: 7 :: cpKeys.map fun k=>9+cpAt k q
noncomputable def ansD (n:Nat) (κ:List Nat) (rs:List ResultVar) (s:St):Tree Res:=match dropS n κ s with
 | some s' => answerM Tryz.prog rs s'
 | none=>.fail
noncomputable def cpEnd (q:List Int) (a b c d e:List Int):Option Res:=((dcode cxCp (tailN 3 Bcp) [(3,.ptr 8 0)] (cpFull q a b c d e)).bind (ansD 7 (cpOrd q) Tryz.f14.results.toList)).fin
def cpRes (a b c d e:List Int):Res:=.ok (.ptr 7 0) (memO a b c d e++cpNew a b c d e)
theorem cp_5:(cpLv 5).map cpEnd=(cpLv 5).map fun _ a b c d e=>some (cpRes a b c d e):=by kernel_rfl
theorem mem_filter_keys {q:List Int} {k:Int} (hk:k ∈ cpKeys) (hn:cpHas q k=false):k ∈ cpKeys.filter fun k=>!cpHas q k:=by
 rw [List.mem_filter,hn]
 exact ⟨hk,rfl⟩
theorem cpLv_more {n:Nat} {q:List Int} {k:Int} (hq:q ∈ cpLv n) (hk:k ∈ cpKeys) (hn:cpHas q k=false):q++[k] ∈ cpLv (n+1):=
 List.mem_flatMap.2 ⟨q,hq,List.mem_map.2 ⟨k,mem_filter_keys hk hn,rfl⟩⟩
theorem cpPairs_mem {n:Nat} {q:List Int} {k:Int} (hq:q ∈ cpLv n) (hk:k ∈ cpKeys) (hn:cpHas q k=false):(q,k) ∈ cpPairs n:=
 List.mem_flatMap.2 ⟨q,hq,List.mem_map.2 ⟨k,mem_filter_keys hk hn,rfl⟩⟩
theorem cp_step {n:Nat} (hn:n<5) {q:List Int} {k:Int} (hq:q ∈ cpLv n) (hk:k ∈ cpKeys) (hn2:cpHas q k=false) (it:V) (a b c d e:List Int):cpE (q,k) it a b c d e=cpX (q,k) it a b c d e:=by
 have hm:=cpPairs_mem hq hk hn2
 have key:(cpPairs n).map cpE=(cpPairs n).map cpX:=by
  match n,hn with
  | 0,_=>exact cp_0
  | 1,_=>exact cp_1
  | 2,_=>exact cp_2
  | 3,_=>exact cp_3
  | 4,_=>exact cp_4
 exact congrFun (congrFun (congrFun (congrFun (congrFun (congrFun (List.map_inj_left.1 key _ hm) it) a) b) c) d) e
structure CpLeft (left:List (Int × V)) (q:List Int):Prop where
 keys:∀ p ∈ left,p.1 ∈ cpKeys∧p.2 = .ptr (cpId p.1) 0∧cpHas q p.1=false
 nodup:(left.map Prod.fst).Nodup
 lv:q ∈ cpLv q.length
 len:q.length+left.length=5
theorem cpHas_app (q:List Int) (k j:Int):cpHas (q++[k]) j=(cpHas q j || k == j):=by
 unfold cpHas
 rw [List.any_append]
 show (_ || ((k == j) || false))=_
 rw [Bool.or_false]
theorem CpLeft.take {A B:List (Int × V)} {p:Int × V} {q:List Int} (h:CpLeft (A++p :: B) q):CpLeft (A++B) (q++[p.1]):=by
 have hp:=h.keys p (by simp)
 have hnd:=h.nodup
 rw [List.map_append,List.map_cons] at hnd
 have hnd' := List.nodup_append.1 hnd
 have hnd2:=List.nodup_cons.1 hnd'.2.1
 have hlv:=cpLv_more h.lv hp.1 hp.2.2
 refine ⟨fun r hr=>?_,?_,?_,?_⟩
 ·have hm:r ∈ A++p :: B:=by
   rcases List.mem_append.1 hr with hr | hr
   ·exact List.mem_append_left _ hr
   ·exact List.mem_append_right _ (List.mem_cons_of_mem _ hr)
  obtain ⟨g1,g2,g3⟩:=h.keys r hm
  refine ⟨g1,g2,?_⟩
  rw [cpHas_app,g3,Bool.false_or,beq_eq_false_iff_ne]
  rintro e
  rcases List.mem_append.1 hr with hr | hr
  ·exact hnd'.2.2 r.1 (List.mem_map_of_mem hr) p.1 (by simp) e.symm
  ·exact hnd2.1 (e ▸ List.mem_map_of_mem hr)
 ·rw [List.map_append]
  exact List.nodup_append.2 ⟨hnd'.1,hnd2.2,fun x hx y hy=>hnd'.2.2 x hx y (List.mem_cons_of_mem _ hy)⟩
 ·rw [List.length_append]
  exact hlv
 ·have:=h.len
  simp only [List.length_append,List.length_cons,List.length_nil] at this ⊢
  omega
theorem cpH_page {k:Int} (hk:k ∈ cpKeys) (q:List Int) (a b c d e:List Int):(cpH q a b c d e)[cpId k]? = some (cpPg a b c d e k):=by
 have hk:k=1∨k=2∨k=16∨k=17∨k=32:=by simpa [cpKeys] using hk
 rcases hk with rfl | rfl | rfl | rfl | rfl <;> rfl
theorem cpH_len (q:List Int) (a b c d e:List Int):(cpH q a b c d e).length=9+q.length:=by
 unfold cpH cpOld
 simp only [List.length_append,List.length_cons,List.length_nil,List.length_map]
 omega
def pgTy:Nat:=76
theorem cp_ti:(ti Tryz.prog pgTy).map (fun i=>aggTK i.k && (Nat.beq i.size 4097 && lenIs i.size i.zero))=some true:=by kernel_rfl
theorem cp_qL:cpOps7.toList=cpOps7.toList.take 2++[cpOps7.getD 2 default,cpOps7.getD 3 default,cpOps7.getD 4 default]:=by kernel_rfl
set_option maxRecDepth 8000 in
theorem copy_ok {a b c d e:List Int} (hl:lens5 a b c d e=true):MCall Tryz.prog 14 [.ptr 0 0] (memO a b c d e) (cpRes a b c d e):=by
 refine mcall_of' (c:=Bcp) (fn:=Tryz.f14) (by kernel_rfl) (by kernel_rfl) (by kernel_rfl) (by kernel_rfl) ?_
 refine AWP_scope ?_
 refine AWP_headK (cx:=cxCp) rfl rfl cxCp_ok 2 [0,3] (by kernel_rfl) ((cutK_run _ _).symm.trans (cp_head a b c d e)) ?_
 rw [cp_eq]
 obtain ⟨i,hi,hi2⟩:=Option.map_eq_some_iff.1 cp_ti
 obtain ⟨hi3,hi4⟩:=Bool.and_eq_true_iff.1 hi2
 obtain ⟨hi4,hi5⟩:=Bool.and_eq_true_iff.1 hi4
 have hi4:=Nat.eq_of_beq_eq_true hi4
 refine AWP_seq (AWP_forMapW (cx:=cxCp) rfl rfl cxCp_ok cp_F (pre:=cpOps2.toList.take 4) (o2:=cpOps2.getD 4 default) (mt:=70) (kt:=22) (et:=73) (mop:=.tmp 13) (by kernel_rfl) (by kernel_rfl) (by kernel_rfl) (by kernel_rfl) (by kernel_rfl) (by kernel_rfl)
  [0,3,13] (cp_pre [] .any a b c d e _) rfl (mid:=1) (keys:=cpKeys) (vs:=[.ptr 2 0,.ptr 3 0,.ptr 4 0,.ptr 5 0,.ptr 6 0]) rfl rfl
  (fun r left t H=>∃ q,CpLeft left q∧t=cpT (itV r)∧H=cpH q a b c d e) (fun r=>?_) ?_ ?_ ?_ ?_)
 ·refine ⟨cpT (itV r),Fits.tle ⟨rfl,rfl,trivial⟩,[],⟨?_,by decide,.head _,rfl⟩,rfl,rfl⟩
  intro p hp
  have hp:p=(1,.ptr 2 0)∨p=(2,.ptr 3 0)∨p=(16,.ptr 4 0)∨p=(17,.ptr 5 0)∨p=(32,.ptr 6 0):=by simpa [cpKeys] using hp
  rcases hp with rfl | rfl | rfl | rfl | rfl <;> exact ⟨by decide,rfl,rfl⟩
 ·rintro r left t H ⟨q,_,_,rfl⟩
  rfl
 ·rintro r left t H ⟨q,_,rfl,_⟩
  rfl
 ·rintro r A p B t H ⟨q,hL,rfl,rfl⟩
  obtain ⟨k,v⟩:=p
  obtain ⟨hk,hv,hn⟩:=hL.keys (k,v) (by simp)
  simp only at hk hv hn
  subst hv
  have hlen:=hL.len
  rw [List.length_append,List.length_cons] at hlen
  refine ⟨_,_,cp_d k _ (itV r) _,?_⟩
  rw [cp_rest]
  have hsel:(selF k a b c d e).length=4096:=selF_len hl k
  refine AWP_seq (AWP_copyRow (cx:=cxCp) rfl rfl cxCp_ok cp_qL (ty:=pgTy) (pa:=21) (dL:=22) (dA:=6) (by kernel_rfl) (by kernel_rfl) (by kernel_rfl) (by kernel_rfl) (by kernel_rfl) (by kernel_rfl) (by kernel_rfl) (by kernel_rfl) (by kernel_rfl) (by kernel_rfl) (by kernel_rfl) (by kernel_rfl)
   [3,4,14,21] (cp_7 k (cpId k) (itV r) _) (n:=1) (k:=.u8) (l:=selF k a b c d e) (hd:=[.int .i64 (cpRt k)]) rfl (cpH_page hk q a b c d e) hi hi3 (by rw [hsel,hi4]) hi5 rfl rfl ?_)
  show AWP _ _ _ _ _ _
  rw [cpH_len]
  refine AWP.less (s:=[(3,.ptr 8 0),(4,.int .u64 k),(6,.ptr (9+q.length) 0),(14,itV r)]) (Fits.tle ⟨rfl,rfl,rfl,rfl,trivial⟩) ?_
  have he:=cp_step (by omega) hL.lv hk hn (itV r) a b c d e
  unfold cpE cpX at he
  rw [Tree.fin_run,cutK_run] at he
  obtain ⟨⟨ex,t2,H2⟩,g1,g2⟩:=Option.map_eq_some_iff.1 he
  simp only [Prod.mk.injEq] at g2
  obtain ⟨rfl,g2,rfl⟩:=g2
  refine AWP_run (cx:=cxCp) rfl rfl cxCp_ok g1 ⟨.inl rfl,cpT (itV r),g2 ▸ TLe.keep _ _,q++[k],hL.take,rfl,rfl⟩
 ·rintro r t H ⟨q,hL,rfl,rfl⟩
  show AWP _ _ _ _ _ _
  have hq5:q.length=5:=by have:=hL.len; simpa using this
  have hq:=hL.lv
  rw [hq5] at hq
  refine AWP.less (s:=[(3,.ptr 8 0)]) (Fits.tle ⟨rfl,trivial⟩) ?_
  have he:=congrFun (congrFun (congrFun (congrFun (congrFun (List.map_inj_left.1 cp_5 _ hq) a) b) c) d) e
  unfold cpEnd at he
  rw [Tree.fin_run] at he
  obtain ⟨s,g1,g2⟩:=bind_run he
  refine AWP_run (cx:=cxCp) rfl rfl cxCp_ok g1 ?_
  unfold ansD at g2
  split at g2
  ·rename_i s' hs'
   exact ⟨cpOrd q,s',hs',answerM_post g2⟩
  ·cases g2
def copyM:MSpec:=fun args H=>match args with
 | [.ptr 0 0]=>memM (fun a b c d e=>.leaf (cpRes a b c d e)) H
 | _=>.fail
theorem copyM_ok:MSound Tryz.prog 14 copyM:=by
 intro args H out h
 unfold copyM at h
 split at h
 rotate_left
 ·cases h
 obtain ⟨a,b,c,d,e,rfl,hl,h⟩:=memM_run h
 cases h
 exact copy_ok hl
end Go.Ra

namespace Go.Ra
open Go Go.Ab Go.Proofs Go.Amd
noncomputable def cxSm (g:StFn) (f:OutFn):Cx:={ P:=Tryz.prog,n:=Tryz.f6.ntmps,tab:=[(9,Go.Amd.begunS),(17,isaS)],mtab:=[(15,stpS g),(11,runS f),(10,worldD),(14,copyM),(16,fetchM)],refs:=[],keeps:=[0,1,2,3,6,7,9,10,11,12,13,14,15,16,17,18,19,20,21,22,23,24,26,34,80,89,99] }
noncomputable abbrev Bsm:Code:=bodyOf Tryz.f6
def smHead (s:CpuT) (l m:List Int):Tree St:=
 .br (decide (8192<((l.length:Nat):Int))) (.leaf (.ret,ssA s l m [(6,.bool true),(26,.bool false),(34,.bool true)],[cpuO s])) (.br (decide (8192<((m.length:Nat):Int))) (.leaf (.ret,ssA s l m [(6,.bool true),(26,.bool false),(34,.bool true)],[cpuO s]))
  (.br (setB l && setB m) (.leaf (.normal,ssA s l m [(6,.bool false),(7,.ptr 1 0),(26,.bool false),(34,.bool false)],
  cpuO s :: bothA (wdK 1 l m zeros) (wdK 2 l m zeros) (wdK 16 l m zeros) (wdK 17 l m zeros) (wdK 32 l m zeros))) .fail))
theorem sm_head (g:StFn) (f:OutFn) (s:CpuT) (l m:List Int):(dcode (cxSm g f) (headN 3 Bsm) (initT 0 [.agg (tabS s).l,.sl (.int .u8) l [] .may,.sl (.int .u8) m [] .may]) []).run=(smHead s l m).run:=
 (show _=(smHead s l m).out by kernel_rfl).trans (Tree.out_run _)
def smNo:Option V:=some (.bool false)
def smRun (f:OutFn) (s:CpuT) (l A B C D E:List Int):Out:=f (dI l 0).1 (tabS s) (dI l 0).2.1 (dI l 0).2.2.1 (dI l 0).2.2.2.1 (dI l 0).2.2.2.2.1 (dI l 0).2.2.2.2.2 (dN l 0) A B C D E
def smX (L:Bool) (g:StFn) (f:OutFn) (s:CpuT) (A B C D E:List Int):Option V:=
 let o:=g (tabS s) A B C D E
 let l:=fetL A B C D E s.pc
 let u:=smRun f s l A B C D E
 let rest:=cond (true && L) (cond (rng64 s.pc && true) (cond (Nat.beq (fetN s.pc) 0) (some (.bool (o.err == 21))) (cond (true && decide (l.length<1000000000)) (cond (bytesB l) (cond (dE l 0 != 0) (some (.bool (o.err == 22)))
  (cond (true && L) (cond (fineB (tabS s) && i64r (dI l 0).2.2.2.2.2) (cond (eqS (tabS u.s) (tabS o.s)) (cond (u.ev == o.ev) (some (.bool (u.err == o.err))) smNo) smNo) none) none)) none) none)) none) none
 cond (true && L) (cond (true && L) (cond (true && L) (cond (fineB (tabS s)) (cond (true && L) (cond (fineB (tabS s)) (cond (!(eqS (tabS o.s) (tabS o.s))) smNo (cond (o.ev != o.ev) smNo (cond (o.err != o.err) smNo (cond (o.err != 0) (cond (!(eqS (tabS o.s) (tabS s))) smNo rest) rest)))) none) none) none) none) none) none
noncomputable def smE (g:StFn) (f:OutFn) (s:CpuT) (A B C D E:List Int):Option V:=((dcode (cxSm g f) (tailN 3 Bsm) [(3,.ptr 0 0),(7,.ptr 1 0)] (cpuO s :: bothA A B C D E)).bind (answer Tryz.prog Tryz.f6.results.toList)).fin
theorem sm_eq (g:StFn) (f:OutFn) (s:CpuT) (A B C D E:List Int):smE g f s A B C D E=smX (lens5 A B C D E) g f s A B C D E:=by kernel_rfl
def FEr (f:OutFn):Prop:=∀ nm s a b c d m sz A B C D E,Fine s→lens5 A B C D E=true→i64r m=true→(f nm s a b c d m sz A B C D E).err ≠ 0→(f nm s a b c d m sz A B C D E).s=s
theorem smX_true {f:OutFn} (hf:FEr f) {s:CpuT} {A B C D E:List Int} (hs:Fine s) (hl:lens5 A B C D E=true):smX true (stG f) f s A B C D E=some (.bool true):=by
 have hts:tabS s=s:=cpu_tab hs.len
 have hfb:=fineB_of hs
 have h10:decide ((fetL A B C D E s.pc).length<1000000000)=true:=decide_eq_true (by rw [fetL_len]; have:=fetN_le s.pc; omega)
 have hb:=fetL_bytes hl s.pc
 have hi:=dec_imm hb
 unfold smX smRun stG
 dsimp only
 rw [hts,hfb,hs.pc,h10,hb,hi]
 simp only [eqS_self,bne_self_eq_false,Bool.not_true,cond_false,cond_true,Bool.and_self]
 cases hn:Nat.beq (fetN s.pc) 0
 ·simp only [cond_false]
  cases hd:dE (fetL A B C D E s.pc) 0 != 0
  ·simp only [cond_false]
   have hs' := hf (dI (fetL A B C D E s.pc) 0).1 s (dI (fetL A B C D E s.pc) 0).2.1 (dI (fetL A B C D E s.pc) 0).2.2.1 (dI (fetL A B C D E s.pc) 0).2.2.2.1 (dI (fetL A B C D E s.pc) 0).2.2.2.2.1 (dI (fetL A B C D E s.pc) 0).2.2.2.2.2 (dN (fetL A B C D E s.pc) 0) A B C D E hs hl hi
   generalize f (dI (fetL A B C D E s.pc) 0).1 s (dI (fetL A B C D E s.pc) 0).2.1 (dI (fetL A B C D E s.pc) 0).2.2.1 (dI (fetL A B C D E s.pc) 0).2.2.2.1 (dI (fetL A B C D E s.pc) 0).2.2.2.2.1 (dI (fetL A B C D E s.pc) 0).2.2.2.2.2 (dN (fetL A B C D E s.pc) 0) A B C D E=o at hs'
   simp only [eqS_self,bne_self_eq_false,beq_self_eq_true,Bool.not_true,cond_false,cond_true]
   cases he:o.err != 0
   ·rfl
   ·have he:o.err ≠ 0:=by simpa using he
    rw [hs' he,hts,eqS_self]
    rfl
  ·simp only [cond_true,hts,eqS_self]
   rfl
 ·simp only [cond_true,hts,eqS_self]
  rfl
theorem cxSm_ok {g:StFn} {f:OutFn} (h1:MSound Tryz.prog 15 (stpS g)) (h2:MSound Tryz.prog 11 (runS f)):CxOk (cxSm g f):=
 ⟨.cons Go.Amd.begunS_ok (.cons isaS_ok (.nil _)),.cons h1 (.cons h2 (.cons worldD_ok (.cons copyM_ok (.cons fetchM_ok (.nil _))))),.nil _,fun p h=>by cases h⟩
set_option maxRecDepth 8000 in
theorem same_law {f:OutFn} (hf:FEr f) (h2:MSound Tryz.prog 11 (runS f)) {s:CpuT} (hs:Fine s) {l m:List Int} (h3:l.all byteB=true) (h4:m.all byteB=true) :
  PCall Tryz.prog 6 [.agg s.l,.sl (.int .u8) l [] .may,.sl (.int .u8) m [] .may] (.bool true):=by
 have hok:=cxSm_ok (stpS_ok h2) h2
 have hts:tabS s=s:=cpu_tab hs.len
 rw [← hts]
 refine pcall_of' (c:=Bsm) (fn:=Tryz.f6) (by kernel_rfl) (by kernel_rfl) (by kernel_rfl) (by kernel_rfl) ?_
 refine AWP_headE (cx:=cxSm (stG f) f) rfl rfl hok 3 (by kernel_rfl) (sm_head (stG f) f s l m) ?_
 refine ⟨fun _=>⟨.inl rfl,by kernel_rfl⟩,fun hx=>⟨fun _=>⟨.inl rfl,by kernel_rfl⟩,fun hy=>?_⟩⟩
 have hx:=of_decide_eq_false hx
 have hy:=of_decide_eq_false hy
 have b1:setB l=true:=by
  unfold setB
  rw [h3,decide_eq_true (by omega)]
  rfl
 have b2:setB m=true:=by
  unfold setB
  rw [h4,decide_eq_true (by omega)]
  rfl
 refine all_t (by rw [b1,b2]; rfl) ?_
 show AWP _ _ _ _ _ _
 refine AWP.less (s:=[(3,.ptr 0 0),(7,.ptr 1 0)]) (Fits.tle ⟨rfl,rfl,trivial⟩) ?_
 have hl:=lens5_wd b1 b2 lens_zeros
 generalize wdK 1 l m zeros=A at hl
 generalize wdK 2 l m zeros=B at hl
 generalize wdK 16 l m zeros=C at hl
 generalize wdK 17 l m zeros=D at hl
 generalize wdK 32 l m zeros=E at hl
 have he:=(sm_eq (stG f) f s A B C D E).trans ((congrArg (fun L=>smX L (stG f) f s A B C D E) hl).trans (smX_true hf hs hl))
 unfold smE at he
 rw [Tree.fin_run] at he
 obtain ⟨r,q1,q2⟩:=bind_run he
 exact AWP_run (cx:=cxSm (stG f) f) rfl rfl hok q1 (answer_post q2)
theorem outA_err:FEr outA:=fun nm s a b c d m sz A B C D E hs hl hm h=>by
 obtain ⟨_,_,h3,_⟩:=outA_is nm hs a b c d m sz hl hm
 exact (h3 h).1
theorem same_call (x:EC.tys [cpuE,.sl (.int .u8),.sl (.int .u8)]) (h:okEs [cpuE,.sl (.int .u8),.sl (.int .u8)] x):PCall Tryz.prog 6 (argVs [cpuE,.sl (.int .u8),.sl (.int .u8)] x) (.bool true):=by
 rw [argS]
 exact same_law outA_err runA_ok (cpuA_fine h.1) (ok_bytes h.2.1) (ok_bytes h.2.2)
end Go.Ra
