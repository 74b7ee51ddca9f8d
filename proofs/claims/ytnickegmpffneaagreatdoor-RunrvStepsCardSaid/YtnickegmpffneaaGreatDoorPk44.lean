/-
  The program's memory: bytes set, all bytes of a page, how many pages. Conditions: none.
-/
import Derived.Test.YtnickegmpffneaaGreatDoorPk10
import Derived.Test.YtnickegmpffneaaGreatDoorPk32
import Derived.Test.YtnickegmpffneaaGreatDoorPk11
import Derived.Test.YtnickegmpffneaaGreatDoorPk35
import Derived.Test.YtnickegmpffneaaGreatDoorPk41
set_option linter.unusedVariables false
set_option linter.unusedSimpArgs false
namespace Go.Ra
open Go Go.Ab Go.Proofs
noncomputable def cx19:Cx:={ P:=Tryz.prog,n:=10,tab:=[],mtab:=[(33,noneM)],refs:=[],keeps:=[0,2,4] }
theorem count_eq (a b c d e:List Int):(mfun cx19 Tryz.f19 [.ptr 0 0] (memO a b c d e)).fin=some (.ok (.int .i64 5) (memO a b c d e)):=by kernel_rfl
def countM:MSpec:=fun args H=>match args with
 | [.ptr 0 0]=>memM (fun a b c d e=>.leaf (.ok (.int .i64 5) (memO a b c d e))) H
 | _=>.fail
theorem countM_ok:MSound Tryz.prog 19 countM:=by
 intro args H out h
 unfold countM at h
 split at h
 rotate_left
 ·cases h
 obtain ⟨a,b,c,d,e,rfl,hl,h⟩:=memM_run h
 cases h
 refine msound_fun (cx:=cx19) (fn:=Tryz.f19) (cx1_ok (.nil _) (.cons noneM_ok fun p h=>by cases h) rfl rfl) (by kernel_rfl) (by kernel_rfl) _ _ _ ?_
 refine run_req (by kernel_rfl) ?_
 rw [← Tree.fin_run,count_eq]
def isStart (x:Int):Bool:=x == 4096 || (x == 8192 || (x == 65536 || (x == 69632 || x == 131072)))
def isBase (x:Int):Bool:=x == 4096 || x == 65536
def bigOk (x n r:Int):Bool:=n == 0 || ((isBase x && (decide (1≤n) && (decide (n≤8192) && r == 0))) || (isStart x && (n == 4096 && r == 4)))
theorem mayGo_two {H:List O} {y r k:Int} (h0:0≤k) (hk:k<1000) (h1:okP r k=true) (hy:pgF y=k∨(pgF y=k+1∧okP r (k+1)=true)):mayGo H y r 3 k=some (.ok (.bool true) H):=by
 have w1:IntKind.wrap .u64 (k+1)=k+1:=by
  show (k+1) % 18446744073709551616=_
  omega
 have w2:IntKind.wrap .u64 (k+1+1)=k+1+1:=by
  show (k+1+1) % 18446744073709551616=_
  omega
 rw [mayGo_step,decide_eq_true (by omega),cond_true,h1,cond_true,w1,mayGo_step]
 rcases hy with hy | ⟨hy,h2⟩
 ·rw [decide_eq_false (by omega),cond_false]
 ·rw [decide_eq_true (by omega),cond_true,h2,cond_true,w2,mayGo_step,decide_eq_false (by omega),cond_false]
theorem endF_big {x n:Int} (h0:0≤x) (h1:x<1000000) (h2:1≤n) (h3:n≤8192):endF x n=x+n - 1:=by
 have e:endF x n=((x+n % 18446744073709551616) % 18446744073709551616 - 1) % 18446744073709551616:=rfl
 rw [e]
 omega
theorem pgF_small {x:Int} (h0:0≤x) (h1:x<10000000):pgF x=x / 4096:=by
 refine pgF_eq ?_
 simp only [rng64,Bool.and_eq_true,decide_eq_true_eq]
 omega
theorem mayX_big {H:List O} {x n r:Int} (h:bigOk x n r=true):mayX H x n r=some (.ok (.bool true) H):=by
 unfold mayX
 unfold bigOk at h
 cases h0:n == 0
 rotate_left
 ·rfl
 rw [cond_false]
 rw [h0,Bool.false_or] at h
 rcases Bool.or_eq_true_iff.1 h with h | h
 ·simp only [Bool.and_eq_true,decide_eq_true_eq,beq_iff_eq] at h
  obtain ⟨hx,h1,h2,rfl⟩:=h
  have hx:x=4096∨x=65536:=by simpa [isBase] using hx
  have he:=endF_big (x:=x) (n:=n) (by omega) (by omega) h1 h2
  have hy:=pgF_small (x:=x+n - 1) (by omega) (by omega)
  rw [he,decide_eq_true (by omega),Bool.not_true,cond_false]
  rcases hx with rfl | rfl
  ·refine mayGo_two (k:=1) (by decide) (by decide) rfl ?_
   rw [hy]
   by_cases hn:n≤4096
   ·exact .inl (by omega)
   ·exact .inr ⟨by omega,rfl⟩
  ·refine mayGo_two (k:=16) (by decide) (by decide) rfl ?_
   rw [hy]
   by_cases hn:n≤4096
   ·exact .inl (by omega)
   ·exact .inr ⟨by omega,rfl⟩
 ·simp only [Bool.and_eq_true,decide_eq_true_eq,beq_iff_eq] at h
  obtain ⟨hx,rfl,rfl⟩:=h
  have hx:x=4096∨x=8192∨x=65536∨x=69632∨x=131072:=by simpa [isStart] using hx
  rcases hx with rfl | rfl | rfl | rfl | rfl <;> rfl
def mayBig:MSpec:=fun args H=>match args with
 | [.ptr 0 0,.int .u64 x,.int .i64 n,.int .i64 r]=>memM (fun a b c d e=>.req (bigOk x n r) (.leaf (.ok (.bool true) (memO a b c d e)))) H
 | _=>.fail
theorem mayBig_ok:MSound Tryz.prog 34 mayBig:=by
 intro args H out h
 unfold mayBig at h
 split at h
 rotate_left
 ·cases h
 rename_i x n r
 obtain ⟨a,b,c,d,e,rfl,hl,h⟩:=memM_run h
 obtain ⟨h1,h⟩:=req_run h
 cases h
 refine msound_fun (cx:=cx34) (fn:=Tryz.f34) (cx1_ok (ok1 lastS_ok) (.cons noneM_ok fun p h=>by cases h) rfl rfl) (by kernel_rfl) (by kernel_rfl) _ _ _ ?_
 refine run_req (by kernel_rfl) ?_
 rw [← Tree.fin_run,may_eq,mayX_big h1]
end Go.Ra

namespace Go.Ra
open Go Go.Ab Go.Proofs
noncomputable def cx31:Cx:={ P:=Tryz.prog,n:=34,tab:=[],mtab:=[(33,noneM),(34,mayBig),(70,putM)],refs:=[],keeps:=[0,1,2,6,7,8,18,19,20,21,22] }
theorem cxPs_ok:CxOk cx31:=cx1_ok (.nil _) (.cons noneM_ok (.cons mayBig_ok (.cons putM_ok fun p h=>by cases h))) rfl rfl
noncomputable def cxPs0:Cx:={ cx31 with fuel:=1 }
noncomputable abbrev Bps:Code:=bodyOf Tryz.f31
def layL (k x:Int) (l:List Int):Nat→List Int→List Int
 | 0,P=>P
 | n+1,P=>setF k (adr x n) (l.getD n 0) (layL k x l n P)
theorem byte_getD {l:List Int} (h:l.all byteB=true) (n:Nat):byteB (l.getD n 0)=true:=by
 rw [List.getD_eq_getElem?_getD]
 cases hn:l[n]? with
 | none=>rfl
 | some v=>exact List.all_eq_true.1 h v (List.mem_of_getElem? hn)
theorem lens5_layL {a b c d e:List Int} (x:Int) (l:List Int) (hb:l.all byteB=true) (h:lens5 a b c d e=true):∀ n,lens5 (layL 1 x l n a) (layL 2 x l n b) (layL 16 x l n c) (layL 17 x l n d) (layL 32 x l n e)=true
 | 0=>h
 | n+1=>lens5_set (lens5_layL x l hb h n) _ (byte_getD hb n)
theorem adr_small {x:Int} {j:Nat} (h0:0≤x) (h1:x+j<18446744073709551616):adr x j=x+j:=by
 have e:adr x j=(x+(j:Int) % 18446744073709551616) % 18446744073709551616:=rfl
 rw [e]
 omega
theorem usable_base {x:Int} (hx:isBase x=true) {i:Nat} (hi:i<8192):usable (adr x i)=true:=by
 have hx:x=4096∨x=65536:=by simpa [isBase] using hx
 have ea:adr x i=x+i:=adr_small (by omega) (by omega)
 have hr:rng64 (x+i)=true:=by
  simp only [rng64,Bool.and_eq_true,decide_eq_true_eq]
  omega
 have hp:pgF (x+i)=(x+i) / 4096:=pgF_eq hr
 unfold usable
 rw [ea,hr,Bool.true_and]
 have:pgF (x+i)=1∨pgF (x+i)=2∨pgF (x+i)=16∨pgF (x+i)=17:=by omega
 rcases this with h | h | h | h <;> rw [h] <;> rfl
theorem all_t {α:Type} {c:Bool} {x y:Tree α} {Q:α→Prop} (h:c=true) (hx:x.all Q):(Tree.br c x y).all Q:=⟨fun _=>hx,fun e=>Bool.noConfusion (h.symm.trans e)⟩
theorem all_f {α:Type} {c:Bool} {x y:Tree α} {Q:α→Prop} (h:c=false) (hy:y.all Q):(Tree.br c x y).all Q:=⟨fun e=>Bool.noConfusion (h.symm.trans e),fun _=>hy⟩
def cutK (ks:List Nat) (s:St):Tree St:=.leaf (s.1,keep ks s.2.1,s.2.2)
theorem cutK_run (ks:List Nat) (x:Tree St):(x.bind (cutK ks)).run=x.run.map (fun s=>(s.1,keep ks s.2.1,s.2.2)):=by
 induction x with
 | leaf b=>rfl
 | fail=>rfl
 | br c x y h1 h2 =>
  cases c
  ·exact h2
  ·exact h1
def psT (x:Int) (l sp:List Int) (fl:Fl) (i:Int):T:=[(0,.ptr 0 0),(1,.int .u64 x),(19,.sl (.int .u8) l sp fl),(20,.int .i64 l.length),(21,.int .i64 i)]
def psS (x:Int) (l:List Int) (n:Nat) (a b c d e:List Int):List O:=memO (layL 1 x l n a) (layL 2 x l n b) (layL 16 x l n c) (layL 17 x l n d) (layL 32 x l n e)
def psRound (x:Int) (l sp:List Int) (fl:Fl) (i:Nat) (a b c d e:List Int):Tree St:=
 .br (decide ((i:Int)<l.length)) (.br (inside i l.length) (.br (lens5 a b c d e) (.br (usable (adr x i)) (.leaf (.normal,psT x l sp fl (IntKind.wrap .i64 ((i:Int)+1)),
   memO (setF 1 (adr x i) (l.getD i 0) a) (setF 2 (adr x i) (l.getD i 0) b) (setF 16 (adr x i) (l.getD i 0) c) (setF 17 (adr x i) (l.getD i 0) d) (setF 32 (adr x i) (l.getD i 0) e))) .fail) .fail) .fail)
  (.leaf (.exit 0,psT x l sp fl i,memO a b c d e))
theorem psRound_eq (x:Int) (l sp:List Int) (fl:Fl) (i:Nat) (a b c d e:List Int) :
  ((dcode cx31 (cin (cin (c2 (c1 (tailN 1 Bps))))) (psT x l sp fl i) (memO a b c d e)).bind (rnd 7 [] [0,1,19,20,21])).run=(psRound x l sp fl i a b c d e).run:=
 (show _=(psRound x l sp fl i a b c d e).out by kernel_rfl).trans (Tree.out_run _)
theorem ps_head (x:Int) (l sp:List Int) (fl:Fl) (a b c d e:List Int):((dcode cx31 (headN 1 Bps) (initT 0 [.ptr 0 0,.int .u64 x,.sl (.int .u8) l sp fl]) (memO a b c d e)).bind (cutK [0,1,2])).run =
  cond (lens5 a b c d e) (cond (bigOk x l.length 0) (some (.normal,[(0,.ptr 0 0),(1,.int .u64 x),(2,.sl (.int .u8) l sp fl)],memO a b c d e)) none) none:=by kernel_rfl
theorem ps_start (x:Int) (l sp:List Int) (fl:Fl) (H:List O):(dcode cx31 (c1 (c1 (tailN 1 Bps))) [(0,.ptr 0 0),(1,.int .u64 x),(2,.sl (.int .u8) l sp fl)] H).run.map (fun s=>(s.1,keep [0,1,19,20,21] s.2.1,s.2.2)) =
  some (.normal,psT x l sp fl 0,H):=by kernel_rfl
theorem ps_end (H:List O):((dcode cx31 (tailN 2 Bps) [] H).bind (answerM Tryz.prog Tryz.f31.results.toList)).run=some (.ok (.int .i64 0) H):=by kernel_rfl
theorem ps_nil (x:Int) (a b c d e:List Int):(mfun cxPs0 Tryz.f31 [.ptr 0 0,.int .u64 x,.val (.slice none 0 0)] (memO a b c d e)).fin=cond (lens5 a b c d e) (some (.ok (.int .i64 0) (memO a b c d e))) none:=by kernel_rfl
def psSt (x:Int) (l sp:List Int) (fl:Fl) (a b c d e:List Int) (i:{ i:Nat // i≤l.length }):T × List O:=(psT x l sp fl i.1,psS x l i.1 a b c d e)
theorem ps_ok {x:Int} {l:List Int} (sp:List Int) (fl:Fl) {a b c d e:List Int} (hx:isBase x=true) (hn:l.length≤8192) (hb8:l.all byteB=true) (hl:lens5 a b c d e=true) :
  MCall Tryz.prog 31 [.ptr 0 0,.int .u64 x,.sl (.int .u8) l sp fl] (memO a b c d e) (.ok (.int .i64 0) (psS x l l.length a b c d e)):=by
 refine mcall_of' (c:=Bps) (fn:=Tryz.f31) (by kernel_rfl) (by kernel_rfl) (by kernel_rfl) (by kernel_rfl) ?_
 have hb:bigOk x l.length 0=true:=by
  unfold bigOk
  cases h0:((l.length:Int) == 0)
  ·have h0:¬ (l.length:Int)=0:=by simpa using h0
   rw [hx,decide_eq_true (by omega),decide_eq_true (by omega)]
   rfl
  ·rfl
 refine AWP_headK (cx:=cx31) rfl rfl cxPs_ok 1 [0,1,2] (by kernel_rfl) (by rw [← cutK_run,ps_head,hl,hb]; rfl) ?_
 have eb:tailN 1 Bps = .seq (.seq (c1 (c1 (tailN 1 Bps))) (.block 0 (.loop (cin (cin (c2 (c1 (tailN 1 Bps)))))))) (tailN 2 Bps):=by kernel_rfl
 rw [eb]
 obtain ⟨s,g1,g2⟩:=Option.map_eq_some_iff.1 (ps_start x l sp fl (memO a b c d e))
 refine AWP_seq (AWP_seq (AWP_run (cx:=cx31) rfl rfl cxPs_ok g1 ?_))
 obtain ⟨ex,t,H⟩:=s
 simp only [Prod.mk.injEq] at g2
 obtain ⟨rfl,g2,rfl⟩:=g2
 refine AWP_block (AWP.less (s:=psT x l sp fl 0) (g2 ▸ TLe.keep _ _) ?_)
 refine AWP_roundsK (cx:=cx31) (P:=Tryz.prog) (n:=34) rfl rfl cxPs_ok (psSt x l sp fl a b c d e) (fun i=>l.length - i.1) [] [0,1,19,20,21] ?_ ⟨0,Nat.zero_le _⟩
 rintro ⟨i,hi⟩
 have hl' := lens5_layL x l hb8 hl i
 refine Tree.all_run_eq (psRound_eq x l sp fl i _ _ _ _ _) ?_
 refine ⟨fun hlt=>?_,fun hge=>?_⟩
 ·have hlt:i<l.length:=Int.ofNat_lt.1 (of_decide_eq_true hlt)
  refine all_t (inside_of (Int.natCast_nonneg i) (Int.ofNat_lt.2 hlt)) (all_t hl' (all_t (usable_base hx (by omega)) ⟨⟨i+1,hlt⟩,by show l.length - (i+1)<l.length - i; omega,?_,rfl⟩))
  rw [wrap_i64 (by omega) (by omega)]
  exact TLe.refl _
 ·have hge:¬ i<l.length:=fun h=>of_decide_eq_false hge (Int.ofNat_lt.2 h)
  have hi' : i=l.length:=by omega
  subst hi'
  intro t _
  show AWP _ _ _ _ _ _
  refine AWP.less (s:=[]) (fun _=>.inr rfl) ?_
  obtain ⟨s,g1,g2⟩:=bind_run (ps_end (psS x l l.length a b c d e))
  refine AWP_run (cx:=cx31) rfl rfl cxPs_ok g1 ?_
  exact answerM_post g2
def setPM:MSpec:=fun args H=>match args with
 | [.ptr 0 0,.int .u64 x,.sl (.int .u8) l _ _]=>memM (fun a b c d e=>.req (isBase x && (decide (l.length≤8192) && l.all byteB)) (.leaf (.ok (.int .i64 0) (memO (layL 1 x l l.length a) (layL 2 x l l.length b) (layL 16 x l l.length c) (layL 17 x l l.length d) (layL 32 x l l.length e))))) H
 | [.ptr 0 0,.int .u64 x,.val (.slice none 0 0)]=>memM (fun a b c d e=>.leaf (.ok (.int .i64 0) (memO a b c d e))) H
 | _=>.fail
theorem cxPs0_ok:CxOk cxPs0:=cxPs_ok
theorem setPM_ok:MSound Tryz.prog 31 setPM:=by
 intro args H out h
 unfold setPM at h
 split at h
 ·rename_i x l sp fl
  obtain ⟨a,b,c,d,e,rfl,hl,h⟩:=memM_run h
  obtain ⟨h1,h⟩:=req_run h
  cases h
  obtain ⟨hx,hn⟩:=Bool.and_eq_true_iff.1 h1
  obtain ⟨hn,h8⟩:=Bool.and_eq_true_iff.1 hn
  exact ps_ok sp fl hx (of_decide_eq_true hn) h8 hl
 ·rename_i x
  obtain ⟨a,b,c,d,e,rfl,hl,h⟩:=memM_run h
  cases h
  refine msound_fun (cx:=cxPs0) (fn:=Tryz.f31) cxPs0_ok (by kernel_rfl) (by kernel_rfl) _ _ _ ?_
  refine run_req (by kernel_rfl) ?_
  rw [← Tree.fin_run,ps_nil,hl,cond_true]
 ·cases h
end Go.Ra

namespace Go.Ra
open Go Go.Ab Go.Proofs
noncomputable def cxPb:Cx:={ P:=Tryz.prog,n:=Tryz.f18.ntmps,tab:=[],mtab:=[(33,noneM),(34,mayBig),(35,getM)],refs:=[],keeps:=[0,1,2,6,7,8,9,10,17,30,31,32],lz:=[28,42] }
theorem cxPb_ok:CxOk cxPb:=cx1_ok (.nil _) (.cons noneM_ok (.cons mayBig_ok (.cons getM_ok fun p h=>by cases h))) rfl rfl
noncomputable abbrev Bpb:Code:=bodyOf Tryz.f18
def newPg (l:List Int):O:=.obj (.page 0 .u8 l) []
def filL (a b c d e:List Int) (x:Int):Nat→List Int
 | 0=>zeros
 | n+1=>(filL a b c d e x n).set n (byteF a b c d e (adr x n))
theorem filL_len (a b c d e:List Int) (x:Int):∀ n,(filL a b c d e x n).length=4096
 | 0=>List.length_replicate
 | n+1=>List.length_set.trans (filL_len a b c d e x n)
theorem filL_get (a b c d e:List Int) (x:Int):∀ n i,i<n→n≤4096→(filL a b c d e x n).getD i 0=byteF a b c d e (adr x i)
 | n+1,i,hi,hn=>by
  have hl:=filL_len a b c d e x n
  rw [List.getD_eq_getElem?_getD]
  show (((filL a b c d e x n).set n (byteF a b c d e (adr x n)))[i]?).getD 0=_
  rw [List.getElem?_set]
  by_cases h:n=i
  ·subst h
   rw [if_pos rfl,if_pos (by omega)]
   rfl
  ·rw [if_neg h,← List.getD_eq_getElem?_getD]
   exact filL_get a b c d e x n i (by omega) (by omega)
def pbT (x i:Int):T:=[(0,.ptr 0 0),(1,.int .u64 x),(8,.ref 7 1 0 4096),(30,.int .i64 4096),(31,.int .i64 i)]
def pbRound (x:Int) (i:Nat) (L a b c d e:List Int):Tree St:=
 .br (decide ((i:Int)<4096)) (.br (lens5 a b c d e) (.br (usable (adr x i)) (.br (inside i 4096) (.br (Nat.ble 0 (0+i*1) && Nat.blt (0+i*1 - 0) L.length) (.leaf (.normal,pbT x (IntKind.wrap .i64 ((i:Int)+1)),memO a b c d e++[newPg (L.set (0+i*1 - 0) (byteF a b c d e (adr x i)))])) .fail) .fail) .fail) .fail)
  (.leaf (.exit 1,pbT x i,memO a b c d e++[newPg L]))
theorem pbRound_eq (x:Int) (i:Nat) (L a b c d e:List Int) :
  ((dcode cxPb (cin (cin (c2 (c1 (tailN 2 Bpb))))) (pbT x i) (memO a b c d e++[newPg L])).bind (rnd 8 [] [0,1,8,30,31])).run=(pbRound x i L a b c d e).run:=
 (show _=(pbRound x i L a b c d e).out by kernel_rfl).trans (Tree.out_run _)
def pbHead (x n:Int) (a b c d e:List Int):Option St:=
 cond (decide (n<0)) (some (.ret,[(0,.ptr 0 0),(1,.int .u64 x)],memO a b c d e)) (cond (decide (1048576<n)) (some (.ret,[(0,.ptr 0 0),(1,.int .u64 x)],memO a b c d e)) (cond (lens5 a b c d e) (cond (bigOk x n 4)
  (cond (decide (0≤n) && decide (n≤n) && roomy n.toNat 1) (some (.normal,[(0,.ptr 0 0),(1,.int .u64 x),(8,.ref 7 1 0 n.toNat)],memO a b c d e++[newPg (List.replicate n.toNat 0)])) none) none) none))
theorem pb_head (x n:Int) (a b c d e:List Int):((dcode cxPb (headN 2 Bpb) (initT 0 [.ptr 0 0,.int .u64 x,.int .i64 n]) (memO a b c d e)).bind (cutK [0,1,8])).run=pbHead x n a b c d e:=by kernel_rfl
theorem pb_start (x:Int) (L a b c d e:List Int):((dcode cxPb (c1 (c1 (tailN 2 Bpb))) [(0,.ptr 0 0),(1,.int .u64 x),(8,.ref 7 1 0 4096)] (memO a b c d e++[newPg L])).bind (cutK [0,1,8,30,31])).run =
  some (.normal,pbT x 0,memO a b c d e++[newPg L]):=by kernel_rfl
theorem pb_end (x:Int) (L a b c d e:List Int):((dcode cxPb (tailN 3 Bpb) (pbT x 4096) (memO a b c d e++[newPg L])).bind (answerM Tryz.prog Tryz.f18.results.toList)).run=some (.ok (.tup [.ref 7 1 0 4096,.int .i64 0]) (memO a b c d e++[newPg L])):=by kernel_rfl
theorem off_small {x:Int} (h0:0≤x):offF x=(x % 4096).toNat:=by
 unfold offF
 rw [Int.tmod_eq_emod_of_nonneg h0]
 omega
theorem byte_page {k:Int} {i:Nat} (h0:0≤k) (h1:k<100) (hi:i<4096) (a b c d e:List Int):byteF a b c d e (adr (4096*k) i)=(selF k a b c d e).getD i 0:=by
 have ea:adr (4096*k) i=4096*k+i:=adr_small (by omega) (by omega)
 unfold byteF
 rw [ea,pgF_small (by omega) (by omega),off_small (by omega)]
 have e1:(4096*k+(i:Int)) / 4096=k:=by omega
 have e2:((4096*k+(i:Int)) % 4096).toNat=i:=by omega
 rw [e1,e2]
theorem selF_len {a b c d e:List Int} (hl:lens5 a b c d e=true) (k:Int):(selF k a b c d e).length=4096:=by
 obtain ⟨l1,l2,l3,l4,l5⟩:=lens5_spec hl
 unfold selF
 cases k == 1 <;> cases k == 2 <;> cases k == 16 <;> cases k == 17 <;> assumption
theorem fil_page {k:Int} (h0:0≤k) (h1:k<100) {a b c d e:List Int} (hl:lens5 a b c d e=true):filL a b c d e (4096*k) 4096=selF k a b c d e:=by
 have n1:=filL_len a b c d e (4096*k) 4096
 have n2:=selF_len hl k
 refine List.ext_getElem (n1.trans n2.symm) fun i g1 g2=>?_
 have:=filL_get a b c d e (4096*k) 4096 i (by omega) (Nat.le_refl _)
 rw [byte_page h0 h1 (by omega),getD_lt g1,getD_lt g2] at this
 exact this
theorem usable_page {k:Int} (hk:isPg k=true) {i:Nat} (hi:i<4096):usable (adr (4096*k) i)=true:=by
 have hk' : k=1∨k=2∨k=16∨k=17∨k=32:=by simpa [isPg] using hk
 have ea:adr (4096*k) i=4096*k+i:=adr_small (by omega) (by omega)
 have hr:rng64 (4096*k+i)=true:=by
  simp only [rng64,Bool.and_eq_true,decide_eq_true_eq]
  omega
 have hp:pgF (4096*k+i)=k:=by
  rw [pgF_eq hr]
  omega
 unfold usable
 rw [ea,hr,hp,hk]
 rfl
def pbSt (x:Int) (a b c d e:List Int) (i:{ i:Nat // i≤4096 }):T × List O:=(pbT x i.1,memO a b c d e++[newPg (filL a b c d e x i.1)])
theorem pb_ok {k:Int} {a b c d e:List Int} (hk:isPg k=true) (hl:lens5 a b c d e=true) :
  MCall Tryz.prog 18 [.ptr 0 0,.int .u64 (4096*k),.int .i64 4096] (memO a b c d e) (.ok (.tup [.ref 7 1 0 4096,.int .i64 0]) (memO a b c d e++[newPg (selF k a b c d e)])):=by
 have hk' : k=1∨k=2∨k=16∨k=17∨k=32:=by simpa [isPg] using hk
 have hb:bigOk (4096*k) 4096 4=true:=by
  rcases hk' with rfl | rfl | rfl | rfl | rfl <;> rfl
 rw [← fil_page (k:=k) (by omega) (by omega) hl]
 generalize hx:4096*k=x at hb
 refine mcall_of' (c:=Bpb) (fn:=Tryz.f18) (by kernel_rfl) (by kernel_rfl) (by kernel_rfl) (by kernel_rfl) ?_
 have h4:(decide ((0:Int)≤4096) && decide ((4096:Int)≤4096) && roomy (4096:Int).toNat 1)=true:=by decide
 have hh:pbHead x 4096 a b c d e=some (.normal,[(0,.ptr 0 0),(1,.int .u64 x),(8,.ref 7 1 0 4096)],memO a b c d e++[newPg zeros]):=by
  unfold pbHead
  rw [hl,hb,h4]
  rfl
 refine AWP_headK (cx:=cxPb) rfl rfl cxPb_ok 2 [0,1,8] (by kernel_rfl) ((cutK_run _ _).symm.trans ((pb_head x 4096 a b c d e).trans hh)) ?_
 have eb:tailN 2 Bpb = .seq (.seq (c1 (c1 (tailN 2 Bpb))) (.block 1 (.loop (cin (cin (c2 (c1 (tailN 2 Bpb)))))))) (tailN 3 Bpb):=by kernel_rfl
 rw [eb]
 obtain ⟨s,g1,g2⟩:=Option.map_eq_some_iff.1 ((cutK_run _ _).symm.trans (pb_start x zeros a b c d e))
 refine AWP_seq (AWP_seq (AWP_run (cx:=cxPb) rfl rfl cxPb_ok g1 ?_))
 obtain ⟨ex,t,H⟩:=s
 simp only [Prod.mk.injEq] at g2
 obtain ⟨rfl,g2,rfl⟩:=g2
 refine AWP_block (AWP.less (s:=pbT x 0) (g2 ▸ TLe.keep _ _) ?_)
 refine AWP_roundsK (cx:=cxPb) (P:=Tryz.prog) (n:=45) rfl rfl cxPb_ok (pbSt x a b c d e) (fun i=>4096 - i.1) [] [0,1,8,30,31] ?_ ⟨0,Nat.zero_le _⟩
 rintro ⟨i,hi⟩
 refine Tree.all_run_eq (pbRound_eq x i (filL a b c d e x i) a b c d e) ?_
 have n1:=filL_len a b c d e x i
 refine ⟨fun hlt=>?_,fun hge=>?_⟩
 ·have hlt:i<4096:=Int.ofNat_lt.1 (of_decide_eq_true hlt)
  have hbl:(Nat.ble 0 (0+i*1) && Nat.blt (0+i*1 - 0) (filL a b c d e x i).length)=true:=by
   rw [n1,Bool.and_eq_true_iff]
   exact ⟨Nat.ble_eq_true_of_le (Nat.zero_le _),Nat.ble_eq_true_of_le (by omega)⟩
  refine all_t hl (all_t (hx ▸ usable_page hk hlt) (all_t (inside_of (Int.natCast_nonneg i) (Int.ofNat_lt.2 hlt)) (all_t hbl ⟨⟨i+1,hlt⟩,by show 4096 - (i+1)<4096 - i; omega,?_,?_⟩)))
  ·rw [wrap_i64 (by omega) (by omega)]
   exact TLe.refl _
  ·have ei:0+i*1 - 0=i:=by omega
   rw [ei]
   rfl
 ·have hge:¬ i<4096:=fun h=>of_decide_eq_false hge (Int.ofNat_lt.2 h)
  have hi' : i=4096:=by omega
  subst hi'
  intro t ht
  show AWP _ _ _ _ _ _
  have ht:pbT x 4096=keep [0,1,8,30,31] t:=ht
  refine AWP.less (s:=pbT x 4096) (ht ▸ TLe.keep _ _) ?_
  obtain ⟨s,g1,g2⟩:=bind_run (pb_end x (filL a b c d e x 4096) a b c d e)
  refine AWP_run (cx:=cxPb) rfl rfl cxPb_ok g1 ?_
  exact answerM_post g2
def bytesM:MSpec:=fun args H=>match args with
 | [.ptr 0 0,.int .u64 x,.int .i64 n]=>memM (fun a b c d e=>.req (isStart x && n == 4096) (.leaf (.ok (.tup [.ref 7 1 0 4096,.int .i64 0]) (memO a b c d e++[newPg (selF (pgF x) a b c d e)])))) H
 | _=>.fail
theorem bytesM_ok:MSound Tryz.prog 18 bytesM:=by
 intro args H out h
 unfold bytesM at h
 split at h
 rotate_left
 ·cases h
 rename_i x n
 obtain ⟨a,b,c,d,e,rfl,hl,h⟩:=memM_run h
 obtain ⟨h1,h⟩:=req_run h
 cases h
 obtain ⟨hx,hn⟩:=Bool.and_eq_true_iff.1 h1
 have hn:n=4096:=by simpa using hn
 subst hn
 have hx:x=4096∨x=8192∨x=65536∨x=69632∨x=131072:=by simpa [isStart] using hx
 have key:∀ k:Int,isPg k=true→x=4096*k→MCall Tryz.prog 18 [.ptr 0 0,.int .u64 x,.int .i64 4096] (memO a b c d e) (.ok (.tup [.ref 7 1 0 4096,.int .i64 0]) (memO a b c d e++[newPg (selF (pgF x) a b c d e)])):=by
  intro k hk hxk
  have hk' : k=1∨k=2∨k=16∨k=17∨k=32:=by simpa [isPg] using hk
  have hp:pgF x=k:=by
   rw [pgF_small (by omega) (by omega)]
   omega
  rw [hp,hxk]
  exact pb_ok hk hl
 rcases hx with h | h | h | h | h
 ·exact key 1 rfl h
 ·exact key 2 rfl h
 ·exact key 16 rfl h
 ·exact key 17 rfl h
 ·exact key 32 rfl h
end Go.Ra

namespace Go.Ra
open Go Go.Ab Go.Proofs
noncomputable def cxRcb:Cx:={ P:=Tryz.prog,n:=Tryz.f71.ntmps,tab:=[],mtab:=[],refs:=[],keeps:=[0,1,2,3,8,9,10,20,23,35,61],rtab:=[(69,findR)],lz:=[55] }
theorem cxRcb_ok:CxOk cxRcb:=⟨.nil _,.nil _,.cons findR_ok (.nil _),fun p h=>by cases h⟩
noncomputable abbrev Bcb:Code:=bodyOf Tryz.f71
def cbT (x n k:Int):T:=[(0,.ptr 0 0),(1,.int .u64 x),(2,.int .i64 n),(3,.int .i64 0),(9,.int .i64 k)]
def cbNext (x n:Int) (k:Nat) (H:List O):Tree St:=.leaf (.normal,cbT x n (IntKind.wrap .i64 ((k:Int)+1)),H)
def cbFind (L:Bool) (x n:Int) (k:Nat) (H:List O):Tree St:=.br L (.br (decide (idxF (pgF (adr x k))<0)) (.leaf (.ret,cbT x n k,H)) (cbNext x n k H)) .fail
def cbRound (x n:Int) (k:Nat) (A B C D E:List Int):Tree St:=
 .br (decide ((k:Int)<n)) (.br (decide (0<(k:Int))) (.br (Int.tmod (adr x k) 4096 != 0) (cbNext x n k (refO A B C D E)) (cbFind (lens5 A B C D E) x n k (refO A B C D E))) (cbFind (lens5 A B C D E) x n k (refO A B C D E)))
  (.leaf (.exit 0,cbT x n k,refO A B C D E))
theorem cbRound_eq (x n:Int) (k:Nat) (A B C D E:List Int) :
  ((dcode cxRcb (cin (cin (c2 (c1 (tailN 1 Bcb))))) (cbT x n k) (refO A B C D E)).bind (rnd 7 [] [0,1,2,3,9])).run=(cbRound x n k A B C D E).run:=
 (show _=(cbRound x n k A B C D E).out by kernel_rfl).trans (Tree.out_run _)
def cbHead (x n:Int) (H:List O):Option St:=
 cond (decide (0<n)) (cond (decide (IntKind.wrap .u64 (18446744073709551615 - x)<IntKind.wrap .u64 (IntKind.wrap .i64 (n - 1)))) (some (.ret,[(0,.ptr 0 0),(1,.int .u64 x),(2,.int .i64 n),(3,.int .i64 0)],H)) (some (.normal,[(0,.ptr 0 0),(1,.int .u64 x),(2,.int .i64 n),(3,.int .i64 0)],H)))
  (some (.normal,[(0,.ptr 0 0),(1,.int .u64 x),(2,.int .i64 n),(3,.int .i64 0)],H))
theorem cb_head (x n:Int) (H:List O):((dcode cxRcb (headN 1 Bcb) (initT 0 [.ptr 0 0,.int .u64 x,.int .i64 n,.int .i64 0]) H).bind (cutK [0,1,2,3])).run=cbHead x n H:=by kernel_rfl
theorem cb_start (x n:Int) (H:List O):((dcode cxRcb (c1 (c1 (tailN 1 Bcb))) [(0,.ptr 0 0),(1,.int .u64 x),(2,.int .i64 n),(3,.int .i64 0)] H).bind (cutK [0,1,2,3,9])).run=some (.normal,cbT x n 0,H):=by kernel_rfl
theorem cb_end (H:List O):((dcode cxRcb (tailN 2 Bcb) [] H).bind (answerM Tryz.prog Tryz.f71.results.toList)).run=some (.ok (.bool true) H):=by kernel_rfl
def cbSt (x n:Int) (A B C D E:List Int) (k:{ k:Nat // k≤n.toNat }):T × List O:=(cbT x n k.1,refO A B C D E)
theorem idx_base {x:Int} (hx:isBase x=true) {i:Nat} (hi:i<8192):¬ idxF (pgF (adr x i))<0:=by
 have h:=usable_base hx hi
 unfold usable at h
 obtain ⟨_,h⟩:=Bool.and_eq_true_iff.1 h
 simp only [isPg,Bool.or_eq_true,beq_iff_eq] at h
 rcases h with h | h | h | h | h <;> rw [h] <;> decide
theorem cb_ok {x n:Int} (hx:isBase x=true) (h0:0≤n) (h1:n≤8192) {A B C D E:List Int} (hl:lens5 A B C D E=true) :
  MCall Tryz.prog 71 [.ptr 0 0,.int .u64 x,.int .i64 n,.int .i64 0] (refO A B C D E) (.ok (.bool true) (refO A B C D E)):=by
 have hx' : x=4096∨x=65536:=by simpa [isBase] using hx
 refine mcall_of' (c:=Bcb) (fn:=Tryz.f71) (by kernel_rfl) (by kernel_rfl) (by kernel_rfl) (by kernel_rfl) ?_
 have hh:cbHead x n (refO A B C D E)=some (.normal,[(0,.ptr 0 0),(1,.int .u64 x),(2,.int .i64 n),(3,.int .i64 0)],refO A B C D E):=by
  unfold cbHead
  cases hp:decide (0<n)
  ·rfl
  have hp:=of_decide_eq_true hp
  have e1:IntKind.wrap .u64 (18446744073709551615 - x)=(18446744073709551615 - x) % 18446744073709551616:=rfl
  have e2:IntKind.wrap .u64 (IntKind.wrap .i64 (n - 1))=IntKind.wrap .i64 (n - 1) % 18446744073709551616:=rfl
  rw [e1,e2,wrap_i64 (by omega) (by omega),decide_eq_false (by omega)]
  rfl
 refine AWP_headK (cx:=cxRcb) rfl rfl cxRcb_ok 1 [0,1,2,3] (by kernel_rfl) ((cutK_run _ _).symm.trans ((cb_head x n _).trans hh)) ?_
 have eb:tailN 1 Bcb = .seq (.seq (c1 (c1 (tailN 1 Bcb))) (.block 0 (.loop (cin (cin (c2 (c1 (tailN 1 Bcb)))))))) (tailN 2 Bcb):=by kernel_rfl
 rw [eb]
 obtain ⟨s,g1,g2⟩:=Option.map_eq_some_iff.1 ((cutK_run _ _).symm.trans (cb_start x n (refO A B C D E)))
 refine AWP_seq (AWP_seq (AWP_run (cx:=cxRcb) rfl rfl cxRcb_ok g1 ?_))
 obtain ⟨ex,t,H⟩:=s
 simp only [Prod.mk.injEq] at g2
 obtain ⟨rfl,g2,rfl⟩:=g2
 refine AWP_block (AWP.less (s:=cbT x n 0) (g2 ▸ TLe.keep _ _) ?_)
 refine AWP_roundsK (cx:=cxRcb) (P:=Tryz.prog) (n:=62) rfl rfl cxRcb_ok (cbSt x n A B C D E) (fun k=>n.toNat - k.1) [] [0,1,2,3,9] ?_ ⟨0,Nat.zero_le _⟩
 rintro ⟨k,hk⟩
 refine Tree.all_run_eq (cbRound_eq x n k A B C D E) ?_
 refine ⟨fun hlt=>?_,fun hge=>?_⟩
 ·have hlt:=of_decide_eq_true hlt
  have hnext:(cbNext x n k (refO A B C D E)).all (RoundK (cbSt x n A B C D E) (fun k=>n.toNat - k.1) [0,1,2,3,9] (blockQ 0 (seqQ (AWP Tryz.prog 62 (tailN 2 Bcb) (MPost Tryz.prog Tryz.f71 (.ok (.bool true) (refO A B C D E)))) (MPost Tryz.prog Tryz.f71 (.ok (.bool true) (refO A B C D E))))) ⟨k,hk⟩):=by
   refine ⟨⟨k+1,by omega⟩,by show n.toNat - (k+1)<n.toNat - k; omega,?_,rfl⟩
   rw [wrap_i64 (by omega) (by omega)]
   exact TLe.refl _
  have hfind:=all_t (y:=.fail) hl (all_f (x:=.leaf (.ret,cbT x n k,refO A B C D E)) (decide_eq_false (idx_base hx (i:=k) (by omega))) hnext)
  exact ⟨fun _=>⟨fun _=>hnext,fun _=>hfind⟩,fun _=>hfind⟩
 ·have hge:=of_decide_eq_false hge
  intro t ht
  show AWP _ _ _ _ _ _
  refine AWP.less (s:=[]) (fun _=>.inr rfl) ?_
  obtain ⟨s,g1,g2⟩:=bind_run (cb_end (refO A B C D E))
  refine AWP_run (cx:=cxRcb) rfl rfl cxRcb_ok g1 ?_
  exact answerM_post g2
def canBig:RSpec:=fun args H=>match args with
 | [.ptr 0 0,.int .u64 x,.int .i64 n,.int .i64 r]=>refM (fun _ _ _ _ _=>.req (isBase x && (decide (0≤n) && (decide (n≤8192) && r == 0))) (.leaf (.bool true))) H
 | _=>.fail
theorem canBig_ok:RSound Tryz.prog 71 canBig:=by
 intro args H out h
 unfold canBig at h
 split at h
 rotate_left
 ·cases h
 rename_i x n r
 obtain ⟨a,b,c,d,e,rfl,hl,h⟩:=refM_run h
 obtain ⟨h1,h⟩:=req_run h
 cases h
 simp only [Bool.and_eq_true,decide_eq_true_eq,beq_iff_eq] at h1
 obtain ⟨hx,h2,h3,rfl⟩:=h1
 exact cb_ok hx h2 h3 hl
noncomputable def cxRset:Cx:={ P:=Tryz.prog,n:=Tryz.f32.ntmps,tab:=[],mtab:=[(72,putRf)],refs:=[],keeps:=[0,1,2,6,7,13,17],rtab:=[(71,canBig)] }
noncomputable def cxRset0:Cx:={ cxRset with fuel:=1 }
theorem cxRset_ok:CxOk cxRset:=⟨.nil _,.cons putRf_ok (.nil _),.cons canBig_ok (.nil _),fun p h=>by cases h⟩
noncomputable abbrev Brs:Code:=bodyOf Tryz.f32
def rsS (x:Int) (l:List Int) (n:Nat) (a b c d e:List Int):List O:=refO (layL 1 x l n a) (layL 2 x l n b) (layL 16 x l n c) (layL 17 x l n d) (layL 32 x l n e)
def rsT (x:Int) (l sp:List Int) (fl:Fl) (i:Int):T:=[(0,.ptr 0 0),(1,.int .u64 x),(2,.sl (.int .u8) l sp fl),(7,.int .i64 i)]
def rsRound (x:Int) (l sp:List Int) (fl:Fl) (i:Nat) (a b c d e:List Int):Tree St:=
 .br (decide ((i:Int)<l.length)) (.br (inside i l.length) (.br (lens5 a b c d e) (.br (usable (adr x i)) (.leaf (.normal,rsT x l sp fl (IntKind.wrap .i64 ((i:Int)+1)),
   refO (setF 1 (adr x i) (l.getD i 0) a) (setF 2 (adr x i) (l.getD i 0) b) (setF 16 (adr x i) (l.getD i 0) c) (setF 17 (adr x i) (l.getD i 0) d) (setF 32 (adr x i) (l.getD i 0) e))) .fail) .fail) .fail)
  (.leaf (.exit 0,rsT x l sp fl i,refO a b c d e))
theorem rsRound_eq (x:Int) (l sp:List Int) (fl:Fl) (i:Nat) (a b c d e:List Int) :
  ((dcode cxRset (cin (cin (c2 (c1 (tailN 1 Brs))))) (rsT x l sp fl i) (refO a b c d e)).bind (rnd 7 [] [0,1,2,7])).run=(rsRound x l sp fl i a b c d e).run:=
 (show _=(rsRound x l sp fl i a b c d e).out by kernel_rfl).trans (Tree.out_run _)
theorem rs_head (x:Int) (l sp:List Int) (fl:Fl) (a b c d e:List Int):((dcode cxRset (headN 1 Brs) (initT 0 [.ptr 0 0,.int .u64 x,.sl (.int .u8) l sp fl]) (refO a b c d e)).bind (cutK [0,1,2])).run =
  cond (lens5 a b c d e) (cond (isBase x && (decide ((0:Int)≤l.length) && (decide ((l.length:Int)≤8192) && true))) (some (.normal,[(0,.ptr 0 0),(1,.int .u64 x),(2,.sl (.int .u8) l sp fl)],refO a b c d e)) none) none:=by kernel_rfl
theorem rs_start (x:Int) (l sp:List Int) (fl:Fl) (H:List O):((dcode cxRset (c1 (c1 (tailN 1 Brs))) [(0,.ptr 0 0),(1,.int .u64 x),(2,.sl (.int .u8) l sp fl)] H).bind (cutK [0,1,2,7])).run=some (.normal,rsT x l sp fl 0,H):=by kernel_rfl
theorem rs_end (H:List O):((dcode cxRset (tailN 2 Brs) [] H).bind (answerM Tryz.prog Tryz.f32.results.toList)).run=some (.ok (.int .i64 0) H):=by kernel_rfl
theorem rs_nil (x:Int) (a b c d e:List Int):(mfun cxRset0 Tryz.f32 [.ptr 0 0,.int .u64 x,.val (.slice none 0 0)] (refO a b c d e)).fin=cond (lens5 a b c d e) (cond (isBase x && true) (some (.ok (.int .i64 0) (refO a b c d e))) none) none:=by kernel_rfl
def rsSt (x:Int) (l sp:List Int) (fl:Fl) (a b c d e:List Int) (i:{ i:Nat // i≤l.length }):T × List O:=(rsT x l sp fl i.1,rsS x l i.1 a b c d e)
set_option maxRecDepth 8000 in
theorem rs_ok {x:Int} {l:List Int} (sp:List Int) (fl:Fl) {a b c d e:List Int} (hx:isBase x=true) (hn:l.length≤8192) (hb8:l.all byteB=true) (hl:lens5 a b c d e=true) :
  MCall Tryz.prog 32 [.ptr 0 0,.int .u64 x,.sl (.int .u8) l sp fl] (refO a b c d e) (.ok (.int .i64 0) (rsS x l l.length a b c d e)):=by
 refine mcall_of' (c:=Brs) (fn:=Tryz.f32) (by kernel_rfl) (by kernel_rfl) (by kernel_rfl) (by kernel_rfl) ?_
 have hb:(isBase x && (decide ((0:Int)≤l.length) && (decide ((l.length:Int)≤8192) && true)))=true:=by
  rw [hx,decide_eq_true (by omega),decide_eq_true (by omega)]
  rfl
 refine AWP_headK (cx:=cxRset) rfl rfl cxRset_ok 1 [0,1,2] (by kernel_rfl) (by rw [← cutK_run,rs_head,hl,hb]; rfl) ?_
 have eb:tailN 1 Brs = .seq (.seq (c1 (c1 (tailN 1 Brs))) (.block 0 (.loop (cin (cin (c2 (c1 (tailN 1 Brs)))))))) (tailN 2 Brs):=by kernel_rfl
 rw [eb]
 obtain ⟨s,g1,g2⟩:=Option.map_eq_some_iff.1 ((cutK_run _ _).symm.trans (rs_start x l sp fl (refO a b c d e)))
 refine AWP_seq (AWP_seq (AWP_run (cx:=cxRset) rfl rfl cxRset_ok g1 ?_))
 obtain ⟨ex,t,H⟩:=s
 simp only [Prod.mk.injEq] at g2
 obtain ⟨rfl,g2,rfl⟩:=g2
 refine AWP_block (AWP.less (s:=rsT x l sp fl 0) (g2 ▸ TLe.keep _ _) ?_)
 refine AWP_roundsK (cx:=cxRset) (P:=Tryz.prog) (n:=30) rfl rfl cxRset_ok (rsSt x l sp fl a b c d e) (fun i=>l.length - i.1) [] [0,1,2,7] ?_ ⟨0,Nat.zero_le _⟩
 rintro ⟨i,hi⟩
 have hl' := lens5_layL x l hb8 hl i
 refine Tree.all_run_eq (rsRound_eq x l sp fl i _ _ _ _ _) ?_
 refine ⟨fun hlt=>?_,fun hge=>?_⟩
 ·have hlt:i<l.length:=Int.ofNat_lt.1 (of_decide_eq_true hlt)
  refine all_t (inside_of (Int.natCast_nonneg i) (Int.ofNat_lt.2 hlt)) (all_t hl' (all_t (usable_base hx (by omega)) ⟨⟨i+1,hlt⟩,by show l.length - (i+1)<l.length - i; omega,?_,rfl⟩))
  rw [wrap_i64 (by omega) (by omega)]
  exact TLe.refl _
 ·have hge:¬ i<l.length:=fun h=>of_decide_eq_false hge (Int.ofNat_lt.2 h)
  have hi' : i=l.length:=by omega
  subst hi'
  intro t _
  show AWP _ _ _ _ _ _
  refine AWP.less (s:=[]) (fun _=>.inr rfl) ?_
  obtain ⟨s,g1,g2⟩:=bind_run (rs_end (rsS x l l.length a b c d e))
  refine AWP_run (cx:=cxRset) rfl rfl cxRset_ok g1 ?_
  exact answerM_post g2
def okLast:V→Bool
 | .rng .i64 0 5=>true
 | .int .i64 0=>true
 | _=>false
def refMW {α:Type} (f:List Int→List Int→List Int→List Int→List Int→Tree α):List O→Tree α
 | .cells [.ref 1 3 0 5,v] t :: H=>.req (okLast v) (refM f (.cells [.ref 1 3 0 5,.rng .i64 0 5] t :: H))
 | _=>.fail
theorem refMW_run {f:List Int→List Int→List Int→List Int→List Int→Tree Res} {H:List O} {out:Res} (h:(refMW f H).run=some out) :
  ∃ v a b c d e,H=refH v a b c d e∧okLast v=true∧lens5 a b c d e=true∧(f a b c d e).run=some out:=by
 unfold refMW at h
 split at h
 rotate_left
 ·cases h
 rename_i v t H
 obtain ⟨h1,h⟩:=req_run h
 obtain ⟨a,b,c,d,e,g1,g2,g3⟩:=refM_run h
 refine ⟨v,a,b,c,d,e,?_,h1,g2,g3⟩
 unfold refO refH at g1
 simp only [List.cons.injEq,O.cells.injEq] at g1
 obtain ⟨⟨_,rfl⟩,rfl⟩:=g1
 rfl
theorem mcall_last {f:Nat} {args:List V} {v:V} {A B C D E:List Int} {o:V} {H' : List O} (hv:okLast v=true) (h:MCall Tryz.prog f args (refO A B C D E) (.ok o H')):MCall Tryz.prog f args (refH v A B C D E) (.ok o H'):=by
 unfold okLast at hv
 split at hv
 ·exact h
 ·exact mcall_in (A:=[]) (pre:=[.ref 1 3 0 5]) (post:=[]) (lo:=0) (hi:=5) (by decide) (by decide) h
 ·cases hv
def setRM:MSpec:=fun args H=>match args with
 | [.ptr 0 0,.int .u64 x,.sl (.int .u8) l _ _]=>refMW (fun a b c d e=>.req (isBase x && (decide (l.length≤8192) && l.all byteB)) (.leaf (.ok (.int .i64 0) (refO (layL 1 x l l.length a) (layL 2 x l l.length b) (layL 16 x l l.length c) (layL 17 x l l.length d) (layL 32 x l l.length e))))) H
 | [.ptr 0 0,.int .u64 x,.val (.slice none 0 0)]=>refMW (fun a b c d e=>.req (isBase x) (.leaf (.ok (.int .i64 0) (refO a b c d e)))) H
 | _=>.fail
theorem setRM_ok:MSound Tryz.prog 32 setRM:=by
 intro args H out h
 unfold setRM at h
 split at h
 ·rename_i x l sp fl
  obtain ⟨v,a,b,c,d,e,rfl,hv,hl,h⟩:=refMW_run h
  obtain ⟨h1,h⟩:=req_run h
  cases h
  obtain ⟨hx,hn⟩:=Bool.and_eq_true_iff.1 h1
  obtain ⟨hn,h8⟩:=Bool.and_eq_true_iff.1 hn
  exact mcall_last hv (rs_ok sp fl hx (of_decide_eq_true hn) h8 hl)
 ·rename_i x
  obtain ⟨v,a,b,c,d,e,rfl,hv,hl,h⟩:=refMW_run h
  obtain ⟨h1,h⟩:=req_run h
  cases h
  refine mcall_last hv (msound_fun (cx:=cxRset0) (fn:=Tryz.f32) cxRset_ok (by kernel_rfl) (by kernel_rfl) _ _ _ ?_)
  refine run_req (by kernel_rfl) ?_
  rw [← Tree.fin_run,rs_nil,hl,cond_true,h1]
  rfl
 ·cases h
end Go.Ra

namespace Go.Rj
open Go Go.Ab Go.Proofs Go.Ra
noncomputable def cx156:Cx:={ P:=Tryz.prog,n:=21,tab:=[],mtab:=[],refs:=[],keeps:=[0,2,3,4,9] }
noncomputable def cx138:Cx:={ P:=Tryz.prog,n:=80,tab:=[(112,rowsS),(202,readS),(199,wordS)],mtab:=[],refs:=[],keeps:=[0,1,4,5,6,7,9,10,11,21,57,58,59,60,68,76] }
def numRound (l sp:List Int) (fl:Fl) (s i:Int):Tree St:=
 (.br (decide (0≤i)) (.br (inside i (List.length l)) (.leaf (.normal,[(0,(.sl (.int .u8) (l) (sp) fl)),(3,(.int .u64 (IntKind.wrap IntKind.u64 ↑(BitVec.toNat (BitVec.ofInt 64 (IntKind.wrap IntKind.u64 (s*2 ^ 8)) ||| BitVec.ofInt 64 (IntKind.wrap IntKind.u64 (tI (List.getD l (Int.toNat i) (tI (EC.dflt (EC.int IntKind.u8))))))))))),(4,(.int .i64 (IntKind.wrap IntKind.i64 (i - 1)))),(9,(.bool true))],[])) .fail) (.leaf ((.exit 0),[(0,(.sl (.int .u8) (l) (sp) fl)),(3,(.int .u64 s)),(4,(.int .i64 i)),(9,(.bool false))],[])))
theorem numRound_eq (l sp:List Int) (fl:Fl) (s i:Int):(dcode cx156 (cin (cin (c2 (c1 (c2 (c2 (bodyOf Tryz.f156))))))) [(0,.sl (.int .u8) l sp fl),(3,.int .u64 s),(4,.int .i64 i)] []).run=(numRound l sp fl s i).run:=
 (show (dcode cx156 (cin (cin (c2 (c1 (c2 (c2 (bodyOf Tryz.f156))))))) [(0,.sl (.int .u8) l sp fl),(3,.int .u64 s),(4,.int .i64 i)] []).run=(numRound l sp fl s i).out by kernel_rfl).trans (Tree.out_run _)
def numEnd (s:Int):Tree St:=
 (.leaf (.ret,[(2,(.int .u64 s)),(3,(.int .u64 s))],[]))
theorem numEnd_eq (s:Int):(dcode cx156 (c2 (c2 (c2 (bodyOf Tryz.f156)))) [(3,.int .u64 s)] []).run=(numEnd s).run:=
 (show (dcode cx156 (c2 (c2 (c2 (bodyOf Tryz.f156)))) [(3,.int .u64 s)] []).run=(numEnd s).out by kernel_rfl).trans (Tree.out_run _)
def decodeRound (l:List rowE.ty) (w i:Int):Tree St:=
 let s1:=(tI (Prod.fst (Prod.snd (List.getD l (Int.toNat i) (EC.dflt Go.Rj.rowE))))); let s2:=(List.getD l (Int.toNat i) (EC.dflt Go.Rj.rowE)); (.br (decide (i < ↑(List.length l))) (.br (inside i (List.length l)) (.br (IntKind.wrap IntKind.u32 ↑(BitVec.toNat (BitVec.ofInt 32 (Prod.snd (Prod.snd s2)) &&& BitVec.ofInt 32 127)) != IntKind.wrap IntKind.u32 ↑(BitVec.toNat (BitVec.ofInt 32 w &&& BitVec.ofInt 32 127))) (.leaf (.normal,[(4,(.ptr 0 0)),(5,(.int .i64 0)),(6,(.int .i64 0)),(7,(.int .u32 w)),(9,(.ptr 1 0)),(57,(.sl (.prod [.str,(.int .i64),(.int .u32)]) (l) ([]) Fl.ro)),(58,(.int .i64 (↑(List.length l)))),(59,(.int .i64 (IntKind.wrap IntKind.i64 (i+1)))),(60,(.bool true)),(68,(.bool true))],[(.cells [(.str []),(.int .i64 0),(.int .i64 0),(.int .i64 0),(.int .i64 0),(.int .i64 0)] 35),(.cells [(.str (tS (Prod.fst s2))),(.int .i64 s1),(.int .u32 (Prod.snd (Prod.snd s2)))] 114)])) (.br (Go.Rj.wordF s1 (Prod.snd (Prod.snd s2)) (Go.Rj.rdA s1 w) (Go.Rj.rdB s1 w) (Go.Rj.rdC s1 w) (Go.Rj.numberF s1 w) == w) (.leaf (.ret,[(4,(.ptr 0 0)),(5,(.int .i64 4)),(6,(.int .i64 0)),(7,(.int .u32 w)),(9,(.ptr 1 0)),(10,(.ptr 2 0)),(57,(.sl (.prod [.str,(.int .i64),(.int .u32)]) (l) ([]) Fl.ro)),(58,(.int .i64 (↑(List.length l)))),(59,(.int .i64 i)),(60,(.bool true)),(68,(.bool false)),(76,(.bool true))],[(.cells [(.str (tS (Prod.fst s2))),(.int .i64 (Go.Rj.rdA s1 w)),(.int .i64 (Go.Rj.rdB s1 w)),(.int .i64 (Go.Rj.rdC s1 w)),(.int .i64 0),(.int .i64 (Go.Rj.numberF s1 w))] 35),(.cells [(.str (tS (Prod.fst s2))),(.int .i64 s1),(.int .u32 (Prod.snd (Prod.snd s2)))] 114),(.cells [(.str (tS (Prod.fst s2))),(.int .i64 (Go.Rj.rdA s1 w)),(.int .i64 (Go.Rj.rdB s1 w)),(.int .i64 (Go.Rj.rdC s1 w)),(.int .i64 0),(.int .i64 (Go.Rj.numberF s1 w))] 35)])) (.leaf (.normal,[(4,(.ptr 0 0)),(5,(.int .i64 0)),(6,(.int .i64 0)),(7,(.int .u32 w)),(9,(.ptr 1 0)),(10,(.ptr 2 0)),(57,(.sl (.prod [.str,(.int .i64),(.int .u32)]) (l) ([]) Fl.ro)),(58,(.int .i64 (↑(List.length l)))),(59,(.int .i64 (IntKind.wrap IntKind.i64 (i+1)))),(60,(.bool true)),(68,(.bool false)),(76,(.bool false))],[(.cells [(.str []),(.int .i64 0),(.int .i64 0),(.int .i64 0),(.int .i64 0),(.int .i64 0)] 35),(.cells [(.str (tS (Prod.fst s2))),(.int .i64 s1),(.int .u32 (Prod.snd (Prod.snd s2)))] 114),(.cells [(.str (tS (Prod.fst s2))),(.int .i64 (Go.Rj.rdA s1 w)),(.int .i64 (Go.Rj.rdB s1 w)),(.int .i64 (Go.Rj.rdC s1 w)),(.int .i64 0),(.int .i64 (Go.Rj.numberF s1 w))] 35)])))) .fail) (.leaf ((.exit 1),[(4,(.ptr 0 0)),(5,(.int .i64 0)),(6,(.int .i64 0)),(7,(.int .u32 w)),(57,(.sl (.prod [.str,(.int .i64),(.int .u32)]) (l) ([]) Fl.ro)),(58,(.int .i64 (↑(List.length l)))),(59,(.int .i64 i)),(60,(.bool false))],[(.cells [(.str []),(.int .i64 0),(.int .i64 0),(.int .i64 0),(.int .i64 0),(.int .i64 0)] 35)])))
theorem decodeRound_eq (l:List rowE.ty) (w i:Int):(dcode cx138 (cin (cin (c2 (c1 (c2 (c2 (c2 (bodyOf Tryz.f138)))))))) [(4,.ptr 0 0),(5,.int .i64 0),(6,.int .i64 0),(7,.int .u32 w),(57,.sl rowE l [] .ro),(58,.int .i64 l.length),(59,.int .i64 i)] [.cells [.str [],.int .i64 0,.int .i64 0,.int .i64 0,.int .i64 0,.int .i64 0] 35]).run=(decodeRound l w i).run:=
 (show (dcode cx138 (cin (cin (c2 (c1 (c2 (c2 (c2 (bodyOf Tryz.f138)))))))) [(4,.ptr 0 0),(5,.int .i64 0),(6,.int .i64 0),(7,.int .u32 w),(57,.sl rowE l [] .ro),(58,.int .i64 l.length),(59,.int .i64 i)] [.cells [.str [],.int .i64 0,.int .i64 0,.int .i64 0,.int .i64 0,.int .i64 0] 35]).run=(decodeRound l w i).out by kernel_rfl).trans (Tree.out_run _)
inductive NamesI where
 | zero
 | more (i:Nat) (h:1≤i∧i≤rowsL.length)
def numL:List Int→Int
 | []=>0
 | b :: r=>IntKind.wrap IntKind.u64 ↑(BitVec.toNat (BitVec.ofInt 64 (IntKind.wrap IntKind.u64 (numL r*2 ^ 8)) ||| BitVec.ofInt 64 (IntKind.wrap IntKind.u64 b)))
def numSt (l sp:List Int) (fl:Fl) (j:{ j:Nat // j≤l.length }):T × List O:=
 ([(0,.sl (.int .u8) l sp fl),(3,.int .u64 (numL (l.drop (l.length - j.1)))),(4,.int .i64 ((l.length:Int) - 1 - j.1))],[])
theorem num_ok (l sp:List Int) (fl:Fl) (hl:l.length<1000000000):PCall Tryz.prog 156 [.sl (.int .u8) l sp fl] (.int .u64 (numL l)):=by
 refine pcall_of' (c:=bodyOf Tryz.f156) (fn:=Tryz.f156) (by kernel_rfl) (by kernel_rfl) (by kernel_rfl) (by kernel_rfl) ?_
 have e:bodyOf Tryz.f156 = .seq (c1 (bodyOf Tryz.f156)) (.seq (c1 (c2 (bodyOf Tryz.f156))) (.seq (.seq (c1 (c1 (c2 (c2 (bodyOf Tryz.f156))))) (.block 0 (.loop (cin (cin (c2 (c1 (c2 (c2 (bodyOf Tryz.f156)))))))))) (c2 (c2 (c2 (bodyOf Tryz.f156)))))):=by kernel_rfl
 rw [e]
 generalize hQ:(fun e t H=>(e=AEx.ret∨e = .normal)∧answerV Tryz.prog Tryz.f156.results.toList H t=some (.int .u64 (numL l)))=Q
 have hok:CxOk cx156:=cx0_ok rfl rfl
 refine AWP_seq (AWP_run (cx:=cx156) rfl rfl hok (s:=(.normal,[(0,.sl (.int .u8) l sp fl),(2,.int .u64 0)],[])) (by kernel_rfl) ?_)
 refine AWP_seq (AWP_run (cx:=cx156) rfl rfl hok (s:=(.normal,[(0,.sl (.int .u8) l sp fl),(2,.int .u64 0),(3,.int .u64 0)],[])) (by kernel_rfl) ?_)
 refine AWP_seq (AWP_seq (AWP_run (cx:=cx156) rfl rfl hok (s:=(.normal,[(0,.sl (.int .u8) l sp fl),(2,.int .u64 0),(3,.int .u64 0),(4,.int .i64 (IntKind.wrap .i64 ((l.length:Int) - 1)))],[])) (by kernel_rfl) ?_))
 refine AWP_block ?_
 refine AWP.less (s:=(numSt l sp fl ⟨0,Nat.zero_le _⟩).1) (Fits.tle ⟨rfl,?_,?_,trivial⟩) ?_
 ·show V.int .u64 0=V.int .u64 (numL (l.drop (l.length - 0)))
  rw [Nat.sub_zero,List.drop_length]
  rfl
 ·show V.int .i64 _=V.int .i64 ((l.length:Int) - 1 - (0:Nat))
  rw [wrap_i64 (by omega) (by omega)]
  simp
 refine AWP_rounds (cx:=cx156) (P:=Tryz.prog) (n:=21) rfl rfl hok (numSt l sp fl) (fun j=>l.length - j.1) ?_ ⟨0,Nat.zero_le _⟩
 rintro ⟨j,hj⟩
 refine Tree.all_run_eq (numRound_eq l sp fl (numL (l.drop (l.length - j))) ((l.length:Int) - 1 - j)) ?_
 refine ⟨fun hlt=>⟨fun hin=>?_,fun hin=>?_⟩,fun hge=>?_⟩
 ·have hlt:(0:Int)≤(l.length:Int) - 1 - j:=of_decide_eq_true hlt
  refine ⟨[],_,rfl,⟨j+1,by omega⟩,by show l.length - (j+1)<l.length - j; omega,Fits.tle ⟨rfl,?_,?_,trivial⟩,rfl⟩
  ·have hk:l.length - (j+1)<l.length:=by omega
   have hd:l.drop (l.length - (j+1))=l.getD (l.length - (j+1)) 0 :: l.drop (l.length - j):=by
    rw [List.drop_eq_getElem_cons hk,getD_lt hk]
    congr 2
    omega
   have ht:((l.length:Int) - 1 - j).toNat=l.length - (j+1):=by omega
   show V.int .u64 _=V.int .u64 (numL (l.drop (l.length - (j+1))))
   rw [hd,ht]
   rfl
  ·show V.int .i64 _=V.int .i64 ((l.length:Int) - 1 - (j+1:Nat))
   rw [wrap_i64 (by omega) (by omega)]
   congr 1
   omega
 ·exfalso
  have hlt:(0:Int)≤(l.length:Int) - 1 - j:=of_decide_eq_true hlt
  exact Bool.noConfusion ((inside_of hlt (by omega)).symm.trans hin)
 ·have hge:¬ (0:Int)≤(l.length:Int) - 1 - j:=of_decide_eq_false hge
  have hj' : l.length - j=0:=by omega
  refine ⟨[],_,rfl,?_⟩
  show AWP _ _ _ _ _ _
  rw [hj',List.drop_zero]
  refine AWP.less (s:=[(3,.int .u64 (numL l))]) (Fits.tle ⟨rfl,trivial⟩) ?_
  refine AWP_run (cx:=cx156) rfl rfl hok ((numEnd_eq (numL l)).trans rfl) ?_
  subst hQ
  refine ⟨.inl rfl,?_⟩
  show answerV _ _ _ _=some _
  kernel_rfl
def numS:Ab.Spec:=fun args=>match args with
 | [.sl (.int .u8) l _ _]=>.req (decide (l.length<1000000000)) (.leaf (.int .u64 (numL l)))
 | _=>.fail
theorem numS_ok:Sound Tryz.prog 156 numS:=by
 intro args out h
 unfold numS at h
 split at h
 rotate_left
 ·cases h
 rename_i l sp fl
 obtain ⟨h1,h2⟩:=req_run h
 simp only [Tree.run,Option.some.injEq] at h2
 subst h2
 exact num_ok l sp fl (of_decide_eq_true h1)
end Go.Rj

namespace Go.Rj
open Go Go.Ab Go.Proofs Go.Ra
def and32 (a b:Int):Int:=IntKind.wrap .u32 ↑(BitVec.toNat (BitVec.ofInt 32 a &&& BitVec.ofInt 32 b))
def dMatch (w:Int) (r:RowT):Bool:=cond (and32 r.2.2 127 != and32 w 127) false (wordF r.2.1 r.2.2 (rdA r.2.1 w) (rdB r.2.1 w) (rdC r.2.1 w) (numberF r.2.1 w) == w)
def drow (w:Int):Option RowT:=rowsL.find? (dMatch w)
def readF (w:Int) (r:RowT):InsT:=(r.1,rdA r.2.1 w,rdB r.2.1 w,rdC r.2.1 w,0,numberF r.2.1 w)
def zeroI:InsT:=([],0,0,0,0,0)
def decI (w:Int):InsT:=match drow w with
 | some r=>readF w r
 | none=>zeroI
def decOk (w:Int):Bool:=(drow w).isSome
def gb (l:List Int) (i:Int):Int:=IntKind.wrap .u32 (l.getD i.toNat 0)
def w4 (l:List Int) (at_:Int):Int:=
 or32 (or32 (or32 (gb l at_) (shl32 (gb l (IntKind.wrap .i64 (at_+1))) 8)) (shl32 (gb l (IntKind.wrap .i64 (at_+2))) 16)) (shl32 (gb l (IntKind.wrap .i64 (at_+3))) 24)
theorem cx138_ok:CxOk cx138:=cx1_ok (.cons rowsS_ok (.cons readS_ok (.cons wordS_ok (.nil _)))) (.nil _) rfl rfl
abbrev insO (i:InsT):O:=.cells [.str i.1,.int .i64 i.2.1,.int .i64 i.2.2.1,.int .i64 i.2.2.2.1,.int .i64 i.2.2.2.2.1,.int .i64 i.2.2.2.2.2] 35
def decSt (w:Int) (i:{ i:Nat // i≤rowsL.length∧(rowsL.take i).find? (dMatch w)=none }):T × List O:=
 ([(4,.ptr 0 0),(5,.int .i64 0),(6,.int .i64 0),(7,.int .u32 w),(57,.sl rowE rowsL [] .ro),(58,.int .i64 rowsL.length),(59,.int .i64 i.1)],[insO zeroI])
def decQ (w:Int) (e:AEx) (t:T) (H:List O):Prop:=
 (e = .ret∨e = .normal)∧answerV Tryz.prog Tryz.f138.results.toList H t=some (.tup [insV (decI w),.int .i64 (cond (decOk w) 4 0),.int .i64 (cond (decOk w) 0 22)])
theorem decode_loop (w:Int):AWP Tryz.prog 80 (c2 (c2 (c2 (bodyOf Tryz.f138)))) (decQ w) [(4,.ptr 0 0),(5,.int .i64 0),(6,.int .i64 0),(7,.int .u32 w)] [insO zeroI]:=by
 have e:c2 (c2 (c2 (bodyOf Tryz.f138))) = .seq (.seq (c1 (c1 (c2 (c2 (c2 (bodyOf Tryz.f138)))))) (.block 1 (.loop (cin (cin (c2 (c1 (c2 (c2 (c2 (bodyOf Tryz.f138))))))))))) (c2 (c2 (c2 (c2 (bodyOf Tryz.f138))))):=by kernel_rfl
 rw [e]
 have hlen:=rowsL_len
 refine AWP_seq (AWP_seq (AWP_run (cx:=cx138) rfl rfl cx138_ok (s:=(.normal,[(4,.ptr 0 0),(5,.int .i64 0),(6,.int .i64 0),(7,.int .u32 w),(57,.sl rowE rowsL [] .ro),(58,.int .i64 64),(59,.int .i64 0)],[insO zeroI])) (by kernel_rfl) ?_))
 refine AWP_block ?_
 refine AWP.less (s:=(decSt w ⟨0,Nat.zero_le _,rfl⟩).1) (Fits.tle ⟨rfl,rfl,rfl,rfl,rfl,by kernel_rfl,rfl,trivial⟩) ?_
 refine AWP_rounds (cx:=cx138) (P:=Tryz.prog) (n:=80) rfl rfl cx138_ok (decSt w) (fun i=>64 - i.1) ?_ ⟨0,Nat.zero_le _,rfl⟩
 rintro ⟨i,hi,hnone⟩
 refine Tree.all_run_eq (decodeRound_eq rowsL w i) ?_
 have next:∀ (hlt:i<rowsL.length) (hp:dMatch w (rowsL.getD i ([],0,0))=false),(rowsL.take (i+1)).find? (dMatch w)=none:=fun hlt hp=>take_none hlt hnone hp
 refine ⟨fun hlt=>⟨fun hin=>⟨fun hm=>?_,fun hm=>⟨fun hw=>?_,fun hw=>?_⟩⟩,fun hin=>?_⟩,fun hge=>?_⟩
 ·have hlt:i<rowsL.length:=Int.ofNat_lt.1 (of_decide_eq_true hlt)
  have hp:dMatch w (rowsL.getD i ([],0,0))=false:=by
   unfold dMatch
   rw [show (and32 (rowsL.getD i ([],0,0)).2.2 127 != and32 w 127)=true from hm]
   rfl
  refine ⟨[],_,rfl,⟨i+1,hlt,next hlt hp⟩,by show 64 - (i+1)<64 - i; omega,Fits.tle ⟨rfl,rfl,rfl,rfl,rfl,rfl,?_,trivial⟩,rfl⟩
  show V.int .i64 (IntKind.wrap .i64 ((i:Int)+1))=V.int .i64 ((i+1:Nat):Int)
  rw [wrap_i64 (by omega) (by omega)]
  rfl
 ·have hlt:i<rowsL.length:=Int.ofNat_lt.1 (of_decide_eq_true hlt)
  have hp:dMatch w (rowsL.getD i ([],0,0))=true:=by
   unfold dMatch
   rw [show (and32 (rowsL.getD i ([],0,0)).2.2 127 != and32 w 127)=false from hm]
   exact hw
  have hf:drow w=some (rowsL.getD i ([],0,0)):=take_some hlt hnone hp
  refine ⟨[],_,rfl,?_⟩
  refine ⟨.inl rfl,?_⟩
  have h1:decI w=readF w (rowsL.getD i ([],0,0)):=by unfold decI; rw [hf]
  have h2:decOk w=true:=by unfold decOk; rw [hf]; rfl
  show answerV _ _ _ _=some _
  rw [h1,h2]
  kernel_rfl
 ·have hlt:i<rowsL.length:=Int.ofNat_lt.1 (of_decide_eq_true hlt)
  have hp:dMatch w (rowsL.getD i ([],0,0))=false:=by
   unfold dMatch
   rw [show (and32 (rowsL.getD i ([],0,0)).2.2 127 != and32 w 127)=false from hm]
   exact hw
  refine ⟨[],_,rfl,⟨i+1,hlt,next hlt hp⟩,by show 64 - (i+1)<64 - i; omega,Fits.tle ⟨rfl,rfl,rfl,rfl,rfl,rfl,?_,trivial⟩,rfl⟩
  show V.int .i64 (IntKind.wrap .i64 ((i:Int)+1))=V.int .i64 ((i+1:Nat):Int)
  rw [wrap_i64 (by omega) (by omega)]
  rfl
 ·exfalso
  have hlt:i<rowsL.length:=Int.ofNat_lt.1 (of_decide_eq_true hlt)
  exact Bool.noConfusion ((inside_of (Int.natCast_nonneg i) (Int.ofNat_lt.2 hlt)).symm.trans hin)
 ·have hge:¬ i<rowsL.length:=fun h=>of_decide_eq_false hge (Int.ofNat_lt.2 h)
  have hi' : i=rowsL.length:=by omega
  refine ⟨[],_,rfl,?_⟩
  show AWP _ _ _ _ _ _
  refine AWP.less (s:=[(4,.ptr 0 0),(5,.int .i64 0),(6,.int .i64 0),(7,.int .u32 w)]) (Fits.tle ⟨rfl,rfl,rfl,rfl,trivial⟩) ?_
  refine AWP_run (cx:=cx138) rfl rfl cx138_ok (s:=(.ret,[(4,.ptr 0 0),(5,.int .i64 0),(6,.int .i64 22),(7,.int .u32 w)],[insO zeroI])) (by kernel_rfl) ?_
  refine ⟨.inl rfl,?_⟩
  have hf:drow w=none:=by unfold drow; rw [← hnone,hi',List.take_length]
  have h1:decI w=zeroI:=by unfold decI; rw [hf]
  have h2:decOk w=false:=by unfold decOk; rw [hf]; rfl
  show answerV _ _ _ _=some _
  rw [h1,h2]
  kernel_rfl
def decodeB (l sp:List Int) (fl:Fl) (at_:Int):Tree St:=
 (.br (decide (at_<0)) (.leaf (.ret,[(0,(.sl (.int .u8) (l) (sp) fl)),(1,(.int .i64 at_)),(4,(.ptr 0 0)),(5,(.int .i64 0)),(6,(.int .i64 5)),(11,(.bool true))],[(.cells [(.str []),(.int .i64 0),(.int .i64 0),(.int .i64 0),(.int .i64 0),(.int .i64 0)] 35)])) (.br (decide (↑(List.length l)<at_)) (.leaf (.ret,[(0,(.sl (.int .u8) (l) (sp) fl)),(1,(.int .i64 at_)),(4,(.ptr 0 0)),(5,(.int .i64 0)),(6,(.int .i64 5)),(11,(.bool true))],[(.cells [(.str []),(.int .i64 0),(.int .i64 0),(.int .i64 0),(.int .i64 0),(.int .i64 0)] 35)])) (.br (decide (IntKind.wrap IntKind.i64 (↑(List.length l) - at_)<4)) (.leaf (.ret,[(0,(.sl (.int .u8) (l) (sp) fl)),(1,(.int .i64 at_)),(4,(.ptr 0 0)),(5,(.int .i64 0)),(6,(.int .i64 2)),(11,(.bool false)),(21,(.bool true))],[(.cells [(.str []),(.int .i64 0),(.int .i64 0),(.int .i64 0),(.int .i64 0),(.int .i64 0)] 35)])) (.leaf (.normal,[(0,(.sl (.int .u8) (l) (sp) fl)),(1,(.int .i64 at_)),(4,(.ptr 0 0)),(5,(.int .i64 0)),(6,(.int .i64 0)),(11,(.bool false)),(21,(.bool false))],[(.cells [(.str []),(.int .i64 0),(.int .i64 0),(.int .i64 0),(.int .i64 0),(.int .i64 0)] 35)])))))
theorem decodeB_eq (l sp:List Int) (fl:Fl) (at_:Int):(dcode cx138 (c1 (c2 (bodyOf Tryz.f138))) [(0,.sl (.int .u8) l sp fl),(1,.int .i64 at_),(4,.ptr 0 0),(5,.int .i64 0),(6,.int .i64 0)] [.cells [.str [],.int .i64 0,.int .i64 0,.int .i64 0,.int .i64 0,.int .i64 0] 35]).run=(decodeB l sp fl at_).run:=
 (show (dcode cx138 (c1 (c2 (bodyOf Tryz.f138))) [(0,.sl (.int .u8) l sp fl),(1,.int .i64 at_),(4,.ptr 0 0),(5,.int .i64 0),(6,.int .i64 0)] [.cells [.str [],.int .i64 0,.int .i64 0,.int .i64 0,.int .i64 0,.int .i64 0] 35]).run=(decodeB l sp fl at_).out by kernel_rfl).trans (Tree.out_run _)
def decodeW (l sp:List Int) (fl:Fl) (at_:Int):Tree St:=
 (.br (inside at_ (List.length l)) (.br (inside (IntKind.wrap IntKind.i64 (at_+1)) (List.length l)) (.br (inside (IntKind.wrap IntKind.i64 (at_+2)) (List.length l)) (.br (inside (IntKind.wrap IntKind.i64 (at_+3)) (List.length l)) (.leaf (.normal,[(0,(.sl (.int .u8) (l) (sp) fl)),(1,(.int .i64 at_)),(4,(.ptr 0 0)),(5,(.int .i64 0)),(6,(.int .i64 0)),(7,(.int .u32 (IntKind.wrap IntKind.u32 ↑(BitVec.toNat (BitVec.ofInt 32 (IntKind.wrap IntKind.u32 ↑(BitVec.toNat (BitVec.ofInt 32 (IntKind.wrap IntKind.u32 ↑(BitVec.toNat (BitVec.ofInt 32 (IntKind.wrap IntKind.u32 (tI (List.getD l (Int.toNat at_) (tI (EC.dflt (EC.int IntKind.u8)))))) ||| BitVec.ofInt 32 (IntKind.wrap IntKind.u32 (IntKind.wrap IntKind.u32 (tI (List.getD l (Int.toNat (IntKind.wrap IntKind.i64 (at_+1))) (tI (EC.dflt (EC.int IntKind.u8)))))*2 ^ 8))))) ||| BitVec.ofInt 32 (IntKind.wrap IntKind.u32 (IntKind.wrap IntKind.u32 (tI (List.getD l (Int.toNat (IntKind.wrap IntKind.i64 (at_+2))) (tI (EC.dflt (EC.int IntKind.u8)))))*2 ^ 16))))) ||| BitVec.ofInt 32 (IntKind.wrap IntKind.u32 (IntKind.wrap IntKind.u32 (tI (List.getD l (Int.toNat (IntKind.wrap IntKind.i64 (at_+3))) (tI (EC.dflt (EC.int IntKind.u8)))))*2 ^ 24)))))))],[(.cells [(.str []),(.int .i64 0),(.int .i64 0),(.int .i64 0),(.int .i64 0),(.int .i64 0)] 35)])) .fail) .fail) .fail) .fail)
theorem decodeW_eq (l sp:List Int) (fl:Fl) (at_:Int):(dcode cx138 (c1 (c2 (c2 (bodyOf Tryz.f138)))) [(0,.sl (.int .u8) l sp fl),(1,.int .i64 at_),(4,.ptr 0 0),(5,.int .i64 0),(6,.int .i64 0)] [.cells [.str [],.int .i64 0,.int .i64 0,.int .i64 0,.int .i64 0,.int .i64 0] 35]).run=(decodeW l sp fl at_).run:=
 (show (dcode cx138 (c1 (c2 (c2 (bodyOf Tryz.f138)))) [(0,.sl (.int .u8) l sp fl),(1,.int .i64 at_),(4,.ptr 0 0),(5,.int .i64 0),(6,.int .i64 0)] [.cells [.str [],.int .i64 0,.int .i64 0,.int .i64 0,.int .i64 0,.int .i64 0] 35]).run=(decodeW l sp fl at_).out by kernel_rfl).trans (Tree.out_run _)
def outOf (l:List Int) (at_:Int):Bool:=decide (at_<0) || decide ((l.length:Int)<at_)
def shortOf (l:List Int) (at_:Int):Bool:=decide (IntKind.wrap .i64 ((l.length:Int) - at_)<4)
def dI (l:List Int) (at_:Int):InsT:=cond (outOf l at_ || shortOf l at_) zeroI (decI (w4 l at_))
def dN (l:List Int) (at_:Int):Int:=cond (outOf l at_ || shortOf l at_) 0 (cond (decOk (w4 l at_)) 4 0)
def dE (l:List Int) (at_:Int):Int:=cond (outOf l at_) 5 (cond (shortOf l at_) 2 (cond (decOk (w4 l at_)) 0 22))
set_option maxRecDepth 2000 in
theorem decode_ok (l sp:List Int) (fl:Fl) (at_:Int) (hl:l.length<1000000000) :
  PCall Tryz.prog 138 [.sl (.int .u8) l sp fl,.int .i64 at_] (.tup [insV (dI l at_),.int .i64 (dN l at_),.int .i64 (dE l at_)]):=by
 refine pcall_of' (c:=bodyOf Tryz.f138) (fn:=Tryz.f138) (by kernel_rfl) (by kernel_rfl) (by kernel_rfl) (by kernel_rfl) ?_
 have e:bodyOf Tryz.f138 = .seq (c1 (bodyOf Tryz.f138)) (.seq (c1 (c2 (bodyOf Tryz.f138))) (.seq (c1 (c2 (c2 (bodyOf Tryz.f138)))) (c2 (c2 (c2 (bodyOf Tryz.f138)))))):=by kernel_rfl
 rw [e]
 generalize hQ:(fun e t H=>(e=AEx.ret∨e = .normal)∧answerV Tryz.prog Tryz.f138.results.toList H t=some (.tup [insV (dI l at_),.int .i64 (dN l at_),.int .i64 (dE l at_)]))=Q
 refine AWP_seq (AWP_run (cx:=cx138) rfl rfl cx138_ok (s:=(.normal,[(0,.sl (.int .u8) l sp fl),(1,.int .i64 at_),(4,.ptr 0 0),(5,.int .i64 0),(6,.int .i64 0)],[insO zeroI])) (by kernel_rfl) ?_)
 refine AWP_seq (AWP_code (cx:=cx138) rfl rfl cx138_ok _ _ _ _ (Tree.all_run_eq (decodeB_eq l sp fl at_) ?_))
 have out1:outOf l at_=true→dI l at_=zeroI∧dN l at_=0∧dE l at_=5:=fun h=>by simp [dI,dN,dE,h]
 refine ⟨fun h1=>?_,fun h1=>⟨fun h2=>?_,fun h2=>⟨fun h3=>?_,fun h3=>?_⟩⟩⟩
 ·obtain ⟨a1,a2,a3⟩:=out1 (by unfold outOf; rw [h1]; rfl)
  subst hQ
  refine ⟨.inl rfl,?_⟩
  show answerV _ _ _ _=some _
  rw [a1,a2,a3]
  kernel_rfl
 ·obtain ⟨a1,a2,a3⟩:=out1 (by unfold outOf; rw [h1,h2]; rfl)
  subst hQ
  refine ⟨.inl rfl,?_⟩
  show answerV _ _ _ _=some _
  rw [a1,a2,a3]
  kernel_rfl
 ·have ho:outOf l at_=false:=by unfold outOf; rw [h1,h2]; rfl
  have hs:shortOf l at_=true:=h3
  have a1:dI l at_=zeroI:=by simp [dI,ho,hs]
  have a2:dN l at_=0:=by simp [dN,ho,hs]
  have a3:dE l at_=2:=by simp [dE,ho,hs]
  subst hQ
  refine ⟨.inl rfl,?_⟩
  show answerV _ _ _ _=some _
  rw [a1,a2,a3]
  kernel_rfl
 ·have ho:outOf l at_=false:=by unfold outOf; rw [h1,h2]; rfl
  have hs:shortOf l at_=false:=h3
  have a1:dI l at_=decI (w4 l at_):=by simp [dI,ho,hs]
  have a2:dN l at_=cond (decOk (w4 l at_)) 4 0:=by simp [dN,ho,hs]
  have a3:dE l at_=cond (decOk (w4 l at_)) 0 22:=by simp [dE,ho,hs]
  have g1:¬ at_<0:=of_decide_eq_false h1
  have g2:¬ (l.length:Int)<at_:=of_decide_eq_false h2
  have g3:¬ IntKind.wrap .i64 ((l.length:Int) - at_)<4:=of_decide_eq_false h3
  rw [wrap_i64 (by omega) (by omega)] at g3
  show AWP _ _ _ _ _ _
  refine AWP.less (s:=[(0,.sl (.int .u8) l sp fl),(1,.int .i64 at_),(4,.ptr 0 0),(5,.int .i64 0),(6,.int .i64 0)]) (Fits.tle ⟨rfl,rfl,rfl,rfl,rfl,trivial⟩) ?_
  refine AWP_seq (AWP_code (cx:=cx138) rfl rfl cx138_ok _ _ _ _ (Tree.all_run_eq (decodeW_eq l sp fl at_) ?_))
  have i0:inside at_ l.length=true:=inside_of (by omega) (by omega)
  have i1:inside (IntKind.wrap .i64 (at_+1)) l.length=true:=by rw [wrap_i64 (by omega) (by omega)]; exact inside_of (by omega) (by omega)
  have i2:inside (IntKind.wrap .i64 (at_+2)) l.length=true:=by rw [wrap_i64 (by omega) (by omega)]; exact inside_of (by omega) (by omega)
  have i3:inside (IntKind.wrap .i64 (at_+3)) l.length=true:=by rw [wrap_i64 (by omega) (by omega)]; exact inside_of (by omega) (by omega)
  refine ⟨fun _=>⟨fun _=>⟨fun _=>⟨fun _=>?_,fun h=>Bool.noConfusion (i3.symm.trans h)⟩,fun h=>Bool.noConfusion (i2.symm.trans h)⟩,fun h=>Bool.noConfusion (i1.symm.trans h)⟩,fun h=>Bool.noConfusion (i0.symm.trans h)⟩
  show AWP _ _ _ _ _ _
  refine AWP.less (s:=[(4,.ptr 0 0),(5,.int .i64 0),(6,.int .i64 0),(7,.int .u32 (w4 l at_))]) (Fits.tle ⟨rfl,rfl,rfl,by kernel_rfl,trivial⟩) ?_
  subst hQ
  rw [a1,a2,a3]
  exact decode_loop (w4 l at_)
def decodeS:Ab.Spec:=fun args=>match args with
 | [.sl (.int .u8) l _ _,.int .i64 at_]=>.req (decide (l.length<1000000000)) (.leaf (.tup [insV (dI l at_),.int .i64 (dN l at_),.int .i64 (dE l at_)]))
 | _=>.fail
theorem decodeS_ok:Sound Tryz.prog 138 decodeS:=by
 intro args out h
 unfold decodeS at h
 split at h
 rotate_left
 ·cases h
 rename_i l sp fl at_
 obtain ⟨h1,h2⟩:=req_run h
 simp only [Tree.run,Option.some.injEq] at h2
 subst h2
 exact decode_ok l sp fl at_ (of_decide_eq_true h1)
end Go.Rj
