/-
  A memory copied. Conditions: none.
-/
import Derived.Test.YtnickegmpffneaaGreatDoorPk11
import Derived.Test.YtnickegmpffneaaGreatDoorPk48
import Derived.Test.YtnickegmpffneaaGreatDoorPk49
set_option linter.unusedVariables false
set_option linter.unusedSimpArgs false
namespace Go.Ra
open Go Go.Ab Go.Proofs
noncomputable def cpT0_ps:List Fi:=[]
theorem cpT0_ps_ok:FisOk Tryz.prog cpT0_ps:=trivial
noncomputable def cpT0_ms:List Fi:=[⟨9,Tryz.f9,[0],[],0,[]⟩]
theorem cpT0_ms_ok:FisOk Tryz.prog cpT0_ms:=⟨⟨by kernel_rfl,by kernel_rfl⟩,trivial⟩
noncomputable def cpT0 (d:Nat):Tabs:=deep Tryz.prog {} cpT0_ps cpT0_ms d
noncomputable def cxCp:Cx:={ P:=Tryz.prog,n:=Tryz.f12.ntmps,tab:=[],mtab:=(33,noneM) :: (cpT0 1).mtab,refs:=[],keeps:=[0,2,3,4,5,6,8,14,16] }
theorem cxCp_ok:CxOk cxCp:=⟨.nil _,.cons noneM_ok (deep_ok (T:={}) ⟨.nil _,(fun p h=>by cases h),.nil _,fun p h=>by cases h⟩ cpT0_ps_ok cpT0_ms_ok 1).2.1,.nil _,fun p h=>by cases h⟩
noncomputable abbrev Bcp:Code:=bodyOf Tryz.f12
def cpKeys:List Int:=[1,2,16,17,32]
def cpRt (k:Int):Int:=cond (k == 1) 5 (cond (k == 2) 5 (cond (k == 16) 6 (cond (k == 17) 6 4)))
def cpId (k:Int):Nat:=cond (k == 1) 2 (cond (k == 2) 3 (cond (k == 16) 4 (cond (k == 17) 5 6)))
def cpPg (a b c d e:List Int) (k:Int):O:=.obj (.page 1 .u8 (selF k a b c d e)) [.int .i64 (cpRt k)]
def cpAt (k:Int):List Int→Nat
 | []=>0
 | j :: r=>cond (j == k) 0 (cpAt k r+1)
def cpHas (d:List Int) (k:Int):Bool:=d.any (· == k)
def cpMap (d:List Int):O:=.obj (.map (cpKeys.filter (cpHas d))) ((cpKeys.filter (cpHas d)).map fun k=>.ptr (9+cpAt k d) 0)
def cpOld (a b c d e:List Int):List O:=[.cells [.bool true,.mp 1] 64,.dead,mO 5 a,mO 5 b,mO 6 c,mO 6 d,mO 4 e]
def cpH (q:List Int) (a b c d e:List Int):List O:=cpOld a b c d e++(cpMap q :: .cells [.bool true,.mp 7] 64 :: q.map (cpPg a b c d e))
def cpT (it:V):T:=[(3,.ptr 8 0),(14,it)]
noncomputable def cpLoop:Code:=c1 (tailN 2 Bcp)
noncomputable def cpBody:Code:=cin (cin (c2 cpLoop))
noncomputable def cpOps2:Array Oper:=regOps (c1 cpLoop)
noncomputable def cpOps3:Array Oper:=regOps (c1 cpBody)
noncomputable def cpBlk:Code:=cin (c2 (c2 cpBody))
noncomputable def cpOps4:Array Oper:=regOps (c1 cpBlk)
noncomputable def cpRest:Code:=c2 cpBlk
noncomputable def cpOps7:Array Oper:=regOps (c1 cpRest)
theorem cp_eq:tailN 2 Bcp = .seq (.seq (.region 4 cpOps2 false) (.block 0 (.loop (.seq (.region 5 cpOps3 false) (.seq (.cond (.tmp 16) .skip (.exit 0)) (.block 1 (.seq (.region 6 cpOps4 false) cpRest))))))) (tailN 3 Bcp):=by kernel_rfl
theorem cp_rest:cpRest = .seq (.region 7 cpOps7 false) (c2 cpRest):=by kernel_rfl
noncomputable def cpO3a:Oper:=cpOps3.getD 0 default
noncomputable def cpO3b:Oper:=cpOps3.getD 1 default
noncomputable def cpO4:Oper:=cpOps4.getD 0 default
theorem cp_F:ForMap cxCp cpOps3 cpOps4 (cpOps4.toList.drop 1) cpO3a cpO3b cpO4 14 15 16 17 where
 ops3:=by kernel_rfl
 ops4:=by kernel_rfl
 next:=by kernel_rfl
 ok:=by kernel_rfl
 entry:=by kernel_rfl
 g3a:=by kernel_rfl
 g3b:=by kernel_rfl
 g4:=by kernel_rfl
 t3a:=by kernel_rfl
 t3b:=by kernel_rfl
 t4:=by kernel_rfl
 l19:=by kernel_rfl
 l20:=by kernel_rfl
 l21:=by kernel_rfl
 n1:=by kernel_rfl
 n2:=by kernel_rfl
theorem cp_head (a b c d e:List Int):((dcode cxCp (headN 2 Bcp) (initT 0 [.ptr 0 0]) (memO a b c d e)).bind (cutK [0,3])).run =
  some (.normal,[(0,.ptr 0 0),(3,.ptr 8 0)],memO a b c d e++[.obj (.map []) [],.cells [.bool true,.mp 7] 64]):=by kernel_rfl
theorem cp_pre (H:List O) (it:V) (a b c d e:List Int) (Z:List O):(druns { cxCp with keeps:=[0,3,13] } cpOps2 (cpOps2.toList.take 4) [(0,.ptr 0 0),(3,.ptr 8 0)] (memO a b c d e++Z)).run =
  some (.normal,[(0,.ptr 0 0),(3,.ptr 8 0),(13,.mp 1)],memO a b c d e++Z):=by kernel_rfl
theorem cp_d (k:Int) (v it:V) (H:List O):(druns cxCp cpOps4 (cpOps4.toList.drop 1) (put 17 (.tup [.int .u64 k,v]) (put 16 (.bool true) (put 15 .any (cpT it)))) H).run =
  some (.normal,[(3,.ptr 8 0),(4,.int .u64 k),(5,v),(14,it),(16,.bool true)],H):=by kernel_rfl
theorem cp_7 (k:Int) (id:Nat) (it:V) (H:List O):(druns { cxCp with keeps:=[3,4,14,21] } cpOps7 (cpOps7.toList.take 2) [(3,.ptr 8 0),(4,.int .u64 k),(5,.ptr id 0),(14,it),(16,.bool true)] H).run =
  some (.normal,[(3,.ptr 8 0),(4,.int .u64 k),(14,it),(21,.ptr id 0)],H):=by kernel_rfl
def cpLv:Nat→List (List Int)
 | 0=>[[]]
 | n+1=>(cpLv n).flatMap fun q=>(cpKeys.filter fun k=>!cpHas q k).map fun k=>q++[k]
def cpPairs (n:Nat):List (List Int × Int):=(cpLv n).flatMap fun q=>(cpKeys.filter fun k=>!cpHas q k).map fun k=>(q,k)
noncomputable def cpE (x:List Int × Int) (it:V) (a b c d e:List Int):Option St:=((dcode cxCp (c2 cpRest) [(3,.ptr 8 0),(4,.int .u64 x.2),(6,.ptr (9+x.1.length) 0),(14,it)] (cpH x.1 a b c d e++[cpPg a b c d e x.2])).bind (cutK [3,14])).fin
def cpX (x:List Int × Int) (it:V) (a b c d e:List Int):Option St:=some (.normal,cpT it,cpH (x.1++[x.2]) a b c d e)
theorem cp_0:(cpPairs 0).map cpE=(cpPairs 0).map cpX:=by kernel_rfl
theorem cp_1:(cpPairs 1).map cpE=(cpPairs 1).map cpX:=by kernel_rfl
theorem cp_2:(cpPairs 2).map cpE=(cpPairs 2).map cpX:=by kernel_rfl
theorem cp_3:(cpPairs 3).map cpE=(cpPairs 3).map cpX:=by kernel_rfl
theorem cp_4:(cpPairs 4).map cpE=(cpPairs 4).map cpX:=by kernel_rfl
def cpNew (a b c d e:List Int):List O:=[.cells [.bool true,.mp 8] 64,.obj (.map [1,2,16,17,32]) [.ptr 9 0,.ptr 10 0,.ptr 11 0,.ptr 12 0,.ptr 13 0],mO 5 a,mO 5 b,mO 6 c,mO 6 d,mO 4 e]
def cpFull (q:List Int) (a b c d e:List Int):List O:=(cpH q a b c d e).set 1 (.obj (.map [1,2,16,17,32]) [.ptr 2 0,.ptr 3 0,.ptr 4 0,.ptr 5 0,.ptr 6 0])
def cpOrd (q:List Int):List Nat:=8 :: 7 :: cpKeys.map fun k=>9+cpAt k q
noncomputable def ansD (n:Nat) (κ:List Nat) (rs:List ResultVar) (s:St):Tree Res:=match dropS n κ s with
 | some s' => answerM Tryz.prog rs s'
 | none=>.fail
noncomputable def cpEnd (q:List Int) (a b c d e:List Int):Option Res:=((dcode cxCp (tailN 3 Bcp) [(3,.ptr 8 0)] (cpFull q a b c d e)).bind (ansD 7 (cpOrd q) Tryz.f12.results.toList)).fin
def cpRes (a b c d e:List Int):Res:=.ok (.ptr 7 0) (memO a b c d e++cpNew a b c d e)
theorem cp_5:(cpLv 5).map cpEnd=(cpLv 5).map fun _ a b c d e=>some (cpRes a b c d e):=by kernel_rfl
theorem mem_filter_keys {q:List Int} {k:Int} (hk:k ∈ cpKeys) (hn:cpHas q k=false):k ∈ cpKeys.filter fun k=>!cpHas q k:=by
 rw [List.mem_filter,hn]
 exact ⟨hk,rfl⟩
theorem cpLv_more {n:Nat} {q:List Int} {k:Int} (hq:q ∈ cpLv n) (hk:k ∈ cpKeys) (hn:cpHas q k=false):q++[k] ∈ cpLv (n+1):=
 List.mem_flatMap.2 ⟨q,hq,List.mem_map.2 ⟨k,mem_filter_keys hk hn,rfl⟩⟩
theorem cpPairs_mem {n:Nat} {q:List Int} {k:Int} (hq:q ∈ cpLv n) (hk:k ∈ cpKeys) (hn:cpHas q k=false):(q,k) ∈ cpPairs n:=
 List.mem_flatMap.2 ⟨q,hq,List.mem_map.2 ⟨k,mem_filter_keys hk hn,rfl⟩⟩
theorem cp_step {n:Nat} (hn:n<5) {q:List Int} {k:Int} (hq:q ∈ cpLv n) (hk:k ∈ cpKeys) (hn2:cpHas q k=false) (it:V) (a b c d e:List Int):cpE (q,k) it a b c d e=cpX (q,k) it a b c d e:=by
 have hm:=cpPairs_mem hq hk hn2
 have key:(cpPairs n).map cpE=(cpPairs n).map cpX:=by
  match n,hn with
  | 0,_=>exact cp_0
  | 1,_=>exact cp_1
  | 2,_=>exact cp_2
  | 3,_=>exact cp_3
  | 4,_=>exact cp_4
 exact congrFun (congrFun (congrFun (congrFun (congrFun (congrFun (List.map_inj_left.1 key _ hm) it) a) b) c) d) e
structure CpLeft (left:List (Int × V)) (q:List Int):Prop where
 keys:∀ p ∈ left,p.1 ∈ cpKeys∧p.2 = .ptr (cpId p.1) 0∧cpHas q p.1=false
 nodup:(left.map Prod.fst).Nodup
 lv:q ∈ cpLv q.length
 len:q.length+left.length=5
theorem cpHas_app (q:List Int) (k j:Int):cpHas (q++[k]) j=(cpHas q j || k == j):=by
 unfold cpHas
 rw [List.any_append]
 show (_ || ((k == j) || false))=_
 rw [Bool.or_false]
theorem CpLeft.take {A B:List (Int × V)} {p:Int × V} {q:List Int} (h:CpLeft (A++p :: B) q):CpLeft (A++B) (q++[p.1]):=by
 have hp:=h.keys p (by simp)
 have hnd:=h.nodup
 rw [List.map_append,List.map_cons] at hnd
 have hnd' := List.nodup_append.1 hnd
 have hnd2:=List.nodup_cons.1 hnd'.2.1
 have hlv:=cpLv_more h.lv hp.1 hp.2.2
 refine ⟨fun r hr=>?_,?_,?_,?_⟩
 ·have hm:r ∈ A++p :: B:=by
   rcases List.mem_append.1 hr with hr | hr
   ·exact List.mem_append_left _ hr
   ·exact List.mem_append_right _ (List.mem_cons_of_mem _ hr)
  obtain ⟨g1,g2,g3⟩:=h.keys r hm
  refine ⟨g1,g2,?_⟩
  rw [cpHas_app,g3,Bool.false_or,beq_eq_false_iff_ne]
  rintro e
  rcases List.mem_append.1 hr with hr | hr
  ·exact hnd'.2.2 r.1 (List.mem_map_of_mem hr) p.1 (by simp) e.symm
  ·exact hnd2.1 (e ▸ List.mem_map_of_mem hr)
 ·rw [List.map_append]
  exact List.nodup_append.2 ⟨hnd'.1,hnd2.2,fun x hx y hy=>hnd'.2.2 x hx y (List.mem_cons_of_mem _ hy)⟩
 ·rw [List.length_append]
  exact hlv
 ·have:=h.len
  simp only [List.length_append,List.length_cons,List.length_nil] at this ⊢
  omega
theorem cpH_page {k:Int} (hk:k ∈ cpKeys) (q:List Int) (a b c d e:List Int):(cpH q a b c d e)[cpId k]? = some (cpPg a b c d e k):=by
 have hk:k=1∨k=2∨k=16∨k=17∨k=32:=by simpa [cpKeys] using hk
 rcases hk with rfl | rfl | rfl | rfl | rfl <;> rfl
theorem cpH_len (q:List Int) (a b c d e:List Int):(cpH q a b c d e).length=9+q.length:=by
 unfold cpH cpOld
 simp only [List.length_append,List.length_cons,List.length_nil,List.length_map]
 omega
def pgTy:Nat:=80
theorem cp_ti:(ti Tryz.prog pgTy).map (fun i=>aggTK i.k && (Nat.beq i.size 4097 && lenIs i.size i.zero))=some true:=by kernel_rfl
theorem cp_qL:cpOps7.toList=cpOps7.toList.take 2++[cpOps7.getD 2 default,cpOps7.getD 3 default,cpOps7.getD 4 default]:=by kernel_rfl
set_option maxRecDepth 8000 in
theorem copy_ok {a b c d e:List Int} (hl:lens5 a b c d e=true):MCall Tryz.prog 12 [.ptr 0 0] (memO a b c d e) (cpRes a b c d e):=by
 refine mcall_of' (c:=Bcp) (fn:=Tryz.f12) (by kernel_rfl) (by kernel_rfl) (by kernel_rfl) (by kernel_rfl) ?_
 refine AWP_scope ?_
 refine AWP_headK (cx:=cxCp) rfl rfl cxCp_ok 2 [0,3] (by kernel_rfl) ((cutK_run _ _).symm.trans (cp_head a b c d e)) ?_
 rw [cp_eq]
 obtain ⟨i,hi,hi2⟩:=Option.map_eq_some_iff.1 cp_ti
 obtain ⟨hi3,hi4⟩:=Bool.and_eq_true_iff.1 hi2
 obtain ⟨hi4,hi5⟩:=Bool.and_eq_true_iff.1 hi4
 have hi4:=Nat.eq_of_beq_eq_true hi4
 refine AWP_seq (AWP_forMapW (cx:=cxCp) rfl rfl cxCp_ok cp_F (pre:=cpOps2.toList.take 4) (o2:=cpOps2.getD 4 default) (mt:=62) (kt:=22) (et:=77) (mop:=.tmp 13) (by kernel_rfl) (by kernel_rfl) (by kernel_rfl) (by kernel_rfl) (by kernel_rfl) (by kernel_rfl)
  [0,3,13] (cp_pre [] .any a b c d e _) rfl (mid:=1) (keys:=cpKeys) (vs:=[.ptr 2 0,.ptr 3 0,.ptr 4 0,.ptr 5 0,.ptr 6 0]) rfl rfl
  (fun r left t H=>∃ q,CpLeft left q∧t=cpT (itV r)∧H=cpH q a b c d e) (fun r=>?_) ?_ ?_ ?_ ?_)
 ·refine ⟨cpT (itV r),Fits.tle ⟨rfl,rfl,trivial⟩,[],⟨?_,by decide,.head _,rfl⟩,rfl,rfl⟩
  intro p hp
  have hp:p=(1,.ptr 2 0)∨p=(2,.ptr 3 0)∨p=(16,.ptr 4 0)∨p=(17,.ptr 5 0)∨p=(32,.ptr 6 0):=by simpa [cpKeys] using hp
  rcases hp with rfl | rfl | rfl | rfl | rfl <;> exact ⟨by decide,rfl,rfl⟩
 ·rintro r left t H ⟨q,_,_,rfl⟩
  rfl
 ·rintro r left t H ⟨q,_,rfl,_⟩
  rfl
 ·rintro r A p B t H ⟨q,hL,rfl,rfl⟩
  obtain ⟨k,v⟩:=p
  obtain ⟨hk,hv,hn⟩:=hL.keys (k,v) (by simp)
  simp only at hk hv hn
  subst hv
  have hlen:=hL.len
  rw [List.length_append,List.length_cons] at hlen
  refine ⟨_,_,cp_d k _ (itV r) _,?_⟩
  rw [cp_rest]
  have hsel:(selF k a b c d e).length=4096:=selF_len hl k
  refine AWP_seq (AWP_copyRow (cx:=cxCp) rfl rfl cxCp_ok cp_qL (ty:=pgTy) (pa:=21) (dL:=22) (dA:=6) (by kernel_rfl) (by kernel_rfl) (by kernel_rfl) (by kernel_rfl) (by kernel_rfl) (by kernel_rfl) (by kernel_rfl) (by kernel_rfl) (by kernel_rfl) (by kernel_rfl) (by kernel_rfl) (by kernel_rfl)
   [3,4,14,21] (cp_7 k (cpId k) (itV r) _) (n:=1) (k:=.u8) (l:=selF k a b c d e) (hd:=[.int .i64 (cpRt k)]) rfl (cpH_page hk q a b c d e) hi hi3 (by rw [hsel,hi4]) hi5 rfl rfl ?_)
  show AWP _ _ _ _ _ _
  rw [cpH_len]
  refine AWP.less (s:=[(3,.ptr 8 0),(4,.int .u64 k),(6,.ptr (9+q.length) 0),(14,itV r)]) (Fits.tle ⟨rfl,rfl,rfl,rfl,trivial⟩) ?_
  have he:=cp_step (by omega) hL.lv hk hn (itV r) a b c d e
  unfold cpE cpX at he
  rw [Tree.fin_run,cutK_run] at he
  obtain ⟨⟨ex,t2,H2⟩,g1,g2⟩:=Option.map_eq_some_iff.1 he
  simp only [Prod.mk.injEq] at g2
  obtain ⟨rfl,g2,rfl⟩:=g2
  refine AWP_run (cx:=cxCp) rfl rfl cxCp_ok g1 ⟨.inl rfl,cpT (itV r),g2 ▸ TLe.keep _ _,q++[k],hL.take,rfl,rfl⟩
 ·rintro r t H ⟨q,hL,rfl,rfl⟩
  show AWP _ _ _ _ _ _
  have hq5:q.length=5:=by have:=hL.len; simpa using this
  have hq:=hL.lv
  rw [hq5] at hq
  refine AWP.less (s:=[(3,.ptr 8 0)]) (Fits.tle ⟨rfl,trivial⟩) ?_
  have he:=congrFun (congrFun (congrFun (congrFun (congrFun (List.map_inj_left.1 cp_5 _ hq) a) b) c) d) e
  unfold cpEnd at he
  rw [Tree.fin_run] at he
  obtain ⟨s,g1,g2⟩:=bind_run he
  refine AWP_run (cx:=cxCp) rfl rfl cxCp_ok g1 ?_
  unfold ansD at g2
  split at g2
  ·rename_i s' hs'
   exact ⟨cpOrd q,s',hs',answerM_post g2⟩
  ·cases g2
def copyM:MSpec:=fun args H=>match args with
 | [.ptr 0 0]=>memM (fun a b c d e=>.leaf (cpRes a b c d e)) H
 | _=>.fail
theorem copyM_ok:MSound Tryz.prog 12 copyM:=by
 intro args H out h
 unfold copyM at h
 split at h
 rotate_left
 ·cases h
 obtain ⟨a,b,c,d,e,rfl,hl,h⟩:=memM_run h
 cases h
 exact copy_ok hl
end Go.Ra

namespace Go.Ra
open Go Go.Ab Go.Proofs
def fetK (K:Nat) (x:Int):Nat:=if 4096≤x∧x<12288 then min K (12288 - x).toNat else 0
def fetKL (K:Nat) (a b c d e:List Int) (x:Int):List Int:=(List.range (fetK K x)).map fun (i:Nat)=>byteF a b c d e (x+(i:Int))
theorem fetK_le (K:Nat) (x:Int):fetK K x≤K:=by
 unfold fetK
 split <;> omega
theorem fetKL_len (K:Nat) (a b c d e:List Int) (x:Int):(fetKL K a b c d e x).length=fetK K x:=by
 unfold fetKL
 rw [List.length_map,List.length_range]
theorem pfGo_eqK {a b c d e:List Int} {x:Int} (hl:lens5 a b c d e=true) (hx:rng64 x=true) {K:Nat} (hK:K≤16):∀ (m i:Nat),i+m=K→i≤fetK K x →
  pfGo a b c d e x m i ((List.range i).map fun (j:Nat)=>byteF a b c d e (x+(j:Int)))=pfAns (memO a b c d e) (fetKL K a b c d e x)
 | 0,i,hi,hf=>by
  have:i=fetK K x:=by have:=fetK_le K x; omega
  subst this
  rfl
 | m+1,i,hi,hf=>by
  have hr:=adv_rng x (i:Int)
  have e0:adv x (i:Int)=(x+(i:Int)) % 18446744073709551616:=rfl
  unfold pfGo
  rw [hl,hr,Bool.true_and,Bool.true_and]
  simp only [cond_true]
  simp only [rng64,Bool.and_eq_true,decide_eq_true_eq] at hx
  by_cases hlt:i<fetK K x
  ·have hin:4096≤x∧x+i<12288:=by
    unfold fetK at hlt
    split at hlt <;> omega
   have ea:adv x (i:Int)=x+i:=by rw [e0]; omega
   rw [decide_eq_false (by omega),cond_false,ea,mayB_in (rng_of (by omega) (by omega)) (by omega) (by omega) (by omega) (by omega)]
   have hu:=usable_exec (x:=x+i) (by omega) hin.2
   rw [rng_of (x:=x+i) (by omega) (by omega),Bool.true_and] at hu
   rw [hu]
   simp only [Bool.not_true,cond_false,cond_true]
   rw [← map_more (f:=fun (j:Nat)=>byteF a b c d e (x+(j:Int))) i]
   exact pfGo_eqK hl (rng_of hx.1 hx.2) hK m (i+1) (by omega) hlt
  ·have hif:i=fetK K x:=by omega
   have hans:pfAns (memO a b c d e) ((List.range i).map fun (j:Nat)=>byteF a b c d e (x+(j:Int)))=pfAns (memO a b c d e) (fetKL K a b c d e x):=by
    rw [hif]
    rfl
   rw [hans]
   cases hov:decide (adv x (i:Int)<x)
   ·have hov:=of_decide_eq_false hov
    have ho:mayB (adv x (i:Int)) 1 1=false:=by
     refine mayB_out hr (by omega) (by omega) ?_
     unfold fetK at hif
     split at hif <;> omega
    rw [cond_false,ho]
    rfl
   ·rfl
noncomputable def cxPf10:Cx:={ cxPf with fuel:=11 }
theorem cxPf10_ok:CxOk cxPf10:=cxPf_ok
noncomputable def pf10 (a b c d e:List Int) (x:Int):Option Res:=(mfun cxPf10 Tryz.f14 [.ptr 0 0,.int .u64 x,.int .i64 10] (memO a b c d e)).fin
theorem pf10_eq (a b c d e:List Int) (x:Int):pf10 a b c d e x=pfGo a b c d e x 10 0 []:=by kernel_rfl
theorem pfAns_eqK (K:Nat) (a b c d e:List Int) (x:Int):pfAns (memO a b c d e) (fetKL K a b c d e x) =
  cond (Nat.beq (fetK K x) 0) (some (.ok (.tup [.val (.slice none 0 0),.int .i64 21]) (memO a b c d e))) (some (.ok (.tup [.gro 7 (.int .u8) (fetKL K a b c d e x),.int .i64 0]) (memO a b c d e++[.tok (fetKL K a b c d e x).length 1]))):=by
 cases h:Nat.beq (fetK K x) 0
 ·have hlen:=fetKL_len K a b c d e x
  cases hL:fetKL K a b c d e x with
  | nil =>
   rw [hL] at hlen
   rw [← hlen] at h
   cases h
  | cons y r=>rfl
 ·have hn:fetKL K a b c d e x=[]:=by
   unfold fetKL
   rw [Nat.eq_of_beq_eq_true h]
   rfl
  rw [hn]
  rfl
def fetch10:MSpec:=fun args H=>match args with
 | [.ptr 0 0,.int .u64 x,.int .i64 n]=>memM (fun a b c d e=>.req (rng64 x && n == 10) (.br (Nat.beq (fetK 10 x) 0) (.leaf (.ok (.tup [.val (.slice none 0 0),.int .i64 21]) (memO a b c d e)))
   (.leaf (.ok (.tup [.gro 7 (.int .u8) (fetKL 10 a b c d e x),.int .i64 0]) (memO a b c d e++[.tok (fetKL 10 a b c d e x).length 1]))))) H
 | _=>.fail
theorem fetch10_ok:MSound Tryz.prog 14 fetch10:=by
 intro args H out h
 unfold fetch10 at h
 split at h
 rotate_left
 ·cases h
 rename_i x n
 obtain ⟨a,b,c,d,e,rfl,hl,h⟩:=memM_run h
 obtain ⟨h1,hres⟩:=req_run h
 clear h
 obtain ⟨hx,hn⟩:=Bool.and_eq_true_iff.1 h1
 have hn:n=10:=by simpa using hn
 subst hn
 refine msound_fun (cx:=cxPf10) (fn:=Tryz.f14) cxPf10_ok (by kernel_rfl) (by kernel_rfl) _ _ _ ?_
 refine run_req (by kernel_rfl) ?_
 rw [← Tree.fin_run]
 refine (pf10_eq a b c d e x).trans ?_
 refine (pfGo_eqK hl hx (K:=10) (by omega) 10 0 rfl (Nat.zero_le _)).trans ?_
 rw [pfAns_eqK,← hres,br_cond]
 rfl
noncomputable def cxSm (g:StFn) (f:OutFn):Cx:={ P:=Tryz.prog,n:=Tryz.f4.ntmps,tab:=[(8,begunS),(15,isaS)],mtab:=[(13,stpS g),(10,runS f),(11,worldD),(12,copyM),(14,fetch10)],refs:=[],keeps:=[0,1,2,3,6,7,9,10,11,12,13,14,15,16,17,18,19,20,21,22,23,24,26,34,80,89,99,103] }
noncomputable abbrev Bsm:Code:=bodyOf Tryz.f4
def smHead (s:CpuT) (l m:List Int):Tree St:=
 .br (decide (8192<((l.length:Nat):Int))) (.leaf (.ret,ssA s l m [(6,.bool true),(26,.bool false),(34,.bool true)],[cpuO s])) (.br (decide (8192<((m.length:Nat):Int))) (.leaf (.ret,ssA s l m [(6,.bool true),(26,.bool false),(34,.bool true)],[cpuO s]))
  (.br (setB l && setB m) (.leaf (.normal,ssA s l m [(6,.bool false),(7,.ptr 1 0),(26,.bool false),(34,.bool false)],
  cpuO s :: bothA (wdK 1 l m zeros) (wdK 2 l m zeros) (wdK 16 l m zeros) (wdK 17 l m zeros) (wdK 32 l m zeros))) .fail))
theorem sm_head (g:StFn) (f:OutFn) (s:CpuT) (l m:List Int):(dcode (cxSm g f) (headN 3 Bsm) (initT 0 [.agg (tabS s).l,.sl (.int .u8) l [] .may,.sl (.int .u8) m [] .may]) []).run=(smHead s l m).run:=
 (show _=(smHead s l m).out by kernel_rfl).trans (Tree.out_run _)
def smNo:Option V:=some (.bool false)
def smRun (f:OutFn) (s:CpuT) (l A B C D E:List Int):Out:=runI f (isV l).1 (isV l).2.1 (tabS s) A B C D E
def smX (L:Bool) (g:StFn) (f:OutFn) (s:CpuT) (A B C D E:List Int):Option V:=
 let o:=g (tabS s) A B C D E
 let l:=fetKL 10 A B C D E s.pc
 let u:=smRun f s l A B C D E
 let rest:=cond (true && L) (cond (rng64 s.pc && true) (cond (Nat.beq (fetK 10 s.pc) 0) (some (.bool (o.err == 21))) (cond (decide (l.length<1000000000)) (cond ((isV l).2.2 != 0) (some (.bool (o.err == 22)))
  (cond ((isV l).2.1 == 2) (some (.bool true)) (cond (true && L) (cond (fineB (tabS s)) (cond (eqS (tabS u.s) (tabS o.s)) (cond (u.ev == o.ev) (some (.bool (u.err == o.err))) smNo) smNo) none) none))) none)) none) none
 cond (true && L) (cond (true && L) (cond (true && L) (cond (fineB (tabS s)) (cond (true && L) (cond (fineB (tabS s)) (cond (!(eqS (tabS o.s) (tabS o.s))) smNo (cond (o.ev != o.ev) smNo (cond (o.err != o.err) smNo (cond (o.err != 0) (cond (!(eqS (tabS o.s) (tabS s))) smNo rest) rest)))) none) none) none) none) none) none
noncomputable def smE (g:StFn) (f:OutFn) (s:CpuT) (A B C D E:List Int):Option V:=((dcode (cxSm g f) (tailN 3 Bsm) [(3,.ptr 0 0),(7,.ptr 1 0)] (cpuO s :: bothA A B C D E)).bind (answer Tryz.prog Tryz.f4.results.toList)).fin
theorem sm_eq (g:StFn) (f:OutFn) (s:CpuT) (A B C D E:List Int):smE g f s A B C D E=smX (lens5 A B C D E) g f s A B C D E:=by kernel_rfl
theorem map_getD {f:Nat→Int} {n i:Nat} (h:i<n):((List.range n).map f).getD i 0=f i:=by
 rw [List.getD_eq_getElem?_getD,List.getElem?_map,List.getElem?_range h]
 rfl
theorem isV_front {l m:List Int} (hl:l.length<1000) (hm:m.length<1000) (hlen:min l.length 4=min m.length 4) (h:∀ i,i<4→i<l.length→l.getD i 0=m.getD i 0):isV l=isV m:=by
 have ho:∀ l:List Int,Cmp.outOf l 0=false:=fun l=>by
  unfold Cmp.outOf
  rw [decide_eq_false (by omega),decide_eq_false (by omega)]
  rfl
 have ho' : ∀ l:List Int,Rj.outOf l 0=false:=ho
 have hs:∀ {l:List Int},l.length<1000→Cmp.shortOf l 0=decide (l.length<2):=fun {l} hl=>by
  unfold Cmp.shortOf
  rw [wrap_i64 (by omega) (by omega)]
  by_cases h:((l.length:Nat):Int) - 0<2
  ·rw [decide_eq_true h,decide_eq_true (by omega)]
  ·rw [decide_eq_false h,decide_eq_false (by omega)]
 have hs' : ∀ {l:List Int},l.length<1000→Rj.shortOf l 0=decide (l.length<4):=fun {l} hl=>by
  unfold Rj.shortOf
  rw [wrap_i64 (by omega) (by omega)]
  by_cases h:((l.length:Nat):Int) - 0<4
  ·rw [decide_eq_true h,decide_eq_true (by omega)]
  ·rw [decide_eq_false h,decide_eq_false (by omega)]
 by_cases h2:l.length<2
 ·have a:decide (lenI l<2)=true:=decide_eq_true (by unfold lenI; omega)
  have b:decide (lenI m<2)=true:=decide_eq_true (by unfold lenI; omega)
  unfold isV
  rw [a,b,cond_true,cond_true]
 have a:decide (lenI l<2)=false:=decide_eq_false (by unfold lenI; omega)
 have b:decide (lenI m<2)=false:=decide_eq_false (by unfold lenI; omega)
 have t0:(0:Int).toNat=0:=rfl
 have t1:(IntKind.wrap .i64 (0+1)).toNat=1:=rfl
 have t2:(IntKind.wrap .i64 (0+2)).toNat=2:=rfl
 have t3:(IntKind.wrap .i64 (0+3)).toNat=3:=rfl
 have ec:c3 l=c3 m:=by
  unfold c3
  rw [h 0 (by omega) (by omega)]
 have e2:Cmp.w2 l 0=Cmp.w2 m 0:=by
  have g0:Cmp.gb l 0=Cmp.gb m 0:=by unfold Cmp.gb; rw [t0,h 0 (by omega) (by omega)]
  have g1:Cmp.gb l (IntKind.wrap .i64 (0+1))=Cmp.gb m (IntKind.wrap .i64 (0+1)):=by unfold Cmp.gb; rw [t1,h 1 (by omega) (by omega)]
  unfold Cmp.w2
  rw [g0,g1]
 unfold isV
 rw [a,b,ec]
 unfold Cmp.dI Cmp.dN Cmp.dE Rj.dI Rj.dN Rj.dE
 rw [ho,ho,ho',ho',hs hl,hs hm,hs' hl,hs' hm,e2,decide_eq_false h2,decide_eq_false (show ¬ m.length<2 by omega)]
 by_cases h4:l.length<4
 ·rw [decide_eq_true h4,decide_eq_true (show m.length<4 by omega)]
  simp only [Bool.or_true,Bool.or_false,cond_true,cond_false]
 ·have e4:Rj.w4 l 0=Rj.w4 m 0:=by
   have g0:Rj.gb l 0=Rj.gb m 0:=by unfold Rj.gb; rw [t0,h 0 (by omega) (by omega)]
   have g1:Rj.gb l (IntKind.wrap .i64 (0+1))=Rj.gb m (IntKind.wrap .i64 (0+1)):=by unfold Rj.gb; rw [t1,h 1 (by omega) (by omega)]
   have g2:Rj.gb l (IntKind.wrap .i64 (0+2))=Rj.gb m (IntKind.wrap .i64 (0+2)):=by unfold Rj.gb; rw [t2,h 2 (by omega) (by omega)]
   have g3:Rj.gb l (IntKind.wrap .i64 (0+3))=Rj.gb m (IntKind.wrap .i64 (0+3)):=by unfold Rj.gb; rw [t3,h 3 (by omega) (by omega)]
   unfold Rj.w4
   rw [g0,g1,g2,g3]
  rw [decide_eq_false h4,decide_eq_false (show ¬ m.length<4 by omega),e4]
theorem dec_same (A B C D E:List Int) (x:Int):isV (fetL A B C D E x)=isV (fetKL 10 A B C D E x):=by
 have n4:=fetL_len A B C D E x
 have n10:=fetKL_len 10 A B C D E x
 have l4:=fetN_le x
 have l10:=fetK_le 10 x
 have hmin:min (fetN x) 4=min (fetK 10 x) 4:=by
  unfold fetN fetK
  split <;> omega
 refine isV_front (by omega) (by omega) (by omega) fun i hi hlt=>?_
 unfold fetL fetKL
 rw [map_getD (by omega),map_getD (by omega)]
theorem stL_isV (f:OutFn) (L:List Int) (s:CpuT) (A B C D E:List Int):stL f L s A B C D E=cond ((isV L).2.2 != 0) ⟨s,0,22,A,B,C,D,E⟩ (cond ((isV L).2.1 == 2) (runI f (Cmp.wideA (isV L).1) (isV L).2.1 s A B C D E) (runI f (isV L).1 (isV L).2.1 s A B C D E)):=by
 unfold isV stL
 cases decide (lenI L<2)
 rotate_left
 ·rfl
 simp only [cond_false]
 cases c3 L
 ·simp only [cond_false]
  cases he:Rj.dE L 0 != 0
  ·have h2:(Rj.dN L 0 == 2)=false:=by rw [dN_r he]; rfl
   rw [h2]
   rfl
  ·rfl
 ·simp only [cond_true]
  cases he:Cmp.dE L 0 != 0
  ·have h2:(Cmp.dN L 0 == 2)=true:=by rw [dN_c he]; rfl
   rw [h2]
   rfl
  ·rfl
theorem beq_no {n:Nat} (hn:n ≠ 0):Nat.beq n 0=false:=by
 cases n with
 | zero=>exact absurd rfl hn
 | succ n=>rfl
theorem fet_none (x:Int):Nat.beq (fetK 10 x) 0=Nat.beq (fetN x) 0:=by
 by_cases h:4096≤x∧x<12288
 ·have h1:fetK 10 x ≠ 0:=by
   unfold fetK
   rw [if_pos h]
   omega
  have h2:fetN x ≠ 0:=by
   unfold fetN
   rw [if_pos h]
   omega
  rw [beq_no h1,beq_no h2]
 ·have h1:fetK 10 x=0:=by
   unfold fetK
   rw [if_neg h]
  have h2:fetN x=0:=by
   unfold fetN
   rw [if_neg h]
  rw [h1,h2]
def FEr (f:OutFn):Prop:=∀ nm s a b c d m sz A B C D E,Fine s→lens5 A B C D E=true→(f nm s a b c d m sz A B C D E).err ≠ 0→(f nm s a b c d m sz A B C D E).s=s
theorem smX_true {f:OutFn} (hf:FEr f) {s:CpuT} {A B C D E:List Int} (hs:Fine s) (hl:lens5 A B C D E=true):smX true (stG f) f s A B C D E=some (.bool true):=by
 have hts:tabS s=s:=cpu_tab hs.len
 have hfb:=fineB_of hs
 have h10:decide ((fetKL 10 A B C D E s.pc).length<1000000000)=true:=decide_eq_true (by rw [fetKL_len]; have:=fetK_le 10 s.pc; omega)
 have e1:=dec_same A B C D E s.pc
 unfold smX smRun stG
 dsimp only
 rw [hts,hfb,hs.pc,h10,fet_none,stL_isV,e1]
 simp only [eqS_self,bne_self_eq_false,Bool.not_true,cond_false,cond_true,Bool.and_self]
 cases hn:Nat.beq (fetN s.pc) 0
 ·simp only [cond_false]
  generalize isV (fetKL 10 A B C D E s.pc)=W
  have key:∀ i n,(runI f i n s A B C D E).err ≠ 0→(runI f i n s A B C D E).s=s:=fun i n h=>hf _ _ _ _ _ _ _ _ _ _ _ _ _ hs hl h
  cases hd:W.2.2 != 0
  ·simp only [cond_false]
   cases h2:W.2.1 == 2
   ·have hs' := key W.1 W.2.1
    simp only [cond_false]
    generalize runI f W.1 W.2.1 s A B C D E=o at hs'
    simp only [eqS_self,bne_self_eq_false,beq_self_eq_true,Bool.not_true,cond_false,cond_true]
    cases he:o.err != 0
    ·rfl
    ·have he:o.err ≠ 0:=by simpa using he
     rw [hs' he,hts,eqS_self]
     rfl
   ·have hs' := key (Cmp.wideA W.1) W.2.1
    simp only [cond_true]
    generalize runI f (Cmp.wideA W.1) W.2.1 s A B C D E=o at hs'
    try simp only [eqS_self,bne_self_eq_false,beq_self_eq_true,Bool.not_true,cond_false,cond_true]
    cases he:o.err != 0
    ·rfl
    ·have he:o.err ≠ 0:=by simpa using he
     rw [hs' he,hts,eqS_self]
     rfl
  ·simp only [cond_true,hts,eqS_self]
   rfl
 ·simp only [cond_true,hts,eqS_self]
  rfl
theorem cxSm_ok {g:StFn} {f:OutFn} (h1:MSound Tryz.prog 13 (stpS g)) (h2:MSound Tryz.prog 10 (runS f)):CxOk (cxSm g f):=
 ⟨.cons begunS_ok (.cons isaS_ok (.nil _)),.cons h1 (.cons h2 (.cons worldD_ok (.cons copyM_ok (.cons fetch10_ok (.nil _))))),.nil _,fun p h=>by cases h⟩
set_option maxRecDepth 8000 in
theorem same_law {f:OutFn} (hf:FEr f) (h2:MSound Tryz.prog 10 (runS f)) {s:CpuT} (hs:Fine s) {l m:List Int} (h3:l.all byteB=true) (h4:m.all byteB=true) :
  PCall Tryz.prog 4 [.agg s.l,.sl (.int .u8) l [] .may,.sl (.int .u8) m [] .may] (.bool true):=by
 have hok:=cxSm_ok (stpS_ok h2) h2
 have hts:tabS s=s:=cpu_tab hs.len
 rw [← hts]
 refine pcall_of' (c:=Bsm) (fn:=Tryz.f4) (by kernel_rfl) (by kernel_rfl) (by kernel_rfl) (by kernel_rfl) ?_
 refine AWP_headE (cx:=cxSm (stG f) f) rfl rfl hok 3 (by kernel_rfl) (sm_head (stG f) f s l m) ?_
 refine ⟨fun _=>⟨.inl rfl,by kernel_rfl⟩,fun hx=>⟨fun _=>⟨.inl rfl,by kernel_rfl⟩,fun hy=>?_⟩⟩
 have hx:=of_decide_eq_false hx
 have hy:=of_decide_eq_false hy
 have b1:setB l=true:=by
  unfold setB
  rw [h3,decide_eq_true (by omega)]
  rfl
 have b2:setB m=true:=by
  unfold setB
  rw [h4,decide_eq_true (by omega)]
  rfl
 refine all_t (by rw [b1,b2]; rfl) ?_
 show AWP _ _ _ _ _ _
 refine AWP.less (s:=[(3,.ptr 0 0),(7,.ptr 1 0)]) (Fits.tle ⟨rfl,rfl,trivial⟩) ?_
 have hl:=lens5_wd b1 b2 lens_zeros
 generalize wdK 1 l m zeros=A at hl
 generalize wdK 2 l m zeros=B at hl
 generalize wdK 16 l m zeros=C at hl
 generalize wdK 17 l m zeros=D at hl
 generalize wdK 32 l m zeros=E at hl
 have he:=(sm_eq (stG f) f s A B C D E).trans ((congrArg (fun L=>smX L (stG f) f s A B C D E) hl).trans (smX_true hf hs hl))
 unfold smE at he
 rw [Tree.fin_run] at he
 obtain ⟨r,q1,q2⟩:=bind_run he
 exact AWP_run (cx:=cxSm (stG f) f) rfl rfl hok q1 (answer_post q2)
theorem outA_err:FEr outA:=fun nm s a b c d m sz A B C D E hs hl h=>by
 obtain ⟨_,_,h3,_⟩:=outA_is nm hs a b c d m sz hl
 exact (h3 h).1
theorem same_call (x:EC.tys [cpuE,.sl (.int .u8),.sl (.int .u8)]) (h:okEs [cpuE,.sl (.int .u8),.sl (.int .u8)] x):PCall Tryz.prog 4 (argVs [cpuE,.sl (.int .u8),.sl (.int .u8)] x) (.bool true):=by
 rw [argS]
 exact same_law outA_err runA_ok (cpuA_fine h.1) (ok_bytes h.2.1) (ok_bytes h.2.2)
end Go.Ra
