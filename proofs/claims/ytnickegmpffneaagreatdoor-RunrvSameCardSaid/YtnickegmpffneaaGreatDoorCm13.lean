/-
  compact's Decode: a row's word. Conditions: none.
-/
import Derived.Test.YtnickegmpffneaaGreatDoorPk10
import Derived.Test.YtnickegmpffneaaGreatDoorPk16
set_option linter.unusedVariables false
set_option linter.unusedSimpArgs false
namespace Go.Cmp
open Go Go.Ab Go.Proofs
noncomputable def cxOp:Cx:={ P:=Tryz.prog,n:=53,tab:=[],mtab:=[],refs:=[],keeps:=[0,1,2,4,5,6,7,11,12,13,14,28],fuel:=5 }
def i64 (n:Int):Int:=IntKind.wrap .i64 n
def bitX (x:RowT) (k:Nat):Int:=u16 (u8w (((x.2.1.getD k 0).toNat:Int) - 48))
def bitW (w:Int) (k:Nat):Int:=and16 (Int.fdiv w (2 ^ k)) 1
def opT (x:RowT) (w:Int):Tree V:=
 .br (bitX x 0 != bitW w 15) (tB false) (.br (bitX x 1 != bitW w 14) (tB false) (.br (bitX x 2 != bitW w 13) (tB false)
  (.br (bitX x (x.2.1.length - 2) == bitW w 1) (tB (bitX x (x.2.1.length - 1) == and16 w 1)) (tB false))))
noncomputable def opR (x:RowT) (w:Int):Option V:=(dfun cxOp Tryz.f200 [.agg (rowL x),.int .u16 w]).out
def opO (x:RowT) (w:Int):Option V:=(opT x w).out
theorem op_0:(partR 0).map opR=(partR 0).map opO:=by kernel_rfl
theorem op_1:(partR 1).map opR=(partR 1).map opO:=by kernel_rfl
theorem op_2:(partR 2).map opR=(partR 2).map opO:=by kernel_rfl
theorem op_3:(partR 3).map opR=(partR 3).map opO:=by kernel_rfl
theorem op_4:(partR 4).map opR=(partR 4).map opO:=by kernel_rfl
theorem op_5:(partR 5).map opR=(partR 5).map opO:=by kernel_rfl
theorem op_all {x:RowT} (hx:x ∈ rowsL):opR x=opO x:=rows_all op_0 op_1 op_2 op_3 op_4 op_5 hx
def opF (x:RowT) (w:Int):Bool:=bitX x 0 == bitW w 15 && (bitX x 1 == bitW w 14 && (bitX x 2 == bitW w 13 && (bitX x (x.2.1.length - 2) == bitW w 1 && bitX x (x.2.1.length - 1) == and16 w 1)))
theorem opT_run (x:RowT) (w:Int):(opT x w).run=some (.bool (opF x w)):=by
 unfold opT opF tB bne
 simp only [br_run]
 cases (bitX x 0 == bitW w 15) <;> cases (bitX x 1 == bitW w 14) <;> cases (bitX x 2 == bitW w 13) <;> cases (bitX x (x.2.1.length - 2) == bitW w 1) <;> rfl
def opS:Ab.Spec:=fun args=>match args with
 | [.agg [.str n,.str b,.int .i64 lo,.int .i64 hi,.int .i64 by_,.str no,.str lg],.int .u16 w]=>.req (isRowB (n,b,lo,hi,by_,no,lg)) (.leaf (.bool (opF (n,b,lo,hi,by_,no,lg) w)))
 | _=>.fail
theorem opS_ok:Sound Tryz.prog 200 opS:=by
 intro args out h
 unfold opS at h
 split at h
 rotate_left
 ·cases h
 rename_i n b lo hi by_ no lg w
 obtain ⟨h1,h⟩:=req_run h
 have h:=leaf_out h
 subst h
 have hw:=congrFun (op_all (isRowB_mem h1)) w
 unfold opR opO at hw
 exact pcall_fun' (cx:=cxOp) (fn:=Tryz.f200) (cx0_ok rfl rfl) (by kernel_rfl) (by kernel_rfl) rfl ((Tree.out_run _).symm.trans (hw.trans ((Tree.out_run _).trans (opT_run _ _))))
def takeV (w k l:Int):Int:=and16 (Int.fdiv w (2 ^ min l.toNat 16)) (mask16 k)
abbrev TakF:=Int→Int→Int→Int
def pickN (n:Int) (K:Int→Tree Res):List Int→Tree Res
 | []=>.fail
 | j :: r=>.br (n == j) (K j) (pickN n K r)
theorem pickN_run {n:Int} {K:Int→Tree Res} {res:Res}:∀ {l:List Int},(pickN n K l).run=some res→(K n).run=some res
 | [],h=>by cases h
 | j :: r,h=>by
  unfold pickN at h
  rw [br_run] at h
  cases hb:(n == j)
  ·rw [hb,cond_false] at h
   exact pickN_run h
  ·rw [hb,cond_true] at h
   rw [eq_of_beq hb]
   exact h
def takeK (tk:TakF) (w l k:Int):Res:=.ok (.int .u16 (tk w k l)) [.cells [.int .u16 w,.int .i64 l] 300]
def takeM (tk:TakF):MSpec:=fun args H=>match args,H with
 | [.ptr 0 0,.int .i64 k],[.cells [.int .u16 w,.int .i64 l] 300]=>pickN (IntKind.wrap .i64 (l - k)) (fun l=>pickN k (fun k=>.leaf (takeK tk w l k)) [1,2,3,4,5]) [0,1,2,3,4,5,6,7,8,9,10,11,12,13,14,15]
 | _,_=>.fail
theorem pickN_mem {n:Int} {K:Int→Tree Res} {res:Res}:∀ {l:List Int},(pickN n K l).run=some res→n ∈ l
 | [],h=>by cases h
 | j :: r,h=>by
  unfold pickN at h
  rw [br_run] at h
  cases hb:(n == j)
  ·rw [hb,cond_false] at h
   exact List.mem_cons_of_mem _ (pickN_mem h)
  ·rw [eq_of_beq hb]
   exact List.mem_cons_self
noncomputable def cx236:Cx:={ P:=Tryz.prog,n:=26,tab:=[],mtab:=[],refs:=[],keeps:=[0,1,4] }
theorem take_eq (w l k:Int):(mfun cx236 Tryz.f236 [.ptr 0 0,.int .i64 k] [.cells [.int .u16 w,.int .i64 l] 300]).out=(Tree.br (decide (0≤IntKind.wrap .i64 (l - k))) (.br (decide (0≤k)) (.leaf (takeK takeV w (IntKind.wrap .i64 (l - k)) k)) .fail) .fail).out:=by kernel_rfl
theorem takeM_ok:MSound Tryz.prog 236 (takeM takeV):=by
 intro args H res h
 unfold takeM at h
 split at h
 rotate_left
 ·cases h
 rename_i k w l
 have m1:=pickN_mem h
 have h:=pickN_run h
 have m2:=pickN_mem h
 have h:=leaf_out (pickN_run h)
 subst h
 have g1:0≤IntKind.wrap .i64 (l - k):=by
  simp only [List.mem_cons,List.not_mem_nil,or_false] at m1
  omega
 have g2:0≤k:=by
  simp only [List.mem_cons,List.not_mem_nil,or_false] at m2
  omega
 exact mcall_fun' (cx:=cx236) (fn:=Tryz.f236) (cx0_ok rfl rfl) (by kernel_rfl) (by kernel_rfl) rfl ((Tree.out_run _).symm.trans ((take_eq w l k).trans ((Tree.out_run _).trans ((br_t (decide_eq_true g1)).trans ((br_t (decide_eq_true g2)).trans rfl)))))
def isRowF (x:RowT) (fl:List FldT):Bool:=isRowB x && flds x == fl
def fieldsL (fl:List FldT):Ab.Spec:=fun args=>match args with
 | [.agg [.str n,.str b,.int .i64 lo,.int .i64 hi,.int .i64 by_,.str no,.str lg]]=>.req (isRowF (n,b,lo,hi,by_,no,lg) fl) (.leaf (.sl fldE fl [] .ro))
 | _=>.fail
theorem fieldsL_ok (fl:List FldT):Sound Tryz.prog 38 (fieldsL fl):=by
 intro args out h
 unfold fieldsL at h
 split at h
 rotate_left
 ·cases h
 rename_i n b lo hi by_ no lg
 obtain ⟨h1,h⟩:=req_run h
 cases h
 unfold isRowF at h1
 rw [Bool.and_eq_true] at h1
 have h2:=eq_of_beq h1.2
 refine fieldsS_ok _ _ ?_
 unfold fieldsS
 rw [← h2]
 exact (br_t h1.1).trans rfl
noncomputable def cxRd (fl:List FldT) (tk:TakF):Cx:={ P:=Tryz.prog,n:=97,tab:=[(38,fieldsL fl),(86,faultyS)],mtab:=[(236,takeM tk)],refs:=[],keeps:=[0,1,2,4,5,6,7,8,10,11,20,21,22,23,32,36,37,43,45,49,53,57,85],fuel:=12 }
theorem cxRd_ok (fl:List FldT):CxOk (cxRd fl takeV):=cx1_ok (.cons (fieldsL_ok fl) (ok1 faultyS_ok)) (.cons takeM_ok (fun p h=>by cases h)) rfl rfl
def pairsL:List (RowT × List FldT):=rowsL.zip (fldL.map (·.2))
theorem pairs_eq:(rowsL.map fun x=>(x,flds x))=pairsL:=by kernel_rfl
theorem pairs_mem {x:RowT} (hx:x ∈ rowsL):(x,flds x) ∈ pairsL:=by
 rw [← pairs_eq]
 exact List.mem_map_of_mem hx
theorem six_all {α β:Type} {l:List α} {f g:α→β} (hl:l.length≤36)
  (h:∀ k,k<6→((l.drop (6*k)).take 6).map f=((l.drop (6*k)).take 6).map g) {x:α} (hx:x ∈ l):f x=g x:=by
 obtain ⟨i,hi,rfl⟩:=List.mem_iff_getElem.1 hx
 have hk:i / 6<6:=by omega
 have hm:l[i] ∈ (l.drop (6*(i / 6))).take 6:=by
  refine List.mem_of_getElem? (i:=i - 6*(i / 6)) ?_
  rw [List.getElem?_take,if_pos (by omega),List.getElem?_drop,show 6*(i / 6)+(i - 6*(i / 6))=i by omega]
  exact List.getElem?_eq_getElem hi
 exact List.map_inj_left.1 (h _ hk) _ hm
def or64 (a b:Int):Int:=IntKind.wrap .i64 ↑(BitVec.toNat (BitVec.ofInt 64 a ||| BitVec.ofInt 64 b))
section
variable (tk:TakF)
def takeF (f:FldT) (left w:Int):Int:=cond f.2.2.2.2 (i64 (i64 (tk w f.1 left)+8)) (i64 (tk w f.1 left))
def finR (x:RowT) (i:InsT):Option V:=some (.tup [.agg (insL i),.bool (faultyF x i == 0)])
def noR:Option V:=some (.tup [.agg [.str [],.int .i64 0,.int .i64 0,.int .i64 0,.int .i64 0,.int .i64 0],.bool false])
def signR (x:RowT) (a b c n top:Int):Option V:=
 cond (decide (x.2.2.1<0)) (cond (Int.fdiv n (2 ^ min (top - 1).toNat 64) != 0) (finR x (x.1,a,b,c,0,i64 (n - i64 (1*2 ^ min top.toNat 64)))) (finR x (x.1,a,b,c,0,n))) (finR x (x.1,a,b,c,0,n))
def readR (x:RowT) (w:Int):List FldT→Int→Int→Int→Int→Int→Int→Option V
 | [],_,a,b,c,n,top=>signR x a b c n top
 | f :: r,left,a,b,c,n,top =>
  cond (f.2.1 == 0) (cond (takeF tk f (left - f.1) w != i64 f.2.2.1) noR (readR x w r (left - f.1) a b c n top))
  (cond (f.2.1 == 97) (readR x w r (left - f.1) (takeF tk f (left - f.1) w) b c n top)
  (cond (f.2.1 == 98) (readR x w r (left - f.1) a (takeF tk f (left - f.1) w) c n top)
  (cond (f.2.1 == 99) (readR x w r (left - f.1) a b (takeF tk f (left - f.1) w) n top)
  (readR x w r (left - f.1) a b c (or64 n (i64 (takeF tk f (left - f.1) w*2 ^ min f.2.2.2.1.toNat 64))) (max top (f.2.2.2.1+f.1))))))
end
noncomputable def rdR (p:RowT × List FldT) (tk:TakF) (w:Int):Option V:=(dfun (cxRd p.2 tk) Tryz.f201 [.agg (rowL p.1),.int .u16 w]).fin
noncomputable def rdO (p:RowT × List FldT) (tk:TakF) (w:Int):Option V:=readR tk p.1 w p.2 16 0 0 0 0 0
def partP (k:Nat):List (RowT × List FldT):=(pairsL.drop (6*k)).take 6
theorem rd_0:(partP 0).map rdR=(partP 0).map rdO:=by kernel_rfl
theorem rd_1:(partP 1).map rdR=(partP 1).map rdO:=by kernel_rfl
theorem rd_2:(partP 2).map rdR=(partP 2).map rdO:=by kernel_rfl
theorem rd_3:(partP 3).map rdR=(partP 3).map rdO:=by kernel_rfl
theorem rd_4:(partP 4).map rdR=(partP 4).map rdO:=by kernel_rfl
theorem rd_5:(partP 5).map rdR=(partP 5).map rdO:=by kernel_rfl
theorem pairs_len:pairsL.length≤36:=by
 have h:rowsL.length=33:=by kernel_rfl
 rw [← pairs_eq,List.length_map]
 omega
theorem rd_all {x:RowT} (hx:x ∈ rowsL):rdR (x,flds x)=rdO (x,flds x):=
 six_all (l:=pairsL) pairs_len (fun k hk=>match k,hk with
  | 0,_=>rd_0
  | 1,_=>rd_1
  | 2,_=>rd_2
  | 3,_=>rd_3
  | 4,_=>rd_4
  | 5,_=>rd_5) (pairs_mem hx)
end Go.Cmp
