/-
  Cuts and numbers of compact's strings. Conditions: none.
-/
import Derived.Test.YtnickegmpffneaaGreatDoorPk12
import Derived.Test.YtnickegmpffneaaGreatDoorCm3
import Derived.Test.YtnickegmpffneaaGreatDoorCm4
import Derived.Test.YtnickegmpffneaaGreatDoorCm5
set_option linter.unusedVariables false
set_option linter.unusedSimpArgs false
namespace Go.Cmp
open Go Go.Ab Go.Proofs
def cutsL:List (List UInt8 × List UInt8 × List UInt8 × Bool):=[
 ([53,58,52],[53],[52],true),
 ([57,58,54],[57],[54],true),
 ([50],[50],[],false),
 ([51],[51],[],false),
 ([53,58,51],[53],[51],true),
 ([54],[54],[],false),
 ([55,58,54],[55],[54],true),
 ([53],[53],[],false),
 ([52,58,48],[52],[48],true),
 ([57],[57],[],false),
 ([52],[52],[],false),
 ([56,58,55],[56],[55],true),
 ([49,49],[49,49],[],false),
 ([57,58,56],[57],[56],true),
 ([49,48],[49,48],[],false),
 ([55],[55],[],false),
 ([51,58,49],[51],[49],true),
 ([56],[56],[],false),
 ([52,58,51],[52],[51],true),
 ([50,58,49],[50],[49],true),
 ([52,58,50],[52],[50],true),
 ([56,58,54],[56],[54],true),
 ([53,58,50],[53],[50],true)]
def atoiL:List (List UInt8 × Int):=[
 ([53],5),
 ([52],4),
 ([57],9),
 ([54],6),
 ([50],2),
 ([],0),
 ([51],3),
 ([55],7),
 ([48],0),
 ([56],8),
 ([49,49],11),
 ([49,48],10),
 ([49],1)]
def numsL:List (List UInt8 × Int):=[
 ([48,48,48],0),
 ([48,48],0),
 ([48,49,48],2),
 ([48,49,49],3),
 ([49,49,48],6),
 ([49,49,49],7),
 ([48],0),
 ([48,48,48,48,48],0),
 ([48,49],1),
 ([48,48,49],1),
 ([48,48,48,49,48],2),
 ([49,48,48],4),
 ([49,48],2),
 ([49,49],3),
 ([49],1),
 ([49,48,49],5)]
noncomputable def cxL (n:Nat) (ks:List Nat):Cx:={ P:=Tryz.prog,n:=n,tab:=(libT 8).tab,mtab:=[],refs:=[],keeps:=ks,fuel:=20,globs:=globsL }
theorem cxL_ok (n:Nat) (ks:List Nat):CxOk (cxL n ks):=⟨(libT_ok 8).1,(fun p h=>by cases h),.nil _,globs_ok⟩
noncomputable def cutR (p:List UInt8 × List UInt8 × List UInt8 × Bool):Option V:=(dfun (cxL Tryz.f88.ntmps [0,1,4,5,6]) Tryz.f88 [.str p.1,.str [58]]).run
def cutO (p:List UInt8 × List UInt8 × List UInt8 × Bool):Option V:=some (.tup [.str p.2.1,.str p.2.2.1,.bool p.2.2.2])
theorem cuts_all:cutsL.map cutR=cutsL.map cutO:=by kernel_rfl
noncomputable def atoiR (p:List UInt8 × Int):Option V:=(dfun (cxL Tryz.f89.ntmps [0,2,3,4,5,12]) Tryz.f89 [.str p.1]).run
noncomputable def numsR (p:List UInt8 × Int):Option V:=(dfun (cxL Tryz.f90.ntmps [0,1,2,6,7,8,9,18]) Tryz.f90 [.str p.1,.int .i64 2,.int .i64 16]).run
def nilI:V:=.val .nilIface
def atoiO (p:List UInt8 × Int):Option V:=some (.tup [.int .i64 p.2,cond p.1.isEmpty (.ifc 271 .any) nilI])
def numsO (p:List UInt8 × Int):Option V:=some (.tup [.int .u64 p.2,nilI])
theorem atoi_all:atoiL.map atoiR=atoiL.map atoiO:=by kernel_rfl
theorem nums_all:numsL.map numsR=numsL.map numsO:=by kernel_rfl
end Go.Cmp

namespace Go.Cmp
open Go Go.Ab Go.Proofs
theorem part_step {α:Type} (l:List α) (k n:Nat):l.drop k=(l.drop k).take n++l.drop (k+n):=by
 rw [← List.drop_drop]
 exact (List.take_append_drop _ _).symm
theorem words_parts:partW 0++partW 1++partW 2++partW 3++partW 4++partW 5++partW 6++partW 7++partW 8=wordsL:=by
 have hl:wordsL.length=66:=by kernel_rfl
 show (wordsL.drop 0).take 8++(wordsL.drop 8).take 8++(wordsL.drop 16).take 8++(wordsL.drop 24).take 8++(wordsL.drop 32).take 8++(wordsL.drop 40).take 8++(wordsL.drop 48).take 8++(wordsL.drop 56).take 8++(wordsL.drop 64).take 8=wordsL
 simp only [List.append_assoc]
 have hz:wordsL.drop 72=[]:=List.drop_eq_nil_iff.2 (by omega)
 have e:(wordsL.drop 64).take 8=wordsL.drop 64:=by
  have:=part_step wordsL 64 8
  rw [show 64+8=72 from rfl,hz,List.append_nil] at this
  exact this.symm
 rw [e,← part_step wordsL 56 8,← part_step wordsL 48 8,← part_step wordsL 40 8,← part_step wordsL 32 8,← part_step wordsL 24 8,← part_step wordsL 16 8,← part_step wordsL 8 8,← part_step wordsL 0 8,List.drop_zero]
theorem words_all:wordsL.map wordsR=wordsL.map wordsO:=by
 rw [← words_parts]
 simp only [List.map_append,words_0,words_1,words_2,words_3,words_4,words_5,words_6,words_7,words_8]
theorem of_map {α β:Type} {l:List α} {f g:α→β} (h:l.map f=l.map g) {a:α} (ha:a ∈ l):f a=g a:=List.map_inj_left.1 h a ha
def wordsS:Ab.Spec:=fun args=>match args with
 | [.str s]=>match wordsL.find? (fun p=>p.1 == s) with
  | some p=>.leaf (.sl .str p.2 [] .ro)
  | none=>.fail
 | _=>.fail
theorem cxW_ok:CxOk cxW:=⟨.nil _,(fun p h=>by cases h),.nil _,globs_ok⟩
theorem wordsS_ok:Sound Tryz.prog 87 wordsS:=by
 intro args out h
 unfold wordsS at h
 split at h
 rotate_left
 ·cases h
 rename_i s
 cases hf:wordsL.find? (fun p=>p.1 == s) with
 | none=>rw [hf] at h; cases h
 | some p =>
  rw [hf] at h
  cases h
  have hm:=List.mem_of_find?_eq_some hf
  have he:p.1=s:=by simpa using List.find?_some hf
  subst he
  have hw:=of_map words_all hm
  unfold wordsR wordsO at hw
  exact pcall_freeze (mcall_fun' (cx:=cxW) (fn:=Tryz.f87) cxW_ok (by kernel_rfl) (by kernel_rfl) rfl hw)
def cutS:Ab.Spec:=fun args=>match args with
 | [.str s,.str [58]]=>match cutsL.find? (fun p=>p.1 == s) with
  | some p=>.leaf (.tup [.str p.2.1,.str p.2.2.1,.bool p.2.2.2])
  | none=>.fail
 | _=>.fail
theorem cutS_ok:Sound Tryz.prog 88 cutS:=by
 intro args out h
 unfold cutS at h
 split at h
 rotate_left
 ·cases h
 rename_i s
 cases hf:cutsL.find? (fun p=>p.1 == s) with
 | none=>rw [hf] at h; cases h
 | some p =>
  rw [hf] at h
  cases h
  have he:p.1=s:=by simpa using List.find?_some hf
  subst he
  exact pcall_fun' (cx:=cxL Tryz.f88.ntmps [0,1,4,5,6]) (fn:=Tryz.f88) (cxL_ok _ _) (by kernel_rfl) (by kernel_rfl) (by kernel_rfl) (of_map cuts_all (List.mem_of_find?_eq_some hf))
def atoiS:Ab.Spec:=fun args=>match args with
 | [.str s]=>match atoiL.find? (fun p=>p.1 == s) with
  | some p=>.leaf (.tup [.int .i64 p.2,cond p.1.isEmpty (.ifc 271 .any) nilI])
  | none=>.fail
 | _=>.fail
theorem atoiS_ok:Sound Tryz.prog 89 atoiS:=by
 intro args out h
 unfold atoiS at h
 split at h
 rotate_left
 ·cases h
 rename_i s
 cases hf:atoiL.find? (fun p=>p.1 == s) with
 | none=>rw [hf] at h; cases h
 | some p =>
  rw [hf] at h
  cases h
  have he:p.1=s:=by simpa using List.find?_some hf
  subst he
  exact pcall_fun' (cx:=cxL Tryz.f89.ntmps [0,2,3,4,5,12]) (fn:=Tryz.f89) (cxL_ok _ _) (by kernel_rfl) (by kernel_rfl) (by kernel_rfl) (of_map atoi_all (List.mem_of_find?_eq_some hf))
def numsS:Ab.Spec:=fun args=>match args with
 | [.str s,.int .i64 2,.int .i64 16]=>match numsL.find? (fun p=>p.1 == s) with
  | some p=>.leaf (.tup [.int .u64 p.2,nilI])
  | none=>.fail
 | _=>.fail
theorem numsS_ok:Sound Tryz.prog 90 numsS:=by
 intro args out h
 unfold numsS at h
 split at h
 rotate_left
 ·cases h
 rename_i s
 cases hf:numsL.find? (fun p=>p.1 == s) with
 | none=>rw [hf] at h; cases h
 | some p =>
  rw [hf] at h
  cases h
  have he:p.1=s:=by simpa using List.find?_some hf
  subst he
  exact pcall_fun' (cx:=cxL Tryz.f90.ntmps [0,1,2,6,7,8,9,18]) (fn:=Tryz.f90) (cxL_ok _ _) (by kernel_rfl) (by kernel_rfl) (by kernel_rfl) (of_map nums_all (List.mem_of_find?_eq_some hf))
def fldL:List (List UInt8 × List FldT):=[
 ([99,46,97,100,100,105,52,115,112,110],[(3,0,0,0,false),(2,115,0,4,false),(4,115,0,6,false),(1,115,0,2,false),(1,115,0,3,false),(3,97,0,0,true),(2,0,0,0,false)]),
 ([99,46,108,119],[(3,0,2,0,false),(3,115,0,3,false),(3,98,0,0,true),(1,115,0,2,false),(1,115,0,6,false),(3,97,0,0,true),(2,0,0,0,false)]),
 ([99,46,108,100],[(3,0,3,0,false),(3,115,0,3,false),(3,98,0,0,true),(2,115,0,6,false),(3,97,0,0,true),(2,0,0,0,false)]),
 ([99,46,115,119],[(3,0,6,0,false),(3,115,0,3,false),(3,98,0,0,true),(1,115,0,2,false),(1,115,0,6,false),(3,99,0,0,true),(2,0,0,0,false)]),
 ([99,46,115,100],[(3,0,7,0,false),(3,115,0,3,false),(3,98,0,0,true),(2,115,0,6,false),(3,99,0,0,true),(2,0,0,0,false)]),
 ([99,46,110,111,112],[(3,0,0,0,false),(1,0,0,0,false),(5,0,0,0,false),(5,0,0,0,false),(2,0,1,0,false)]),
 ([99,46,97,100,100,105],[(3,0,0,0,false),(1,115,0,5,false),(5,97,0,0,false),(5,115,0,0,false),(2,0,1,0,false)]),
 ([99,46,97,100,100,105,119],[(3,0,1,0,false),(1,115,0,5,false),(5,97,0,0,false),(5,115,0,0,false),(2,0,1,0,false)]),
 ([99,46,108,105],[(3,0,2,0,false),(1,115,0,5,false),(5,97,0,0,false),(5,115,0,0,false),(2,0,1,0,false)]),
 ([99,46,97,100,100,105,49,54,115,112],[(3,0,3,0,false),(1,115,0,9,false),(5,0,2,0,false),(1,115,0,4,false),(1,115,0,6,false),(2,115,0,7,false),(1,115,0,5,false),(2,0,1,0,false)]),
 ([99,46,108,117,105],[(3,0,3,0,false),(1,115,0,5,false),(5,97,0,0,false),(5,115,0,0,false),(2,0,1,0,false)]),
 ([99,46,115,114,108,105],[(3,0,4,0,false),(1,115,0,5,false),(2,0,0,0,false),(3,97,0,0,true),(5,115,0,0,false),(2,0,1,0,false)]),
 ([99,46,115,114,97,105],[(3,0,4,0,false),(1,115,0,5,false),(2,0,1,0,false),(3,97,0,0,true),(5,115,0,0,false),(2,0,1,0,false)]),
 ([99,46,97,110,100,105],[(3,0,4,0,false),(1,115,0,5,false),(2,0,2,0,false),(3,97,0,0,true),(5,115,0,0,false),(2,0,1,0,false)]),
 ([99,46,115,117,98],[(3,0,4,0,false),(1,0,0,0,false),(2,0,3,0,false),(3,97,0,0,true),(2,0,0,0,false),(3,99,0,0,true),(2,0,1,0,false)]),
 ([99,46,120,111,114],[(3,0,4,0,false),(1,0,0,0,false),(2,0,3,0,false),(3,97,0,0,true),(2,0,1,0,false),(3,99,0,0,true),(2,0,1,0,false)]),
 ([99,46,111,114],[(3,0,4,0,false),(1,0,0,0,false),(2,0,3,0,false),(3,97,0,0,true),(2,0,2,0,false),(3,99,0,0,true),(2,0,1,0,false)]),
 ([99,46,97,110,100],[(3,0,4,0,false),(1,0,0,0,false),(2,0,3,0,false),(3,97,0,0,true),(2,0,3,0,false),(3,99,0,0,true),(2,0,1,0,false)]),
 ([99,46,115,117,98,119],[(3,0,4,0,false),(1,0,1,0,false),(2,0,3,0,false),(3,97,0,0,true),(2,0,0,0,false),(3,99,0,0,true),(2,0,1,0,false)]),
 ([99,46,97,100,100,119],[(3,0,4,0,false),(1,0,1,0,false),(2,0,3,0,false),(3,97,0,0,true),(2,0,1,0,false),(3,99,0,0,true),(2,0,1,0,false)]),
 ([99,46,106],[(3,0,5,0,false),(1,115,0,11,false),(1,115,0,4,false),(2,115,0,8,false),(1,115,0,10,false),(1,115,0,6,false),(1,115,0,7,false),(3,115,0,1,false),(1,115,0,5,false),(2,0,1,0,false)]),
 ([99,46,98,101,113,122],[(3,0,6,0,false),(1,115,0,8,false),(2,115,0,3,false),(3,98,0,0,true),(2,115,0,6,false),(2,115,0,1,false),(1,115,0,5,false),(2,0,1,0,false)]),
 ([99,46,98,110,101,122],[(3,0,7,0,false),(1,115,0,8,false),(2,115,0,3,false),(3,98,0,0,true),(2,115,0,6,false),(2,115,0,1,false),(1,115,0,5,false),(2,0,1,0,false)]),
 ([99,46,115,108,108,105],[(3,0,0,0,false),(1,115,0,5,false),(5,97,0,0,false),(5,115,0,0,false),(2,0,2,0,false)]),
 ([99,46,108,119,115,112],[(3,0,2,0,false),(1,115,0,5,false),(5,97,0,0,false),(3,115,0,2,false),(2,115,0,6,false),(2,0,2,0,false)]),
 ([99,46,108,100,115,112],[(3,0,3,0,false),(1,115,0,5,false),(5,97,0,0,false),(2,115,0,3,false),(3,115,0,6,false),(2,0,2,0,false)]),
 ([99,46,106,114],[(3,0,4,0,false),(1,0,0,0,false),(5,98,0,0,false),(5,0,0,0,false),(2,0,2,0,false)]),
 ([99,46,106,97,108,114],[(3,0,4,0,false),(1,0,1,0,false),(5,98,0,0,false),(5,0,0,0,false),(2,0,2,0,false)]),
 ([99,46,109,118],[(3,0,4,0,false),(1,0,0,0,false),(5,97,0,0,false),(5,99,0,0,false),(2,0,2,0,false)]),
 ([99,46,97,100,100],[(3,0,4,0,false),(1,0,1,0,false),(5,97,0,0,false),(5,99,0,0,false),(2,0,2,0,false)]),
 ([99,46,101,98,114,101,97,107],[(3,0,4,0,false),(1,0,1,0,false),(5,0,0,0,false),(5,0,0,0,false),(2,0,2,0,false)]),
 ([99,46,115,119,115,112],[(3,0,6,0,false),(4,115,0,2,false),(2,115,0,6,false),(5,99,0,0,false),(2,0,2,0,false)]),
 ([99,46,115,100,115,112],[(3,0,7,0,false),(3,115,0,3,false),(3,115,0,6,false),(5,99,0,0,false),(2,0,2,0,false)])]
def flds (x:RowT):List FldT:=((fldL.find? fun p=>p.1 == x.1).map (·.2)).getD []
noncomputable def cxF:Cx:={ P:=Tryz.prog,n:=91,tab:=[(87,wordsS),(88,cutS),(89,atoiS),(90,numsS)],mtab:=[],refs:=[],keeps:=[0,1,2,3,5,6,7,8,9,11,13,14,18,19,20,21,37,62,73,82],fuel:=16 }
theorem cxF_ok:CxOk cxF:=cx1_ok (.cons wordsS_ok (.cons cutS_ok (.cons atoiS_ok (ok1 numsS_ok)))) (fun p h=>by cases h) rfl rfl
noncomputable def fieldsR (x:RowT):Option V:=(dfun cxF Tryz.f38 [.agg (rowL x)]).run
def fieldsO (x:RowT):Option V:=some (.sl fldE (flds x) [] .ro)
def partR (k:Nat):List RowT:=(rowsL.drop (6*k)).take 6
theorem fields_0:(partR 0).map fieldsR=(partR 0).map fieldsO:=by kernel_rfl
theorem fields_1:(partR 1).map fieldsR=(partR 1).map fieldsO:=by kernel_rfl
theorem fields_2:(partR 2).map fieldsR=(partR 2).map fieldsO:=by kernel_rfl
theorem fields_3:(partR 3).map fieldsR=(partR 3).map fieldsO:=by kernel_rfl
theorem fields_4:(partR 4).map fieldsR=(partR 4).map fieldsO:=by kernel_rfl
theorem fields_5:(partR 5).map fieldsR=(partR 5).map fieldsO:=by kernel_rfl
theorem rows_parts:partR 0++partR 1++partR 2++partR 3++partR 4++partR 5=rowsL:=by
 have hl:rowsL.length=33:=by kernel_rfl
 show (rowsL.drop 0).take 6++(rowsL.drop 6).take 6++(rowsL.drop 12).take 6++(rowsL.drop 18).take 6++(rowsL.drop 24).take 6++(rowsL.drop 30).take 6=rowsL
 simp only [List.append_assoc]
 have hz:rowsL.drop 36=[]:=List.drop_eq_nil_iff.2 (by omega)
 have e:(rowsL.drop 30).take 6=rowsL.drop 30:=by
  have:=part_step rowsL 30 6
  rw [show 30+6=36 from rfl,hz,List.append_nil] at this
  exact this.symm
 rw [e,← part_step rowsL 24 6,← part_step rowsL 18 6,← part_step rowsL 12 6,← part_step rowsL 6 6,← part_step rowsL 0 6,List.drop_zero]
theorem rows_all {β:Type} {f g:RowT→β} (h0:(partR 0).map f=(partR 0).map g) (h1:(partR 1).map f=(partR 1).map g) (h2:(partR 2).map f=(partR 2).map g) (h3:(partR 3).map f=(partR 3).map g)
  (h4:(partR 4).map f=(partR 4).map g) (h5:(partR 5).map f=(partR 5).map g) {x:RowT} (hx:x ∈ rowsL):f x=g x:=by
 refine of_map ?_ hx
 rw [← rows_parts]
 simp only [List.map_append,h0,h1,h2,h3,h4,h5]
theorem fields_all {x:RowT} (hx:x ∈ rowsL):fieldsR x=fieldsO x:=rows_all fields_0 fields_1 fields_2 fields_3 fields_4 fields_5 hx
def isRowB (x:RowT):Bool:=rowsL.any fun r=>r == x
theorem isRowB_mem {x:RowT} (h:isRowB x=true):x ∈ rowsL:=by
 obtain ⟨r,h1,h2⟩:=List.any_eq_true.1 h
 rw [← eq_of_beq h2]
 exact h1
def fieldsS:Ab.Spec:=fun args=>match args with
 | [.agg [.str n,.str b,.int .i64 lo,.int .i64 hi,.int .i64 by_,.str no,.str lg]]=>.req (isRowB (n,b,lo,hi,by_,no,lg)) (.leaf (.sl fldE (flds (n,b,lo,hi,by_,no,lg)) [] .ro))
 | _=>.fail
theorem fieldsS_ok:Sound Tryz.prog 38 fieldsS:=by
 intro args out h
 unfold fieldsS at h
 split at h
 rotate_left
 ·cases h
 rename_i n b lo hi by_ no lg
 obtain ⟨h1,h⟩:=req_run h
 cases h
 have hw:=fields_all (isRowB_mem h1)
 unfold fieldsR fieldsO at hw
 exact pcall_fun' (cx:=cxF) (fn:=Tryz.f38) cxF_ok (by kernel_rfl) (by kernel_rfl) rfl hw
end Go.Cmp

namespace Go.Cmp
open Go Go.Ab Go.Proofs
def conL:List (List UInt8 × List UInt8 × Bool):=[
 ([],[65],false),
 ([],[66],false),
 ([],[67],false),
 ([],[50],false),
 ([],[115],false),
 ([115,65],[65],true),
 ([115,65],[66],false),
 ([115,65],[67],false),
 ([115,65],[50],false),
 ([115,65],[115],true),
 ([65],[65],true),
 ([65],[66],false),
 ([65],[67],false),
 ([65],[50],false),
 ([65],[115],false),
 ([115],[65],false),
 ([115],[66],false),
 ([115],[67],false),
 ([115],[50],false),
 ([115],[115],true),
 ([115,65,50],[65],true),
 ([115,65,50],[66],false),
 ([115,65,50],[67],false),
 ([115,65,50],[50],true),
 ([115,65,50],[115],true),
 ([66],[65],false),
 ([66],[66],true),
 ([66],[67],false),
 ([66],[50],false),
 ([66],[115],false),
 ([65,67],[65],true),
 ([65,67],[66],false),
 ([65,67],[67],true),
 ([65,67],[50],false),
 ([65,67],[115],false)]
noncomputable def conR (p:List UInt8 × List UInt8 × Bool):Option V:=(dfun (cxL Tryz.f147.ntmps [0,1,4]) Tryz.f147 [.str p.1,.str p.2.1]).run
def conO (p:List UInt8 × List UInt8 × Bool):Option V:=some (.bool p.2.2)
theorem con_all:conL.map conR=conL.map conO:=by kernel_rfl
end Go.Cmp

namespace Go.Cmp
open Go Go.Ab Go.Proofs
theorem leaf_out {α:Type} {b o:α} (h:(Tree.leaf b).run=some o):o=b:=by simpa [Tree.run] using h.symm
abbrev nmO (nm:List UInt8):O:=.cells [.str nm] 9
noncomputable def cx144:Cx:={ P:=Tryz.prog,n:=8,tab:=[],mtab:=[],refs:=[],keeps:=[0,1,2,3] }
theorem isRow_eq (nm:List UInt8) (x:RowT):mfunD cx144 Tryz.f144 [.agg (rowL x),.ptr 0 0] [nmO nm] []=some (.bool (strEq x.1 nm),[nmO nm]):=by kernel_rfl
def isRowR:RSpec:=fun args H=>match args,H with
 | [.agg [.str n,.str _,.int .i64 _,.int .i64 _,.int .i64 _,.str _,.str _],.ptr 0 0],[.cells [.str nm] 9]=>.leaf (.bool (strEq n nm))
 | _,_=>.fail
theorem isRowR_ok:RSound Tryz.prog 144 isRowR:=by
 intro args H out h
 unfold isRowR at h
 split at h
 rotate_left
 ·cases h
 rename_i n b lo hi by_ no lg nm
 cases h
 exact mcall_funD (cx:=cx144) (fn:=Tryz.f144) [] (cx0_ok rfl rfl) (by kernel_rfl) (by kernel_rfl) (by kernel_rfl) (by kernel_rfl) (isRow_eq nm (n,b,lo,hi,by_,no,lg))
def chainT (nm:List UInt8):List RowT→Int→Tree Res
 | [],_=>.leaf (.ok (.int .i64 (-1)) [nmO nm])
 | r :: l,i=>.br (strEq r.1 nm) (.leaf (.ok (.int .i64 i) [nmO nm])) (chainT nm l (i+1))
noncomputable def cxI:Cx:={ P:=Tryz.prog,n:=19,tab:=[],mtab:=[],rtab:=[(144,isRowR)],refs:=[],keeps:=[0,1,4,5,7,8,9,16],fuel:=34 }
theorem idx_eq (nm:List UInt8):(mfun cxI Tryz.f143 [.sl rowE rowsL [] .full,.clo (.func 144) [] [.ptr 0 0]] [nmO nm]).out=(chainT nm rowsL 0).out:=by kernel_rfl
def fidx (nm:List UInt8):List RowT→Int→Int
 | [],_=>-1
 | r :: l,i=>cond (strEq r.1 nm) i (fidx nm l (i+1))
theorem chain_run (nm:List UInt8):∀ (l:List RowT) (i:Int),(chainT nm l i).run=some (.ok (.int .i64 (fidx nm l i)) [nmO nm])
 | [],_=>rfl
 | r :: l,i=>by
  unfold chainT fidx
  rw [br_run,chain_run nm l (i+1)]
  cases strEq r.1 nm <;> rfl
def findL (nm:List UInt8):Option RowT:=rowsL.find? fun r=>strEq r.1 nm
def zeroR:RowT:=([],[],0,0,0,[],[])
def frow (nm:List UInt8):RowT:=(findL nm).getD zeroR
def fok (nm:List UInt8):Bool:=(findL nm).isSome
theorem fidx_spec (nm:List UInt8):∀ (l:List RowT) (i:Int),0≤i→(l.find? (fun r=>strEq r.1 nm)=none∧fidx nm l i = -1) ∨ ∃ (k:Nat) (r:RowT),k<l.length∧l.find? (fun r=>strEq r.1 nm)=some r∧l.getD k zeroR=r∧fidx nm l i=i+k
 | [],_,_=>.inl ⟨rfl,rfl⟩
 | r :: l,i,h0=>by
  unfold fidx
  rw [List.find?_cons]
  cases h:strEq r.1 nm
  ·simp only [cond_false]
   rcases fidx_spec nm l (i+1) (by omega) with ⟨h1,h2⟩ | ⟨k,s,h1,h2,h3,h4⟩
   ·exact .inl ⟨h1,h2⟩
   ·refine .inr ⟨k+1,s,by simp only [List.length_cons]; omega,h2,by rw [List.getD_cons_succ]; exact h3,?_⟩
    rw [h4]
    omega
  ·exact .inr ⟨0,r,by simp,rfl,rfl,by rw [cond_true]; omega⟩
def isTab (l:List RowT):Bool:=l == rowsL
def idxM:MSpec:=fun args H=>match args,H with
 | [.sl (.prod [.str,.str,.int .i64,.int .i64,.int .i64,.str,.str]) l [] .full,.clo (.func 144) [] [.ptr 0 0]],[.cells [.str nm] 9]=>.req (isTab l) (.leaf (.ok (.int .i64 (fidx nm rowsL 0)) [nmO nm]))
 | _,_=>.fail
theorem br_t {α:Type} {c:Bool} {x y:Tree α} (h:c=true):(Tree.br c x y).run=x.run:=by rw [h]; rfl
theorem cxI_ok:CxOk cxI:=⟨.nil _,(fun p h=>by cases h),.cons isRowR_ok (.nil _),fun p h=>by cases h⟩
theorem idxM_ok:MSound Tryz.prog 143 idxM:=by
 intro args H res h
 unfold idxM at h
 split at h
 rotate_left
 ·cases h
 rename_i l nm
 obtain ⟨h1,h⟩:=req_run h
 have h1:(show List RowT from l)=rowsL:=eq_of_beq (α:=List RowT) h1
 have h1:l=rowsL:=h1
 subst h1
 have h:=leaf_out h
 subst h
 exact mcall_fun' (cx:=cxI) (fn:=Tryz.f143) cxI_ok (by kernel_rfl) (by kernel_rfl) (by kernel_rfl) ((Tree.out_run _).symm.trans ((idx_eq nm).trans ((Tree.out_run _).trans (chain_run nm rowsL 0))))
noncomputable def cx85:Cx:={ P:=Tryz.prog,n:=17,tab:=[(142,rowsS)],mtab:=[(143,idxM)],refs:=[],keeps:=[0,1,2,3,4,5,11] }
def findT (nm:List UInt8):Tree V:=
 (.br (decide (Go.Cmp.fidx nm Go.Cmp.rowsL 0<0)) (.leaf (.tup [(.agg [(.str []),(.str []),(.int .i64 0),(.int .i64 0),(.int .i64 0),(.str []),(.str [])]),(.bool false)])) (.br (inside (Go.Cmp.fidx nm Go.Cmp.rowsL 0) 33) (.leaf (.tup [(.agg [(.str (tS (Prod.fst (List.getD Go.Cmp.rowsL (Int.toNat (Go.Cmp.fidx nm Go.Cmp.rowsL 0)) (EC.dflt Go.Cmp.rowE))))),(.str (tS (Prod.fst (Prod.snd (List.getD Go.Cmp.rowsL (Int.toNat (Go.Cmp.fidx nm Go.Cmp.rowsL 0)) (EC.dflt Go.Cmp.rowE)))))),(.int .i64 (tI (Prod.fst (Prod.snd (Prod.snd (List.getD Go.Cmp.rowsL (Int.toNat (Go.Cmp.fidx nm Go.Cmp.rowsL 0)) (EC.dflt Go.Cmp.rowE))))))),(.int .i64 (tI (Prod.fst (Prod.snd (Prod.snd (Prod.snd (List.getD Go.Cmp.rowsL (Int.toNat (Go.Cmp.fidx nm Go.Cmp.rowsL 0)) (EC.dflt Go.Cmp.rowE)))))))),(.int .i64 (tI (Prod.fst (Prod.snd (Prod.snd (Prod.snd (Prod.snd (List.getD Go.Cmp.rowsL (Int.toNat (Go.Cmp.fidx nm Go.Cmp.rowsL 0)) (EC.dflt Go.Cmp.rowE))))))))),(.str (tS (Prod.fst (Prod.snd (Prod.snd (Prod.snd (Prod.snd (Prod.snd (List.getD Go.Cmp.rowsL (Int.toNat (Go.Cmp.fidx nm Go.Cmp.rowsL 0)) (EC.dflt Go.Cmp.rowE)))))))))),(.str (Prod.snd (Prod.snd (Prod.snd (Prod.snd (Prod.snd (Prod.snd (List.getD Go.Cmp.rowsL (Int.toNat (Go.Cmp.fidx nm Go.Cmp.rowsL 0)) (EC.dflt Go.Cmp.rowE)))))))))]),(.bool true)])) .fail))
theorem findT_eq (nm:List UInt8):(dfun cx85 Tryz.f85 [.str nm]).run=(findT nm).run:=
 (show (dfun cx85 Tryz.f85 [.str nm]).run=(findT nm).out by kernel_rfl).trans (Tree.out_run _)
def findS:Ab.Spec:=fun args=>match args with
 | [.str nm]=>.leaf (.tup [.agg (rowL (frow nm)),.bool (fok nm)])
 | _=>.fail
theorem cxFd_ok:CxOk cx85:=cx1_ok (ok1 rowsS_ok) (.cons idxM_ok (fun p h=>by cases h)) rfl rfl
theorem find_ok (nm:List UInt8):PCall Tryz.prog 85 [.str nm] (.tup [.agg (rowL (frow nm)),.bool (fok nm)]):=by
 refine pcall_fun' (cx:=cx85) (fn:=Tryz.f85) cxFd_ok (by kernel_rfl) (by kernel_rfl) (by kernel_rfl) ((findT_eq nm).trans ?_)
 unfold findT frow fok findL
 have hd:EC.dflt rowE=zeroR:=rfl
 have hl:rowsL.length=33:=rfl
 rcases fidx_spec nm rowsL 0 (by decide) with ⟨h1,h2⟩ | ⟨k,r,h1,h2,h3,h4⟩
 ·rw [h1,h2]
  rfl
 ·rw [h2,h4]
  have e1:decide ((0:Int)+k<0)=false:=decide_eq_false (by omega)
  have e2:inside (0+(k:Int)) 33=true:=inside_of (by omega) (by omega)
  have e3:((0:Int)+k).toNat=k:=by omega
  rw [br_run,e1,cond_false]
  refine (br_t e2).trans ?_
  rw [e3,hd,h3]
  rfl
theorem findS_ok:Sound Tryz.prog 85 findS:=by
 intro args out h
 unfold findS at h
 split at h
 rotate_left
 ·cases h
 cases h
 exact find_ok _
def isAt (nm:List UInt8) (x:RowT):Bool:=match findL nm with
 | some r=>r == x
 | none=>false
theorem isAt_eq {nm:List UInt8} {x:RowT} (h:isAt nm x=true):findL nm=some x:=by
 unfold isAt at h
 cases hf:findL nm with
 | none=>rw [hf] at h; cases h
 | some r=>rw [hf] at h; rw [eq_of_beq h]
end Go.Cmp

namespace Go.Cmp
open Go Go.Ab Go.Proofs
def conS:Ab.Spec:=fun args=>match args with
 | [.str s,.str q]=>match conL.find? (fun p=>p.1 == s && p.2.1 == q) with
  | some p=>.leaf (.bool p.2.2)
  | none=>.fail
 | _=>.fail
theorem conS_ok:Sound Tryz.prog 147 conS:=by
 intro args out h
 unfold conS at h
 split at h
 rotate_left
 ·cases h
 rename_i s q
 cases hf:conL.find? (fun p=>p.1 == s && p.2.1 == q) with
 | none=>rw [hf] at h; cases h
 | some p =>
  rw [hf] at h
  cases h
  have he:p.1=s∧p.2.1=q:=by simpa using List.find?_some hf
  obtain ⟨rfl,rfl⟩:=he
  exact pcall_fun' (cx:=cxL Tryz.f147.ntmps [0,1,4]) (fn:=Tryz.f147) (cxL_ok _ _) (by kernel_rfl) (by kernel_rfl) (by kernel_rfl) (of_map con_all (List.mem_of_find?_eq_some hf))
def hasF (x:RowT) (w:Int):Bool × Bool:=match (flds x).find? fun f=>f.2.1 == w with
 | some f=>(f.2.2.2.2,true)
 | none=>(false,false)
noncomputable def cxHs:Cx:={ P:=Tryz.prog,n:=22,tab:=[(38,fieldsS)],mtab:=[],refs:=[],keeps:=[0,1,2,4,5,7,9,10,11,12,18],fuel:=12 }
theorem cxHs_ok:CxOk cxHs:=cx1_ok (ok1 fieldsS_ok) (fun p h=>by cases h) rfl rfl
def whats:List Int:=[97,98,99,115]
noncomputable def hasR (x:RowT):List (Option V):=whats.map fun w=>(dfun cxHs Tryz.f145 [.agg (rowL x),.int .u8 w]).run
def hasO (x:RowT):List (Option V):=whats.map fun w=>some (.tup [.bool (hasF x w).1,.bool (hasF x w).2])
theorem has_0:(partR 0).map hasR=(partR 0).map hasO:=by kernel_rfl
theorem has_1:(partR 1).map hasR=(partR 1).map hasO:=by kernel_rfl
theorem has_2:(partR 2).map hasR=(partR 2).map hasO:=by kernel_rfl
theorem has_3:(partR 3).map hasR=(partR 3).map hasO:=by kernel_rfl
theorem has_4:(partR 4).map hasR=(partR 4).map hasO:=by kernel_rfl
theorem has_5:(partR 5).map hasR=(partR 5).map hasO:=by kernel_rfl
theorem has_all {x:RowT} (hx:x ∈ rowsL):hasR x=hasO x:=rows_all has_0 has_1 has_2 has_3 has_4 has_5 hx
def hasS:Ab.Spec:=fun args=>match args with
 | [.agg [.str n,.str b,.int .i64 lo,.int .i64 hi,.int .i64 by_,.str no,.str lg],.int .u8 w]=>.req (isRowB (n,b,lo,hi,by_,no,lg)) (.req (whats.contains w)
   (.leaf (.tup [.bool (hasF (n,b,lo,hi,by_,no,lg) w).1,.bool (hasF (n,b,lo,hi,by_,no,lg) w).2])))
 | _=>.fail
theorem hasS_ok:Sound Tryz.prog 145 hasS:=by
 intro args out h
 unfold hasS at h
 split at h
 rotate_left
 ·cases h
 rename_i n b lo hi by_ no lg w
 obtain ⟨h1,h⟩:=req_run h
 obtain ⟨h2,h⟩:=req_run h
 have h:=leaf_out h
 subst h
 have hw:=has_all (isRowB_mem h1)
 unfold hasR hasO at hw
 exact pcall_fun' (cx:=cxHs) (fn:=Tryz.f145) cxHs_ok (by kernel_rfl) (by kernel_rfl) rfl (of_map hw (by simpa using h2))
noncomputable def cxRg:Cx:={ P:=Tryz.prog,n:=64,tab:=[(145,hasS),(147,conS)],mtab:=[],refs:=[],keeps:=[0,1,2,3,6,7,8,9,16,21] }
def bars (x:RowT) (c:UInt8):Bool:=x.2.2.2.2.2.1.contains c
def tB (b:Bool):Tree V:=.leaf (.bool b)
def reg2T (x:RowT) (w n:Int):Tree V:=.br (n != 2) (tB true) (tB (cond (w == 97) (!bars x 50) true))
def regT (x:RowT) (w n:Int):Tree V:=
 cond (hasF x w).2 (cond (hasF x w).1 (.br (decide (8≤n)) (tB (decide (n≤15))) (tB false))
  (.br (decide (0≤n)) (.br (decide (n<32)) (.br (n != 0) (reg2T x w n) (cond (bars x (UInt8.ofNat (w - 32).toNat)) (tB false) (reg2T x w n))) (tB false)) (tB false))) (tB (n == 0))
def regs3:List Int:=[97,98,99]
noncomputable def regR (x:RowT) (n:Int):List (Option V):=regs3.map fun w=>(dfun cxRg Tryz.f146 [.agg (rowL x),.int .u8 w,.int .i64 n]).out
def regO (x:RowT) (n:Int):List (Option V):=regs3.map fun w=>(regT x w n).out
theorem reg_0:(partR 0).map regR=(partR 0).map regO:=by kernel_rfl
theorem reg_1:(partR 1).map regR=(partR 1).map regO:=by kernel_rfl
theorem reg_2:(partR 2).map regR=(partR 2).map regO:=by kernel_rfl
theorem reg_3:(partR 3).map regR=(partR 3).map regO:=by kernel_rfl
theorem reg_4:(partR 4).map regR=(partR 4).map regO:=by kernel_rfl
theorem reg_5:(partR 5).map regR=(partR 5).map regO:=by kernel_rfl
theorem reg_all {x:RowT} (hx:x ∈ rowsL):regR x=regO x:=rows_all reg_0 reg_1 reg_2 reg_3 reg_4 reg_5 hx
def regF (x:RowT) (w n:Int):Bool:=
 cond (hasF x w).2 (cond (hasF x w).1 (decide (8≤n) && decide (n≤15)) (decide (0≤n) && (decide (n<32) && ((n != 0 || !bars x (UInt8.ofNat (w - 32).toNat)) && (n != 2 || cond (w == 97) (!bars x 50) true))))) (n == 0)
theorem regT_run (x:RowT) (w n:Int):(regT x w n).run=some (.bool (regF x w n)):=by
 unfold regT regF reg2T tB
 cases (hasF x w).2
 ·rfl
 ·cases (hasF x w).1
  ·simp only [cond_true,cond_false]
   cases bars x (UInt8.ofNat (w - 32).toNat) <;> simp only [br_run,cond_true,cond_false] <;> cases decide (0≤n) <;> cases decide (n<32) <;> cases (n != 0) <;> cases (n != 2) <;> rfl
  ·simp only [cond_true,br_run]
   cases decide (8≤n) <;> rfl
def regS:Ab.Spec:=fun args=>match args with
 | [.agg [.str n,.str b,.int .i64 lo,.int .i64 hi,.int .i64 by_,.str no,.str lg],.int .u8 w,.int .i64 m]=>.req (isRowB (n,b,lo,hi,by_,no,lg)) (.req (regs3.contains w)
   (.leaf (.bool (regF (n,b,lo,hi,by_,no,lg) w m))))
 | _=>.fail
theorem cxRg_ok:CxOk cxRg:=cx1_ok (.cons hasS_ok (ok1 conS_ok)) (fun p h=>by cases h) rfl rfl
theorem regS_ok:Sound Tryz.prog 146 regS:=by
 intro args out h
 unfold regS at h
 split at h
 rotate_left
 ·cases h
 rename_i n b lo hi by_ no lg w m
 obtain ⟨h1,h⟩:=req_run h
 obtain ⟨h2,h⟩:=req_run h
 have h:=leaf_out h
 subst h
 have hw:=congrFun (reg_all (isRowB_mem h1)) m
 unfold regR regO at hw
 exact pcall_fun' (cx:=cxRg) (fn:=Tryz.f146) cxRg_ok (by kernel_rfl) (by kernel_rfl) rfl ((Tree.out_run _).symm.trans ((of_map hw (by simpa using h2)).trans ((Tree.out_run _).trans (regT_run _ _ _))))
end Go.Cmp

namespace Go.Cmp
open Go Go.Ab Go.Proofs
noncomputable def cxFy:Cx:={ P:=Tryz.prog,n:=76,tab:=[(145,hasS),(146,regS),(147,conS)],mtab:=[],refs:=[],keeps:=[0,1,2,3,4,6,12,46,69] }
theorem cxFy_ok:CxOk cxFy:=cx1_ok (.cons hasS_ok (.cons regS_ok (ok1 conS_ok))) (fun p h=>by cases h) rfl rfl
def tI64 (n:Int):Tree V:=.leaf (.int .i64 n)
def byT (x:RowT) (n:Int):Tree V:=.br (Int.tmod n x.2.2.2.2.1 != 0) (tI64 10) (tI64 0)
def rngT (x:RowT) (n:Int):Tree V:=.br (decide (n<x.2.2.1)) (tI64 3) (.br (decide (x.2.2.2.1<n)) (tI64 3) (.br (n == 0) (cond (bars x 115) (tI64 3) (byT x n)) (byT x n)))
def faultyT (x:RowT) (a b c d n:Int):Tree V:=
 .br (!regF x 97 a) (tI64 13) (.br (!regF x 98 b) (tI64 13) (.br (!regF x 99 c) (tI64 13) (.br (d != 0) (tI64 13) (cond (hasF x 115).2 (rngT x n) (.br (n != 0) (tI64 13) (rngT x n))))))
noncomputable def fltR (x:RowT) (nm:List UInt8) (a b c d n:Int):Option V:=(dfun cxFy Tryz.f86 [.agg (rowL x),.agg [.str nm,.int .i64 a,.int .i64 b,.int .i64 c,.int .i64 d,.int .i64 n]]).out
def fltO (x:RowT) (_:List UInt8) (a b c d n:Int):Option V:=(faultyT x a b c d n).out
theorem flt_0:(partR 0).map fltR=(partR 0).map fltO:=by kernel_rfl
theorem flt_1:(partR 1).map fltR=(partR 1).map fltO:=by kernel_rfl
theorem flt_2:(partR 2).map fltR=(partR 2).map fltO:=by kernel_rfl
theorem flt_3:(partR 3).map fltR=(partR 3).map fltO:=by kernel_rfl
theorem flt_4:(partR 4).map fltR=(partR 4).map fltO:=by kernel_rfl
theorem flt_5:(partR 5).map fltR=(partR 5).map fltO:=by kernel_rfl
theorem flt_all {x:RowT} (hx:x ∈ rowsL):fltR x=fltO x:=rows_all flt_0 flt_1 flt_2 flt_3 flt_4 flt_5 hx
def rngF (x:RowT) (n:Int):Int:=cond (decide (n<x.2.2.1)) 3 (cond (decide (x.2.2.2.1<n)) 3 (cond (n == 0 && bars x 115) 3 (cond (Int.tmod n x.2.2.2.2.1 != 0) 10 0)))
def faultyF (x:RowT) (i:InsT):Int:=
 cond (regF x 97 i.2.1 && (regF x 98 i.2.2.1 && (regF x 99 i.2.2.2.1 && (i.2.2.2.2.1 == 0 && ((hasF x 115).2 || i.2.2.2.2.2 == 0))))) (rngF x i.2.2.2.2.2) 13
theorem rngT_run (x:RowT) (n:Int):(rngT x n).run=some (.int .i64 (rngF x n)):=by
 unfold rngT rngF byT tI64
 simp only [br_run]
 cases decide (n<x.2.2.1)
 ·cases decide (x.2.2.2.1<n)
  ·cases (n == 0)
   ·cases (Int.tmod n x.2.2.2.2.1 != 0) <;> rfl
   ·cases bars x 115
    ·cases (Int.tmod n x.2.2.2.2.1 != 0) <;> rfl
    ·rfl
  ·rfl
 ·rfl
theorem faultyT_run (x:RowT) (nm:List UInt8) (a b c d n:Int):(faultyT x a b c d n).run=some (.int .i64 (faultyF x (nm,a,b,c,d,n))):=by
 unfold faultyT faultyF
 simp only [br_run]
 cases regF x 97 a
 ·rfl
 cases regF x 98 b
 ·rfl
 cases regF x 99 c
 ·rfl
 unfold bne
 cases (d == 0)
 ·rfl
 cases (hasF x 115).2
 ·simp only [cond_false,br_run]
  cases (n == 0)
  ·rfl
  ·exact rngT_run x n
 ·exact rngT_run x n
def faultyS:Ab.Spec:=fun args=>match args with
 | [.agg [.str n,.str b,.int .i64 lo,.int .i64 hi,.int .i64 by_,.str no,.str lg],.agg [.str nm,.int .i64 ia,.int .i64 ib,.int .i64 ic,.int .i64 id,.int .i64 im]] =>
  .req (isRowB (n,b,lo,hi,by_,no,lg)) (.leaf (.int .i64 (faultyF (n,b,lo,hi,by_,no,lg) (nm,ia,ib,ic,id,im))))
 | _=>.fail
theorem faultyS_ok:Sound Tryz.prog 86 faultyS:=by
 intro args out h
 unfold faultyS at h
 split at h
 rotate_left
 ·cases h
 rename_i n b lo hi by_ no lg nm ia ib ic id im
 obtain ⟨h1,h⟩:=req_run h
 have h:=leaf_out h
 subst h
 have hw:=congrFun (congrFun (congrFun (congrFun (congrFun (congrFun (flt_all (isRowB_mem h1)) nm) ia) ib) ic) id) im
 unfold fltR fltO at hw
 exact pcall_fun' (cx:=cxFy) (fn:=Tryz.f86) cxFy_ok (by kernel_rfl) (by kernel_rfl) rfl ((Tree.out_run _).symm.trans (hw.trans ((Tree.out_run _).trans (faultyT_run _ nm _ _ _ _ _))))
noncomputable def cx37:Cx:={ P:=Tryz.prog,n:=19,tab:=[(85,findS),(86,faultyS)],mtab:=[],refs:=[],keeps:=[0,1,2,3,4,5,13] }
def chkT (nm:List UInt8) (a b c d n:Int):Tree V:=
 (.br (!Go.Cmp.fok nm) (.leaf (.tup [(.agg [(.str []),(.str []),(.int .i64 0),(.int .i64 0),(.int .i64 0),(.str []),(.str [])]),(.int .i64 7)])) (.br (Go.Cmp.isRowB (Prod.fst (Go.Cmp.frow nm),Prod.fst (Prod.snd (Go.Cmp.frow nm)),Prod.fst (Prod.snd (Prod.snd (Go.Cmp.frow nm))),Prod.fst (Prod.snd (Prod.snd (Prod.snd (Go.Cmp.frow nm)))),Prod.fst (Prod.snd (Prod.snd (Prod.snd (Prod.snd (Go.Cmp.frow nm))))),Prod.fst (Prod.snd (Prod.snd (Prod.snd (Prod.snd (Prod.snd (Go.Cmp.frow nm)))))),Prod.snd (Prod.snd (Prod.snd (Prod.snd (Prod.snd (Prod.snd (Go.Cmp.frow nm)))))))) (.leaf (.tup [(.agg [(.str (Prod.fst (Go.Cmp.frow nm))),(.str (Prod.fst (Prod.snd (Go.Cmp.frow nm)))),(.int .i64 (Prod.fst (Prod.snd (Prod.snd (Go.Cmp.frow nm))))),(.int .i64 (Prod.fst (Prod.snd (Prod.snd (Prod.snd (Go.Cmp.frow nm)))))),(.int .i64 (Prod.fst (Prod.snd (Prod.snd (Prod.snd (Prod.snd (Go.Cmp.frow nm))))))),(.str (Prod.fst (Prod.snd (Prod.snd (Prod.snd (Prod.snd (Prod.snd (Go.Cmp.frow nm)))))))),(.str (Prod.snd (Prod.snd (Prod.snd (Prod.snd (Prod.snd (Prod.snd (Go.Cmp.frow nm))))))))]),(.int .i64 (Go.Cmp.faultyF (Prod.fst (Go.Cmp.frow nm),Prod.fst (Prod.snd (Go.Cmp.frow nm)),Prod.fst (Prod.snd (Prod.snd (Go.Cmp.frow nm))),Prod.fst (Prod.snd (Prod.snd (Prod.snd (Go.Cmp.frow nm)))),Prod.fst (Prod.snd (Prod.snd (Prod.snd (Prod.snd (Go.Cmp.frow nm))))),Prod.fst (Prod.snd (Prod.snd (Prod.snd (Prod.snd (Prod.snd (Go.Cmp.frow nm)))))),Prod.snd (Prod.snd (Prod.snd (Prod.snd (Prod.snd (Prod.snd (Go.Cmp.frow nm))))))) (nm,a,b,c,d,n)))])) .fail))
theorem chkT_eq (nm:List UInt8) (a b c d n:Int):(dfun cx37 Tryz.f37 [.agg [.str nm,.int .i64 a,.int .i64 b,.int .i64 c,.int .i64 d,.int .i64 n]]).run=(chkT nm a b c d n).run:=
 (show (dfun cx37 Tryz.f37 [.agg [.str nm,.int .i64 a,.int .i64 b,.int .i64 c,.int .i64 d,.int .i64 n]]).run=(chkT nm a b c d n).out by kernel_rfl).trans (Tree.out_run _)
def encE (i:InsT):Int:=cond (fok i.1) (faultyF (frow i.1) i) 7
def chkS:Ab.Spec:=fun args=>match args with
 | [.agg [.str nm,.int .i64 a,.int .i64 b,.int .i64 c,.int .i64 d,.int .i64 n]]=>.leaf (.tup [.agg (rowL (frow nm)),.int .i64 (encE (nm,a,b,c,d,n))])
 | _=>.fail
theorem frow_mem {nm:List UInt8} (h:fok nm=true):frow nm ∈ rowsL∧(frow nm).1=nm∧findL nm=some (frow nm):=by
 unfold fok at h
 unfold frow
 cases hf:findL nm with
 | none=>rw [hf] at h; cases h
 | some r =>
  unfold findL at hf
  exact ⟨List.mem_of_find?_eq_some hf,by simpa using List.find?_some hf,rfl⟩
theorem isRowB_of {x:RowT} (h:x ∈ rowsL):isRowB x=true:=List.any_eq_true.2 ⟨x,h,beq_self_eq_true _⟩
theorem cx37_ok:CxOk cx37:=cx1_ok (.cons findS_ok (ok1 faultyS_ok)) (fun p h=>by cases h) rfl rfl
theorem chkS_ok:Sound Tryz.prog 37 chkS:=by
 intro args out h
 unfold chkS at h
 split at h
 rotate_left
 ·cases h
 rename_i nm a b c d n
 have h:=leaf_out h
 subst h
 refine pcall_fun' (cx:=cx37) (fn:=Tryz.f37) cx37_ok (by kernel_rfl) (by kernel_rfl) rfl ((chkT_eq nm a b c d n).trans ?_)
 unfold chkT encE
 rw [br_run]
 cases hf:fok nm
 ·have:frow nm=zeroR:=by
   unfold fok at hf
   unfold frow
   cases hg:findL nm with
   | none=>rfl
   | some r=>rw [hg] at hf; cases hf
  rw [this]
  rfl
 ·exact br_t (isRowB_of (frow_mem hf).1)
end Go.Cmp

namespace Go.Cmp
open Go Go.Ab Go.Proofs
def chkAt (x:RowT):Ab.Spec:=fun args=>match args with
 | [.agg [.str nm,.int .i64 a,.int .i64 b,.int .i64 c,.int .i64 d,.int .i64 n]]=>.req (isAt nm x) (.req (faultyF x (nm,a,b,c,d,n) == 0) (.leaf (.tup [.agg (rowL x),.int .i64 0])))
 | _=>.fail
noncomputable def valA_ps:List Fi:=[⟨39,Tryz.f39,[0,1,2,3,4,5,7,8,12,16,20,24],[],0,[]⟩]
theorem valA_ps_ok:FisOk Tryz.prog valA_ps:=⟨⟨by kernel_rfl,by kernel_rfl⟩,trivial⟩
noncomputable def valA_ms:List Fi:=[]
theorem valA_ms_ok:FisOk Tryz.prog valA_ms:=trivial
noncomputable def valA (d:Nat):Tabs:=deep Tryz.prog {} valA_ps valA_ms d
noncomputable def cxEn (x:RowT):Cx:={ P:=Tryz.prog,n:=39,tab:=[(37,chkAt x),(38,fieldsS)]++(valA 1).tab,mtab:=[],refs:=[],keeps:=[0,1,2,3,4,5,6,8,15,18,19,20,21],fuel:=12 }
def u16 (n:Int):Int:=IntKind.wrap .u16 n
def u8w (n:Int):Int:=IntKind.wrap .u8 n
def or16 (a b:Int):Int:=IntKind.wrap .u16 ↑(BitVec.toNat (BitVec.ofInt 16 a ||| BitVec.ofInt 16 b))
def and16 (a b:Int):Int:=IntKind.wrap .u16 ↑(BitVec.toNat (BitVec.ofInt 16 a &&& BitVec.ofInt 16 b))
def mask16 (k:Int):Int:=u16 (u16 (1*2 ^ min k.toNat 16) - 1)
def srcF (f:FldT) (i:InsT):Int:=cond (f.2.1 == 97) i.2.1 (cond (f.2.1 == 98) i.2.2.1 (cond (f.2.1 == 99) i.2.2.2.1 (Int.fdiv i.2.2.2.2.2 (2 ^ min f.2.2.2.1.toNat 64))))
def valF (f:FldT) (i:InsT):Int:=cond (f.2.1 == 0) f.2.2.1 (and16 (u16 (srcF f i)) (mask16 f.1))
def encW (x:RowT) (i:InsT):Int:=(flds x).foldl (fun w f=>or16 (u16 (w*2 ^ min f.1.toNat 16)) (valF f i)) 0
def bytes2 (w:Int):List Int:=[u8w w,u8w (Int.fdiv w (2 ^ 8))]
def encT (x:RowT) (nm:List UInt8) (a b c d n:Int):Tree V:=
 .br (isAt nm x) (.br (faultyF x (nm,a,b,c,d,n) == 0) (.leaf (.tup [.sl (.int .u8) (bytes2 (encW x (nm,a,b,c,d,n))) [] .full,.int .i64 0])) .fail) .fail
noncomputable def encR (x:RowT) (nm:List UInt8) (a b c d n:Int):Option V:=(dfun (cxEn x) Tryz.f16 [.agg [.str nm,.int .i64 a,.int .i64 b,.int .i64 c,.int .i64 d,.int .i64 n]]).out
def encO (x:RowT) (nm:List UInt8) (a b c d n:Int):Option V:=(encT x nm a b c d n).out
theorem enc_0:(partR 0).map encR=(partR 0).map encO:=by kernel_rfl
theorem enc_1:(partR 1).map encR=(partR 1).map encO:=by kernel_rfl
theorem enc_2:(partR 2).map encR=(partR 2).map encO:=by kernel_rfl
theorem enc_3:(partR 3).map encR=(partR 3).map encO:=by kernel_rfl
theorem enc_4:(partR 4).map encR=(partR 4).map encO:=by kernel_rfl
theorem enc_5:(partR 5).map encR=(partR 5).map encO:=by kernel_rfl
theorem enc_all {x:RowT} (hx:x ∈ rowsL):encR x=encO x:=rows_all enc_0 enc_1 enc_2 enc_3 enc_4 enc_5 hx
def chkNo:Ab.Spec:=fun args=>match args with
 | [.agg [.str nm,.int .i64 a,.int .i64 b,.int .i64 c,.int .i64 d,.int .i64 n]]=>.req (encE (nm,a,b,c,d,n) != 0) (.leaf (.tup [.agg (rowL (frow nm)),.int .i64 (encE (nm,a,b,c,d,n))]))
 | _=>.fail
theorem chkNo_ok:Sound Tryz.prog 37 chkNo:=by
 intro args out h
 refine chkS_ok args out ?_
 unfold chkNo at h
 split at h
 rotate_left
 ·cases h
 exact (req_run h).2
theorem chkAt_ok (x:RowT):Sound Tryz.prog 37 (chkAt x):=by
 intro args out h
 refine chkS_ok args out ?_
 unfold chkAt at h
 split at h
 rotate_left
 ·cases h
 rename_i nm a b c d n
 obtain ⟨h1,h⟩:=req_run h
 obtain ⟨h2,h⟩:=req_run h
 have h:=leaf_out h
 subst h
 have hf:=isAt_eq h1
 have e1:frow nm=x:=by unfold frow; rw [hf]; rfl
 have e2:fok nm=true:=by unfold fok; rw [hf]; rfl
 unfold chkS encE
 simp only
 rw [e2,e1,eq_of_beq h2]
 rfl
noncomputable def cxEx:Cx:={ P:=Tryz.prog,n:=39,tab:=[(37,chkNo)],mtab:=[],refs:=[],keeps:=[0,1,2,3,4,5,6,8,15,18,19,20,21],fuel:=12 }
abbrev nilV:V:=.val (.slice none 0 0)
def encNo (nm:List UInt8) (a b c d n:Int):Tree V:=
 (.br (Go.Cmp.encE (nm,a,b,c,d,n) != 0) (.br (Go.Cmp.encE (nm,a,b,c,d,n) != 0) (.leaf (.tup [(.val (Go.Value.slice Option.none 0 0)),(.int .i64 (Go.Cmp.encE (nm,a,b,c,d,n)))])) .fail) .fail)
theorem encNo_eq (nm:List UInt8) (a b c d n:Int):(dfun cxEx Tryz.f16 [.agg [.str nm,.int .i64 a,.int .i64 b,.int .i64 c,.int .i64 d,.int .i64 n]]).run=(encNo nm a b c d n).run:=
 (show (dfun cxEx Tryz.f16 [.agg [.str nm,.int .i64 a,.int .i64 b,.int .i64 c,.int .i64 d,.int .i64 n]]).run=(encNo nm a b c d n).out by kernel_rfl).trans (Tree.out_run _)
theorem cxEn_ok (x:RowT):CxOk (cxEn x):=cx1_ok (.cons (chkAt_ok x) (.cons fieldsS_ok (deep_ok (tabs_ok (.nil _) (fun p h=>by cases h)) valA_ps_ok valA_ms_ok 1).1)) (fun p h=>by cases h) rfl rfl
def encL (i:InsT):List Int:=bytes2 (encW (frow i.1) i)
def encodeS:Ab.Spec:=fun args=>match args with
 | [.agg [.str nm,.int .i64 a,.int .i64 b,.int .i64 c,.int .i64 d,.int .i64 n]] =>
  .br (encE (nm,a,b,c,d,n) == 0) (.leaf (.tup [.sl (.int .u8) (encL (nm,a,b,c,d,n)) [] .full,.int .i64 0])) (.leaf (.tup [nilV,.int .i64 (encE (nm,a,b,c,d,n))]))
 | _=>.fail
theorem isAt_row {nm:List UInt8} (h:fok nm=true):isAt nm (frow nm)=true:=by
 unfold isAt
 rw [(frow_mem h).2.2]
 exact beq_self_eq_true _
theorem enc_parts {i:InsT} (h:encE i=0):fok i.1=true∧faultyF (frow i.1) i=0:=by
 unfold encE at h
 cases hf:fok i.1
 ·rw [hf] at h; cases h
 ·rw [hf,cond_true] at h; exact ⟨rfl,h⟩
theorem encodeS_ok:Sound Tryz.prog 16 encodeS:=by
 intro args out h
 unfold encodeS at h
 split at h
 rotate_left
 ·cases h
 rename_i nm a b c d n
 rw [br_run] at h
 cases he:(encE (nm,a,b,c,d,n) == 0)
 ·rw [he,cond_false] at h
  have h:=leaf_out h
  subst h
  have hn:(encE (nm,a,b,c,d,n) != 0)=true:=by unfold bne; rw [he]; rfl
  refine pcall_fun' (cx:=cxEx) (fn:=Tryz.f16) (cx1_ok (ok1 chkNo_ok) (fun p h=>by cases h) rfl rfl) (by kernel_rfl) (by kernel_rfl) rfl ((encNo_eq nm a b c d n).trans ?_)
  unfold encNo
  refine (br_t hn).trans ?_
  first | rfl | exact (br_t hn).trans rfl
 ·rw [he,cond_true] at h
  have h:=leaf_out h
  subst h
  obtain ⟨h1,h2⟩:=enc_parts (eq_of_beq he)
  have hw:=congrFun (congrFun (congrFun (congrFun (congrFun (congrFun (enc_all (frow_mem h1).1) nm) a) b) c) d) n
  unfold encR encO at hw
  refine pcall_fun' (cx:=cxEn (frow nm)) (fn:=Tryz.f16) (cxEn_ok _) (by kernel_rfl) (by kernel_rfl) rfl ((Tree.out_run _).symm.trans (hw.trans ((Tree.out_run _).trans ?_)))
  unfold encT
  exact (br_t (isAt_row h1)).trans ((br_t (beq_iff_eq.2 h2)).trans rfl)
end Go.Cmp
