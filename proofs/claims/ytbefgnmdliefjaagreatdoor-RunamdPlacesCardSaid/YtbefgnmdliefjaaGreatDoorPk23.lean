/-
  What a row uses; why an instruction may not be. Conditions: none.
-/
import Derived.Test.YtbefgnmdliefjaaGreatDoorPk22
set_option linter.unusedVariables false
set_option linter.unusedSimpArgs false
namespace Go.Amd
open Go Go.Ab Go.Proofs
noncomputable def cx93:Cx:={ P:=Tryz.prog,n:=29,tab:=[],mtab:=[],refs:=[],keeps:=[0,1,2,3,4,5,7,8,11,17,20,22] }
noncomputable def usesS:Ab.Spec:=fun args=>.req (Nat.ble args.length Tryz.f93.ntmps) (dfun cx93 Tryz.f93 args)
theorem usesS_ok:Sound Tryz.prog 93 usesS:=sound_fun (cx:=cx93) (fn:=Tryz.f93) (cx0_ok rfl rfl) (by kernel_rfl) (by kernel_rfl)
noncomputable def cx52:Cx:={ P:=Tryz.prog,n:=81,tab:=[(93,usesS),(94,registerS),(95,placeS),(96,conditionS)],mtab:=[],refs:=[],keeps:=[0,1,2,3,4,5,6,7,8,9,21,53,65] }
theorem cxFa_ok:CxOk cx52:=cx1_ok (.cons usesS_ok (.cons registerS_ok (.cons placeS_ok (ok1 conditionS_ok)))) (.nil _) rfl rfl
def formR (x:RowT):Int:=x.2.2.2.1
def condR (x:RowT):Bool:=x.2.2.2.2.2.1
def lowR (x:RowT):Int:=x.2.2.2.2.2.2.1
def highR (x:RowT):Int:=x.2.2.2.2.2.2.2.1
def uA (x:RowT):Bool:=!(formR x == 0 || formR x == 11 || formR x == 12)
def uB (x:RowT):Bool:=formR x == 7 || formR x == 8
def uM (x:RowT):Bool:=formR x == 9
def uI (x:RowT):Bool:=formR x == 2 || formR x == 4 || formR x == 5 || formR x == 6 || formR x == 9 || formR x == 10 || formR x == 11 || formR x == 12
def tE (n:Int):Tree V:=.leaf (.int .i64 n)
def tailH (x:RowT) (o:Bool) (n:Int):Tree V:=
 .br (!o) (tE 13) (.br (uI x) (.br (decide (n<lowR x)) (tE 3) (.br (decide (highR x<n)) (tE 3) (tE 0))) (.br (n != 0) (tE 13) (tE 0)))
def faultyH (x:RowT) (a b c d n:Int):Tree V:=
 .br (uM x) (.br (regF a (uA x)) (tailH x (placeF b c d) n) (tailH x false n))
  (.br (regF a (uA x)) (.br (regF b (uB x)) (.br (c == 0) (.br (d == 0) (tailH x true n) (.br (condR x) (tailH x (condF d) n) (tailH x false n))) (tailH x false n)) (tailH x false n)) (tailH x false n))
def forms:List Int:=[0,1,2,3,4,5,6,7,8,9,10,11,12]
def formOk (x:RowT):Bool:=forms.contains (formR x)
theorem forms_of {β:Type} {f g:Int→β} (h:forms.map f=forms.map g) {x:RowT} (hx:formOk x=true):f (formR x)=g (formR x):=
 List.map_inj_left.1 h _ (by simpa [formOk] using hx)
theorem faulty_forms:forms.map (fun f nm rex op dg cn lo hi ops i a b c d n=>(dfun cx52 Tryz.f52 [.agg (rowL (nm,rex,op,f,dg,cn,lo,hi,ops)),.agg [.str i,.int .i64 a,.int .i64 b,.int .i64 c,.int .i64 d,.int .i64 n]]).out) =
  forms.map (fun f nm rex op dg cn lo hi ops _ a b c d n=>(faultyH (nm,rex,op,f,dg,cn,lo,hi,ops) a b c d n).out):=by kernel_rfl
end Go.Amd

namespace Go.Amd
open Go Go.Ab Go.Proofs
def tailF (x:RowT) (o:Bool) (n:Int):Int:=cond (!o) 13 (cond (uI x) (cond (decide (n<lowR x)) 3 (cond (decide (highR x<n)) 3 0)) (cond (n != 0) 13 0))
def okF (x:RowT) (a b c d:Int):Bool:=
 cond (uM x) (cond (regF a (uA x)) (placeF b c d) false) (cond (regF a (uA x)) (cond (regF b (uB x)) (cond (c == 0) (cond (d == 0) true (cond (condR x) (condF d) false)) false) false) false)
def faultyF (x:RowT) (i:InsT):Int:=tailF x (okF x i.2.1 i.2.2.1 i.2.2.2.1 i.2.2.2.2.1) i.2.2.2.2.2
theorem tailH_run (x:RowT) (o:Bool) (n:Int):(tailH x o n).run=some (.int .i64 (tailF x o n)):=by
 unfold tailH tailF tE
 cases o
 ·rfl
 ·cases (uI x)
  ·cases (n != 0) <;> rfl
  ·cases decide (n<lowR x)
   ·cases decide (highR x<n) <;> rfl
   ·rfl
theorem faultyH_run (x:RowT) (a b c d n:Int):(faultyH x a b c d n).run=some (.int .i64 (tailF x (okF x a b c d) n)):=by
 unfold faultyH okF
 simp only [br_run,tailH_run]
 cases (uM x) <;> cases regF a (uA x) <;> cases regF b (uB x) <;> cases (c == 0) <;> cases (d == 0) <;> cases condR x <;> rfl
def faultyS:Ab.Spec:=fun args=>match args with
 | [.agg [.str nm,.int .i64 rex,.int .u16 op,.int .i64 f,.int .u8 dg,.bool cn,.int .i64 lo,.int .i64 hi,.str ops],.agg [.str i,.int .i64 a,.int .i64 b,.int .i64 c,.int .i64 d,.int .i64 n]] =>
  .req (formOk (nm,rex,op,f,dg,cn,lo,hi,ops)) (.leaf (.int .i64 (faultyF (nm,rex,op,f,dg,cn,lo,hi,ops) (i,a,b,c,d,n))))
 | _=>.fail
theorem faultyS_ok:Sound Tryz.prog 52 faultyS:=by
 intro args out h
 unfold faultyS at h
 split at h
 rotate_left
 ·cases h
 rename_i nm rex op f dg cn lo hi ops i a b c d n
 obtain ⟨h1,h⟩:=req_run h
 have h:=leaf_out h
 subst h
 refine pcall_fun' (cx:=cx52) (fn:=Tryz.f52) cxFa_ok (by kernel_rfl) (by kernel_rfl) (by kernel_rfl) ?_
 have e:=congrFun (congrFun (congrFun (congrFun (congrFun (congrFun (congrFun (congrFun (congrFun (congrFun (congrFun (congrFun (congrFun (congrFun (forms_of faulty_forms h1) nm) rex) op) dg) cn) lo) hi) ops) i) a) b) c) d) n
 exact (Tree.out_run _).symm.trans (e.trans ((Tree.out_run _).trans (faultyH_run (nm,rex,op,f,dg,cn,lo,hi,ops) a b c d n)))
end Go.Amd
