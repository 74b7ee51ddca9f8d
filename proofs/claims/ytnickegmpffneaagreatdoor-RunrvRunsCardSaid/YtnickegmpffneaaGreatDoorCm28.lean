/-
  compact: the document's word. Conditions: none.
-/
import Derived.Test.YtnickegmpffneaaGreatDoorPk19
set_option linter.unusedVariables false
set_option linter.unusedSimpArgs false
namespace Go.Cmp
open Go Go.Ab Go.Proofs
noncomputable def cxWX (p:RowT × TabT):Cx:={ P:=Tryz.prog,n:=95,tab:=[(166,findAtX p)],mtab:=[],refs:=[19],keeps:=[0,1,2,3,5,6,7,8,9,10,11,12,28,35,38,51,73],fuel:=18 }
theorem cxWX_ok (x:RowT):CxOk (cxWX (x,tabs x)):=cx1_ok (ok1 (findAtX_ok x)) (fun p h=>by cases h) rfl rfl
def and64 (a b:Int):Int:=IntKind.wrap .i64 ↑(BitVec.toNat (BitVec.ofInt 64 a &&& BitVec.ofInt 64 b))
def andU64 (a b:Int):Int:=IntKind.wrap .u64 ↑(BitVec.toNat (BitVec.ofInt 64 a &&& BitVec.ofInt 64 b))
def bitR (short:Bool) (n:Int) (k:Nat):Int:=and64 (Int.fdiv (cond short (i64 (n - 8)) n) (2 ^ k)) 1
def bitI (n:Int) (k:Nat):Int:=i64 (andU64 (Int.fdiv (IntKind.wrap .u64 n) (2 ^ k)) 1)
def stepW (w b:Int):Int:=u16 (u16 (2*w)+u16 b)
def wordX (short:Bool) (a b c n:Int):List UInt8→Int→Nat→Nat→Nat→Int
 | [],w,_,_,_=>w
 | ch :: r,w,sa,sb,sc =>
  cond (ch == 49) (wordX short a b c n r (stepW w 1) sa sb sc)
  (cond (ch == 97) (wordX short a b c n r (stepW w (bitR short a (cond short 3 5 - 1 - sa))) (sa+1) sb sc)
  (cond (ch == 98) (wordX short a b c n r (stepW w (bitR short b (cond short 3 5 - 1 - sb))) sa (sb+1) sc)
  (cond (ch == 99) (wordX short a b c n r (stepW w (bitR short c (cond short 3 5 - 1 - sc))) sa sb (sc+1))
  (cond (Nat.ble 65 ch.toNat && Nat.ble ch.toNat 76) (wordX short a b c n r (stepW w (bitI n (ch.toNat - 65))) sa sb sc)
  (wordX short a b c n r (stepW w 0) sa sb sc)))))
def wdX (y:TabT) (a b c n:Int):Int:=wordX y.2.2.2.1 a b c n y.2.1 0 0 0 0
noncomputable def wxR (p:RowT × TabT) (nm:List UInt8) (a b c d n:Int):Option V:=(dfun (cxWX p) Tryz.f107 [.agg [.str nm,.int .i64 a,.int .i64 b,.int .i64 c,.int .i64 d,.int .i64 n]]).fin
def wxO (p:RowT × TabT) (nm:List UInt8) (a b c _d n:Int):Option V:=cond (isAt nm p.1) (some (.int .u16 (wdX p.2 a b c n))) none
theorem wx_0:(partT 0).map wxR=(partT 0).map wxO:=by kernel_rfl
theorem wx_1:(partT 1).map wxR=(partT 1).map wxO:=by kernel_rfl
theorem wx_2:(partT 2).map wxR=(partT 2).map wxO:=by kernel_rfl
theorem wx_3:(partT 3).map wxR=(partT 3).map wxO:=by kernel_rfl
theorem wx_4:(partT 4).map wxR=(partT 4).map wxO:=by kernel_rfl
theorem wx_5:(partT 5).map wxR=(partT 5).map wxO:=by kernel_rfl
theorem wx_all {x:RowT} (hx:x ∈ rowsL):wxR (x,tabs x)=wxO (x,tabs x):=
 six_all (l:=pairsT) pairsT_len (fun k hk=>match k,hk with
  | 0,_=>wx_0
  | 1,_=>wx_1
  | 2,_=>wx_2
  | 3,_=>wx_3
  | 4,_=>wx_4
  | 5,_=>wx_5) (pairsT_mem hx)
def wordXS:Ab.Spec:=fun args=>match args with
 | [.agg [.str nm,.int .i64 a,.int .i64 b,.int .i64 c,.int .i64 _,.int .i64 n]]=>.req (fok nm) (.leaf (.int .u16 (wdX (tabs (frow nm)) a b c n)))
 | _=>.fail
theorem wordXS_ok:Sound Tryz.prog 107 wordXS:=by
 intro args out h
 unfold wordXS at h
 split at h
 rotate_left
 ·cases h
 rename_i nm a b c d n
 obtain ⟨hf,h⟩:=req_run h
 have h:=leaf_out h
 subst h
 obtain ⟨hx,hn,_⟩:=frow_mem hf
 have hw:=congrFun (congrFun (congrFun (congrFun (congrFun (congrFun (wx_all hx) nm) a) b) c) d) n
 unfold wxR wxO at hw
 rw [isAt_row hf] at hw
 exact pcall_fun' (cx:=cxWX (frow nm,tabs (frow nm))) (fn:=Tryz.f107) (cxWX_ok _) (by kernel_rfl) (by kernel_rfl) rfl ((Tree.fin_run _).symm.trans hw)
end Go.Cmp
