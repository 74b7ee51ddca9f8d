/-
  compact: what the document reads in a word, row by row; its number out of bytes. Conditions: none.
-/
import Derived.Test.YtnickegmpffneaaGreatDoorPk21
set_option linter.unusedVariables false
set_option linter.unusedSimpArgs false
namespace Go.Cmp
open Go Go.Ab Go.Proofs
theorem re_1:(partT 0).map reR=(partT 0).map reO:=by kernel_rfl
theorem re_2:(partT 1).map reR=(partT 1).map reO:=by kernel_rfl
theorem re_3:(partT 2).map reR=(partT 2).map reO:=by kernel_rfl
theorem re_4:(partT 3).map reR=(partT 3).map reO:=by kernel_rfl
theorem re_5:(partT 4).map reR=(partT 4).map reO:=by kernel_rfl
theorem re_6:(partT 5).map reR=(partT 5).map reO:=by kernel_rfl
theorem re_all {x:RowT} (hx:x ∈ rowsL):reR (x,tabs x)=reO (x,tabs x):=
 six_all (l:=pairsT) pairsT_len (fun k hk=>match k,hk with
  | 0,_=>re_1
  | 1,_=>re_2
  | 2,_=>re_3
  | 3,_=>re_4
  | 4,_=>re_5
  | 5,_=>re_6) (pairsT_mem hx)
def isTabB (y:TabT):Bool:=fok y.1 && strEq (tabs (frow y.1)).1 y.1 && isDoc (frow y.1,tabs (frow y.1)) y
theorem isTabB_to {y:TabT} (h:isTabB y=true):frow y.1 ∈ rowsL∧y=tabs (frow y.1):=by
 unfold isTabB at h
 simp only [Bool.and_eq_true] at h
 exact ⟨(frow_mem h.1.1).1,isDoc_eq h.2⟩
def readXS:Ab.Spec:=fun args=>match args with
 | [.agg [.str nm,.str b,.str o,.bool s,.int .i64 lo,.int .i64 hi,.int .i64 by_,.bool z],.int .u16 w] =>
  .req (isTabB (nm,b,o,s,lo,hi,by_,z)) (.req (decide (0≤w) && decide (w<65536)) (.leaf (insV (rdI (frow nm) w))))
 | _=>.fail
theorem readXS_ok:Sound Tryz.prog 105 readXS:=by
 intro args out h
 unfold readXS at h
 split at h
 rotate_left
 ·cases h
 rename_i nm b o s lo hi by_ z w
 obtain ⟨h1,h⟩:=req_run h
 obtain ⟨h2,h⟩:=req_run h
 have h:=leaf_out h
 subst h
 obtain ⟨hx,e⟩:=isTabB_to h1
 rw [Bool.and_eq_true] at h2
 have hw:=congrFun (re_all hx) w
 unfold reR reO at hw
 simp only at hw e
 rw [← e] at hw
 have hr:=rdX1_eq hx (of_decide_eq_true h2.1) (of_decide_eq_true h2.2)
 rw [← e] at hr
 exact pcall_fun' (cx:=cxReX) (fn:=Tryz.f105) cxReX_ok (by kernel_rfl) (by kernel_rfl) rfl ((Tree.fin_run _).symm.trans (hw.trans hr))
end Go.Cmp
