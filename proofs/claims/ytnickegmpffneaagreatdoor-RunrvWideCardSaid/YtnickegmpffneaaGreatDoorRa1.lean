/-
  What texts of this seat share; the table of arm, as runarm's seat has it: reg, count, step, like, sums, others, rows. Conditions: none.
-/
import Derived.Test.YtnickegmpffneaaGreatDoorPk10
import Derived.Test.YtnickegmpffneaaGreatDoorProg
set_option linter.unusedVariables false
set_option linter.unusedSimpArgs false
namespace Go.Ra
open Go Go.Ab Go.Proofs
theorem cx0_ok {cx:Cx} (h1:cx.tab=[]) (h2:cx.mtab=[]) (h3:cx.rtab=[]:=by rfl) (h4:∀ p ∈ cx.globs,p ∈ globsOf cx.P:=by intro p h; cases h):CxOk cx:=by
 refine ⟨?_,?_,?_,h4⟩
 ·rw [h1]; exact .nil _
 ·rw [h2]; intro p h; cases h
 ·rw [h3]; exact .nil _
theorem cx1_ok {cx:Cx} {t:List (Nat × Ab.Spec)} {m:List (Nat × MSpec)} (ht:TabOk cx.P t) (hm:MTabOk cx.P m) (h1:cx.tab=t) (h2:cx.mtab=m) (h3:cx.rtab=[]:=by rfl) (h4:∀ p ∈ cx.globs,p ∈ globsOf cx.P:=by intro p h; cases h):CxOk cx:=by
 refine ⟨?_,?_,?_,h4⟩
 ·rw [h1]; exact ht
 ·rw [h2]; exact hm
 ·rw [h3]; exact .nil _
theorem ok1 {P:Program} {f:Nat} {s:Ab.Spec} (h:Sound P f s):TabOk P [(f,s)]:=.cons h (.nil _)
theorem tabs_ok {P:Program} {t:List (Nat × Ab.Spec)} {m:List (Nat × MSpec)} (ht:TabOk P t) (hm:MTabOk P m):Tabs.Ok P { tab:=t,mtab:=m }:=⟨ht,hm,.nil _,fun p h=>by cases h⟩
end Go.Ra
