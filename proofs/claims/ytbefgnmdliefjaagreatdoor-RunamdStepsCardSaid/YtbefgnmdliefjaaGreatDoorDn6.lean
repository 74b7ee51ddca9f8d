/-
  The document's build of amd: places. Conditions: none.
-/
import Derived.Test.YtbefgnmdliefjaaGreatDoorPk24
set_option linter.unusedVariables false
set_option linter.unusedSimpArgs false
namespace Go.Amd
open Go Go.Ab Go.Proofs
section
variable (K:Int->Int->List Int->Option V) (a b c d n:Int)
def aOX (one:Int->Int->Int->Option V):Nat->Int->Int->Option V
 | 0,_,_=>none
 | f+1,k,sc=>cond (decide (1<k)) (aOX one f (wi (Int.tdiv k 2)) (w8 (sc+1))) (one (q8 c) (u8 (Int.tmod c 8)) sc)
def CF (m:Int) (e:List Int) (x idx sc:Int):Option V:=
 K x (q8 b) ([gF (gF (gM m 6) (gM (u8 (Int.tmod a 8)) 3)) 4,gF (gF (gM sc 6) (gM idx 3)) (u8 (Int.tmod b 8))]++e)
def CA (m:Int) (e:List Int):Option V:=
 cond (c != 16) (aOX c (CF K a b m e) 5 d 0) (CF K a b m e 0 4 0)
def HU (m:Int) (e:List Int):Option V:=
 cond (c==16) (cond (u8 (Int.tmod b 8) != 4) (K 0 (q8 b) ([gF (gF (gM m 6) (gM (u8 (Int.tmod a 8)) 3)) (u8 (Int.tmod b 8))]++e)) (CA K a b c d m e)) (CA K a b c d m e)
def S9:Option V:=cond (oK n) (HU K a b c d 1 [u8 (jF n)]) (HU K a b c d 2 (oZ (jF n)))
def D2:Option V:=
 cond (b==17) (K 0 0 ([gF (gM (u8 (Int.tmod a 8)) 3) 5]++oZ (jF n)))
  (cond (n==0) (cond (u8 (Int.tmod b 8) != 5) (HU K a b c d 0 []) (S9 K a b c d n)) (S9 K a b c d n))
end
theorem ahY (q:List UInt8->Bool) (x:List UInt8) (dg:Int) (nm:List UInt8) (a b c d n o:Int):(cI q 4 [o] 2 x dg nm a b c d n).fin=D2 (fun x e t=>some (bK ([eT 1 (q8 a) x e]++[o]++t))) a b c d n:=by kernel_rfl
theorem ajG (q:List UInt8->Bool) (x:List UInt8) (dg:Int) (nm:List UInt8) (a b c d n o p:Int):(cI q 4 [o,p] 2 x dg nm a b c d n).fin=D2 (fun x e t=>some (bK ([eT 1 (q8 a) x e]++[o,p]++t))) a b c d n:=by kernel_rfl
theorem ajJ (q:List UInt8->Bool) (x:List UInt8) (dg:Int) (nm:List UInt8) (a b c d n o:Int):(cI q 4 [o] 1 x dg nm a b c d n).fin=D2 (fun x e t=>some (bK ([eT 0 (q8 a) x e]++[o]++t))) a b c d n:=by kernel_rfl
theorem afR (q:List UInt8->Bool) (x:List UInt8) (dg:Int) (nm:List UInt8) (a b c d n o:Int):(cI q 4 [o] 0 x dg nm a b c d n).fin=D2 (fun x e t=>cond (decide (0<wi (wi (q8 a+x)+e))) (some (bK ([eT 0 (q8 a) x e]++[o]++t))) (some (bK ([o]++t)))) a b c d n:=by kernel_rfl
end Go.Amd
