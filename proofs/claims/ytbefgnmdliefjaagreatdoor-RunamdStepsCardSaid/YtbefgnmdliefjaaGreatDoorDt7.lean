/-
  runamd: row by row, the program's Run and the document's alike. Printed by mkdt.py. Conditions: none.
-/
import Derived.Test.YtbefgnmdliefjaaGreatDoorPk19
open Go.IntKind (wrap i64 u64 u8)
open List renaming mem_cons_self→ZD1,mem_cons_of_mem→ZD2
set_option linter.unusedVariables false
set_option linter.unusedSimpArgs false
namespace Go.Ra
open Go Go.Ab Go.Proofs Go.Amd
theorem aJ5 (y:Int):wrap .i32 y=if 2147483648<=y % 4294967296 then y % 4294967296 - 4294967296 else y % 4294967296:=by
 unfold wrap;simp [IntKind.bits,IntKind.signed]
theorem acV (y:Int):IQ y=wu (wi (wrap .i32 y)):=by
 unfold IQ aPJ x32
 have e:wrap .i32 (wrap .u32 y)=wrap .i32 y:=by
  rw [aJ5,aJ5,show wrap .u32 y=y % 4294967296 from rfl,Int.emod_emod_of_dvd _ (Int.dvd_refl _)]
 rw [e]
def NR:List RowT:=[
 ([109,111,118,46,114,114],1,137,7,0,false,0,0,[65,66]),
 ([109,111,118,46,114,105],1,184,2,0,false,-9223372036854775808,9223372036854775807,[65,105]),
 ([109,111,118,46,114,115],1,199,4,0,false,-2147483648,2147483647,[65,105]),
 ([109,111,118,46,114,109],1,139,9,0,false,-2147483648,2147483647,[65,109]),
 ([109,111,118,108,46,114,109],0,139,9,0,false,-2147483648,2147483647,[65,109]),
 ([109,111,118,115,108,46,114,109],1,99,9,0,false,-2147483648,2147483647,[65,109]),
 ([109,111,118,122,98,46,114,109],1,4022,9,0,false,-2147483648,2147483647,[65,109]),
 ([108,101,97],1,141,9,0,false,-2147483648,2147483647,[65,109]),
 ([109,111,118,46,109,114],1,137,9,0,false,-2147483648,2147483647,[65,109]),
 ([109,111,118,108,46,109,114],0,137,9,0,false,-2147483648,2147483647,[65,109]),
 ([109,111,118,98,46,109,114],2,136,9,0,false,-2147483648,2147483647,[65,109]),
 ([109,111,118,46,102,115],1,139,10,0,false,-2147483648,2147483647,[65,105]),
 ([97,100,100,46,114,114],1,1,7,0,false,0,0,[65,66]),
 ([111,114,46,114,114],1,9,7,0,false,0,0,[65,66]),
 ([97,110,100,46,114,114],1,33,7,0,false,0,0,[65,66]),
 ([115,117,98,46,114,114],1,41,7,0,false,0,0,[65,66]),
 ([120,111,114,46,114,114],1,49,7,0,false,0,0,[65,66]),
 ([99,109,112,46,114,114],1,57,7,0,false,0,0,[65,66]),
 ([97,100,100,46,114,109],1,3,9,0,false,-2147483648,2147483647,[65,109]),
 ([111,114,46,114,109],1,11,9,0,false,-2147483648,2147483647,[65,109]),
 ([97,110,100,46,114,109],1,35,9,0,false,-2147483648,2147483647,[65,109]),
 ([115,117,98,46,114,109],1,43,9,0,false,-2147483648,2147483647,[65,109]),
 ([120,111,114,46,114,109],1,51,9,0,false,-2147483648,2147483647,[65,109]),
 ([99,109,112,46,114,109],1,59,9,0,false,-2147483648,2147483647,[65,109]),
 ([97,100,100,46,114,105],1,131,6,0,false,-2147483648,2147483647,[65,105]),
 ([111,114,46,114,105],1,131,6,1,false,-2147483648,2147483647,[65,105]),
 ([97,110,100,46,114,105],1,131,6,4,false,-2147483648,2147483647,[65,105]),
 ([115,117,98,46,114,105],1,131,6,5,false,-2147483648,2147483647,[65,105]),
 ([120,111,114,46,114,105],1,131,6,6,false,-2147483648,2147483647,[65,105]),
 ([99,109,112,46,114,105],1,131,6,7,false,-2147483648,2147483647,[65,105]),
 ([116,101,115,116,46,114,114],1,133,7,0,false,0,0,[65,66]),
 ([105,109,117,108,46,114,114],1,4015,8,0,false,0,0,[65,66]),
 ([110,111,116],1,247,3,2,false,0,0,[65]),
 ([110,101,103],1,247,3,3,false,0,0,[65]),
 ([109,117,108],1,247,3,4,false,0,0,[65]),
 ([100,105,118],1,247,3,6,false,0,0,[65]),
 ([105,100,105,118],1,247,3,7,false,0,0,[65]),
 ([99,113,111],1,153,0,0,false,0,0,[]),
 ([115,104,108,46,114,105],1,193,5,4,false,0,63,[65,105]),
 ([115,104,114,46,114,105],1,193,5,5,false,0,63,[65,105]),
 ([115,97,114,46,114,105],1,193,5,7,false,0,63,[65,105]),
 ([115,104,108,46,114,99],1,211,3,4,false,0,0,[65]),
 ([115,104,114,46,114,99],1,211,3,5,false,0,0,[65]),
 ([115,97,114,46,114,99],1,211,3,7,false,0,0,[65]),
 ([99,109,111,118],1,3904,8,0,true,0,0,[65,66,99]),
 ([112,117,115,104],0,80,1,0,false,0,0,[65]),
 ([112,111,112],0,88,1,0,false,0,0,[65]),
 ([99,97,108,108],0,232,11,0,false,-2147483648,2147483647,[106]),
 ([106,109,112],0,233,11,0,false,-2147483648,2147483647,[106]),
 ([106,109,112,46,115],0,235,12,0,false,-128,127,[106]),
 ([99,97,108,108,46,114],0,255,3,2,false,0,0,[65]),
 ([106,109,112,46,114],0,255,3,4,false,0,0,[65]),
 ([106,99,99],0,3968,11,0,true,-2147483648,2147483647,[99,106]),
 ([106,99,99,46,115],0,112,12,0,true,-128,127,[99,106]),
 ([114,101,116],0,195,0,0,false,0,0,[]),
 ([115,121,115,99,97,108,108],0,3845,0,0,false,0,0,[]),
 ([110,111,112],0,144,0,0,false,0,0,[]),
 ([117,100,50],0,3851,0,0,false,0,0,[])]
theorem a3J:NR=aD:=by
 unfold aD;rfl
def ZC:List RowT->List (List UInt8 × bR)->List (List UInt8 × bR)->Prop
 | z :: q,x :: r,y :: t=>z.1=x.1/\x.1=y.1/\Alike z x.2 y.2/\ZC q r t
 | _,_,_=>True
section
variable {wd:Int->Int->Int × Int} {lg:Int->Int->Int->Int × Int} (hw:DJ wd) (hg:DA lg)
theorem ahJ:Alike ([109,111,118,46,114,114],1,137,7,0,false,0,0,[65,66]) ((aZ (wG fun e S k=>aH e.a (aL e.b S fun y=>eF e.a y S k))) [109,111,118,46,114,114]) ((aN fun e _ S k=>aL e.b S fun y=>b6 e y S k) [109,111,118,46,114,114]):=a1Y (by kernel_rfl)
theorem ahH:Alike ([109,111,118,46,114,105],1,184,2,0,false,-9223372036854775808,9223372036854775807,[65,105]) ((aZ (sE fun e S k=>aH e.a (eF e.a (wu e.m) S k))) [109,111,118,46,114,105]) ((aN fun e _ S k=>b6 e (wu e.m) S k) [109,111,118,46,114,105]):=aGA fun _ _ _=>.inr rfl
theorem agC:Alike ([109,111,118,46,114,115],1,199,4,0,false,-2147483648,2147483647,[65,105]) ((aZ fun e S k=>aH e.a (eF e.a (wu e.m) S k)) [109,111,118,46,114,115]) ((aN fun e _ S k=>b6 e (wu e.m) S k) [109,111,118,46,114,115]):=aGA fun _ _ _=>.inl rfl
theorem ajA:Alike ([109,111,118,46,114,109],1,139,9,0,false,-2147483648,2147483647,[65,109]) ((uV 8 fun x=>x) [109,111,118,46,114,109]) ((aN fun e _ S k=>dB e S fun p=>fH e p 8 S fun y U=>b6 e y U k) [109,111,118,46,114,109]):=NQ (by kernel_rfl) 8 (f:=fun x=>x) (g:=fun x=>x) (fun _=>rfl) fun _ h=>h
theorem ah0:Alike ([109,111,118,108,46,114,109],0,139,9,0,false,-2147483648,2147483647,[65,109]) ((uV 4 fun x=>x) [109,111,118,108,46,114,109]) ((aN fun e _ S k=>dB e S fun p=>fH e p 4 S fun y U=>b6 e y U k) [109,111,118,108,46,114,109]):=NQ (by kernel_rfl) 4 (f:=fun x=>x) (g:=fun x=>x) (fun _=>rfl) fun _ h=>h
theorem agV:Alike ([109,111,118,115,108,46,114,109],1,99,9,0,false,-2147483648,2147483647,[65,109]) ((uV 4 fun x=>wu (wi (wrap .i32 x))) [109,111,118,115,108,46,114,109]) ((aN fun e _ S k=>dB e S fun p=>fH e p 4 S fun y U=>b6 e (IQ y) U k) [109,111,118,115,108,46,114,109]):=NQ (by kernel_rfl) 4 (f:=fun x=>wu (wi (wrap .i32 x))) (g:=IQ) acV fun _ _=>cJ _
theorem ahE:Alike ([109,111,118,122,98,46,114,109],1,4022,9,0,false,-2147483648,2147483647,[65,109]) ((uV 1 fun x=>x) [109,111,118,122,98,46,114,109]) ((aN fun e _ S k=>dB e S fun p=>fH e p 1 S fun y U=>b6 e y U k) [109,111,118,122,98,46,114,109]):=NQ (by kernel_rfl) 1 (f:=fun x=>x) (g:=fun x=>x) (fun _=>rfl) fun _ h=>h
theorem ahU:Alike ([108,101,97],1,141,9,0,false,-2147483648,2147483647,[65,109]) ((aZ fun e S k=>aH e.a (dB e S fun x=>eF e.a x S k)) [108,101,97]) ((aN fun e _ S k=>dB e S fun p=>b6 e p S k) [108,101,97]):=adM (by kernel_rfl)
theorem ag5:Alike ([109,111,118,46,109,114],1,137,9,0,false,-2147483648,2147483647,[65,109]) ((xQ 8) [109,111,118,46,109,114]) ((pX fun e _ S k=>dB e S fun p=>aL e.a S fun y=>r7 e p 8 y S k) [109,111,118,46,109,114]):=XR (by kernel_rfl) 8
theorem agG:Alike ([109,111,118,108,46,109,114],0,137,9,0,false,-2147483648,2147483647,[65,109]) ((xQ 4) [109,111,118,108,46,109,114]) ((pX fun e _ S k=>dB e S fun p=>aL e.a S fun y=>r7 e p 4 y S k) [109,111,118,108,46,109,114]):=XR (by kernel_rfl) 4
theorem abO:Alike ([109,111,118,98,46,109,114],2,136,9,0,false,-2147483648,2147483647,[65,109]) ((xQ 1) [109,111,118,98,46,109,114]) ((pX fun e _ S k=>dB e S fun p=>aL e.a S fun y=>r7 e p 1 y S k) [109,111,118,98,46,109,114]):=XR (by kernel_rfl) 1
theorem acQ:Alike ([109,111,118,46,102,115],1,139,10,0,false,-2147483648,2147483647,[65,105]) ((fsR) [109,111,118,46,102,115]) ((aN fun e _ S k=>fH e (wu (e.s.th+wu e.m)) 8 S fun y U=>b6 e y U k) [109,111,118,46,102,115]):=ahT
theorem af2:Alike ([97,100,100,46,114,114],1,1,7,0,false,0,0,[65,66]) ((m5 w9) [97,100,100,46,114,114]) ((aN fun e _ S k=>aL e.b S fun y=>aL e.a S fun x=>uF x y S fun v T=>dP e v T k) [97,100,100,46,114,114]):=zQ TU (by kernel_rfl)
theorem adZ:Alike ([111,114,46,114,114],1,9,7,0,false,0,0,[65,66]) ((m5 (jW l8)) [111,114,46,114,114]) ((aN fun e _ S k=>aL e.b S fun y=>aL e.a S fun x=>(gS l8) x y S fun v T=>dP e v T k) [111,114,46,114,114]):=zQ (tK (f:=l8) SS) (by kernel_rfl)
theorem abR:Alike ([97,110,100,46,114,114],1,33,7,0,false,0,0,[65,66]) ((m5 (jW bG)) [97,110,100,46,114,114]) ((aN fun e _ S k=>aL e.b S fun y=>aL e.a S fun x=>(gS bG) x y S fun v T=>dP e v T k) [97,110,100,46,114,114]):=zQ (tK (f:=bG) vL) (by kernel_rfl)
theorem acR:Alike ([115,117,98,46,114,114],1,41,7,0,false,0,0,[65,66]) ((m5 xB) [115,117,98,46,114,114]) ((aN fun e _ S k=>aL e.b S fun y=>aL e.a S fun x=>j7 x y S fun v T=>dP e v T k) [115,117,98,46,114,114]):=zQ SK (by kernel_rfl)
theorem aaI:Alike ([120,111,114,46,114,114],1,49,7,0,false,0,0,[65,66]) ((m5 (jW gB)) [120,111,114,46,114,114]) ((aN fun e _ S k=>aL e.b S fun y=>aL e.a S fun x=>(gS gB) x y S fun v T=>dP e v T k) [120,111,114,46,114,114]):=zQ (tK (f:=gB) yO) (by kernel_rfl)
theorem aaB:Alike ([99,109,112,46,114,114],1,57,7,0,false,0,0,[65,66]) ((m5 xF) [99,109,112,46,114,114]) ((aN fun e _ S k=>aL e.b S fun y=>aL e.a S fun x=>j7 x y S fun v T=>pQ e v T k) [99,109,112,46,114,114]):=zQ SU (by kernel_rfl)
theorem aeP:Alike ([97,100,100,46,114,109],1,3,9,0,false,-2147483648,2147483647,[65,109]) ((o6 w9) [97,100,100,46,114,109]) ((aN fun e _ S k=>dB e S fun p=>fH e p 8 S fun y U=>aL e.a U fun x=>uF x y U fun v T=>dP e v T k) [97,100,100,46,114,109]):=CP TU (by kernel_rfl)
theorem ac0:Alike ([111,114,46,114,109],1,11,9,0,false,-2147483648,2147483647,[65,109]) ((o6 (jW l8)) [111,114,46,114,109]) ((aN fun e _ S k=>dB e S fun p=>fH e p 8 S fun y U=>aL e.a U fun x=>(gS l8) x y U fun v T=>dP e v T k) [111,114,46,114,109]):=CP (tK (f:=l8) SS) (by kernel_rfl)
theorem ab8:Alike ([97,110,100,46,114,109],1,35,9,0,false,-2147483648,2147483647,[65,109]) ((o6 (jW bG)) [97,110,100,46,114,109]) ((aN fun e _ S k=>dB e S fun p=>fH e p 8 S fun y U=>aL e.a U fun x=>(gS bG) x y U fun v T=>dP e v T k) [97,110,100,46,114,109]):=CP (tK (f:=bG) vL) (by kernel_rfl)
theorem aaU:Alike ([115,117,98,46,114,109],1,43,9,0,false,-2147483648,2147483647,[65,109]) ((o6 xB) [115,117,98,46,114,109]) ((aN fun e _ S k=>dB e S fun p=>fH e p 8 S fun y U=>aL e.a U fun x=>j7 x y U fun v T=>dP e v T k) [115,117,98,46,114,109]):=CP SK (by kernel_rfl)
theorem aeO:Alike ([120,111,114,46,114,109],1,51,9,0,false,-2147483648,2147483647,[65,109]) ((o6 (jW gB)) [120,111,114,46,114,109]) ((aN fun e _ S k=>dB e S fun p=>fH e p 8 S fun y U=>aL e.a U fun x=>(gS gB) x y U fun v T=>dP e v T k) [120,111,114,46,114,109]):=CP (tK (f:=gB) yO) (by kernel_rfl)
theorem acP:Alike ([99,109,112,46,114,109],1,59,9,0,false,-2147483648,2147483647,[65,109]) ((o6 xF) [99,109,112,46,114,109]) ((aN fun e _ S k=>dB e S fun p=>fH e p 8 S fun y U=>aL e.a U fun x=>j7 x y U fun v T=>pQ e v T k) [99,109,112,46,114,109]):=CP SU (by kernel_rfl)
theorem ae3:Alike ([97,100,100,46,114,105],1,131,6,0,false,-2147483648,2147483647,[65,105]) ((o5 w9) [97,100,100,46,114,105]) ((aN fun e _ S k=>aL e.a S fun x=>uF x (wu e.m) S fun v T=>dP e v T k) [97,100,100,46,114,105]):=C0 TU
theorem acJ:Alike ([111,114,46,114,105],1,131,6,1,false,-2147483648,2147483647,[65,105]) ((o5 (jW l8)) [111,114,46,114,105]) ((aN fun e _ S k=>aL e.a S fun x=>(gS l8) x (wu e.m) S fun v T=>dP e v T k) [111,114,46,114,105]):=C0 (tK (f:=l8) SS)
theorem aeM:Alike ([97,110,100,46,114,105],1,131,6,4,false,-2147483648,2147483647,[65,105]) ((o5 (jW bG)) [97,110,100,46,114,105]) ((aN fun e _ S k=>aL e.a S fun x=>(gS bG) x (wu e.m) S fun v T=>dP e v T k) [97,110,100,46,114,105]):=C0 (tK (f:=bG) vL)
theorem aaR:Alike ([115,117,98,46,114,105],1,131,6,5,false,-2147483648,2147483647,[65,105]) ((o5 xB) [115,117,98,46,114,105]) ((aN fun e _ S k=>aL e.a S fun x=>j7 x (wu e.m) S fun v T=>dP e v T k) [115,117,98,46,114,105]):=C0 SK
theorem afP:Alike ([120,111,114,46,114,105],1,131,6,6,false,-2147483648,2147483647,[65,105]) ((o5 (jW gB)) [120,111,114,46,114,105]) ((aN fun e _ S k=>aL e.a S fun x=>(gS gB) x (wu e.m) S fun v T=>dP e v T k) [120,111,114,46,114,105]):=C0 (tK (f:=gB) yO)
theorem ab0:Alike ([99,109,112,46,114,105],1,131,6,7,false,-2147483648,2147483647,[65,105]) ((o5 xF) [99,109,112,46,114,105]) ((aN fun e _ S k=>aL e.a S fun x=>j7 x (wu e.m) S fun v T=>pQ e v T k) [99,109,112,46,114,105]):=C0 SU
theorem ad8:Alike ([116,101,115,116,46,114,114],1,133,7,0,false,0,0,[65,66]) ((m5 NG) [116,101,115,116,46,114,114]) ((aN fun e _ S k=>aL e.b S fun y=>aL e.a S fun x=>(gS bG) x y S fun v T=>pQ e v T k) [116,101,115,116,46,114,114]):=zQ a3D (by kernel_rfl)
include hw in
theorem ae8:Alike ([105,109,117,108,46,114,114],1,4015,8,0,false,0,0,[65,66]) ((aZ (wG fun e S k=>aH e.a (aH e.a (ND e S k)))) [105,109,117,108,46,114,114]) ((aN fun e _ S k=>aL e.a S fun x=>aL e.b S fun y=>MS wd e x y S k) [105,109,117,108,46,114,114]):=a6O hw (by kernel_rfl)
theorem ac7:Alike ([110,111,116],1,247,3,2,false,0,0,[65]) ((aZ fun e S k=>aH e.a (aH e.a (iI e.a S fun x=>eF e.a (kP x) S k))) [110,111,116]) ((aN fun e x S k=>b6 e (kP x) S k) [110,111,116]):=aeN
theorem ab5:Alike ([110,101,103],1,247,3,3,false,0,0,[65]) ((aZ fun e S k=>aH e.a (aH e.a (iI e.a S fun x=>AH 0 x S fun y T=>eF e.a y T k))) [110,101,103]) ((aN fun e x S k=>j7 0 x S fun v T=>b6 e v T k) [110,101,103]):=acW
include hw in
theorem aaX:Alike ([109,117,108],1,247,3,4,false,0,0,[65]) ((aZ fun e S k=>aH e.a (aH e.a (OE e S k))) [109,117,108]) ((aN fun e x S k=>k (wT ((wd (e.s.x.getD 0 0) x).1 != 0) ((S.set 1 (.int .u64 (wd (e.s.x.getD 0 0) x).2)).set 3 (.int .u64 (wd (e.s.x.getD 0 0) x).1)))) [109,117,108]):=aaL hw
include hg in
theorem ad7:Alike ([100,105,118],1,247,3,6,false,0,0,[65]) ((ZN) [100,105,118]) ((aN fun e x S k=>OD lg e x S k) [100,105,118]):=aa8 hg
include hg in
theorem afC:Alike ([105,100,105,118],1,247,3,7,false,0,0,[65]) ((WH) [105,100,105,118]) ((aN fun e x S k=>G7 lg e x S k) [105,100,105,118]):=a8Z hg
theorem acB:Alike ([99,113,111],1,153,0,0,false,0,0,[]) ((aZ fun e S k=>aH e.a (k (S.set 3 (.int .u64 (wu (Int.fdiv (wi (e.s.x.getD 0 0)) (2 ^ 63))))))) [99,113,111]) ((aN fun e _ S k=>k (S.set 3 (.int .u64 (wu (Int.fdiv (wi (e.s.x.getD 0 0)) (2 ^ 63)))))) [99,113,111]):=adW
theorem aaF:Alike ([115,104,108,46,114,105],1,193,5,4,false,0,63,[65,105]) ((aZ (sE fun e S k=>aH e.a (aH e.a (DQ e.a (wu e.m) S k)))) [115,104,108,46,114,105]) ((aN fun e _ S k=>aL e.a S fun x=>DK e x (wu e.m) S k) [115,104,108,46,114,105]):=UO aKH (by kernel_rfl) (by kernel_rfl) (by kernel_rfl)
theorem aeY:Alike ([115,104,114,46,114,105],1,193,5,5,false,0,63,[65,105]) ((aZ (sE fun e S k=>aH e.a (aH e.a (DS e.a (wu e.m) S k)))) [115,104,114,46,114,105]) ((aN fun e _ S k=>aL e.a S fun x=>DB e x (wu e.m) S k) [115,104,114,46,114,105]):=UO aL1 (by kernel_rfl) (by kernel_rfl) (by kernel_rfl)
theorem abS:Alike ([115,97,114,46,114,105],1,193,5,7,false,0,63,[65,105]) ((aZ (sE fun e S k=>aH e.a (aH e.a (DR e.a (wu e.m) S k)))) [115,97,114,46,114,105]) ((aN fun e _ S k=>aL e.a S fun x=>DG e x (wu e.m) S k) [115,97,114,46,114,105]):=UO aL0 (by kernel_rfl) (by kernel_rfl) (by kernel_rfl)
theorem adV:Alike ([115,104,108,46,114,99],1,211,3,4,false,0,0,[65]) ((aZ fun e S k=>aH e.a (aH e.a (DQ e.a (bG (e.s.x.getD 1 0) 63) S k))) [115,104,108,46,114,99]) ((aN fun e _ S k=>aL e.a S fun x=>DK e x (bG (e.s.x.getD 1 0) 63) S k) [115,104,108,46,114,99]):=UH aKH
theorem aa1:Alike ([115,104,114,46,114,99],1,211,3,5,false,0,0,[65]) ((aZ fun e S k=>aH e.a (aH e.a (DS e.a (bG (e.s.x.getD 1 0) 63) S k))) [115,104,114,46,114,99]) ((aN fun e _ S k=>aL e.a S fun x=>DB e x (bG (e.s.x.getD 1 0) 63) S k) [115,104,114,46,114,99]):=UH aL1
theorem aeS:Alike ([115,97,114,46,114,99],1,211,3,7,false,0,0,[65]) ((aZ fun e S k=>aH e.a (aH e.a (DR e.a (bG (e.s.x.getD 1 0) 63) S k))) [115,97,114,46,114,99]) ((aN fun e _ S k=>aL e.a S fun x=>DG e x (bG (e.s.x.getD 1 0) 63) S k) [115,97,114,46,114,99]):=UH aL0
theorem ae7:Alike ([99,109,111,118],1,3904,8,0,true,0,0,[65,66,99]) ((aZ fun e S k=>aH e.a (cond (oF e.s.z e.s.n e.s.c e.s.v e.d) (aL e.b S fun y=>eF e.a y S k) (k S))) [99,109,111,118]) ((aN fun e _ S k=>cond (bY e.s.z e.s.n e.s.c e.s.v e.d) (aL e.b S fun y=>b6 e y S k) (k S)) [99,109,111,118]):=a7U (by kernel_rfl)
theorem abV:Alike ([112,117,115,104],0,80,1,0,false,0,0,[65]) ((NC) [112,117,115,104]) ((pX fun e x S k=>qS e x S k) [112,117,115,104]):=a5Z
theorem ae6:Alike ([112,111,112],0,88,1,0,false,0,0,[65]) ((YZ) [112,111,112]) ((aN fun e _ S k=>wZ e S fun y U=>b6 e y U k) [112,111,112]):=ac9
theorem abL:Alike ([99,97,108,108],0,232,11,0,false,-2147483648,2147483647,[106]) ((lO) [99,97,108,108]) ((w5 fun e S k=>qS e e.bk S (k (gN e))) [99,97,108,108]):=a7C
theorem adF:Alike ([106,109,112],0,233,11,0,false,-2147483648,2147483647,[106]) ((aZ fun e S k=>aH e.a (aH e.a (k (S.set 45 (.int .u64 (gN e)))))) [106,109,112]) ((kN fun e S k=>k (gN e) S) [106,109,112]):=aL8
theorem aaT:Alike ([106,109,112,46,115],0,235,12,0,false,-128,127,[106]) ((aZ fun e S k=>aH e.a (aH e.a (k (S.set 45 (.int .u64 (gN e)))))) [106,109,112,46,115]) ((kN fun e S k=>k (gN e) S) [106,109,112,46,115]):=aL8
theorem aaY:Alike ([99,97,108,108,46,114],0,255,3,2,false,0,0,[65]) ((LV) [99,97,108,108,46,114]) ((w5 fun e S k=>aL e.a S fun y=>qS e e.bk S (k y)) [99,97,108,108,46,114]):=a18
theorem acE:Alike ([106,109,112,46,114],0,255,3,4,false,0,0,[65]) ((aZ fun e S k=>aH e.a (aH e.a (aL e.a S fun y=>k (S.set 45 (.int .u64 y))))) [106,109,112,46,114]) ((kN fun e S k=>aL e.a S fun y=>k y S) [106,109,112,46,114]):=a7A
theorem af3:Alike ([106,99,99],0,3968,11,0,true,-2147483648,2147483647,[99,106]) ((aZ fun e S k=>aH e.a (aH e.a (cond (oF e.s.z e.s.n e.s.c e.s.v e.d) (k (S.set 45 (.int .u64 (gN e)))) (k S)))) [106,99,99]) ((kN fun e S k=>cond (bY e.s.z e.s.n e.s.c e.s.v e.d) (k (gN e) S) (k e.bk S)) [106,99,99]):=aLH (by kernel_rfl)
theorem acU:Alike ([106,99,99,46,115],0,112,12,0,true,-128,127,[99,106]) ((aZ fun e S k=>aH e.a (aH e.a (cond (oF e.s.z e.s.n e.s.c e.s.v e.d) (k (S.set 45 (.int .u64 (gN e)))) (k S)))) [106,99,99,46,115]) ((kN fun e S k=>cond (bY e.s.z e.s.n e.s.c e.s.v e.d) (k (gN e) S) (k e.bk S)) [106,99,99,46,115]):=aLH (by kernel_rfl)
theorem abT:Alike ([114,101,116],0,195,0,0,false,0,0,[]) ((YM) [114,101,116]) ((kN fun e S k=>wZ e S fun y U=>k y U) [114,101,116]):=abP
theorem aaO:Alike ([115,121,115,99,97,108,108],0,3845,0,0,false,0,0,[]) ((YE) [115,121,115,99,97,108,108]) ((OH) [115,121,115,99,97,108,108]):=ab2
theorem aeW:Alike ([110,111,112],0,144,0,0,false,0,0,[]) ((aZ fun e S k=>aH e.a (aH e.a (k S))) [110,111,112]) ((aN fun e _ S k=>k S) [110,111,112]):=abU
theorem af9:Alike ([117,100,50],0,3851,0,0,false,0,0,[]) ((udR) [117,100,50]) ((udD) [117,100,50]):=aj1
include hw hg in
theorem a0C:ZC NR iP (iR wd lg):=
 ⟨rfl,rfl,ahJ,
  rfl,rfl,ahH,
  rfl,rfl,agC,
  rfl,rfl,ajA,
  rfl,rfl,ah0,
  rfl,rfl,agV,
  rfl,rfl,ahE,
  rfl,rfl,ahU,
  rfl,rfl,ag5,
  rfl,rfl,agG,
  rfl,rfl,abO,
  rfl,rfl,acQ,
  rfl,rfl,af2,
  rfl,rfl,adZ,
  rfl,rfl,abR,
  rfl,rfl,acR,
  rfl,rfl,aaI,
  rfl,rfl,aaB,
  rfl,rfl,aeP,
  rfl,rfl,ac0,
  rfl,rfl,ab8,
  rfl,rfl,aaU,
  rfl,rfl,aeO,
  rfl,rfl,acP,
  rfl,rfl,ae3,
  rfl,rfl,acJ,
  rfl,rfl,aeM,
  rfl,rfl,aaR,
  rfl,rfl,afP,
  rfl,rfl,ab0,
  rfl,rfl,ad8,
  rfl,rfl,ae8 hw,
  rfl,rfl,ac7,
  rfl,rfl,ab5,
  rfl,rfl,aaX hw,
  rfl,rfl,ad7 hg,
  rfl,rfl,afC hg,
  rfl,rfl,acB,
  rfl,rfl,aaF,
  rfl,rfl,aeY,
  rfl,rfl,abS,
  rfl,rfl,adV,
  rfl,rfl,aa1,
  rfl,rfl,aeS,
  rfl,rfl,ae7,
  rfl,rfl,abV,
  rfl,rfl,ae6,
  rfl,rfl,abL,
  rfl,rfl,adF,
  rfl,rfl,aaT,
  rfl,rfl,aaY,
  rfl,rfl,acE,
  rfl,rfl,af3,
  rfl,rfl,acU,
  rfl,rfl,abT,
  rfl,rfl,aaO,
  rfl,rfl,aeW,
  rfl,rfl,af9,trivial⟩
end
theorem aGN:∀ {q:List RowT} {l t:List (List UInt8 × bR)},ZC q l t->q.length=l.length->l.length=t.length -> ∀ z ∈ q,∃ x ∈ l,∃ y ∈ t,z.1=x.1/\x.1=y.1/\Alike z x.2 y.2
 | [],_,_,_,_,_,z,c=>by cases c
 | _ :: _,[],_,_,d,_,_,_=>by cases d
 | _ :: _,_ :: _,[],_,_,d,_,_=>by cases d
 | z0 :: q,a :: r,b :: t,h,h1,h2,z,c=>by
  rcases List.mem_cons.1 c with rfl | c
  ·exact ⟨a,ZD1,b,ZD1,h.1,h.2.1,h.2.2.1⟩
  ·obtain ⟨x,hx,y,hy,e⟩:=aGN h.2.2.2 (by simpa using h1) (by simpa using h2) z c
   exact ⟨x,ZD2 _ hx,y,ZD2 _ hy,e⟩
end Go.Ra
