/-
  runamd: row by row, the program's Run and the document's alike. Printed by mkdt.py. Conditions: none.
-/
import Derived.Test.YtbefgnmdliefjaaGreatDoorPk19
set_option linter.unusedVariables false
set_option linter.unusedSimpArgs false
namespace Go.Ra
open Go Go.Ab Go.Proofs Go.Amd
theorem i32_def (y:Int):IntKind.wrap .i32 y=if 2147483648≤y % 4294967296 then y % 4294967296 - 4294967296 else y % 4294967296:=by
 unfold IntKind.wrap
 simp [IntKind.bits,IntKind.signed]
theorem sgn_eq (y:Int):wdD y=wu (wi (IntKind.wrap .i32 y)):=by
 unfold wdD s32w x32
 have e:IntKind.wrap .i32 (IntKind.wrap .u32 y)=IntKind.wrap .i32 y:=by
  rw [i32_def,i32_def,show IntKind.wrap .u32 y=y % 4294967296 from rfl,Int.emod_emod_of_dvd _ (Int.dvd_refl _)]
 rw [e]
def rowsM:List RowT:=[
 ([109,111,118,46,114,114],1,137,7,0,false,0,0,[65,66]),
 ([109,111,118,46,114,105],1,184,2,0,false,-9223372036854775808,9223372036854775807,[65,105]),
 ([109,111,118,46,114,115],1,199,4,0,false,-2147483648,2147483647,[65,105]),
 ([109,111,118,46,114,109],1,139,9,0,false,-2147483648,2147483647,[65,109]),
 ([109,111,118,108,46,114,109],0,139,9,0,false,-2147483648,2147483647,[65,109]),
 ([109,111,118,115,108,46,114,109],1,99,9,0,false,-2147483648,2147483647,[65,109]),
 ([109,111,118,122,98,46,114,109],1,4022,9,0,false,-2147483648,2147483647,[65,109]),
 ([108,101,97],1,141,9,0,false,-2147483648,2147483647,[65,109]),
 ([109,111,118,46,109,114],1,137,9,0,false,-2147483648,2147483647,[65,109]),
 ([109,111,118,108,46,109,114],0,137,9,0,false,-2147483648,2147483647,[65,109]),
 ([109,111,118,98,46,109,114],2,136,9,0,false,-2147483648,2147483647,[65,109]),
 ([109,111,118,46,102,115],1,139,10,0,false,-2147483648,2147483647,[65,105]),
 ([97,100,100,46,114,114],1,1,7,0,false,0,0,[65,66]),
 ([111,114,46,114,114],1,9,7,0,false,0,0,[65,66]),
 ([97,110,100,46,114,114],1,33,7,0,false,0,0,[65,66]),
 ([115,117,98,46,114,114],1,41,7,0,false,0,0,[65,66]),
 ([120,111,114,46,114,114],1,49,7,0,false,0,0,[65,66]),
 ([99,109,112,46,114,114],1,57,7,0,false,0,0,[65,66]),
 ([97,100,100,46,114,109],1,3,9,0,false,-2147483648,2147483647,[65,109]),
 ([111,114,46,114,109],1,11,9,0,false,-2147483648,2147483647,[65,109]),
 ([97,110,100,46,114,109],1,35,9,0,false,-2147483648,2147483647,[65,109]),
 ([115,117,98,46,114,109],1,43,9,0,false,-2147483648,2147483647,[65,109]),
 ([120,111,114,46,114,109],1,51,9,0,false,-2147483648,2147483647,[65,109]),
 ([99,109,112,46,114,109],1,59,9,0,false,-2147483648,2147483647,[65,109]),
 ([97,100,100,46,114,105],1,131,6,0,false,-2147483648,2147483647,[65,105]),
 ([111,114,46,114,105],1,131,6,1,false,-2147483648,2147483647,[65,105]),
 ([97,110,100,46,114,105],1,131,6,4,false,-2147483648,2147483647,[65,105]),
 ([115,117,98,46,114,105],1,131,6,5,false,-2147483648,2147483647,[65,105]),
 ([120,111,114,46,114,105],1,131,6,6,false,-2147483648,2147483647,[65,105]),
 ([99,109,112,46,114,105],1,131,6,7,false,-2147483648,2147483647,[65,105]),
 ([116,101,115,116,46,114,114],1,133,7,0,false,0,0,[65,66]),
 ([105,109,117,108,46,114,114],1,4015,8,0,false,0,0,[65,66]),
 ([110,111,116],1,247,3,2,false,0,0,[65]),
 ([110,101,103],1,247,3,3,false,0,0,[65]),
 ([109,117,108],1,247,3,4,false,0,0,[65]),
 ([100,105,118],1,247,3,6,false,0,0,[65]),
 ([105,100,105,118],1,247,3,7,false,0,0,[65]),
 ([99,113,111],1,153,0,0,false,0,0,[]),
 ([115,104,108,46,114,105],1,193,5,4,false,0,63,[65,105]),
 ([115,104,114,46,114,105],1,193,5,5,false,0,63,[65,105]),
 ([115,97,114,46,114,105],1,193,5,7,false,0,63,[65,105]),
 ([115,104,108,46,114,99],1,211,3,4,false,0,0,[65]),
 ([115,104,114,46,114,99],1,211,3,5,false,0,0,[65]),
 ([115,97,114,46,114,99],1,211,3,7,false,0,0,[65]),
 ([99,109,111,118],1,3904,8,0,true,0,0,[65,66,99]),
 ([112,117,115,104],0,80,1,0,false,0,0,[65]),
 ([112,111,112],0,88,1,0,false,0,0,[65]),
 ([99,97,108,108],0,232,11,0,false,-2147483648,2147483647,[106]),
 ([106,109,112],0,233,11,0,false,-2147483648,2147483647,[106]),
 ([106,109,112,46,115],0,235,12,0,false,-128,127,[106]),
 ([99,97,108,108,46,114],0,255,3,2,false,0,0,[65]),
 ([106,109,112,46,114],0,255,3,4,false,0,0,[65]),
 ([106,99,99],0,3968,11,0,true,-2147483648,2147483647,[99,106]),
 ([106,99,99,46,115],0,112,12,0,true,-128,127,[99,106]),
 ([114,101,116],0,195,0,0,false,0,0,[]),
 ([115,121,115,99,97,108,108],0,3845,0,0,false,0,0,[]),
 ([110,111,112],0,144,0,0,false,0,0,[]),
 ([117,100,50],0,3851,0,0,false,0,0,[])]
theorem rowsM_eq:rowsM=rowsL:=by
 unfold rowsL
 rfl
def AllA:List RowT→List (List UInt8 × RunTy)→List (List UInt8 × RunTy)→Prop
 | z :: q,x :: r,y :: t=>z.1=x.1∧x.1=y.1∧Alike z x.2 y.2∧AllA q r t
 | _,_,_=>True
section
variable {wd:Int→Int→Int × Int} {lg:Int→Int→Int→Int × Int} (hw:WdOk wd) (hg:LgOk lg)
theorem al_r0:Alike ([109,111,118,46,114,114],1,137,7,0,false,0,0,[65,66]) ((mvR (preRr fun e S k=>inA e.a (inX e.b S fun y=>putX e.a y S k))) [109,111,118,46,114,114]) ((oneD fun e _ S k=>inX e.b S fun y=>setD e y S k) [109,111,118,46,114,114]):=al_movrr (by kernel_rfl)
theorem al_r1:Alike ([109,111,118,46,114,105],1,184,2,0,false,-9223372036854775808,9223372036854775807,[65,105]) ((mvR (preRi fun e S k=>inA e.a (putX e.a (wu e.m) S k))) [109,111,118,46,114,105]) ((oneD fun e _ S k=>setD e (wu e.m) S k) [109,111,118,46,114,105]):=al_movri fun _ _ _=>.inr rfl
theorem al_r2:Alike ([109,111,118,46,114,115],1,199,4,0,false,-2147483648,2147483647,[65,105]) ((mvR fun e S k=>inA e.a (putX e.a (wu e.m) S k)) [109,111,118,46,114,115]) ((oneD fun e _ S k=>setD e (wu e.m) S k) [109,111,118,46,114,115]):=al_movri fun _ _ _=>.inl rfl
theorem al_r3:Alike ([109,111,118,46,114,109],1,139,9,0,false,-2147483648,2147483647,[65,109]) ((ldR 8 fun x=>x) [109,111,118,46,114,109]) ((oneD fun e _ S k=>adK e S fun p=>loadD e p 8 S fun y U=>setD e y U k) [109,111,118,46,114,109]):=al_ld (by kernel_rfl) 8 (f:=fun x=>x) (g:=fun x=>x) (fun _=>rfl) fun _ h=>h
theorem al_r4:Alike ([109,111,118,108,46,114,109],0,139,9,0,false,-2147483648,2147483647,[65,109]) ((ldR 4 fun x=>x) [109,111,118,108,46,114,109]) ((oneD fun e _ S k=>adK e S fun p=>loadD e p 4 S fun y U=>setD e y U k) [109,111,118,108,46,114,109]):=al_ld (by kernel_rfl) 4 (f:=fun x=>x) (g:=fun x=>x) (fun _=>rfl) fun _ h=>h
theorem al_r5:Alike ([109,111,118,115,108,46,114,109],1,99,9,0,false,-2147483648,2147483647,[65,109]) ((ldR 4 fun x=>wu (wi (IntKind.wrap .i32 x))) [109,111,118,115,108,46,114,109]) ((oneD fun e _ S k=>adK e S fun p=>loadD e p 4 S fun y U=>setD e (wdD y) U k) [109,111,118,115,108,46,114,109]):=al_ld (by kernel_rfl) 4 (f:=fun x=>wu (wi (IntKind.wrap .i32 x))) (g:=wdD) sgn_eq fun _ _=>rng_wu _
theorem al_r6:Alike ([109,111,118,122,98,46,114,109],1,4022,9,0,false,-2147483648,2147483647,[65,109]) ((ldR 1 fun x=>x) [109,111,118,122,98,46,114,109]) ((oneD fun e _ S k=>adK e S fun p=>loadD e p 1 S fun y U=>setD e y U k) [109,111,118,122,98,46,114,109]):=al_ld (by kernel_rfl) 1 (f:=fun x=>x) (g:=fun x=>x) (fun _=>rfl) fun _ h=>h
theorem al_r7:Alike ([108,101,97],1,141,9,0,false,-2147483648,2147483647,[65,109]) ((mvR fun e S k=>inA e.a (adK e S fun x=>putX e.a x S k)) [108,101,97]) ((oneD fun e _ S k=>adK e S fun p=>setD e p S k) [108,101,97]):=al_lea (by kernel_rfl)
theorem al_r8:Alike ([109,111,118,46,109,114],1,137,9,0,false,-2147483648,2147483647,[65,109]) ((stR 8) [109,111,118,46,109,114]) ((onwD fun e _ S k=>adK e S fun p=>inX e.a S fun y=>storeD e p 8 y S k) [109,111,118,46,109,114]):=al_st (by kernel_rfl) 8
theorem al_r9:Alike ([109,111,118,108,46,109,114],0,137,9,0,false,-2147483648,2147483647,[65,109]) ((stR 4) [109,111,118,108,46,109,114]) ((onwD fun e _ S k=>adK e S fun p=>inX e.a S fun y=>storeD e p 4 y S k) [109,111,118,108,46,109,114]):=al_st (by kernel_rfl) 4
theorem al_r10:Alike ([109,111,118,98,46,109,114],2,136,9,0,false,-2147483648,2147483647,[65,109]) ((stR 1) [109,111,118,98,46,109,114]) ((onwD fun e _ S k=>adK e S fun p=>inX e.a S fun y=>storeD e p 1 y S k) [109,111,118,98,46,109,114]):=al_st (by kernel_rfl) 1
theorem al_r11:Alike ([109,111,118,46,102,115],1,139,10,0,false,-2147483648,2147483647,[65,105]) ((fsR) [109,111,118,46,102,115]) ((oneD fun e _ S k=>loadD e (wu (e.s.th+wu e.m)) 8 S fun y U=>setD e y U k) [109,111,118,46,102,115]):=al_fs
theorem al_r12:Alike ([97,100,100,46,114,114],1,1,7,0,false,0,0,[65,66]) ((rrR addT) [97,100,100,46,114,114]) ((oneD fun e _ S k=>inX e.b S fun y=>inX e.a S fun x=>addD x y S fun v T=>keptD e v T k) [97,100,100,46,114,114]):=al_rr two_add (by kernel_rfl)
theorem al_r13:Alike ([111,114,46,114,114],1,9,7,0,false,0,0,[65,66]) ((rrR (logT orU)) [111,114,46,114,114]) ((oneD fun e _ S k=>inX e.b S fun y=>inX e.a S fun x=>(logD orU) x y S fun v T=>keptD e v T k) [111,114,46,114,114]):=al_rr (two_log (f:=orU) orU_rng) (by kernel_rfl)
theorem al_r14:Alike ([97,110,100,46,114,114],1,33,7,0,false,0,0,[65,66]) ((rrR (logT andU)) [97,110,100,46,114,114]) ((oneD fun e _ S k=>inX e.b S fun y=>inX e.a S fun x=>(logD andU) x y S fun v T=>keptD e v T k) [97,110,100,46,114,114]):=al_rr (two_log (f:=andU) andU_rng) (by kernel_rfl)
theorem al_r15:Alike ([115,117,98,46,114,114],1,41,7,0,false,0,0,[65,66]) ((rrR subT) [115,117,98,46,114,114]) ((oneD fun e _ S k=>inX e.b S fun y=>inX e.a S fun x=>subD x y S fun v T=>keptD e v T k) [115,117,98,46,114,114]):=al_rr two_sub (by kernel_rfl)
theorem al_r16:Alike ([120,111,114,46,114,114],1,49,7,0,false,0,0,[65,66]) ((rrR (logT xorU)) [120,111,114,46,114,114]) ((oneD fun e _ S k=>inX e.b S fun y=>inX e.a S fun x=>(logD xorU) x y S fun v T=>keptD e v T k) [120,111,114,46,114,114]):=al_rr (two_log (f:=xorU) xorU_rng) (by kernel_rfl)
theorem al_r17:Alike ([99,109,112,46,114,114],1,57,7,0,false,0,0,[65,66]) ((rrR cmpT) [99,109,112,46,114,114]) ((oneD fun e _ S k=>inX e.b S fun y=>inX e.a S fun x=>subD x y S fun v T=>lostD e v T k) [99,109,112,46,114,114]):=al_rr two_cmp (by kernel_rfl)
theorem al_r18:Alike ([97,100,100,46,114,109],1,3,9,0,false,-2147483648,2147483647,[65,109]) ((rmR addT) [97,100,100,46,114,109]) ((oneD fun e _ S k=>adK e S fun p=>loadD e p 8 S fun y U=>inX e.a U fun x=>addD x y U fun v T=>keptD e v T k) [97,100,100,46,114,109]):=al_rm two_add (by kernel_rfl)
theorem al_r19:Alike ([111,114,46,114,109],1,11,9,0,false,-2147483648,2147483647,[65,109]) ((rmR (logT orU)) [111,114,46,114,109]) ((oneD fun e _ S k=>adK e S fun p=>loadD e p 8 S fun y U=>inX e.a U fun x=>(logD orU) x y U fun v T=>keptD e v T k) [111,114,46,114,109]):=al_rm (two_log (f:=orU) orU_rng) (by kernel_rfl)
theorem al_r20:Alike ([97,110,100,46,114,109],1,35,9,0,false,-2147483648,2147483647,[65,109]) ((rmR (logT andU)) [97,110,100,46,114,109]) ((oneD fun e _ S k=>adK e S fun p=>loadD e p 8 S fun y U=>inX e.a U fun x=>(logD andU) x y U fun v T=>keptD e v T k) [97,110,100,46,114,109]):=al_rm (two_log (f:=andU) andU_rng) (by kernel_rfl)
theorem al_r21:Alike ([115,117,98,46,114,109],1,43,9,0,false,-2147483648,2147483647,[65,109]) ((rmR subT) [115,117,98,46,114,109]) ((oneD fun e _ S k=>adK e S fun p=>loadD e p 8 S fun y U=>inX e.a U fun x=>subD x y U fun v T=>keptD e v T k) [115,117,98,46,114,109]):=al_rm two_sub (by kernel_rfl)
theorem al_r22:Alike ([120,111,114,46,114,109],1,51,9,0,false,-2147483648,2147483647,[65,109]) ((rmR (logT xorU)) [120,111,114,46,114,109]) ((oneD fun e _ S k=>adK e S fun p=>loadD e p 8 S fun y U=>inX e.a U fun x=>(logD xorU) x y U fun v T=>keptD e v T k) [120,111,114,46,114,109]):=al_rm (two_log (f:=xorU) xorU_rng) (by kernel_rfl)
theorem al_r23:Alike ([99,109,112,46,114,109],1,59,9,0,false,-2147483648,2147483647,[65,109]) ((rmR cmpT) [99,109,112,46,114,109]) ((oneD fun e _ S k=>adK e S fun p=>loadD e p 8 S fun y U=>inX e.a U fun x=>subD x y U fun v T=>lostD e v T k) [99,109,112,46,114,109]):=al_rm two_cmp (by kernel_rfl)
theorem al_r24:Alike ([97,100,100,46,114,105],1,131,6,0,false,-2147483648,2147483647,[65,105]) ((riR addT) [97,100,100,46,114,105]) ((oneD fun e _ S k=>inX e.a S fun x=>addD x (wu e.m) S fun v T=>keptD e v T k) [97,100,100,46,114,105]):=al_ri two_add
theorem al_r25:Alike ([111,114,46,114,105],1,131,6,1,false,-2147483648,2147483647,[65,105]) ((riR (logT orU)) [111,114,46,114,105]) ((oneD fun e _ S k=>inX e.a S fun x=>(logD orU) x (wu e.m) S fun v T=>keptD e v T k) [111,114,46,114,105]):=al_ri (two_log (f:=orU) orU_rng)
theorem al_r26:Alike ([97,110,100,46,114,105],1,131,6,4,false,-2147483648,2147483647,[65,105]) ((riR (logT andU)) [97,110,100,46,114,105]) ((oneD fun e _ S k=>inX e.a S fun x=>(logD andU) x (wu e.m) S fun v T=>keptD e v T k) [97,110,100,46,114,105]):=al_ri (two_log (f:=andU) andU_rng)
theorem al_r27:Alike ([115,117,98,46,114,105],1,131,6,5,false,-2147483648,2147483647,[65,105]) ((riR subT) [115,117,98,46,114,105]) ((oneD fun e _ S k=>inX e.a S fun x=>subD x (wu e.m) S fun v T=>keptD e v T k) [115,117,98,46,114,105]):=al_ri two_sub
theorem al_r28:Alike ([120,111,114,46,114,105],1,131,6,6,false,-2147483648,2147483647,[65,105]) ((riR (logT xorU)) [120,111,114,46,114,105]) ((oneD fun e _ S k=>inX e.a S fun x=>(logD xorU) x (wu e.m) S fun v T=>keptD e v T k) [120,111,114,46,114,105]):=al_ri (two_log (f:=xorU) xorU_rng)
theorem al_r29:Alike ([99,109,112,46,114,105],1,131,6,7,false,-2147483648,2147483647,[65,105]) ((riR cmpT) [99,109,112,46,114,105]) ((oneD fun e _ S k=>inX e.a S fun x=>subD x (wu e.m) S fun v T=>lostD e v T k) [99,109,112,46,114,105]):=al_ri two_cmp
theorem al_r30:Alike ([116,101,115,116,46,114,114],1,133,7,0,false,0,0,[65,66]) ((rrR testT) [116,101,115,116,46,114,114]) ((oneD fun e _ S k=>inX e.b S fun y=>inX e.a S fun x=>(logD andU) x y S fun v T=>lostD e v T k) [116,101,115,116,46,114,114]):=al_rr two_test (by kernel_rfl)
include hw in
theorem al_r31:Alike ([105,109,117,108,46,114,114],1,4015,8,0,false,0,0,[65,66]) ((mvR (preRr fun e S k=>inA e.a (inA e.a (imulK e S k)))) [105,109,117,108,46,114,114]) ((oneD fun e _ S k=>inX e.a S fun x=>inX e.b S fun y=>imulD wd e x y S k) [105,109,117,108,46,114,114]):=al_imul hw (by kernel_rfl)
theorem al_r32:Alike ([110,111,116],1,247,3,2,false,0,0,[65]) ((mvR fun e S k=>inA e.a (inA e.a (rdX e.a S fun x=>putX e.a (notI x) S k))) [110,111,116]) ((oneD fun e x S k=>setD e (notI x) S k) [110,111,116]):=al_not
theorem al_r33:Alike ([110,101,103],1,247,3,3,false,0,0,[65]) ((mvR fun e S k=>inA e.a (inA e.a (rdX e.a S fun x=>subK 0 x S fun y T=>putX e.a y T k))) [110,101,103]) ((oneD fun e x S k=>subD 0 x S fun v T=>setD e v T k) [110,101,103]):=al_neg
include hw in
theorem al_r34:Alike ([109,117,108],1,247,3,4,false,0,0,[65]) ((mvR fun e S k=>inA e.a (inA e.a (mulK e S k))) [109,117,108]) ((oneD fun e x S k=>k (setCV ((wd (e.s.x.getD 0 0) x).1 != 0) ((S.set 1 (.int .u64 (wd (e.s.x.getD 0 0) x).2)).set 3 (.int .u64 (wd (e.s.x.getD 0 0) x).1)))) [109,117,108]):=al_mul hw
include hg in
theorem al_r35:Alike ([100,105,118],1,247,3,6,false,0,0,[65]) ((divR) [100,105,118]) ((oneD fun e x S k=>divD lg e x S k) [100,105,118]):=al_div hg
include hg in
theorem al_r36:Alike ([105,100,105,118],1,247,3,7,false,0,0,[65]) ((idivR) [105,100,105,118]) ((oneD fun e x S k=>idivD lg e x S k) [105,100,105,118]):=al_idiv hg
theorem al_r37:Alike ([99,113,111],1,153,0,0,false,0,0,[]) ((mvR fun e S k=>inA e.a (k (S.set 3 (.int .u64 (wu (Int.fdiv (wi (e.s.x.getD 0 0)) (2 ^ 63))))))) [99,113,111]) ((oneD fun e _ S k=>k (S.set 3 (.int .u64 (wu (Int.fdiv (wi (e.s.x.getD 0 0)) (2 ^ 63)))))) [99,113,111]):=al_cqo
theorem al_r38:Alike ([115,104,108,46,114,105],1,193,5,4,false,0,63,[65,105]) ((mvR (preRi fun e S k=>inA e.a (inA e.a (shlK e.a (wu e.m) S k)))) [115,104,108,46,114,105]) ((oneD fun e _ S k=>inX e.a S fun x=>shlD e x (wu e.m) S k) [115,104,108,46,114,105]):=al_shi sh_shl (by kernel_rfl) (by kernel_rfl) (by kernel_rfl)
theorem al_r39:Alike ([115,104,114,46,114,105],1,193,5,5,false,0,63,[65,105]) ((mvR (preRi fun e S k=>inA e.a (inA e.a (shrK e.a (wu e.m) S k)))) [115,104,114,46,114,105]) ((oneD fun e _ S k=>inX e.a S fun x=>shrD e x (wu e.m) S k) [115,104,114,46,114,105]):=al_shi sh_shr (by kernel_rfl) (by kernel_rfl) (by kernel_rfl)
theorem al_r40:Alike ([115,97,114,46,114,105],1,193,5,7,false,0,63,[65,105]) ((mvR (preRi fun e S k=>inA e.a (inA e.a (sarK e.a (wu e.m) S k)))) [115,97,114,46,114,105]) ((oneD fun e _ S k=>inX e.a S fun x=>sarD e x (wu e.m) S k) [115,97,114,46,114,105]):=al_shi sh_sar (by kernel_rfl) (by kernel_rfl) (by kernel_rfl)
theorem al_r41:Alike ([115,104,108,46,114,99],1,211,3,4,false,0,0,[65]) ((mvR fun e S k=>inA e.a (inA e.a (shlK e.a (andU (e.s.x.getD 1 0) 63) S k))) [115,104,108,46,114,99]) ((oneD fun e _ S k=>inX e.a S fun x=>shlD e x (andU (e.s.x.getD 1 0) 63) S k) [115,104,108,46,114,99]):=al_shc sh_shl
theorem al_r42:Alike ([115,104,114,46,114,99],1,211,3,5,false,0,0,[65]) ((mvR fun e S k=>inA e.a (inA e.a (shrK e.a (andU (e.s.x.getD 1 0) 63) S k))) [115,104,114,46,114,99]) ((oneD fun e _ S k=>inX e.a S fun x=>shrD e x (andU (e.s.x.getD 1 0) 63) S k) [115,104,114,46,114,99]):=al_shc sh_shr
theorem al_r43:Alike ([115,97,114,46,114,99],1,211,3,7,false,0,0,[65]) ((mvR fun e S k=>inA e.a (inA e.a (sarK e.a (andU (e.s.x.getD 1 0) 63) S k))) [115,97,114,46,114,99]) ((oneD fun e _ S k=>inX e.a S fun x=>sarD e x (andU (e.s.x.getD 1 0) 63) S k) [115,97,114,46,114,99]):=al_shc sh_sar
theorem al_r44:Alike ([99,109,111,118],1,3904,8,0,true,0,0,[65,66,99]) ((mvR fun e S k=>inA e.a (cond (holdsF e.s.z e.s.n e.s.c e.s.v e.d) (inX e.b S fun y=>putX e.a y S k) (k S))) [99,109,111,118]) ((oneD fun e _ S k=>cond (hdF e.s.z e.s.n e.s.c e.s.v e.d) (inX e.b S fun y=>setD e y S k) (k S)) [99,109,111,118]):=al_cmov (by kernel_rfl)
theorem al_r45:Alike ([112,117,115,104],0,80,1,0,false,0,0,[65]) ((pushR) [112,117,115,104]) ((onwD fun e x S k=>pushD e x S k) [112,117,115,104]):=al_push
theorem al_r46:Alike ([112,111,112],0,88,1,0,false,0,0,[65]) ((popR) [112,111,112]) ((oneD fun e _ S k=>popD e S fun y U=>setD e y U k) [112,111,112]):=al_pop
theorem al_r47:Alike ([99,97,108,108],0,232,11,0,false,-2147483648,2147483647,[106]) ((callR) [99,97,108,108]) ((flwD fun e S k=>pushD e e.bk S (k (tgF e))) [99,97,108,108]):=al_call
theorem al_r48:Alike ([106,109,112],0,233,11,0,false,-2147483648,2147483647,[106]) ((mvR fun e S k=>inA e.a (inA e.a (k (S.set 45 (.int .u64 (tgF e)))))) [106,109,112]) ((floD fun e S k=>k (tgF e) S) [106,109,112]):=al_jmp
theorem al_r49:Alike ([106,109,112,46,115],0,235,12,0,false,-128,127,[106]) ((mvR fun e S k=>inA e.a (inA e.a (k (S.set 45 (.int .u64 (tgF e)))))) [106,109,112,46,115]) ((floD fun e S k=>k (tgF e) S) [106,109,112,46,115]):=al_jmp
theorem al_r50:Alike ([99,97,108,108,46,114],0,255,3,2,false,0,0,[65]) ((callrR) [99,97,108,108,46,114]) ((flwD fun e S k=>inX e.a S fun y=>pushD e e.bk S (k y)) [99,97,108,108,46,114]):=al_callr
theorem al_r51:Alike ([106,109,112,46,114],0,255,3,4,false,0,0,[65]) ((mvR fun e S k=>inA e.a (inA e.a (inX e.a S fun y=>k (S.set 45 (.int .u64 y))))) [106,109,112,46,114]) ((floD fun e S k=>inX e.a S fun y=>k y S) [106,109,112,46,114]):=al_jmpr
theorem al_r52:Alike ([106,99,99],0,3968,11,0,true,-2147483648,2147483647,[99,106]) ((mvR fun e S k=>inA e.a (inA e.a (cond (holdsF e.s.z e.s.n e.s.c e.s.v e.d) (k (S.set 45 (.int .u64 (tgF e)))) (k S)))) [106,99,99]) ((floD fun e S k=>cond (hdF e.s.z e.s.n e.s.c e.s.v e.d) (k (tgF e) S) (k e.bk S)) [106,99,99]):=al_jcc (by kernel_rfl)
theorem al_r53:Alike ([106,99,99,46,115],0,112,12,0,true,-128,127,[99,106]) ((mvR fun e S k=>inA e.a (inA e.a (cond (holdsF e.s.z e.s.n e.s.c e.s.v e.d) (k (S.set 45 (.int .u64 (tgF e)))) (k S)))) [106,99,99,46,115]) ((floD fun e S k=>cond (hdF e.s.z e.s.n e.s.c e.s.v e.d) (k (tgF e) S) (k e.bk S)) [106,99,99,46,115]):=al_jcc (by kernel_rfl)
theorem al_r54:Alike ([114,101,116],0,195,0,0,false,0,0,[]) ((retR) [114,101,116]) ((floD fun e S k=>popD e S fun y U=>k y U) [114,101,116]):=al_ret
theorem al_r55:Alike ([115,121,115,99,97,108,108],0,3845,0,0,false,0,0,[]) ((sysR) [115,121,115,99,97,108,108]) ((sysD) [115,121,115,99,97,108,108]):=al_sys
theorem al_r56:Alike ([110,111,112],0,144,0,0,false,0,0,[]) ((mvR fun e S k=>inA e.a (inA e.a (k S))) [110,111,112]) ((oneD fun e _ S k=>k S) [110,111,112]):=al_nop
theorem al_r57:Alike ([117,100,50],0,3851,0,0,false,0,0,[]) ((udR) [117,100,50]) ((udD) [117,100,50]):=al_ud
include hw hg in
theorem all_alike:AllA rowsM rowsR (rowsG wd lg):=
 ⟨rfl,rfl,al_r0,
  rfl,rfl,al_r1,
  rfl,rfl,al_r2,
  rfl,rfl,al_r3,
  rfl,rfl,al_r4,
  rfl,rfl,al_r5,
  rfl,rfl,al_r6,
  rfl,rfl,al_r7,
  rfl,rfl,al_r8,
  rfl,rfl,al_r9,
  rfl,rfl,al_r10,
  rfl,rfl,al_r11,
  rfl,rfl,al_r12,
  rfl,rfl,al_r13,
  rfl,rfl,al_r14,
  rfl,rfl,al_r15,
  rfl,rfl,al_r16,
  rfl,rfl,al_r17,
  rfl,rfl,al_r18,
  rfl,rfl,al_r19,
  rfl,rfl,al_r20,
  rfl,rfl,al_r21,
  rfl,rfl,al_r22,
  rfl,rfl,al_r23,
  rfl,rfl,al_r24,
  rfl,rfl,al_r25,
  rfl,rfl,al_r26,
  rfl,rfl,al_r27,
  rfl,rfl,al_r28,
  rfl,rfl,al_r29,
  rfl,rfl,al_r30,
  rfl,rfl,al_r31 hw,
  rfl,rfl,al_r32,
  rfl,rfl,al_r33,
  rfl,rfl,al_r34 hw,
  rfl,rfl,al_r35 hg,
  rfl,rfl,al_r36 hg,
  rfl,rfl,al_r37,
  rfl,rfl,al_r38,
  rfl,rfl,al_r39,
  rfl,rfl,al_r40,
  rfl,rfl,al_r41,
  rfl,rfl,al_r42,
  rfl,rfl,al_r43,
  rfl,rfl,al_r44,
  rfl,rfl,al_r45,
  rfl,rfl,al_r46,
  rfl,rfl,al_r47,
  rfl,rfl,al_r48,
  rfl,rfl,al_r49,
  rfl,rfl,al_r50,
  rfl,rfl,al_r51,
  rfl,rfl,al_r52,
  rfl,rfl,al_r53,
  rfl,rfl,al_r54,
  rfl,rfl,al_r55,
  rfl,rfl,al_r56,
  rfl,rfl,al_r57,trivial⟩
end
theorem allA_get:∀ {q:List RowT} {l t:List (List UInt8 × RunTy)},AllA q l t→q.length=l.length→l.length=t.length → ∀ z ∈ q,∃ x ∈ l,∃ y ∈ t,z.1=x.1∧x.1=y.1∧Alike z x.2 y.2
 | [],_,_,_,_,_,z,hz=>by cases hz
 | _ :: _,[],_,_,hl,_,_,_=>by cases hl
 | _ :: _,_ :: _,[],_,_,hl,_,_=>by cases hl
 | z0 :: q,a :: r,b :: t,h,h1,h2,z,hz=>by
  rcases List.mem_cons.1 hz with rfl | hz
  ·exact ⟨a,List.mem_cons_self,b,List.mem_cons_self,h.1,h.2.1,h.2.2.1⟩
  ·obtain ⟨x,hx,y,hy,e⟩:=allA_get h.2.2.2 (by simpa using h1) (by simpa using h2) z hz
   exact ⟨x,List.mem_cons_of_mem _ hx,y,List.mem_cons_of_mem _ hy,e⟩
end Go.Ra
