/-
  Operands, numbers, checks and words of the document's answer. Conditions: none.
-/
import Derived.Test.YtnickegmpffneaaGreatDoorPk46
set_option linter.unusedVariables false
set_option linter.unusedSimpArgs false
namespace Go.Rj
open Go Go.Ab Go.Proofs Go.Ra
set_option maxRecDepth 2000
noncomputable def cx93:Cx:={ P:=Tryz.prog,n:=29,tab:=[(92,findXS)],mtab:=[],refs:=[],keeps:=[0,2,3,4,5,12,14,15,17,21,23,25,27] }
noncomputable def cx109:Cx:={ P:=Tryz.prog,n:=71,tab:=[(110,bitsS),(169,signedXS)],mtab:=[],refs:=[],keeps:=[0,1,4,5,6,11,16,21,30,48,53] }
def opsXT (nm:List UInt8):Tree V:=
 (.br (!Go.Rj.fokX nm) (.leaf (.tup [(.str []),(.bool false)])) (.br (Prod.fst (Go.Rj.frowX nm) == 82) (.leaf (.tup [(.str [65,66,67]),(.bool true)])) (.br (Prod.fst (Go.Rj.frowX nm) == 73) (.leaf (.tup [(.str [65,66,105]),(.bool true)])) (.br (Prod.fst (Go.Rj.frowX nm) == 104) (.leaf (.tup [(.str [65,66,105]),(.bool true)])) (.br (Prod.fst (Go.Rj.frowX nm) == 119) (.leaf (.tup [(.str [65,66,105]),(.bool true)])) (.br (Prod.fst (Go.Rj.frowX nm) == 83) (.leaf (.tup [(.str [67,66,105]),(.bool true)])) (.br (Prod.fst (Go.Rj.frowX nm) == 66) (.leaf (.tup [(.str [66,67,106]),(.bool true)])) (.br (Prod.fst (Go.Rj.frowX nm) == 85) (.leaf (.tup [(.str [65,105]),(.bool true)])) (.br (Prod.fst (Go.Rj.frowX nm) == 74) (.leaf (.tup [(.str [65,106]),(.bool true)])) (.leaf (.tup [(.str []),(.bool true)])))))))))))
theorem opsXT_eq (nm:List UInt8):(dfun cx93 Tryz.f93 [.str nm]).run=(opsXT nm).run:=
 (show (dfun cx93 Tryz.f93 [.str nm]).run=(opsXT nm).out by kernel_rfl).trans (Tree.out_run _)
def immXT (f w:Int):Tree V:=
 (.br (f == 73) (.leaf (.int .i64 (Go.Rj.signX (Go.Rj.bitX w 20 12) 12))) (.br (f == 104) (.leaf (.int .i64 (IntKind.wrap IntKind.i64 (Go.Rj.bitX w 20 6)))) (.br (f == 119) (.leaf (.int .i64 (IntKind.wrap IntKind.i64 (Go.Rj.bitX w 20 5)))) (.br (f == 83) (.leaf (.int .i64 (Go.Rj.signX (IntKind.wrap IntKind.u32 ↑(BitVec.toNat (BitVec.ofInt 32 (IntKind.wrap IntKind.u32 (Go.Rj.bitX w 25 7*2 ^ 5)) ||| BitVec.ofInt 32 (Go.Rj.bitX w 7 5)))) 12))) (.br (f == 66) (.leaf (.int .i64 (Go.Rj.signX (IntKind.wrap IntKind.u32 ↑(BitVec.toNat (BitVec.ofInt 32 (IntKind.wrap IntKind.u32 ↑(BitVec.toNat (BitVec.ofInt 32 (IntKind.wrap IntKind.u32 ↑(BitVec.toNat (BitVec.ofInt 32 (IntKind.wrap IntKind.u32 (Go.Rj.bitX w 31 1*2 ^ 12)) ||| BitVec.ofInt 32 (IntKind.wrap IntKind.u32 (Go.Rj.bitX w 7 1*2 ^ 11))))) ||| BitVec.ofInt 32 (IntKind.wrap IntKind.u32 (Go.Rj.bitX w 25 6*2 ^ 5))))) ||| BitVec.ofInt 32 (IntKind.wrap IntKind.u32 (Go.Rj.bitX w 8 4*2 ^ 1))))) 13))) (.br (f == 85) (.leaf (.int .i64 (Go.Rj.signX (Go.Rj.bitX w 12 20) 20))) (.br (f == 74) (.leaf (.int .i64 (Go.Rj.signX (IntKind.wrap IntKind.u32 ↑(BitVec.toNat (BitVec.ofInt 32 (IntKind.wrap IntKind.u32 ↑(BitVec.toNat (BitVec.ofInt 32 (IntKind.wrap IntKind.u32 ↑(BitVec.toNat (BitVec.ofInt 32 (IntKind.wrap IntKind.u32 (Go.Rj.bitX w 31 1*2 ^ 20)) ||| BitVec.ofInt 32 (IntKind.wrap IntKind.u32 (Go.Rj.bitX w 12 8*2 ^ 12))))) ||| BitVec.ofInt 32 (IntKind.wrap IntKind.u32 (Go.Rj.bitX w 20 1*2 ^ 11))))) ||| BitVec.ofInt 32 (IntKind.wrap IntKind.u32 (Go.Rj.bitX w 21 10*2 ^ 1))))) 21))) (.leaf (.int .i64 0)))))))))
theorem immXT_eq (f w:Int):(dfun cx109 Tryz.f109 [.int .u8 f,.int .u32 w]).run=(immXT f w).run:=
 (show (dfun cx109 Tryz.f109 [.int .u8 f,.int .u32 w]).run=(immXT f w).out by kernel_rfl).trans (Tree.out_run _)
noncomputable def cx111:Cx:={ P:=Tryz.prog,n:=122,tab:=[(92,findXS),(110,bitsS)],mtab:=[],refs:=[],keeps:=[0,1,2,3,5,6,39,40,47,54,65,76,95,101] }
def wordXT (nm:List UInt8) (a b c _d n:Int):Tree V:=
 let s1:=(IntKind.wrap IntKind.u32 ↑(BitVec.toNat (BitVec.ofInt 32 (IntKind.wrap IntKind.u32 ↑(BitVec.toNat (BitVec.ofInt 32 (IntKind.wrap IntKind.u32 ↑(BitVec.toNat (BitVec.ofInt 32 (IntKind.wrap IntKind.u32 ↑(BitVec.toNat (BitVec.ofInt 32 (Prod.fst (Prod.snd (Prod.snd (Go.Rj.frowX nm)))) ||| BitVec.ofInt 32 (IntKind.wrap IntKind.u32 (Prod.fst (Prod.snd (Prod.snd (Prod.snd (Go.Rj.frowX nm))))*2 ^ 12))))) ||| BitVec.ofInt 32 (IntKind.wrap IntKind.u32 (IntKind.wrap IntKind.u32 a*2 ^ 7))))) ||| BitVec.ofInt 32 (IntKind.wrap IntKind.u32 (IntKind.wrap IntKind.u32 b*2 ^ 15))))) ||| BitVec.ofInt 32 (IntKind.wrap IntKind.u32 (IntKind.wrap IntKind.u32 c*2 ^ 20))))); let s2:=(IntKind.wrap IntKind.u32 (IntKind.wrap IntKind.u64 n)); let s3:=(IntKind.wrap IntKind.u32 ↑(BitVec.toNat (BitVec.ofInt 32 s1 ||| BitVec.ofInt 32 (IntKind.wrap IntKind.u32 (Prod.snd (Prod.snd (Prod.snd (Prod.snd (Go.Rj.frowX nm))))*2 ^ 25))))); let s4:=(IntKind.wrap IntKind.u32 ↑(BitVec.toNat (BitVec.ofInt 32 s3 ||| BitVec.ofInt 32 (IntKind.wrap IntKind.u32 (IntKind.wrap IntKind.u32 (IntKind.wrap IntKind.u64 n)*2 ^ 20))))); (.br (Prod.fst (Go.Rj.frowX nm) == 82) (.leaf (.int .u32 s3)) (.br (Prod.fst (Go.Rj.frowX nm) == 73) (.leaf (.int .u32 (IntKind.wrap IntKind.u32 ↑(BitVec.toNat (BitVec.ofInt 32 s1 ||| BitVec.ofInt 32 (IntKind.wrap IntKind.u32 (Go.Rj.bitX s2 0 12*2 ^ 20))))))) (.br (Prod.fst (Go.Rj.frowX nm) == 104) (.leaf (.int .u32 s4)) (.br (Prod.fst (Go.Rj.frowX nm) == 119) (.leaf (.int .u32 s4)) (.br (Prod.fst (Go.Rj.frowX nm) == 83) (.leaf (.int .u32 (IntKind.wrap IntKind.u32 ↑(BitVec.toNat (BitVec.ofInt 32 (IntKind.wrap IntKind.u32 ↑(BitVec.toNat (BitVec.ofInt 32 s1 ||| BitVec.ofInt 32 (IntKind.wrap IntKind.u32 (Go.Rj.bitX s2 0 5*2 ^ 7))))) ||| BitVec.ofInt 32 (IntKind.wrap IntKind.u32 (Go.Rj.bitX s2 5 7*2 ^ 25))))))) (.br (Prod.fst (Go.Rj.frowX nm) == 66) (.leaf (.int .u32 (IntKind.wrap IntKind.u32 ↑(BitVec.toNat (BitVec.ofInt 32 (IntKind.wrap IntKind.u32 ↑(BitVec.toNat (BitVec.ofInt 32 (IntKind.wrap IntKind.u32 ↑(BitVec.toNat (BitVec.ofInt 32 (IntKind.wrap IntKind.u32 ↑(BitVec.toNat (BitVec.ofInt 32 s1 ||| BitVec.ofInt 32 (IntKind.wrap IntKind.u32 (Go.Rj.bitX s2 11 1*2 ^ 7))))) ||| BitVec.ofInt 32 (IntKind.wrap IntKind.u32 (Go.Rj.bitX s2 1 4*2 ^ 8))))) ||| BitVec.ofInt 32 (IntKind.wrap IntKind.u32 (Go.Rj.bitX s2 5 6*2 ^ 25))))) ||| BitVec.ofInt 32 (IntKind.wrap IntKind.u32 (Go.Rj.bitX s2 12 1*2 ^ 31))))))) (.br (Prod.fst (Go.Rj.frowX nm) == 85) (.leaf (.int .u32 (IntKind.wrap IntKind.u32 ↑(BitVec.toNat (BitVec.ofInt 32 s1 ||| BitVec.ofInt 32 (IntKind.wrap IntKind.u32 (IntKind.wrap IntKind.u32 (IntKind.wrap IntKind.u64 n)*2 ^ 12))))))) (.br (Prod.fst (Go.Rj.frowX nm) == 74) (.leaf (.int .u32 (IntKind.wrap IntKind.u32 ↑(BitVec.toNat (BitVec.ofInt 32 (IntKind.wrap IntKind.u32 ↑(BitVec.toNat (BitVec.ofInt 32 (IntKind.wrap IntKind.u32 ↑(BitVec.toNat (BitVec.ofInt 32 (IntKind.wrap IntKind.u32 ↑(BitVec.toNat (BitVec.ofInt 32 s1 ||| BitVec.ofInt 32 (IntKind.wrap IntKind.u32 (Go.Rj.bitX s2 12 8*2 ^ 12))))) ||| BitVec.ofInt 32 (IntKind.wrap IntKind.u32 (Go.Rj.bitX s2 11 1*2 ^ 20))))) ||| BitVec.ofInt 32 (IntKind.wrap IntKind.u32 (Go.Rj.bitX s2 1 10*2 ^ 21))))) ||| BitVec.ofInt 32 (IntKind.wrap IntKind.u32 (Go.Rj.bitX s2 20 1*2 ^ 31))))))) (.leaf (.int .u32 (Prod.fst (Prod.snd (Prod.snd (Go.Rj.frowX nm))))))))))))))
theorem wordXT_eq (nm:List UInt8) (a b c d n:Int):(dfun cx111 Tryz.f111 [.agg [.str nm,.int .i64 a,.int .i64 b,.int .i64 c,.int .i64 d,.int .i64 n]]).run=(wordXT nm a b c d n).run:=
 (show (dfun cx111 Tryz.f111 [.agg [.str nm,.int .i64 a,.int .i64 b,.int .i64 c,.int .i64 d,.int .i64 n]]).run=(wordXT nm a b c d n).out by kernel_rfl).trans (Tree.out_run _)
def opsG (f:Int):List UInt8:=
 cond (f == 82) [65,66,67] (cond (f == 73) [65,66,105] (cond (f == 104) [65,66,105] (cond (f == 119) [65,66,105] (cond (f == 83) [67,66,105] (cond (f == 66) [66,67,106]
  (cond (f == 85) [65,105] (cond (f == 74) [65,106] [])))))))
def opsX (nm:List UInt8):List UInt8:=cond (fokX nm) (opsG (frowX nm).1) []
theorem opsG_short (f:Int):(opsG f).length≤3:=by
 unfold opsG
 cases (f == 82) <;> cases (f == 73) <;> cases (f == 104) <;> cases (f == 119) <;> cases (f == 83) <;> cases (f == 66) <;> cases (f == 85) <;> cases (f == 74) <;> decide
theorem opsX_short (nm:List UInt8):(opsX nm).length≤3:=by
 unfold opsX
 cases fokX nm
 ·exact Nat.zero_le _
 ·exact opsG_short _
def opsXS:Ab.Spec:=fun args=>match args with
 | [.str nm]=>.leaf (.tup [.str (opsX nm),.bool (fokX nm)])
 | _=>.fail
theorem opsXS_ok:Sound Tryz.prog 93 opsXS:=by
 intro args out h
 unfold opsXS at h
 split at h
 rotate_left
 ·cases h
 rename_i nm
 refine pcall_fun' (cx:=cx93) (fn:=Tryz.f93) (cx1_ok (.cons findXS_ok (.nil _)) (.nil _) rfl rfl) (by kernel_rfl) (by kernel_rfl) (by kernel_rfl) ?_
 rw [opsXT_eq,← h]
 unfold opsXT opsX opsG
 cases (fokX nm)
 ·rfl
 generalize (frowX nm).1=f
 cases (f == 82)
 rotate_left
 ·rfl
 cases (f == 73)
 rotate_left
 ·rfl
 cases (f == 104)
 rotate_left
 ·rfl
 cases (f == 119)
 rotate_left
 ·rfl
 cases (f == 83)
 rotate_left
 ·rfl
 cases (f == 66)
 rotate_left
 ·rfl
 cases (f == 85)
 rotate_left
 ·rfl
 cases (f == 74) <;> rfl
def immX (f w:Int):Int:=
 cond (f == 73) (signX (bitX w 20 12) 12) (cond (f == 104) (IntKind.wrap .i64 (bitX w 20 6)) (cond (f == 119) (IntKind.wrap .i64 (bitX w 20 5))
  (cond (f == 83) (signX (or32 (shl32 (bitX w 25 7) 5) (bitX w 7 5)) 12)
   (cond (f == 66) (signX (or32 (or32 (or32 (shl32 (bitX w 31 1) 12) (shl32 (bitX w 7 1) 11)) (shl32 (bitX w 25 6) 5)) (shl32 (bitX w 8 4) 1)) 13)
    (cond (f == 85) (signX (bitX w 12 20) 20)
     (cond (f == 74) (signX (or32 (or32 (or32 (shl32 (bitX w 31 1) 20) (shl32 (bitX w 12 8) 12)) (shl32 (bitX w 20 1) 11)) (shl32 (bitX w 21 10) 1)) 21) 0))))))
def immXS:Ab.Spec:=fun args=>match args with
 | [.int .u8 f,.int .u32 w]=>.leaf (.int .i64 (immX f w))
 | _=>.fail
theorem immXS_ok:Sound Tryz.prog 109 immXS:=by
 intro args out h
 unfold immXS at h
 split at h
 rotate_left
 ·cases h
 rename_i f w
 simp only [Tree.run,Option.some.injEq] at h
 subst h
 refine pcall_fun' (cx:=cx109) (fn:=Tryz.f109) (cx1_ok (.cons bitsS_ok (.cons signedXS_ok (.nil _))) (.nil _) rfl rfl) (by kernel_rfl) (by kernel_rfl) (by kernel_rfl) ?_
 rw [immXT_eq]
 unfold immXT immX
 exact fold7 _ _ _ _ _ _ _ _ _ _ _ _ _ _ _ _
theorem fold8 (k:IntKind) (b1 b2 b3 b4 b5 b6 b7 b8:Bool) (x1 x2 x3 x4 x5 x6 x7 x8 x9:Int) :
  (Tree.br b1 (.leaf (V.int k x1)) (.br b2 (.leaf (V.int k x2)) (.br b3 (.leaf (V.int k x3)) (.br b4 (.leaf (V.int k x4)) (.br b5 (.leaf (V.int k x5)) (.br b6 (.leaf (V.int k x6)) (.br b7 (.leaf (V.int k x7)) (.br b8 (.leaf (V.int k x8)) (.leaf (V.int k x9)))))))))).run =
   some (V.int k (cond b1 x1 (cond b2 x2 (cond b3 x3 (cond b4 x4 (cond b5 x5 (cond b6 x6 (cond b7 x7 (cond b8 x8 x9))))))))):=by
 cases b1
 rotate_left
 ·rfl
 exact fold7 k b2 b3 b4 b5 b6 b7 b8 x2 x3 x4 x5 x6 x7 x8 x9
def baseX (r:RowX) (a b c:Int):Int:=or32 (or32 (or32 (or32 r.2.2.1 (shl32 r.2.2.2.1 12)) (shl32 (IntKind.wrap .u32 a) 7)) (shl32 (IntKind.wrap .u32 b) 15)) (shl32 (IntKind.wrap .u32 c) 20)
def wordG (r:RowX) (a b c m:Int):Int:=
 cond (r.1 == 82) (or32 (baseX r a b c) (shl32 r.2.2.2.2 25)) (cond (r.1 == 73) (or32 (baseX r a b c) (shl32 (bitX m 0 12) 20))
  (cond (r.1 == 104) (or32 (or32 (baseX r a b c) (shl32 r.2.2.2.2 25)) (shl32 m 20)) (cond (r.1 == 119) (or32 (or32 (baseX r a b c) (shl32 r.2.2.2.2 25)) (shl32 m 20))
   (cond (r.1 == 83) (or32 (or32 (baseX r a b c) (shl32 (bitX m 0 5) 7)) (shl32 (bitX m 5 7) 25))
    (cond (r.1 == 66) (or32 (or32 (or32 (or32 (baseX r a b c) (shl32 (bitX m 11 1) 7)) (shl32 (bitX m 1 4) 8)) (shl32 (bitX m 5 6) 25)) (shl32 (bitX m 12 1) 31))
     (cond (r.1 == 85) (or32 (baseX r a b c) (shl32 m 12))
      (cond (r.1 == 74) (or32 (or32 (or32 (or32 (baseX r a b c) (shl32 (bitX m 12 8) 12)) (shl32 (bitX m 11 1) 20)) (shl32 (bitX m 1 10) 21)) (shl32 (bitX m 20 1) 31)) r.2.2.1)))))))
def wordX (i:InsT):Int:=wordG (frowX i.1) i.2.1 i.2.2.1 i.2.2.2.1 (IntKind.wrap .u32 (IntKind.wrap .u64 i.2.2.2.2.2))
def wordXS:Ab.Spec:=fun args=>match args with
 | [.agg [.str nm,.int .i64 a,.int .i64 b,.int .i64 c,.int .i64 d,.int .i64 n]]=>.leaf (.int .u32 (wordX (nm,a,b,c,d,n)))
 | _=>.fail
theorem wordXS_ok:Sound Tryz.prog 111 wordXS:=by
 intro args out h
 unfold wordXS at h
 split at h
 rotate_left
 ·cases h
 rename_i nm a b c d n
 simp only [Tree.run,Option.some.injEq] at h
 subst h
 refine pcall_fun' (cx:=cx111) (fn:=Tryz.f111) (cx1_ok (.cons findXS_ok (.cons bitsS_ok (.nil _))) (.nil _) rfl rfl) (by kernel_rfl) (by kernel_rfl) (by kernel_rfl) ?_
 rw [wordXT_eq]
 unfold wordXT wordX wordG baseX
 exact fold8 _ _ _ _ _ _ _ _ _ _ _ _ _ _ _ _ _ _
noncomputable def cx41:Cx:={ P:=Tryz.prog,n:=81,tab:=[(92,findXS),(93,opsXS),(94,regS),(95,boundsXS),(96,hasS)],mtab:=[],refs:=[],keeps:=[0,1,2,3,4,5,7,8,9,17,47,62,65,75,80] }
def checkT (nm:List UInt8) (a b c d n:Int):Tree V:=
 (.br (!Go.Rj.fokX nm) (.leaf (.int .i64 7)) (.br (decide (List.length (Go.Rj.opsX nm)<1000000000)) (.br (!Go.Rj.regX (Go.Rj.opsX nm) 65 a) (.leaf (.int .i64 13)) (.br (decide (List.length (Go.Rj.opsX nm)<1000000000)) (.br (!Go.Rj.regX (Go.Rj.opsX nm) 66 b) (.leaf (.int .i64 13)) (.br (decide (List.length (Go.Rj.opsX nm)<1000000000)) (.br (!Go.Rj.regX (Go.Rj.opsX nm) 67 c) (.leaf (.int .i64 13)) (.br (d != 0) (.leaf (.int .i64 13)) (.br (decide (List.length (Go.Rj.opsX nm)<1000000000)) (.br (!Go.Rj.hasX (Go.Rj.opsX nm) 105) (.br (decide (List.length (Go.Rj.opsX nm)<1000000000)) (.br (!Go.Rj.hasX (Go.Rj.opsX nm) 106) (.br (n != 0) (.leaf (.int .i64 13)) (.leaf (.int .i64 0))) (.br (decide (n<Prod.fst (Go.Rj.bndX (Prod.fst (Go.Rj.frowX nm))))) (.leaf (.int .i64 3)) (.br (decide (Prod.fst (Prod.snd (Go.Rj.bndX (Prod.fst (Go.Rj.frowX nm))))<n)) (.leaf (.int .i64 3)) (.br (!decide (Prod.snd (Prod.snd (Go.Rj.bndX (Prod.fst (Go.Rj.frowX nm))))=0)) (.br (Int.tmod n (Prod.snd (Prod.snd (Go.Rj.bndX (Prod.fst (Go.Rj.frowX nm))))) != 0) (.leaf (.int .i64 10)) (.leaf (.int .i64 0))) .fail)))) .fail) (.br (decide (n<Prod.fst (Go.Rj.bndX (Prod.fst (Go.Rj.frowX nm))))) (.leaf (.int .i64 3)) (.br (decide (Prod.fst (Prod.snd (Go.Rj.bndX (Prod.fst (Go.Rj.frowX nm))))<n)) (.leaf (.int .i64 3)) (.br (!decide (Prod.snd (Prod.snd (Go.Rj.bndX (Prod.fst (Go.Rj.frowX nm))))=0)) (.br (Int.tmod n (Prod.snd (Prod.snd (Go.Rj.bndX (Prod.fst (Go.Rj.frowX nm))))) != 0) (.leaf (.int .i64 10)) (.leaf (.int .i64 0))) .fail)))) .fail))) .fail)) .fail)) .fail))
theorem checkT_eq (nm:List UInt8) (a b c d n:Int):(dfun cx41 Tryz.f41 [.agg [.str nm,.int .i64 a,.int .i64 b,.int .i64 c,.int .i64 d,.int .i64 n]]).run=(checkT nm a b c d n).run:=
 (show (dfun cx41 Tryz.f41 [.agg [.str nm,.int .i64 a,.int .i64 b,.int .i64 c,.int .i64 d,.int .i64 n]]).run=(checkT nm a b c d n).out by kernel_rfl).trans (Tree.out_run _)
theorem bndX_by (f:Int):(!decide ((bndX f).2.2=0))=true:=by
 unfold bndX
 cases (f == 73) <;> cases (f == 83) <;> cases (f == 104) <;> cases (f == 119) <;> cases (f == 66) <;> cases (f == 85) <;> cases (f == 74) <;> rfl
def checkX (i:InsT):Int:=
 cond (!fokX i.1) 7 (cond (!regX (opsX i.1) 65 i.2.1) 13 (cond (!regX (opsX i.1) 66 i.2.2.1) 13 (cond (!regX (opsX i.1) 67 i.2.2.2.1) 13 (cond (i.2.2.2.2.1 != 0) 13
  (cond (!hasX (opsX i.1) 105 && !hasX (opsX i.1) 106) (cond (i.2.2.2.2.2 != 0) 13 0)
   (cond (decide (i.2.2.2.2.2<(bndX (frowX i.1).1).1)) 3 (cond (decide ((bndX (frowX i.1).1).2.1<i.2.2.2.2.2)) 3 (cond (Int.tmod i.2.2.2.2.2 (bndX (frowX i.1).1).2.2 != 0) 10 0))))))))
def checkS:Ab.Spec:=fun args=>match args with
 | [.agg [.str nm,.int .i64 a,.int .i64 b,.int .i64 c,.int .i64 d,.int .i64 n]]=>.leaf (.int .i64 (checkX (nm,a,b,c,d,n)))
 | _=>.fail
theorem checkS_ok:Sound Tryz.prog 41 checkS:=by
 intro args out h
 unfold checkS at h
 split at h
 rotate_left
 ·cases h
 rename_i nm a b c d n
 simp only [Tree.run,Option.some.injEq] at h
 subst h
 refine pcall_fun' (cx:=cx41) (fn:=Tryz.f41) (cx1_ok (.cons findXS_ok (.cons opsXS_ok (.cons regS_ok (.cons boundsXS_ok (.cons hasS_ok (.nil _)))))) (.nil _) rfl rfl) (by kernel_rfl) (by kernel_rfl) (by kernel_rfl) ?_
 rw [checkT_eq]
 have hl:decide (List.length (opsX nm)<1000000000)=true:=decide_eq_true (by have:=opsX_short nm; omega)
 unfold checkT checkX
 rw [hl,bndX_by]
 simp only
 cases (!fokX nm)
 rotate_left
 ·rfl
 cases (!regX (opsX nm) 65 a)
 rotate_left
 ·rfl
 cases (!regX (opsX nm) 66 b)
 rotate_left
 ·rfl
 cases (!regX (opsX nm) 67 c)
 rotate_left
 ·rfl
 cases (d != 0)
 rotate_left
 ·rfl
 generalize decide (n<(bndX (frowX nm).1).1)=e3,decide ((bndX (frowX nm).1).2.1<n)=e4,(Int.tmod n (bndX (frowX nm).1).2.2 != 0)=e5,(n != 0)=e6
 cases (!hasX (opsX nm) 105) <;> cases (!hasX (opsX nm) 106) <;> cases e3 <;> cases e4 <;> cases e5 <;> cases e6 <;> rfl
end Go.Rj

namespace Go.Rj
open Go Go.Ab
set_option maxRecDepth 2000
def codeF (g:Int):Int:=cond (g == 82) 0 (cond (g == 73) 1 (cond (g == 104) 2 (cond (g == 119) 3 (cond (g == 83) 4 (cond (g == 66) 5 (cond (g == 85) 6 (cond (g == 74) 7 8)))))))
def conv (r:RowX):RowT:=(r.2.1,codeF r.1,or32 (or32 r.2.2.1 (shl32 r.2.2.2.1 12)) (shl32 r.2.2.2.2 25))
theorem rows_conv:rowsX.map conv=rowsL:=by kernel_rfl
def formOk (g:Int):Bool:=g == 82 || (g == 73 || (g == 104 || (g == 119 || (g == 83 || (g == 66 || (g == 85 || (g == 74 || g == 120)))))))
def rowXFine (r:RowX):Bool:=
 formOk r.1 && (decide (0≤r.2.2.1) && (decide (r.2.2.1<4294967296) && (decide (0≤r.2.2.2.1) && (decide (r.2.2.2.1<8) && (decide (0≤r.2.2.2.2) && (decide (r.2.2.2.2<128) &&
  ((r.1 == 82 || (r.1 == 104 || (r.1 == 119 || r.2.2.2.2 == 0))) && (!(r.1 == 120) || (r.2.2.2.1 == 0 && r.2.2.2.2 == 0)))))))))
theorem rowsX_fine:rowsX.all rowXFine=true:=by kernel_rfl
theorem form_eq {g:Int} (h:formOk g=true):g=82∨g=73∨g=104∨g=119∨g=83∨g=66∨g=85∨g=74∨g=120:=by
 simp only [formOk,Bool.or_eq_true,beq_iff_eq] at h
 exact h
theorem find_conv (nm:List UInt8):findL nm rowsL=(findLX nm rowsX).map conv:=by
 unfold findL findLX
 rw [← rows_conv,List.find?_map]
 rfl
theorem fok_eq (nm:List UInt8):fok nm=fokX nm:=by
 unfold fok fokX
 rw [find_conv]
 cases findLX nm rowsX <;> rfl
theorem frow_eq {nm:List UInt8} (h:fokX nm=true):frow nm=conv (frowX nm)∧frowX nm ∈ rowsX:=by
 unfold fokX at h
 obtain ⟨r,hr⟩:=Option.isSome_iff_exists.1 h
 have h1:frowX nm=r:=by unfold frowX; rw [hr]; rfl
 refine ⟨?_,by rw [h1]; exact List.mem_of_find?_eq_some hr⟩
 unfold frow
 rw [find_conv,hr,h1]
 rfl
theorem opsG_eq {g:Int} (h:formOk g=true):opsG g=opsF (codeF g)∧bndX g=bnd (codeF g)∧hasX (opsG g) 65=uA (codeF g)∧hasX (opsG g) 66=uB (codeF g)∧hasX (opsG g) 67=uC (codeF g) ∧
  (!hasX (opsG g) 105 && !hasX (opsG g) 106)=((bnd (codeF g)).1 == (bnd (codeF g)).2.1):=by
 rcases form_eq h with h | h | h | h | h | h | h | h | h <;> subst h <;> decide
theorem reg_eq {s:List UInt8} {c n:Int} {u:Bool} (h:hasX s c=u):regX s c n=regOk n u:=by
 unfold regX regOk
 rw [h]
 cases u
 ·simp
 ·simp only [Bool.not_true,cond_false,Bool.true_and]
  by_cases h0:0≤n
  ·rw [decide_eq_true h0,cond_true]
   by_cases h1:n=0
   ·subst h1; rfl
   ·have e1:(n == 0)=false:=by simpa using h1
    have e2:decide (0<n)=true:=decide_eq_true (by omega)
    rw [e1,e2]
    simp only [Bool.false_or,Bool.true_and]
    exact decide_eq_decide.2 (by omega)
  ·have e1:(n == 0)=false:=by simpa using (by omega:¬ n=0)
   have e2:decide (0<n)=false:=decide_eq_false (by omega)
   rw [decide_eq_false h0,e1,e2]
   rfl
theorem rowX_fine {r:RowX} (h:r ∈ rowsX):rowXFine r=true:=List.all_eq_true.1 rowsX_fine _ h
theorem ops_eq (nm:List UInt8):opsX nm=opsOf nm:=by
 unfold opsX opsOf
 rw [fok_eq]
 cases hf:fokX nm
 ·rfl
 ·obtain ⟨e,hm⟩:=frow_eq hf
  have hfine:=rowX_fine hm
  simp only [rowXFine,Bool.and_eq_true] at hfine
  rw [e]
  exact (opsG_eq hfine.1).1
theorem check_eq (i:InsT):checkX i=encE i:=by
 obtain ⟨nm,a,b,c,d,n⟩:=i
 unfold checkX encE
 simp only
 rw [fok_eq]
 cases hf:fokX nm
 ·rfl
 obtain ⟨e,hm⟩:=frow_eq hf
 have hfine:=rowX_fine hm
 simp only [rowXFine,Bool.and_eq_true] at hfine
 obtain ⟨o1,o2,o3,o4,o5,o6⟩:=opsG_eq hfine.1
 have hx:opsX nm=opsG (frowX nm).1:=by unfold opsX; rw [hf]; rfl
 have hc:(frow nm).2.1=codeF (frowX nm).1:=by rw [e]; rfl
 rw [hc,hx,reg_eq o3,reg_eq o4,reg_eq o5,o2,o6]
 unfold faultyF
 simp only [Bool.not_true,cond_false,cond_true]
 cases (!regOk a (uA (codeF (frowX nm).1)))
 rotate_left
 ·rfl
 cases (!regOk b (uB (codeF (frowX nm).1)))
 rotate_left
 ·rfl
 cases (!regOk c (uC (codeF (frowX nm).1)))
 rotate_left
 ·rfl
 cases (d != 0)
 rotate_left
 ·rfl
 simp only [cond_false]
 cases hb:((bnd (codeF (frowX nm).1)).1 == (bnd (codeF (frowX nm).1)).2.1)
 ·rfl
 ·have key:bnd (codeF (frowX nm).1)=(0,0,1):=by
   rcases form_eq hfine.1 with h | h | h | h | h | h | h | h | h <;> rw [h] at hb ⊢ <;> first | rfl | (exact absurd hb (by decide))
  rw [key]
  simp only [cond_true,Bool.true_and]
  cases hn:(n != 0)
  ·have:n=0:=by simpa using hn
   subst this
   rfl
  ·rfl
theorem bit_part {m:Nat} (hm:m<2 ^ 32) {fr si:Nat} (h1:fr≤32) (h3:si<32):bitX (m:Int) fr si=((partN (m:Int) fr si:Nat):Int):=by
 have e:=at_eq hm (fr:=fr) (bi:=si) (at_:=0) h1 (by omega) h3
 rw [Nat.shiftLeft_zero] at e
 rw [← e]
 unfold atF bitX
 have hz:Min.min (Int.toNat ((0:Nat):Int)) 32=0:=by simp
 rw [hz]
 generalize BitVec.toNat _=x
 simp only [wrap_u32]
 omega
theorem part_mod (n:Int) {fr bi:Nat} (h:fr+bi≤32):partN (((n % 4294967296).toNat:Nat):Int) fr bi=partN n fr bi:=by
 have e1:=partN_int n (fr:=fr) (bi:=bi) (by omega)
 have e2:=partN_int (((n % 4294967296).toNat:Nat):Int) (fr:=fr) (bi:=bi) (by omega)
 have hm:(((n % 4294967296).toNat:Nat):Int)=n % 4294967296:=by omega
 rw [hm] at e2 ⊢
 have hp:(0:Int)<2 ^ fr:=Int.pow_pos (by omega)
 have key:(n % 4294967296) / 2 ^ fr % 2 ^ bi=n / 2 ^ fr % 2 ^ bi:=by
  have hs:(4294967296:Int)=2 ^ fr*(2 ^ bi*2 ^ (32 - fr - bi)):=by
   rw [← Int.pow_add,← Int.pow_add,show fr+(bi+(32 - fr - bi))=32 from by omega]; rfl
  have hn:n=n % 4294967296+2 ^ fr*(2 ^ bi*(2 ^ (32 - fr - bi)*(n / 4294967296))):=by
   rw [← Int.mul_assoc (2 ^ bi),← Int.mul_assoc (2 ^ fr),← hs]
   omega
  generalize n % 4294967296=r at hn ⊢
  rw [hn,Int.add_mul_ediv_left _ _ (by omega),Int.add_mul_emod_self_left]
 omega
end Go.Rj

namespace Go.Rj
open Go Go.Ab
set_option maxRecDepth 2000
section
variable (r:RowX) (a b c m:Int)
theorem wG82 (h:r.1=82):wordG r a b c m=or32 (baseX r a b c) (shl32 r.2.2.2.2 25):=by unfold wordG; rw [h,show ((82:Int) == 82)=true from rfl,cond_true]
theorem wG73 (h:r.1=73):wordG r a b c m=or32 (baseX r a b c) (shl32 (bitX m 0 12) 20):=by unfold wordG; rw [h,show ((73:Int) == 82)=false from rfl,cond_false,show ((73:Int) == 73)=true from rfl,cond_true]
theorem wG104 (h:r.1=104):wordG r a b c m=or32 (or32 (baseX r a b c) (shl32 r.2.2.2.2 25)) (shl32 m 20):=by unfold wordG; rw [h,show ((104:Int) == 82)=false from rfl,cond_false,show ((104:Int) == 73)=false from rfl,cond_false,show ((104:Int) == 104)=true from rfl,cond_true]
theorem wG119 (h:r.1=119):wordG r a b c m=or32 (or32 (baseX r a b c) (shl32 r.2.2.2.2 25)) (shl32 m 20):=by unfold wordG; rw [h,show ((119:Int) == 82)=false from rfl,cond_false,show ((119:Int) == 73)=false from rfl,cond_false,show ((119:Int) == 104)=false from rfl,cond_false,show ((119:Int) == 119)=true from rfl,cond_true]
theorem wG83 (h:r.1=83):wordG r a b c m=or32 (or32 (baseX r a b c) (shl32 (bitX m 0 5) 7)) (shl32 (bitX m 5 7) 25):=by unfold wordG; rw [h,show ((83:Int) == 82)=false from rfl,cond_false,show ((83:Int) == 73)=false from rfl,cond_false,show ((83:Int) == 104)=false from rfl,cond_false,show ((83:Int) == 119)=false from rfl,cond_false,show ((83:Int) == 83)=true from rfl,cond_true]
theorem wG66 (h:r.1=66):wordG r a b c m=or32 (or32 (or32 (or32 (baseX r a b c) (shl32 (bitX m 11 1) 7)) (shl32 (bitX m 1 4) 8)) (shl32 (bitX m 5 6) 25)) (shl32 (bitX m 12 1) 31):=by unfold wordG; rw [h,show ((66:Int) == 82)=false from rfl,cond_false,show ((66:Int) == 73)=false from rfl,cond_false,show ((66:Int) == 104)=false from rfl,cond_false,show ((66:Int) == 119)=false from rfl,cond_false,show ((66:Int) == 83)=false from rfl,cond_false,show ((66:Int) == 66)=true from rfl,cond_true]
theorem wG85 (h:r.1=85):wordG r a b c m=or32 (baseX r a b c) (shl32 m 12):=by unfold wordG; rw [h,show ((85:Int) == 82)=false from rfl,cond_false,show ((85:Int) == 73)=false from rfl,cond_false,show ((85:Int) == 104)=false from rfl,cond_false,show ((85:Int) == 119)=false from rfl,cond_false,show ((85:Int) == 83)=false from rfl,cond_false,show ((85:Int) == 66)=false from rfl,cond_false,show ((85:Int) == 85)=true from rfl,cond_true]
theorem wG74 (h:r.1=74):wordG r a b c m=or32 (or32 (or32 (or32 (baseX r a b c) (shl32 (bitX m 12 8) 12)) (shl32 (bitX m 11 1) 20)) (shl32 (bitX m 1 10) 21)) (shl32 (bitX m 20 1) 31):=by unfold wordG; rw [h,show ((74:Int) == 82)=false from rfl,cond_false,show ((74:Int) == 73)=false from rfl,cond_false,show ((74:Int) == 104)=false from rfl,cond_false,show ((74:Int) == 119)=false from rfl,cond_false,show ((74:Int) == 83)=false from rfl,cond_false,show ((74:Int) == 66)=false from rfl,cond_false,show ((74:Int) == 85)=false from rfl,cond_false,show ((74:Int) == 74)=true from rfl,cond_true]
theorem wG120 (h:r.1=120):wordG r a b c m=r.2.2.1:=by unfold wordG; rw [h,show ((120:Int) == 82)=false from rfl,cond_false,show ((120:Int) == 73)=false from rfl,cond_false,show ((120:Int) == 104)=false from rfl,cond_false,show ((120:Int) == 119)=false from rfl,cond_false,show ((120:Int) == 83)=false from rfl,cond_false,show ((120:Int) == 66)=false from rfl,cond_false,show ((120:Int) == 85)=false from rfl,cond_false,show ((120:Int) == 74)=false from rfl,cond_false]
end
section
variable (n:Int)
theorem iF0:immF 0 n=0:=by unfold immF; rw [show ((0:Int) == 1)=false from rfl,cond_false,show ((0:Int) == 2)=false from rfl,cond_false,show ((0:Int) == 3)=false from rfl,cond_false,show ((0:Int) == 4)=false from rfl,cond_false,show ((0:Int) == 5)=false from rfl,cond_false,show ((0:Int) == 6)=false from rfl,cond_false,show ((0:Int) == 7)=false from rfl,cond_false]
theorem iF1:immF 1 n=partF n 0 12 20:=by unfold immF; rw [show ((1:Int) == 1)=true from rfl,cond_true]
theorem iF2:immF 2 n=partF n 0 6 20:=by unfold immF; rw [show ((2:Int) == 1)=false from rfl,cond_false,show ((2:Int) == 2)=true from rfl,cond_true]
theorem iF3:immF 3 n=partF n 0 6 20:=by unfold immF; rw [show ((3:Int) == 1)=false from rfl,cond_false,show ((3:Int) == 2)=false from rfl,cond_false,show ((3:Int) == 3)=true from rfl,cond_true]
theorem iF4:immF 4 n=or32 (partF n 0 5 7) (partF n 5 7 25):=by unfold immF; rw [show ((4:Int) == 1)=false from rfl,cond_false,show ((4:Int) == 2)=false from rfl,cond_false,show ((4:Int) == 3)=false from rfl,cond_false,show ((4:Int) == 4)=true from rfl,cond_true]
theorem iF5:immF 5 n=or32 (or32 (or32 (partF n 1 4 8) (partF n 5 6 25)) (partF n 11 1 7)) (partF n 12 1 31):=by unfold immF; rw [show ((5:Int) == 1)=false from rfl,cond_false,show ((5:Int) == 2)=false from rfl,cond_false,show ((5:Int) == 3)=false from rfl,cond_false,show ((5:Int) == 4)=false from rfl,cond_false,show ((5:Int) == 5)=true from rfl,cond_true]
theorem iF6:immF 6 n=partF n 0 20 12:=by unfold immF; rw [show ((6:Int) == 1)=false from rfl,cond_false,show ((6:Int) == 2)=false from rfl,cond_false,show ((6:Int) == 3)=false from rfl,cond_false,show ((6:Int) == 4)=false from rfl,cond_false,show ((6:Int) == 5)=false from rfl,cond_false,show ((6:Int) == 6)=true from rfl,cond_true]
theorem iF7:immF 7 n=or32 (or32 (or32 (partF n 1 10 21) (partF n 11 1 20)) (partF n 12 8 12)) (partF n 20 1 31):=by unfold immF; rw [show ((7:Int) == 1)=false from rfl,cond_false,show ((7:Int) == 2)=false from rfl,cond_false,show ((7:Int) == 3)=false from rfl,cond_false,show ((7:Int) == 4)=false from rfl,cond_false,show ((7:Int) == 5)=false from rfl,cond_false,show ((7:Int) == 6)=false from rfl,cond_false,show ((7:Int) == 7)=true from rfl,cond_true]
theorem iF8:immF 8 n=0:=by unfold immF; rw [show ((8:Int) == 1)=false from rfl,cond_false,show ((8:Int) == 2)=false from rfl,cond_false,show ((8:Int) == 3)=false from rfl,cond_false,show ((8:Int) == 4)=false from rfl,cond_false,show ((8:Int) == 5)=false from rfl,cond_false,show ((8:Int) == 6)=false from rfl,cond_false,show ((8:Int) == 7)=false from rfl,cond_false]
end
def IsN (x:Int) (m:Nat):Prop:=x=m∧m<2 ^ 32
theorem IsN.or {x y:Int} {a b:Nat} (h:IsN x a) (k:IsN y b):IsN (or32 x y) (a ||| b):=by
 obtain ⟨rfl,h2⟩:=h
 obtain ⟨rfl,k2⟩:=k
 refine ⟨?_,Nat.or_lt_two_pow h2 k2⟩
 rw [or32_nat (by omega) (by omega) (by omega) (by omega)]
 simp only [Int.toNat_natCast]
theorem IsN.zero:IsN 0 0:=⟨rfl,by decide⟩
theorem IsN.part (n:Int) {fr bi at_:Nat} (h1:fr≤64) (h2:at_+bi≤32) (h3:bi<32):IsN (partF n fr bi at_) (partN n fr bi <<< at_):=by
 refine ⟨part_eq n h1 h2 h3,?_⟩
 rw [Nat.shiftLeft_eq]
 have h1:=Nat.mul_lt_mul_of_pos_right (partN_lt n fr bi) (Nat.two_pow_pos at_)
 rw [← Nat.pow_add] at h1
 have:(2:Nat) ^ (bi+at_)≤2 ^ 32:=Nat.pow_le_pow_right (by omega) (by omega)
 omega
theorem IsN.shl {x:Int} {p k b:Nat} (h:x=p) (hp:p<2 ^ b) (hk:b+k≤32):IsN (shl32 x k) (p <<< k):=by
 subst h
 have h1:=Nat.mul_lt_mul_of_pos_right hp (Nat.two_pow_pos k)
 rw [← Nat.pow_add] at h1
 have h2:(2:Nat) ^ (b+k)≤2 ^ 32:=Nat.pow_le_pow_right (by omega) (by omega)
 rw [IsN,Nat.shiftLeft_eq]
 unfold shl32
 have he:((2:Int) ^ k)=((2 ^ k:Nat):Int):=by simp
 rw [wrap_u32,he,← Int.natCast_mul]
 generalize p*2 ^ k=q at h1
 omega
theorem IsN.bit (n:Int) {fr bi k:Nat} (h1:fr+bi≤32) (h2:bi+k≤32) (h3:bi<32):IsN (shl32 (bitX (IntKind.wrap .u32 (IntKind.wrap .u64 n)) fr bi) k) (partN n fr bi <<< k):=by
 have hm:IntKind.wrap .u32 (IntKind.wrap .u64 n)=(((n % 4294967296).toNat:Nat):Int):=by
  rw [wrap_u32,wrap_u64]
  omega
 refine IsN.shl (b:=bi) ?_ (partN_lt _ _ _) h2
 rw [hm,bit_part (by omega) (by omega) h3,part_mod n h1]
theorem word_eq {i:InsT} (h:(encE i == 0)=true):wordX i=encW i:=by
 obtain ⟨nm,a,b,c,d,n⟩:=i
 obtain ⟨hf,hz⟩:=enc_ok h
 simp only at hf hz
 obtain ⟨e,hm⟩:=frow_eq (by rw [← fok_eq]; exact hf)
 have hfine:=rowX_fine hm
 have hreg:=enc_regs h
 obtain ⟨_,_,hlo,hhi,_⟩:=faulty_all hz
 obtain ⟨k1,k2,k3⟩:=faulty_regs hz
 unfold wordX encW
 simp only
 rw [e] at hlo hhi k1 k2 k3 ⊢
 generalize frowX nm=r at hm hfine hlo hhi k1 k2 k3 ⊢
 obtain ⟨g,nm',o,p,q⟩:=r
 simp only [rowXFine,Bool.and_eq_true,decide_eq_true_eq,Bool.or_eq_true,beq_iff_eq,Bool.not_eq_true',beq_eq_false_iff_ne] at hfine
 obtain ⟨hform,o0,o1,p0,p1,q0,q1,hq,hx⟩:=hfine
 simp only [conv] at hlo hhi k1 k2 k3 ⊢
 have hO:IsN o o.toNat:=⟨by omega,by omega⟩
 have hP:IsN (shl32 p 12) (p.toNat <<< 12):=IsN.shl (b:=3) (by omega) (by omega) (by omega)
 have hQ:IsN (shl32 q 25) (q.toNat <<< 25):=IsN.shl (b:=7) (by omega) (by omega) (by omega)
 have hA:IsN (shl32 (IntKind.wrap .u32 a) 7) (a.toNat <<< 7):=IsN.shl (b:=5) (by rw [wrap_u32]; have:=hreg.a0; have:=hreg.a1; omega) (by have:=hreg.a1; omega) (by omega)
 have hB:IsN (shl32 (IntKind.wrap .u32 b) 15) (b.toNat <<< 15):=IsN.shl (b:=5) (by rw [wrap_u32]; have:=hreg.b0; have:=hreg.b1; omega) (by have:=hreg.b1; omega) (by omega)
 have hC:IsN (shl32 (IntKind.wrap .u32 c) 20) (c.toNat <<< 20):=IsN.shl (b:=5) (by rw [wrap_u32]; have:=hreg.c0; have:=hreg.c1; omega) (by have:=hreg.c1; omega) (by omega)
 have base:∀ {nm},IsN (baseX (g,nm,o,p,q) a b c) ((((o.toNat ||| p.toNat <<< 12) ||| a.toNat <<< 7) ||| b.toNat <<< 15) ||| c.toNat <<< 20):=fun {_}=>(((hO.or hP).or hA).or hB).or hC
 have prog:∀ {I:Nat},IsN (immF (codeF g) n) I→IsN (wordF (codeF g) (or32 (or32 o (shl32 p 12)) (shl32 q 25)) a b c n)
   ((((((o.toNat ||| p.toNat <<< 12) ||| q.toNat <<< 25) ||| a.toNat <<< 7) ||| b.toNat <<< 15) ||| c.toNat <<< 20) ||| I):=fun {_} hI=>(((((hO.or hP).or hQ).or hA).or hB).or hC).or hI
 have join:∀ {x y:Int} {s t:Nat},IsN x s→IsN y t→s=t→x=y:=fun h k e=>by rw [h.1,k.1,e]
 have bit:=fun {fr bi k:Nat}=>IsN.bit n (fr:=fr) (bi:=bi) (k:=k)
 have part:=fun {fr bi k:Nat}=>IsN.part n (fr:=fr) (bi:=bi) (at_:=k)
 have q00:∀ (hg:¬ g=82∧¬ g=104∧¬ g=119),q.toNat <<< 25=0:=by
  intro hg
  have:q=0:=by omega
  rw [this]
  rfl
 rcases form_eq hform with h | h | h | h | h | h | h | h | h
 ·subst h
  rw [wG82 _ _ _ _ _ rfl]
  refine join (base.or hQ) (prog (I:=0) (by rw [show codeF 82=0 from rfl,iF0]; exact .zero)) ?_
  rw [Nat.or_zero]
  generalize o.toNat=x1,p.toNat <<< 12=x2,q.toNat <<< 25=x3,a.toNat <<< 7=x4,b.toNat <<< 15=x5,c.toNat <<< 20=x6
  ac_rfl
 ·have z:=q00 (by omega)
  subst h
  rw [wG73 _ _ _ _ _ rfl]
  refine join (base.or (bit (fr:=0) (bi:=12) (k:=20) (by omega) (by omega) (by omega))) (prog (by rw [show codeF 73=1 from rfl,iF1]; exact part (fr:=0) (bi:=12) (k:=20) (by omega) (by omega) (by omega))) ?_
  rw [z,Nat.or_zero]
 ·subst h
  rw [wG104 _ _ _ _ _ rfl]
  have hn:0≤n∧n≤63:=by
   rw [show bnd (codeF 104)=(0,63,1) from rfl] at hlo hhi
   simp only at hlo hhi
   omega
  have hN:IsN (shl32 (IntKind.wrap .u32 (IntKind.wrap .u64 n)) 20) (partN n 0 6 <<< 20):=by
   refine IsN.shl (b:=6) ?_ (partN_lt _ _ _) (by omega)
   have i:=partN_int n (fr:=0) (bi:=6) (by omega)
   rw [wrap_u32,wrap_u64,i]
   omega
  refine join ((base.or hQ).or hN) (prog (by rw [show codeF 104=2 from rfl,iF2]; exact part (fr:=0) (bi:=6) (k:=20) (by omega) (by omega) (by omega))) ?_
  generalize o.toNat=x1,p.toNat <<< 12=x2,q.toNat <<< 25=x3,a.toNat <<< 7=x4,b.toNat <<< 15=x5,c.toNat <<< 20=x6,partN n 0 6 <<< 20=x7
  ac_rfl
 ·subst h
  rw [wG119 _ _ _ _ _ rfl]
  have hn:0≤n∧n≤31:=by
   rw [show bnd (codeF 119)=(0,31,1) from rfl] at hlo hhi
   simp only at hlo hhi
   omega
  have hN:IsN (shl32 (IntKind.wrap .u32 (IntKind.wrap .u64 n)) 20) (partN n 0 6 <<< 20):=by
   refine IsN.shl (b:=6) ?_ (partN_lt _ _ _) (by omega)
   have i:=partN_int n (fr:=0) (bi:=6) (by omega)
   rw [wrap_u32,wrap_u64,i]
   omega
  refine join ((base.or hQ).or hN) (prog (by rw [show codeF 119=3 from rfl,iF3]; exact part (fr:=0) (bi:=6) (k:=20) (by omega) (by omega) (by omega))) ?_
  generalize o.toNat=x1,p.toNat <<< 12=x2,q.toNat <<< 25=x3,a.toNat <<< 7=x4,b.toNat <<< 15=x5,c.toNat <<< 20=x6,partN n 0 6 <<< 20=x7
  ac_rfl
 ·have z:=q00 (by omega)
  subst h
  rw [wG83 _ _ _ _ _ rfl]
  refine join ((base.or (bit (fr:=0) (bi:=5) (k:=7) (by omega) (by omega) (by omega))).or (bit (fr:=5) (bi:=7) (k:=25) (by omega) (by omega) (by omega)))
   (prog (by rw [show codeF 83=4 from rfl,iF4]; exact (part (fr:=0) (bi:=5) (k:=7) (by omega) (by omega) (by omega)).or (part (fr:=5) (bi:=7) (k:=25) (by omega) (by omega) (by omega)))) ?_
  rw [z,Nat.or_zero,Nat.or_assoc]
 ·have z:=q00 (by omega)
  subst h
  rw [wG66 _ _ _ _ _ rfl]
  refine join ((((base.or (bit (fr:=11) (bi:=1) (k:=7) (by omega) (by omega) (by omega))).or (bit (fr:=1) (bi:=4) (k:=8) (by omega) (by omega) (by omega))).or (bit (fr:=5) (bi:=6) (k:=25) (by omega) (by omega) (by omega))).or (bit (fr:=12) (bi:=1) (k:=31) (by omega) (by omega) (by omega)))
   (prog (by rw [show codeF 66=5 from rfl,iF5]; exact (((part (fr:=1) (bi:=4) (k:=8) (by omega) (by omega) (by omega)).or (part (fr:=5) (bi:=6) (k:=25) (by omega) (by omega) (by omega))).or (part (fr:=11) (bi:=1) (k:=7) (by omega) (by omega) (by omega))).or (part (fr:=12) (bi:=1) (k:=31) (by omega) (by omega) (by omega)))) ?_
  rw [z,Nat.or_zero]
  generalize ((((o.toNat ||| p.toNat <<< 12) ||| a.toNat <<< 7) ||| b.toNat <<< 15) ||| c.toNat <<< 20)=x1,partN n 11 1 <<< 7=x2,partN n 1 4 <<< 8=x3,partN n 5 6 <<< 25=x4,partN n 12 1 <<< 31=x5
  ac_rfl
 ·have z:=q00 (by omega)
  subst h
  rw [wG85 _ _ _ _ _ rfl]
  have hN:IsN (shl32 (IntKind.wrap .u32 (IntKind.wrap .u64 n)) 12) (partN n 0 20 <<< 12):=by
   have i:=partN_int n (fr:=0) (bi:=20) (by omega)
   have l:=partN_lt n 0 20
   rw [IsN,Nat.shiftLeft_eq]
   unfold shl32
   rw [wrap_u32,wrap_u32,wrap_u64]
   omega
  refine join (base.or hN) (prog (by rw [show codeF 85=6 from rfl,iF6]; exact part (fr:=0) (bi:=20) (k:=12) (by omega) (by omega) (by omega))) ?_
  rw [z,Nat.or_zero]
 ·have z:=q00 (by omega)
  subst h
  rw [wG74 _ _ _ _ _ rfl]
  refine join ((((base.or (bit (fr:=12) (bi:=8) (k:=12) (by omega) (by omega) (by omega))).or (bit (fr:=11) (bi:=1) (k:=20) (by omega) (by omega) (by omega))).or (bit (fr:=1) (bi:=10) (k:=21) (by omega) (by omega) (by omega))).or (bit (fr:=20) (bi:=1) (k:=31) (by omega) (by omega) (by omega)))
   (prog (by rw [show codeF 74=7 from rfl,iF7]; exact (((part (fr:=1) (bi:=10) (k:=21) (by omega) (by omega) (by omega)).or (part (fr:=11) (bi:=1) (k:=20) (by omega) (by omega) (by omega))).or (part (fr:=12) (bi:=8) (k:=12) (by omega) (by omega) (by omega))).or (part (fr:=20) (bi:=1) (k:=31) (by omega) (by omega) (by omega)))) ?_
  rw [z,Nat.or_zero]
  generalize ((((o.toNat ||| p.toNat <<< 12) ||| a.toNat <<< 7) ||| b.toNat <<< 15) ||| c.toNat <<< 20)=x1,partN n 12 8 <<< 12=x2,partN n 11 1 <<< 20=x3,partN n 1 10 <<< 21=x4,partN n 20 1 <<< 31=x5
  ac_rfl
 ·have z:=q00 (by omega)
  have hp0:p=0:=by
   rcases hx with hx | hx
   ·exact absurd h hx
   ·exact hx.1
  have ha:a=0:=by
   rw [h,show codeF 120=8 from rfl] at k1
   simpa [regOk,uA] using k1
  have hb:b=0:=by
   rw [h,show codeF 120=8 from rfl] at k2
   simpa [regOk,uB] using k2
  have hc:c=0:=by
   rw [h,show codeF 120=8 from rfl] at k3
   simpa [regOk,uC] using k3
  subst h
  rw [wG120 _ _ _ _ _ rfl]
  refine join hO (prog (I:=0) (by rw [show codeF 120=8 from rfl,iF8]; exact .zero)) ?_
  rw [z,hp0,ha,hb,hc]
  simp
end Go.Rj

namespace Go.Rj
open Go Go.Ab
set_option maxRecDepth 2000
section
variable (w:Int)
theorem iX73:immX 73 w=signX (bitX w 20 12) 12:=by unfold immX; rw [show ((73:Int) == 73)=true from rfl,cond_true]
theorem iX104:immX 104 w=IntKind.wrap .i64 (bitX w 20 6):=by unfold immX; rw [show ((104:Int) == 73)=false from rfl,cond_false,show ((104:Int) == 104)=true from rfl,cond_true]
theorem iX119:immX 119 w=IntKind.wrap .i64 (bitX w 20 5):=by unfold immX; rw [show ((119:Int) == 73)=false from rfl,cond_false,show ((119:Int) == 104)=false from rfl,cond_false,show ((119:Int) == 119)=true from rfl,cond_true]
theorem iX83:immX 83 w=signX (or32 (shl32 (bitX w 25 7) 5) (bitX w 7 5)) 12:=by unfold immX; rw [show ((83:Int) == 73)=false from rfl,cond_false,show ((83:Int) == 104)=false from rfl,cond_false,show ((83:Int) == 119)=false from rfl,cond_false,show ((83:Int) == 83)=true from rfl,cond_true]
theorem iX66:immX 66 w=signX (or32 (or32 (or32 (shl32 (bitX w 31 1) 12) (shl32 (bitX w 7 1) 11)) (shl32 (bitX w 25 6) 5)) (shl32 (bitX w 8 4) 1)) 13:=by unfold immX; rw [show ((66:Int) == 73)=false from rfl,cond_false,show ((66:Int) == 104)=false from rfl,cond_false,show ((66:Int) == 119)=false from rfl,cond_false,show ((66:Int) == 83)=false from rfl,cond_false,show ((66:Int) == 66)=true from rfl,cond_true]
theorem iX85:immX 85 w=signX (bitX w 12 20) 20:=by unfold immX; rw [show ((85:Int) == 73)=false from rfl,cond_false,show ((85:Int) == 104)=false from rfl,cond_false,show ((85:Int) == 119)=false from rfl,cond_false,show ((85:Int) == 83)=false from rfl,cond_false,show ((85:Int) == 66)=false from rfl,cond_false,show ((85:Int) == 85)=true from rfl,cond_true]
theorem iX74:immX 74 w=signX (or32 (or32 (or32 (shl32 (bitX w 31 1) 20) (shl32 (bitX w 12 8) 12)) (shl32 (bitX w 20 1) 11)) (shl32 (bitX w 21 10) 1)) 21:=by unfold immX; rw [show ((74:Int) == 73)=false from rfl,cond_false,show ((74:Int) == 104)=false from rfl,cond_false,show ((74:Int) == 119)=false from rfl,cond_false,show ((74:Int) == 83)=false from rfl,cond_false,show ((74:Int) == 66)=false from rfl,cond_false,show ((74:Int) == 85)=false from rfl,cond_false,show ((74:Int) == 74)=true from rfl,cond_true]
theorem iX82:immX 82 w=0:=by unfold immX; rw [show ((82:Int) == 73)=false from rfl,cond_false,show ((82:Int) == 104)=false from rfl,cond_false,show ((82:Int) == 119)=false from rfl,cond_false,show ((82:Int) == 83)=false from rfl,cond_false,show ((82:Int) == 66)=false from rfl,cond_false,show ((82:Int) == 85)=false from rfl,cond_false,show ((82:Int) == 74)=false from rfl,cond_false]
theorem iX120:immX 120 w=0:=by unfold immX; rw [show ((120:Int) == 73)=false from rfl,cond_false,show ((120:Int) == 104)=false from rfl,cond_false,show ((120:Int) == 119)=false from rfl,cond_false,show ((120:Int) == 83)=false from rfl,cond_false,show ((120:Int) == 66)=false from rfl,cond_false,show ((120:Int) == 85)=false from rfl,cond_false,show ((120:Int) == 74)=false from rfl,cond_false]
end
theorem sign12 {m:Nat} (hm:m<2 ^ 32):signX (m:Int) 12=sgn 12 m:=by
 have e:bitX (m:Int) 0 12=((m % 4096:Nat):Int):=by
  have h:=bit_part hm (fr:=0) (si:=12) (by omega) (by omega)
  rw [show bitX (m:Int) 0 12=_ from h,partN_nat m hm]
  congr 1
  omega
 unfold signX
 rw [e,show IntKind.wrap IntKind.i64 (1*2 ^ Min.min (Int.toNat (IntKind.wrap IntKind.u64 (12 - 1))) 64)=2048 from by decide,show IntKind.wrap IntKind.i64 (1*2 ^ Min.min (Int.toNat 12) 64)=4096 from by decide]
 rw [wrap_i64 (n:=((m % 4096:Nat):Int)) (by omega) (by omega),wrap_i64 (by omega) (by omega)]
 unfold sgn
 by_cases hc:(2048:Int)≤((m % 4096:Nat):Int)
 ·rw [decide_eq_true hc,cond_true]; omega
 ·rw [decide_eq_false hc,cond_false]; omega
theorem sign13 {m:Nat} (hm:m<2 ^ 32):signX (m:Int) 13=sgn 13 m:=by
 have e:bitX (m:Int) 0 13=((m % 8192:Nat):Int):=by
  have h:=bit_part hm (fr:=0) (si:=13) (by omega) (by omega)
  rw [show bitX (m:Int) 0 13=_ from h,partN_nat m hm]
  congr 1
  omega
 unfold signX
 rw [e,show IntKind.wrap IntKind.i64 (1*2 ^ Min.min (Int.toNat (IntKind.wrap IntKind.u64 (13 - 1))) 64)=4096 from by decide,show IntKind.wrap IntKind.i64 (1*2 ^ Min.min (Int.toNat 13) 64)=8192 from by decide]
 rw [wrap_i64 (n:=((m % 8192:Nat):Int)) (by omega) (by omega),wrap_i64 (by omega) (by omega)]
 unfold sgn
 by_cases hc:(4096:Int)≤((m % 8192:Nat):Int)
 ·rw [decide_eq_true hc,cond_true]; omega
 ·rw [decide_eq_false hc,cond_false]; omega
theorem sign20 {m:Nat} (hm:m<2 ^ 32):signX (m:Int) 20=sgn 20 m:=by
 have e:bitX (m:Int) 0 20=((m % 1048576:Nat):Int):=by
  have h:=bit_part hm (fr:=0) (si:=20) (by omega) (by omega)
  rw [show bitX (m:Int) 0 20=_ from h,partN_nat m hm]
  congr 1
  omega
 unfold signX
 rw [e,show IntKind.wrap IntKind.i64 (1*2 ^ Min.min (Int.toNat (IntKind.wrap IntKind.u64 (20 - 1))) 64)=524288 from by decide,show IntKind.wrap IntKind.i64 (1*2 ^ Min.min (Int.toNat 20) 64)=1048576 from by decide]
 rw [wrap_i64 (n:=((m % 1048576:Nat):Int)) (by omega) (by omega),wrap_i64 (by omega) (by omega)]
 unfold sgn
 by_cases hc:(524288:Int)≤((m % 1048576:Nat):Int)
 ·rw [decide_eq_true hc,cond_true]; omega
 ·rw [decide_eq_false hc,cond_false]; omega
theorem sign21 {m:Nat} (hm:m<2 ^ 32):signX (m:Int) 21=sgn 21 m:=by
 have e:bitX (m:Int) 0 21=((m % 2097152:Nat):Int):=by
  have h:=bit_part hm (fr:=0) (si:=21) (by omega) (by omega)
  rw [show bitX (m:Int) 0 21=_ from h,partN_nat m hm]
  congr 1
  omega
 unfold signX
 rw [e,show IntKind.wrap IntKind.i64 (1*2 ^ Min.min (Int.toNat (IntKind.wrap IntKind.u64 (21 - 1))) 64)=1048576 from by decide,show IntKind.wrap IntKind.i64 (1*2 ^ Min.min (Int.toNat 21) 64)=2097152 from by decide]
 rw [wrap_i64 (n:=((m % 2097152:Nat):Int)) (by omega) (by omega),wrap_i64 (by omega) (by omega)]
 unfold sgn
 by_cases hc:(1048576:Int)≤((m % 2097152:Nat):Int)
 ·rw [decide_eq_true hc,cond_true]; omega
 ·rw [decide_eq_false hc,cond_false]; omega
theorem numFd_sum (f:Int) (w:Nat) (hf:f=4∨f=5∨f=7):orF 0 (numFd f w)=sumF (numFd f w):=by
 have s:=orF_sum (numFd f w) 0 (by
  rcases hf with h | h | h <;> subst h <;> intro g hg
  ·rcases List.mem_cons.1 hg with rfl | hg
   ·exact ⟨partN_lt _ _ _,.zero _ _⟩
   rcases List.mem_cons.1 hg with rfl | hg
   ·exact ⟨partN_lt _ _ _,.zero _ _⟩
   cases hg
  ·rcases List.mem_cons.1 hg with rfl | hg
   ·exact ⟨partN_lt _ _ _,.zero _ _⟩
   rcases List.mem_cons.1 hg with rfl | hg
   ·exact ⟨partN_lt _ _ _,.zero _ _⟩
   rcases List.mem_cons.1 hg with rfl | hg
   ·exact ⟨partN_lt _ _ _,.zero _ _⟩
   rcases List.mem_cons.1 hg with rfl | hg
   ·exact ⟨partN_lt _ _ _,.zero _ _⟩
   cases hg
  ·rcases List.mem_cons.1 hg with rfl | hg
   ·exact ⟨partN_lt _ _ _,.zero _ _⟩
   rcases List.mem_cons.1 hg with rfl | hg
   ·exact ⟨partN_lt _ _ _,.zero _ _⟩
   rcases List.mem_cons.1 hg with rfl | hg
   ·exact ⟨partN_lt _ _ _,.zero _ _⟩
   rcases List.mem_cons.1 hg with rfl | hg
   ·exact ⟨partN_lt _ _ _,.zero _ _⟩
   cases hg) (by rcases hf with h | h | h <;> subst h <;> rfl)
 rw [s,Nat.zero_add]
theorem imm_eq {g:Int} (h:formOk g=true) {w:Nat} (hw:w<2 ^ 32):immX g w=numberF (codeF g) w:=by
 have bp:∀ {fr si:Nat},fr≤32→si<32→bitX (w:Int) fr si=((partN (w:Int) fr si:Nat):Int):=fun h1 h2=>bit_part hw h1 h2
 have bs:∀ {fr si k:Nat},fr≤32→si<32→si+k≤32→IsN (shl32 (bitX (w:Int) fr si) k) (partN w fr si <<< k):=fun h1 h2 h3=>IsN.shl (bp h1 h2) (partN_lt _ _ _) h3
 have pn:=fun fr bi=>partN_nat w (fr:=fr) (bi:=bi) hw
 rcases form_eq h with h | h | h | h | h | h | h | h | h <;> subst h
 ·rw [iX82,show codeF 82=0 from rfl,nF0]
 ·rw [iX73,show codeF 73=1 from rfl,numberF_eq 1 w hw (by omega) (by omega),nG1,show bitX (w:Int) 20 12=_ from bp (fr:=20) (si:=12) (by omega) (by omega),sign12 (by have:=partN_lt w 20 12; omega),pn]
  unfold sgn
  omega
 ·rw [iX104,show codeF 104=2 from rfl,numberF_eq 2 w hw (by omega) (by omega),nG2,show bitX (w:Int) 20 6=_ from bp (fr:=20) (si:=6) (by omega) (by omega),wrap_i64 (by omega) (by have:=partN_lt w 20 6; omega)]
 ·rw [iX119,show codeF 119=3 from rfl,numberF_eq 3 w hw (by omega) (by omega),nG3,show bitX (w:Int) 20 5=_ from bp (fr:=20) (si:=5) (by omega) (by omega),wrap_i64 (by omega) (by have:=partN_lt w 20 5; omega)]
 ·have k:=(bs (fr:=25) (si:=7) (k:=5) (by omega) (by omega) (by omega)).or (show IsN (bitX (w:Int) 7 5) (partN w 7 5) from ⟨bp (fr:=7) (si:=5) (by omega) (by omega),by have:=partN_lt w 7 5; omega⟩)
  rw [iX83,show codeF 83=4 from rfl,numberF_eq 4 w hw (by omega) (by omega),nG4,show or32 (shl32 (bitX (w:Int) 25 7) 5) (bitX (w:Int) 7 5)=_ from k.1,sign12 k.2]
  congr 2
  rw [← numFd_sum 4 w (by omega),show numFd 4 w=[(partN w 7 5,0,5),(partN w 25 7,5,7)] from rfl]
  simp only [orF,Nat.zero_or,Nat.shiftLeft_zero]
  exact Nat.or_comm _ _
 ·have k:=(((bs (fr:=31) (si:=1) (k:=12) (by omega) (by omega) (by omega)).or (bs (fr:=7) (si:=1) (k:=11) (by omega) (by omega) (by omega))).or (bs (fr:=25) (si:=6) (k:=5) (by omega) (by omega) (by omega))).or (bs (fr:=8) (si:=4) (k:=1) (by omega) (by omega) (by omega))
  rw [iX66,show codeF 66=5 from rfl,numberF_eq 5 w hw (by omega) (by omega),nG5,show or32 (or32 (or32 (shl32 (bitX (w:Int) 31 1) 12) (shl32 (bitX (w:Int) 7 1) 11)) (shl32 (bitX (w:Int) 25 6) 5)) (shl32 (bitX (w:Int) 8 4) 1)=_ from k.1,sign13 k.2]
  congr 2
  rw [← numFd_sum 5 w (by omega),show numFd 5 w=[(partN w 8 4,1,4),(partN w 25 6,5,6),(partN w 7 1,11,1),(partN w 31 1,12,1)] from rfl]
  simp only [orF,Nat.zero_or]
  generalize partN w 31 1 <<< 12=x1,partN w 7 1 <<< 11=x2,partN w 25 6 <<< 5=x3,partN w 8 4 <<< 1=x4
  ac_rfl
 ·rw [iX85,show codeF 85=6 from rfl,numberF_eq 6 w hw (by omega) (by omega),nG6,show bitX (w:Int) 12 20=_ from bp (fr:=12) (si:=20) (by omega) (by omega),sign20 (by have:=partN_lt w 12 20; omega),pn]
  unfold sgn
  omega
 ·have k:=(((bs (fr:=31) (si:=1) (k:=20) (by omega) (by omega) (by omega)).or (bs (fr:=12) (si:=8) (k:=12) (by omega) (by omega) (by omega))).or (bs (fr:=20) (si:=1) (k:=11) (by omega) (by omega) (by omega))).or (bs (fr:=21) (si:=10) (k:=1) (by omega) (by omega) (by omega))
  rw [iX74,show codeF 74=7 from rfl,numberF_eq 7 w hw (by omega) (by omega),nG7,show or32 (or32 (or32 (shl32 (bitX (w:Int) 31 1) 20) (shl32 (bitX (w:Int) 12 8) 12)) (shl32 (bitX (w:Int) 20 1) 11)) (shl32 (bitX (w:Int) 21 10) 1)=_ from k.1,sign21 k.2]
  congr 2
  rw [← numFd_sum 7 w (by omega),show numFd 7 w=[(partN w 21 10,1,10),(partN w 20 1,11,1),(partN w 12 8,12,8),(partN w 31 1,20,1)] from rfl]
  simp only [orF,Nat.zero_or]
  generalize partN w 31 1 <<< 20=x1,partN w 12 8 <<< 12=x2,partN w 20 1 <<< 11=x3,partN w 21 10 <<< 1=x4
  ac_rfl
 ·rw [iX120,show codeF 120=8 from rfl,nF8]
def readX (w:Int) (r:RowX):InsT:=
 (r.2.1,cond (hasX (opsX r.2.1) 65) (IntKind.wrap .i64 (bitX w 7 5)) 0,cond (hasX (opsX r.2.1) 66) (IntKind.wrap .i64 (bitX w 15 5)) 0,cond (hasX (opsX r.2.1) 67) (IntKind.wrap .i64 (bitX w 20 5)) 0,0,immX r.1 w)
def matchX (w:Int) (r:RowX):Bool:=cond (checkX (readX w r) == 0) (wordX (readX w r) == w) false
def drowX (w:Int):Option RowX:=rowsX.find? (matchX w)
theorem read_eq {r:RowX} (hr:r ∈ rowsX) {w:Nat} (hw:w<2 ^ 32):readX w r=readF w (conv r):=by
 have hfine:=rowX_fine hr
 simp only [rowXFine,Bool.and_eq_true] at hfine
 have hm:conv r ∈ rowsL:=by rw [← rows_conv]; exact List.mem_map_of_mem hr
 obtain ⟨o1,o2⟩:=row_own hm
 have hops:opsX r.2.1=opsF (codeF r.1):=by
  rw [ops_eq]
  unfold opsOf
  rw [show fok r.2.1=true from o1,show frow r.2.1=conv r from o2]
  rfl
 obtain ⟨p1,_,p3,p4,p5,_⟩:=opsG_eq hfine.1
 rw [p1] at p3 p4 p5
 have fl:∀ {k:Nat},k≤32→IntKind.wrap .i64 (bitX (w:Int) k 5)=fld w k:=by
  intro k hk
  have hb:=bit_part hw (fr:=k) (si:=5) hk (by omega)
  rw [show bitX (w:Int) k 5=_ from hb,fld_eq hw,partN_nat w hw]
  have:w / 2 ^ k % 2 ^ 5<32:=Nat.mod_lt _ (by omega)
  rw [wrap_i64 (by omega) (by omega)]
 unfold readX readF rdA rdB rdC conv
 simp only
 rw [hops,p3,p4,p5,imm_eq hfine.1 hw,show IntKind.wrap .i64 (bitX (w:Int) 7 5)=_ from fl (k:=7) (by omega),show IntKind.wrap .i64 (bitX (w:Int) 15 5)=_ from fl (k:=15) (by omega),show IntKind.wrap .i64 (bitX (w:Int) 20 5)=_ from fl (k:=20) (by omega)]
theorem match_eq {r:RowX} (hr:r ∈ rowsX) {w:Nat} (hw:w<2 ^ 32):matchX w r=dMatch w (conv r):=by
 have hm:conv r ∈ rowsL:=by rw [← rows_conv]; exact List.mem_map_of_mem hr
 obtain ⟨o1,o2⟩:=row_own hm
 obtain ⟨_,_,_,_,f0,f8⟩:=row_off (List.all_eq_true.1 rows_fine _ hm)
 have h1:(encE (readF w (conv r)) == 0)=true:=by
  refine enc_mk o1 ?_
  rw [o2]
  exact faulty_mk (fld_ok hw 7 _) (fld_ok hw 15 _) (fld_ok hw 20 _) (num_rng _ hw f0 f8)
 have h2:encW (readF w (conv r))=wordF (conv r).2.1 (conv r).2.2 (rdA (conv r).2.1 w) (rdB (conv r).2.1 w) (rdC (conv r).2.1 w) (numberF (conv r).2.1 w):=by
  show wordF (frow (conv r).1).2.1 (frow (conv r).1).2.2 _ _ _ _=_
  rw [o2]
  rfl
 unfold matchX
 rw [read_eq hr hw,check_eq,h1,cond_true,word_eq h1,h2]
 unfold dMatch
 cases hc:(wordF (conv r).2.1 (conv r).2.2 (rdA (conv r).2.1 w) (rdB (conv r).2.1 w) (rdC (conv r).2.1 w) (numberF (conv r).2.1 w) == (w:Int))
 ·cases (and32 (conv r).2.2 127 != and32 (w:Int) 127) <;> rfl
 ·have e:=eq_of_beq hc
  have low:=code_low (n:=numberF (conv r).2.1 w) hm (fld_ok hw 7 (uA (conv r).2.1)) (fld_ok hw 15 (uB (conv r).2.1)) (fld_ok hw 20 (uC (conv r).2.1))
  have e' : wordF (conv r).2.1 (conv r).2.2 (cond (uA (conv r).2.1) (fld w 7) 0) (cond (uB (conv r).2.1) (fld w 15) 0) (cond (uC (conv r).2.1) (fld w 20) 0) (numberF (conv r).2.1 w)=w:=e
  rw [e'] at low
  rw [low]
  rfl
theorem find_congr {α:Type} {p q:α→Bool}:∀ {l:List α},(∀ x ∈ l,p x=q x)→l.find? p=l.find? q
 | [],_=>rfl
 | a :: l,h=>by
  rw [List.find?_cons,List.find?_cons,h a List.mem_cons_self,find_congr (fun x hx=>h x (List.mem_cons_of_mem _ hx))]
theorem drow_eq {w:Nat} (hw:w<2 ^ 32):drow w=(drowX w).map conv:=by
 unfold drow drowX
 rw [← rows_conv,List.find?_map]
 congr 1
 exact find_congr fun r hr=>(match_eq hr hw).symm
end Go.Rj
