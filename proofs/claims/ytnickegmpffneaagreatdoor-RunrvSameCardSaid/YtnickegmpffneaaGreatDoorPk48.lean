/-
  The document's Decode. Conditions: none.
-/
import Derived.Test.YtnickegmpffneaaGreatDoorPk47
import Derived.Test.YtnickegmpffneaaGreatDoorPk46
import Derived.Test.YtnickegmpffneaaGreatDoorPk44
import Derived.Test.YtnickegmpffneaaGreatDoorPk35
set_option linter.unusedVariables false
set_option linter.unusedSimpArgs false
namespace Go.Rj
open Go Go.Ab Go.Proofs Go.Ra
set_option maxRecDepth 2000
noncomputable def cx51:Cx:={ P:=Tryz.prog,n:=85,tab:=[(103,uS),(108,tableS),(93,opsXS),(109,immXS),(96,hasS),(110,bitsS),(41,checkS),(111,wordXS)],mtab:=[],refs:=[],keeps:=[0,1,4,5,6,7,8,9,10,11,12,14,22,31,57,63,69,82] }
noncomputable abbrev B15:Code:=bodyOf Tryz.f51
def decXPre (l sp:List Int) (fl:Fl) (at_:Int):Tree St:=
 (.br (decide (List.length l<1000000000)) (.br (Go.Rj.uE l at_ != 0) (.leaf (.ret,[(0,(.sl (.int .u8) (l) (sp) fl)),(1,(.int .i64 at_)),(4,(.ptr 0 0)),(5,(.int .i64 0)),(6,(.int .i64 (Go.Rj.uE l at_))),(7,(.int .u64 (Go.Rj.uV l at_))),(8,(.int .i64 (Go.Rj.uE l at_))),(22,(.bool true))],[(.cells [(.str []),(.int .i64 0),(.int .i64 0),(.int .i64 0),(.int .i64 0),(.int .i64 0)] 35)])) (.leaf (.normal,[(0,(.sl (.int .u8) (l) (sp) fl)),(1,(.int .i64 at_)),(4,(.ptr 0 0)),(5,(.int .i64 0)),(6,(.int .i64 0)),(7,(.int .u64 (Go.Rj.uV l at_))),(8,(.int .i64 (Go.Rj.uE l at_))),(9,(.int .u32 (IntKind.wrap IntKind.u32 (Go.Rj.uV l at_)))),(10,(.sl (.prod [(.int .u8),.str,(.int .u32),(.int .u32),(.int .u32)]) (Go.Rj.rowsX) ([]) Fl.ro)),(22,(.bool false))],[(.cells [(.str []),(.int .i64 0),(.int .i64 0),(.int .i64 0),(.int .i64 0),(.int .i64 0)] 35)]))) .fail)
theorem decXPre_eq (l sp:List Int) (fl:Fl) (at_:Int):(dcode cx51 (headN 4 B15) (initT 0 [.sl (.int .u8) l sp fl,.int .i64 at_]) []).run=(decXPre l sp fl at_).run:=
 (show (dcode cx51 (headN 4 B15) (initT 0 [.sl (.int .u8) l sp fl,.int .i64 at_]) []).run=(decXPre l sp fl at_).out by kernel_rfl).trans (Tree.out_run _)
def decXRound (l:List rowXE.ty) (w i:Int):Tree St:=
 let s1:=(List.getD l (Int.toNat i) (EC.dflt Go.Rj.rowXE)); let s2:=(tS (Prod.fst (Prod.snd s1))); let s3:=(Go.Rj.immX (tI (Prod.fst s1)) w); let s4:=(IntKind.wrap IntKind.i64 (Go.Rj.bitX w 20 5)); let s5:=(IntKind.wrap IntKind.i64 (Go.Rj.bitX w 15 5)); let s6:=(IntKind.wrap IntKind.i64 (Go.Rj.bitX w 7 5)); let s7:=(IntKind.wrap IntKind.i64 (i+1)); let s8:=(decide (List.length (Go.Rj.opsX s2)<1000000000)); let s9:=(tS (Prod.fst (Prod.snd s1)),IntKind.wrap IntKind.i64 (Go.Rj.bitX w 7 5),IntKind.wrap IntKind.i64 (Go.Rj.bitX w 15 5),IntKind.wrap IntKind.i64 (Go.Rj.bitX w 20 5),0,Go.Rj.immX (tI (Prod.fst s1)) w); let s10:=(tS (Prod.fst (Prod.snd s1)),0,IntKind.wrap IntKind.i64 (Go.Rj.bitX w 15 5),IntKind.wrap IntKind.i64 (Go.Rj.bitX w 20 5),0,Go.Rj.immX (tI (Prod.fst s1)) w); let s11:=(tS (Prod.fst (Prod.snd s1)),IntKind.wrap IntKind.i64 (Go.Rj.bitX w 7 5),IntKind.wrap IntKind.i64 (Go.Rj.bitX w 15 5),0,0,Go.Rj.immX (tI (Prod.fst s1)) w); let s12:=(tS (Prod.fst (Prod.snd s1)),IntKind.wrap IntKind.i64 (Go.Rj.bitX w 7 5),0,IntKind.wrap IntKind.i64 (Go.Rj.bitX w 20 5),0,Go.Rj.immX (tI (Prod.fst s1)) w); let s13:=(tS (Prod.fst (Prod.snd s1)),0,IntKind.wrap IntKind.i64 (Go.Rj.bitX w 15 5),0,0,Go.Rj.immX (tI (Prod.fst s1)) w); let s14:=(tS (Prod.fst (Prod.snd s1)),0,0,IntKind.wrap IntKind.i64 (Go.Rj.bitX w 20 5),0,Go.Rj.immX (tI (Prod.fst s1)) w); let s15:=(tS (Prod.fst (Prod.snd s1)),IntKind.wrap IntKind.i64 (Go.Rj.bitX w 7 5),0,0,0,Go.Rj.immX (tI (Prod.fst s1)) w); let s16:=(Go.Rj.hasX (Go.Rj.opsX s2) 67); let s17:=(tS (Prod.fst (Prod.snd s1)),0,0,0,0,Go.Rj.immX (tI (Prod.fst s1)) w); (.br (decide (i < ↑(List.length l))) (.br (inside i (List.length l)) (.br (inside i (List.length l)) (.br (inside i (List.length l)) (.br s8 (.br (Go.Rj.hasX (Go.Rj.opsX s2) 65) (.br s8 (.br (Go.Rj.hasX (Go.Rj.opsX s2) 66) (.br s8 (.br s16 (.br (Go.Rj.checkX s9 == 0) (.br (Go.Rj.wordX s9 == w) (.leaf (.ret,[(4,(.ptr 0 0)),(5,(.int .i64 4)),(6,(.int .i64 0)),(9,(.int .u32 w)),(10,(.sl (.prod [(.int .u8),.str,(.int .u32),(.int .u32),(.int .u32)]) (l) ([]) Fl.ro)),(11,(.int .i64 i)),(12,(.str (Go.Rj.opsX s2))),(14,(.ptr 1 0)),(31,(.bool true)),(57,(.bool true)),(63,(.bool true)),(69,(.bool true)),(82,(.bool true))],[(.cells [(.str s2),(.int .i64 s6),(.int .i64 s5),(.int .i64 s4),(.int .i64 0),(.int .i64 s3)] 35),(.cells [(.str s2),(.int .i64 s6),(.int .i64 s5),(.int .i64 s4),(.int .i64 0),(.int .i64 s3)] 35)])) (.leaf (.normal,[(4,(.ptr 0 0)),(5,(.int .i64 0)),(6,(.int .i64 0)),(9,(.int .u32 w)),(10,(.sl (.prod [(.int .u8),.str,(.int .u32),(.int .u32),(.int .u32)]) (l) ([]) Fl.ro)),(11,(.int .i64 s7)),(12,(.str (Go.Rj.opsX s2))),(14,(.ptr 1 0)),(31,(.bool true)),(57,(.bool true)),(63,(.bool true)),(69,(.bool true)),(82,(.bool false))],[(.cells [(.str []),(.int .i64 0),(.int .i64 0),(.int .i64 0),(.int .i64 0),(.int .i64 0)] 35),(.cells [(.str s2),(.int .i64 s6),(.int .i64 s5),(.int .i64 s4),(.int .i64 0),(.int .i64 s3)] 35)]))) (.leaf (.normal,[(4,(.ptr 0 0)),(5,(.int .i64 0)),(6,(.int .i64 0)),(9,(.int .u32 w)),(10,(.sl (.prod [(.int .u8),.str,(.int .u32),(.int .u32),(.int .u32)]) (l) ([]) Fl.ro)),(11,(.int .i64 s7)),(12,(.str (Go.Rj.opsX s2))),(14,(.ptr 1 0)),(31,(.bool true)),(57,(.bool true)),(63,(.bool true)),(69,(.bool true)),(82,(.bool false))],[(.cells [(.str []),(.int .i64 0),(.int .i64 0),(.int .i64 0),(.int .i64 0),(.int .i64 0)] 35),(.cells [(.str s2),(.int .i64 s6),(.int .i64 s5),(.int .i64 s4),(.int .i64 0),(.int .i64 s3)] 35)]))) (.br (Go.Rj.checkX s11 == 0) (.br (Go.Rj.wordX s11 == w) (.leaf (.ret,[(4,(.ptr 0 0)),(5,(.int .i64 4)),(6,(.int .i64 0)),(9,(.int .u32 w)),(10,(.sl (.prod [(.int .u8),.str,(.int .u32),(.int .u32),(.int .u32)]) (l) ([]) Fl.ro)),(11,(.int .i64 i)),(12,(.str (Go.Rj.opsX s2))),(14,(.ptr 1 0)),(31,(.bool true)),(57,(.bool true)),(63,(.bool true)),(69,(.bool false)),(82,(.bool true))],[(.cells [(.str s2),(.int .i64 s6),(.int .i64 s5),(.int .i64 0),(.int .i64 0),(.int .i64 s3)] 35),(.cells [(.str s2),(.int .i64 s6),(.int .i64 s5),(.int .i64 0),(.int .i64 0),(.int .i64 s3)] 35)])) (.leaf (.normal,[(4,(.ptr 0 0)),(5,(.int .i64 0)),(6,(.int .i64 0)),(9,(.int .u32 w)),(10,(.sl (.prod [(.int .u8),.str,(.int .u32),(.int .u32),(.int .u32)]) (l) ([]) Fl.ro)),(11,(.int .i64 s7)),(12,(.str (Go.Rj.opsX s2))),(14,(.ptr 1 0)),(31,(.bool true)),(57,(.bool true)),(63,(.bool true)),(69,(.bool false)),(82,(.bool false))],[(.cells [(.str []),(.int .i64 0),(.int .i64 0),(.int .i64 0),(.int .i64 0),(.int .i64 0)] 35),(.cells [(.str s2),(.int .i64 s6),(.int .i64 s5),(.int .i64 0),(.int .i64 0),(.int .i64 s3)] 35)]))) (.leaf (.normal,[(4,(.ptr 0 0)),(5,(.int .i64 0)),(6,(.int .i64 0)),(9,(.int .u32 w)),(10,(.sl (.prod [(.int .u8),.str,(.int .u32),(.int .u32),(.int .u32)]) (l) ([]) Fl.ro)),(11,(.int .i64 s7)),(12,(.str (Go.Rj.opsX s2))),(14,(.ptr 1 0)),(31,(.bool true)),(57,(.bool true)),(63,(.bool true)),(69,(.bool false)),(82,(.bool false))],[(.cells [(.str []),(.int .i64 0),(.int .i64 0),(.int .i64 0),(.int .i64 0),(.int .i64 0)] 35),(.cells [(.str s2),(.int .i64 s6),(.int .i64 s5),(.int .i64 0),(.int .i64 0),(.int .i64 s3)] 35)])))) .fail) (.br s8 (.br s16 (.br (Go.Rj.checkX s12 == 0) (.br (Go.Rj.wordX s12 == w) (.leaf (.ret,[(4,(.ptr 0 0)),(5,(.int .i64 4)),(6,(.int .i64 0)),(9,(.int .u32 w)),(10,(.sl (.prod [(.int .u8),.str,(.int .u32),(.int .u32),(.int .u32)]) (l) ([]) Fl.ro)),(11,(.int .i64 i)),(12,(.str (Go.Rj.opsX s2))),(14,(.ptr 1 0)),(31,(.bool true)),(57,(.bool true)),(63,(.bool false)),(69,(.bool true)),(82,(.bool true))],[(.cells [(.str s2),(.int .i64 s6),(.int .i64 0),(.int .i64 s4),(.int .i64 0),(.int .i64 s3)] 35),(.cells [(.str s2),(.int .i64 s6),(.int .i64 0),(.int .i64 s4),(.int .i64 0),(.int .i64 s3)] 35)])) (.leaf (.normal,[(4,(.ptr 0 0)),(5,(.int .i64 0)),(6,(.int .i64 0)),(9,(.int .u32 w)),(10,(.sl (.prod [(.int .u8),.str,(.int .u32),(.int .u32),(.int .u32)]) (l) ([]) Fl.ro)),(11,(.int .i64 s7)),(12,(.str (Go.Rj.opsX s2))),(14,(.ptr 1 0)),(31,(.bool true)),(57,(.bool true)),(63,(.bool false)),(69,(.bool true)),(82,(.bool false))],[(.cells [(.str []),(.int .i64 0),(.int .i64 0),(.int .i64 0),(.int .i64 0),(.int .i64 0)] 35),(.cells [(.str s2),(.int .i64 s6),(.int .i64 0),(.int .i64 s4),(.int .i64 0),(.int .i64 s3)] 35)]))) (.leaf (.normal,[(4,(.ptr 0 0)),(5,(.int .i64 0)),(6,(.int .i64 0)),(9,(.int .u32 w)),(10,(.sl (.prod [(.int .u8),.str,(.int .u32),(.int .u32),(.int .u32)]) (l) ([]) Fl.ro)),(11,(.int .i64 s7)),(12,(.str (Go.Rj.opsX s2))),(14,(.ptr 1 0)),(31,(.bool true)),(57,(.bool true)),(63,(.bool false)),(69,(.bool true)),(82,(.bool false))],[(.cells [(.str []),(.int .i64 0),(.int .i64 0),(.int .i64 0),(.int .i64 0),(.int .i64 0)] 35),(.cells [(.str s2),(.int .i64 s6),(.int .i64 0),(.int .i64 s4),(.int .i64 0),(.int .i64 s3)] 35)]))) (.br (Go.Rj.checkX s15 == 0) (.br (Go.Rj.wordX s15 == w) (.leaf (.ret,[(4,(.ptr 0 0)),(5,(.int .i64 4)),(6,(.int .i64 0)),(9,(.int .u32 w)),(10,(.sl (.prod [(.int .u8),.str,(.int .u32),(.int .u32),(.int .u32)]) (l) ([]) Fl.ro)),(11,(.int .i64 i)),(12,(.str (Go.Rj.opsX s2))),(14,(.ptr 1 0)),(31,(.bool true)),(57,(.bool true)),(63,(.bool false)),(69,(.bool false)),(82,(.bool true))],[(.cells [(.str s2),(.int .i64 s6),(.int .i64 0),(.int .i64 0),(.int .i64 0),(.int .i64 s3)] 35),(.cells [(.str s2),(.int .i64 s6),(.int .i64 0),(.int .i64 0),(.int .i64 0),(.int .i64 s3)] 35)])) (.leaf (.normal,[(4,(.ptr 0 0)),(5,(.int .i64 0)),(6,(.int .i64 0)),(9,(.int .u32 w)),(10,(.sl (.prod [(.int .u8),.str,(.int .u32),(.int .u32),(.int .u32)]) (l) ([]) Fl.ro)),(11,(.int .i64 s7)),(12,(.str (Go.Rj.opsX s2))),(14,(.ptr 1 0)),(31,(.bool true)),(57,(.bool true)),(63,(.bool false)),(69,(.bool false)),(82,(.bool false))],[(.cells [(.str []),(.int .i64 0),(.int .i64 0),(.int .i64 0),(.int .i64 0),(.int .i64 0)] 35),(.cells [(.str s2),(.int .i64 s6),(.int .i64 0),(.int .i64 0),(.int .i64 0),(.int .i64 s3)] 35)]))) (.leaf (.normal,[(4,(.ptr 0 0)),(5,(.int .i64 0)),(6,(.int .i64 0)),(9,(.int .u32 w)),(10,(.sl (.prod [(.int .u8),.str,(.int .u32),(.int .u32),(.int .u32)]) (l) ([]) Fl.ro)),(11,(.int .i64 s7)),(12,(.str (Go.Rj.opsX s2))),(14,(.ptr 1 0)),(31,(.bool true)),(57,(.bool true)),(63,(.bool false)),(69,(.bool false)),(82,(.bool false))],[(.cells [(.str []),(.int .i64 0),(.int .i64 0),(.int .i64 0),(.int .i64 0),(.int .i64 0)] 35),(.cells [(.str s2),(.int .i64 s6),(.int .i64 0),(.int .i64 0),(.int .i64 0),(.int .i64 s3)] 35)])))) .fail)) .fail) (.br s8 (.br (Go.Rj.hasX (Go.Rj.opsX s2) 66) (.br s8 (.br s16 (.br (Go.Rj.checkX s10 == 0) (.br (Go.Rj.wordX s10 == w) (.leaf (.ret,[(4,(.ptr 0 0)),(5,(.int .i64 4)),(6,(.int .i64 0)),(9,(.int .u32 w)),(10,(.sl (.prod [(.int .u8),.str,(.int .u32),(.int .u32),(.int .u32)]) (l) ([]) Fl.ro)),(11,(.int .i64 i)),(12,(.str (Go.Rj.opsX s2))),(14,(.ptr 1 0)),(31,(.bool true)),(57,(.bool false)),(63,(.bool true)),(69,(.bool true)),(82,(.bool true))],[(.cells [(.str s2),(.int .i64 0),(.int .i64 s5),(.int .i64 s4),(.int .i64 0),(.int .i64 s3)] 35),(.cells [(.str s2),(.int .i64 0),(.int .i64 s5),(.int .i64 s4),(.int .i64 0),(.int .i64 s3)] 35)])) (.leaf (.normal,[(4,(.ptr 0 0)),(5,(.int .i64 0)),(6,(.int .i64 0)),(9,(.int .u32 w)),(10,(.sl (.prod [(.int .u8),.str,(.int .u32),(.int .u32),(.int .u32)]) (l) ([]) Fl.ro)),(11,(.int .i64 s7)),(12,(.str (Go.Rj.opsX s2))),(14,(.ptr 1 0)),(31,(.bool true)),(57,(.bool false)),(63,(.bool true)),(69,(.bool true)),(82,(.bool false))],[(.cells [(.str []),(.int .i64 0),(.int .i64 0),(.int .i64 0),(.int .i64 0),(.int .i64 0)] 35),(.cells [(.str s2),(.int .i64 0),(.int .i64 s5),(.int .i64 s4),(.int .i64 0),(.int .i64 s3)] 35)]))) (.leaf (.normal,[(4,(.ptr 0 0)),(5,(.int .i64 0)),(6,(.int .i64 0)),(9,(.int .u32 w)),(10,(.sl (.prod [(.int .u8),.str,(.int .u32),(.int .u32),(.int .u32)]) (l) ([]) Fl.ro)),(11,(.int .i64 s7)),(12,(.str (Go.Rj.opsX s2))),(14,(.ptr 1 0)),(31,(.bool true)),(57,(.bool false)),(63,(.bool true)),(69,(.bool true)),(82,(.bool false))],[(.cells [(.str []),(.int .i64 0),(.int .i64 0),(.int .i64 0),(.int .i64 0),(.int .i64 0)] 35),(.cells [(.str s2),(.int .i64 0),(.int .i64 s5),(.int .i64 s4),(.int .i64 0),(.int .i64 s3)] 35)]))) (.br (Go.Rj.checkX s13 == 0) (.br (Go.Rj.wordX s13 == w) (.leaf (.ret,[(4,(.ptr 0 0)),(5,(.int .i64 4)),(6,(.int .i64 0)),(9,(.int .u32 w)),(10,(.sl (.prod [(.int .u8),.str,(.int .u32),(.int .u32),(.int .u32)]) (l) ([]) Fl.ro)),(11,(.int .i64 i)),(12,(.str (Go.Rj.opsX s2))),(14,(.ptr 1 0)),(31,(.bool true)),(57,(.bool false)),(63,(.bool true)),(69,(.bool false)),(82,(.bool true))],[(.cells [(.str s2),(.int .i64 0),(.int .i64 s5),(.int .i64 0),(.int .i64 0),(.int .i64 s3)] 35),(.cells [(.str s2),(.int .i64 0),(.int .i64 s5),(.int .i64 0),(.int .i64 0),(.int .i64 s3)] 35)])) (.leaf (.normal,[(4,(.ptr 0 0)),(5,(.int .i64 0)),(6,(.int .i64 0)),(9,(.int .u32 w)),(10,(.sl (.prod [(.int .u8),.str,(.int .u32),(.int .u32),(.int .u32)]) (l) ([]) Fl.ro)),(11,(.int .i64 s7)),(12,(.str (Go.Rj.opsX s2))),(14,(.ptr 1 0)),(31,(.bool true)),(57,(.bool false)),(63,(.bool true)),(69,(.bool false)),(82,(.bool false))],[(.cells [(.str []),(.int .i64 0),(.int .i64 0),(.int .i64 0),(.int .i64 0),(.int .i64 0)] 35),(.cells [(.str s2),(.int .i64 0),(.int .i64 s5),(.int .i64 0),(.int .i64 0),(.int .i64 s3)] 35)]))) (.leaf (.normal,[(4,(.ptr 0 0)),(5,(.int .i64 0)),(6,(.int .i64 0)),(9,(.int .u32 w)),(10,(.sl (.prod [(.int .u8),.str,(.int .u32),(.int .u32),(.int .u32)]) (l) ([]) Fl.ro)),(11,(.int .i64 s7)),(12,(.str (Go.Rj.opsX s2))),(14,(.ptr 1 0)),(31,(.bool true)),(57,(.bool false)),(63,(.bool true)),(69,(.bool false)),(82,(.bool false))],[(.cells [(.str []),(.int .i64 0),(.int .i64 0),(.int .i64 0),(.int .i64 0),(.int .i64 0)] 35),(.cells [(.str s2),(.int .i64 0),(.int .i64 s5),(.int .i64 0),(.int .i64 0),(.int .i64 s3)] 35)])))) .fail) (.br s8 (.br s16 (.br (Go.Rj.checkX s14 == 0) (.br (Go.Rj.wordX s14 == w) (.leaf (.ret,[(4,(.ptr 0 0)),(5,(.int .i64 4)),(6,(.int .i64 0)),(9,(.int .u32 w)),(10,(.sl (.prod [(.int .u8),.str,(.int .u32),(.int .u32),(.int .u32)]) (l) ([]) Fl.ro)),(11,(.int .i64 i)),(12,(.str (Go.Rj.opsX s2))),(14,(.ptr 1 0)),(31,(.bool true)),(57,(.bool false)),(63,(.bool false)),(69,(.bool true)),(82,(.bool true))],[(.cells [(.str s2),(.int .i64 0),(.int .i64 0),(.int .i64 s4),(.int .i64 0),(.int .i64 s3)] 35),(.cells [(.str s2),(.int .i64 0),(.int .i64 0),(.int .i64 s4),(.int .i64 0),(.int .i64 s3)] 35)])) (.leaf (.normal,[(4,(.ptr 0 0)),(5,(.int .i64 0)),(6,(.int .i64 0)),(9,(.int .u32 w)),(10,(.sl (.prod [(.int .u8),.str,(.int .u32),(.int .u32),(.int .u32)]) (l) ([]) Fl.ro)),(11,(.int .i64 s7)),(12,(.str (Go.Rj.opsX s2))),(14,(.ptr 1 0)),(31,(.bool true)),(57,(.bool false)),(63,(.bool false)),(69,(.bool true)),(82,(.bool false))],[(.cells [(.str []),(.int .i64 0),(.int .i64 0),(.int .i64 0),(.int .i64 0),(.int .i64 0)] 35),(.cells [(.str s2),(.int .i64 0),(.int .i64 0),(.int .i64 s4),(.int .i64 0),(.int .i64 s3)] 35)]))) (.leaf (.normal,[(4,(.ptr 0 0)),(5,(.int .i64 0)),(6,(.int .i64 0)),(9,(.int .u32 w)),(10,(.sl (.prod [(.int .u8),.str,(.int .u32),(.int .u32),(.int .u32)]) (l) ([]) Fl.ro)),(11,(.int .i64 s7)),(12,(.str (Go.Rj.opsX s2))),(14,(.ptr 1 0)),(31,(.bool true)),(57,(.bool false)),(63,(.bool false)),(69,(.bool true)),(82,(.bool false))],[(.cells [(.str []),(.int .i64 0),(.int .i64 0),(.int .i64 0),(.int .i64 0),(.int .i64 0)] 35),(.cells [(.str s2),(.int .i64 0),(.int .i64 0),(.int .i64 s4),(.int .i64 0),(.int .i64 s3)] 35)]))) (.br (Go.Rj.checkX s17 == 0) (.br (Go.Rj.wordX s17 == w) (.leaf (.ret,[(4,(.ptr 0 0)),(5,(.int .i64 4)),(6,(.int .i64 0)),(9,(.int .u32 w)),(10,(.sl (.prod [(.int .u8),.str,(.int .u32),(.int .u32),(.int .u32)]) (l) ([]) Fl.ro)),(11,(.int .i64 i)),(12,(.str (Go.Rj.opsX s2))),(14,(.ptr 1 0)),(31,(.bool true)),(57,(.bool false)),(63,(.bool false)),(69,(.bool false)),(82,(.bool true))],[(.cells [(.str s2),(.int .i64 0),(.int .i64 0),(.int .i64 0),(.int .i64 0),(.int .i64 s3)] 35),(.cells [(.str s2),(.int .i64 0),(.int .i64 0),(.int .i64 0),(.int .i64 0),(.int .i64 s3)] 35)])) (.leaf (.normal,[(4,(.ptr 0 0)),(5,(.int .i64 0)),(6,(.int .i64 0)),(9,(.int .u32 w)),(10,(.sl (.prod [(.int .u8),.str,(.int .u32),(.int .u32),(.int .u32)]) (l) ([]) Fl.ro)),(11,(.int .i64 s7)),(12,(.str (Go.Rj.opsX s2))),(14,(.ptr 1 0)),(31,(.bool true)),(57,(.bool false)),(63,(.bool false)),(69,(.bool false)),(82,(.bool false))],[(.cells [(.str []),(.int .i64 0),(.int .i64 0),(.int .i64 0),(.int .i64 0),(.int .i64 0)] 35),(.cells [(.str s2),(.int .i64 0),(.int .i64 0),(.int .i64 0),(.int .i64 0),(.int .i64 s3)] 35)]))) (.leaf (.normal,[(4,(.ptr 0 0)),(5,(.int .i64 0)),(6,(.int .i64 0)),(9,(.int .u32 w)),(10,(.sl (.prod [(.int .u8),.str,(.int .u32),(.int .u32),(.int .u32)]) (l) ([]) Fl.ro)),(11,(.int .i64 s7)),(12,(.str (Go.Rj.opsX s2))),(14,(.ptr 1 0)),(31,(.bool true)),(57,(.bool false)),(63,(.bool false)),(69,(.bool false)),(82,(.bool false))],[(.cells [(.str []),(.int .i64 0),(.int .i64 0),(.int .i64 0),(.int .i64 0),(.int .i64 0)] 35),(.cells [(.str s2),(.int .i64 0),(.int .i64 0),(.int .i64 0),(.int .i64 0),(.int .i64 s3)] 35)])))) .fail)) .fail)) .fail) .fail) .fail) .fail) (.leaf ((.exit 0),[(4,(.ptr 0 0)),(5,(.int .i64 0)),(6,(.int .i64 0)),(9,(.int .u32 w)),(10,(.sl (.prod [(.int .u8),.str,(.int .u32),(.int .u32),(.int .u32)]) (l) ([]) Fl.ro)),(11,(.int .i64 i)),(31,(.bool false))],[(.cells [(.str []),(.int .i64 0),(.int .i64 0),(.int .i64 0),(.int .i64 0),(.int .i64 0)] 35)])))
theorem decXRound_eq (l:List rowXE.ty) (w i:Int):(dcode cx51 (cin (cin (c2 (c1 (tailN 4 B15))))) [(4,.ptr 0 0),(5,.int .i64 0),(6,.int .i64 0),(9,.int .u32 w),(10,.sl rowXE l [] .ro),(11,.int .i64 i)] [.cells [.str [],.int .i64 0,.int .i64 0,.int .i64 0,.int .i64 0,.int .i64 0] 35]).run=(decXRound l w i).run:=
 (show (dcode cx51 (cin (cin (c2 (c1 (tailN 4 B15))))) [(4,.ptr 0 0),(5,.int .i64 0),(6,.int .i64 0),(9,.int .u32 w),(10,.sl rowXE l [] .ro),(11,.int .i64 i)] [.cells [.str [],.int .i64 0,.int .i64 0,.int .i64 0,.int .i64 0,.int .i64 0] 35]).run=(decXRound l w i).out by kernel_rfl).trans (Tree.out_run _)
def decXEnd  : Tree St:=
 (.leaf (.ret,[(4,(.ptr 0 0)),(5,(.int .i64 0)),(6,(.int .i64 22))],[(.cells [(.str []),(.int .i64 0),(.int .i64 0),(.int .i64 0),(.int .i64 0),(.int .i64 0)] 35)]))
theorem decXEnd_eq  : (dcode cx51 (tailN 5 B15) [(4,.ptr 0 0),(5,.int .i64 0),(6,.int .i64 0)] [.cells [.str [],.int .i64 0,.int .i64 0,.int .i64 0,.int .i64 0,.int .i64 0] 35]).run=(decXEnd ).run:=
 (show (dcode cx51 (tailN 5 B15) [(4,.ptr 0 0),(5,.int .i64 0),(6,.int .i64 0)] [.cells [.str [],.int .i64 0,.int .i64 0,.int .i64 0,.int .i64 0,.int .i64 0] 35]).run=(decXEnd ).out by kernel_rfl).trans (Tree.out_run _)
theorem three {c1 c2:Bool} {A B C:Tree St} {Q:St→Prop} (m:Bool) (hm:m=cond c1 c2 false) (ha:m=true→A.all Q) (hb:m=false→B.all Q) (hc:m=false→C.all Q) :
  (Tree.br c1 (.br c2 A B) C).all Q:=by
 subst hm
 cases c1
 ·exact ⟨fun h=>Bool.noConfusion h,fun _=>hc rfl⟩
 ·cases c2
  ·exact ⟨fun _=>⟨fun h=>Bool.noConfusion h,fun _=>hb rfl⟩,fun h=>Bool.noConfusion h⟩
  ·exact ⟨fun _=>⟨fun _=>ha rfl,fun h=>Bool.noConfusion h⟩,fun h=>Bool.noConfusion h⟩
theorem cx51_ok:CxOk cx51:=cx1_ok (.cons uS_ok (.cons tableS_ok (.cons opsXS_ok (.cons immXS_ok (.cons hasS_ok (.cons bitsS_ok (.cons checkS_ok (.cons wordXS_ok (.nil _))))))))) (.nil _) rfl rfl
def decXSt (w:Int) (i:{ i:Nat // i≤rowsX.length∧(rowsX.take i).find? (matchX w)=none }):T × List O:=
 ([(4,.ptr 0 0),(5,.int .i64 0),(6,.int .i64 0),(9,.int .u32 w),(10,.sl rowXE rowsX [] .ro),(11,.int .i64 i.1)],[insO zeroI])
def decXQ (w:Int) (e:AEx) (t:T) (H:List O):Prop:=
 (e = .ret∨e = .normal)∧answerV Tryz.prog Tryz.f51.results.toList H t=some (.tup [insV (decI w),.int .i64 (cond (decOk w) 4 0),.int .i64 (cond (decOk w) 0 22)])
theorem dec_found {w:Nat} (hw:w<2 ^ 32) {r:RowX} (h:drowX w=some r):decI w=readX w r∧decOk w=true:=by
 have hm:r ∈ rowsX:=List.mem_of_find?_eq_some h
 have hd:=drow_eq hw
 rw [h] at hd
 refine ⟨?_,?_⟩
 ·unfold decI
  rw [hd]
  exact (read_eq hm hw).symm
 ·unfold decOk
  rw [hd]
  rfl
theorem dec_none {w:Nat} (hw:w<2 ^ 32) (h:drowX w=none):decI w=zeroI∧decOk w=false:=by
 have hd:=drow_eq hw
 rw [h] at hd
 refine ⟨?_,?_⟩
 ·unfold decI
  rw [hd]
  rfl
 ·unfold decOk
  rw [hd]
  rfl
set_option maxRecDepth 8000 in
theorem all_t {α:Type} {c:Bool} {x y:Tree α} {Q:α→Prop} (h:c=true) (hx:x.all Q):(Tree.br c x y).all Q:=⟨fun _=>hx,fun e=>Bool.noConfusion (h.symm.trans e)⟩
theorem all_f {α:Type} {c:Bool} {x y:Tree α} {Q:α→Prop} (h:c=false) (hy:y.all Q):(Tree.br c x y).all Q:=⟨fun e=>Bool.noConfusion (h.symm.trans e),fun _=>hy⟩
theorem decX_loop (v:Nat) (hv:v<2 ^ 32) (w:Int) (hw:w=v):AWP Tryz.prog 85 (tailN 4 B15) (decXQ w) [(4,.ptr 0 0),(5,.int .i64 0),(6,.int .i64 0),(9,.int .u32 w),(10,.sl rowXE rowsX [] .ro)] [insO zeroI]:=by
 have e:tailN 4 B15 = .seq (.seq (c1 (c1 (tailN 4 B15))) (.block 0 (.loop (cin (cin (c2 (c1 (tailN 4 B15)))))))) (tailN 5 B15):=by kernel_rfl
 rw [e]
 have hlen:=rowsX_len
 refine AWP_seq (AWP_seq (AWP_run (cx:=cx51) rfl rfl cx51_ok (s:=(.normal,(decXSt w ⟨0,Nat.zero_le _,rfl⟩).1,[insO zeroI])) (by kernel_rfl) ?_))
 refine AWP_block ?_
 refine AWP_rounds (cx:=cx51) (P:=Tryz.prog) (n:=85) rfl rfl cx51_ok (decXSt w) (fun i=>64 - i.1) ?_ ⟨0,Nat.zero_le _,rfl⟩
 rintro ⟨i,hi,hnone⟩
 refine Tree.all_run_eq (decXRound_eq rowsX w i) ?_
 refine ⟨fun hlt=>⟨fun hin=>all_t hin (all_t hin ?_),fun hin=>?_⟩,fun hge=>?_⟩
 rotate_left
 ·exfalso
  have hlt:i<rowsX.length:=Int.ofNat_lt.1 (of_decide_eq_true hlt)
  exact Bool.noConfusion ((inside_of (Int.natCast_nonneg i) (Int.ofNat_lt.2 hlt)).symm.trans hin)
 ·have hge:¬ i<rowsX.length:=fun h=>of_decide_eq_false hge (Int.ofNat_lt.2 h)
  have hi' : i=rowsX.length:=by omega
  refine ⟨[],_,rfl,?_⟩
  show AWP _ _ _ _ _ _
  refine AWP.less (s:=[(4,.ptr 0 0),(5,.int .i64 0),(6,.int .i64 0)]) (Fits.tle ⟨rfl,rfl,rfl,trivial⟩) ?_
  refine AWP_run (cx:=cx51) rfl rfl cx51_ok decXEnd_eq ?_
  refine ⟨.inl rfl,?_⟩
  have hf:drowX w=none:=by unfold drowX; rw [← hnone,hi',List.take_length]
  subst hw
  obtain ⟨h1,h2⟩:=dec_none hv hf
  show answerV _ _ _ _=some _
  rw [h1,h2]
  kernel_rfl
 have hlt:i<rowsX.length:=Int.ofNat_lt.1 (of_decide_eq_true hlt)
 have step:V.int .i64 (IntKind.wrap .i64 ((i:Int)+1))=V.int .i64 ((i+1:Nat):Int):=by
  rw [wrap_i64 (by omega) (by omega)]
  rfl
 have next:matchX w (rowsX.getD i (0,[],0,0,0))=false→(rowsX.take (i+1)).find? (matchX w)=none:=fun hp=>take_none hlt hnone hp
 have found:matchX w (rowsX.getD i (0,[],0,0,0))=true→decI w=readX w (rowsX.getD i (0,[],0,0,0))∧decOk w=true:=fun hp=>by
  have hf:drowX w=some (rowsX.getD i (0,[],0,0,0)):=take_some hlt hnone hp
  subst hw
  exact dec_found hv hf
 have hl:∀ nm,decide (List.length (opsX nm)<1000000000)=true:=fun nm=>decide_eq_true (by have:=opsX_short nm; omega)
 refine all_t (hl _) ⟨fun h65=>all_t (hl _) ⟨fun h66=>all_t (hl _) ⟨fun h67=>?_,fun h67=>?_⟩,fun h66=>all_t (hl _) ⟨fun h67=>?_,fun h67=>?_⟩⟩,fun h65=>all_t (hl _) ⟨fun h66=>all_t (hl _) ⟨fun h67=>?_,fun h67=>?_⟩,fun h66=>all_t (hl _) ⟨fun h67=>?_,fun h67=>?_⟩⟩⟩
 ·have h65:hasX (opsX (rowsX.getD i (0,[],0,0,0)).2.1) 65=_:=h65
  have h66:hasX (opsX (rowsX.getD i (0,[],0,0,0)).2.1) 66=_:=h66
  have h67:hasX (opsX (rowsX.getD i (0,[],0,0,0)).2.1) 67=_:=h67
  have he:readX w (rowsX.getD i (0,[],0,0,0))=((rowsX.getD i (0,[],0,0,0)).2.1,IntKind.wrap IntKind.i64 (bitX w 7 5),IntKind.wrap IntKind.i64 (bitX w 15 5),IntKind.wrap IntKind.i64 (bitX w 20 5),0,immX (rowsX.getD i (0,[],0,0,0)).1 w):=by unfold readX; rw [h65,h66,h67]; rfl
  have hmx:matchX w (rowsX.getD i (0,[],0,0,0))=cond (checkX ((rowsX.getD i (0,[],0,0,0)).2.1,IntKind.wrap IntKind.i64 (bitX w 7 5),IntKind.wrap IntKind.i64 (bitX w 15 5),IntKind.wrap IntKind.i64 (bitX w 20 5),0,immX (rowsX.getD i (0,[],0,0,0)).1 w) == 0) (wordX ((rowsX.getD i (0,[],0,0,0)).2.1,IntKind.wrap IntKind.i64 (bitX w 7 5),IntKind.wrap IntKind.i64 (bitX w 15 5),IntKind.wrap IntKind.i64 (bitX w 20 5),0,immX (rowsX.getD i (0,[],0,0,0)).1 w) == w) false:=by unfold matchX; rw [he]
  refine three (matchX w (rowsX.getD i (0,[],0,0,0))) hmx (fun hm=>?_) (fun hm=>?_) (fun hm=>?_)
  ·obtain ⟨e1,e2⟩:=found hm
   rw [he] at e1
   refine ⟨[],_,rfl,.inl rfl,?_⟩
   show answerV _ _ _ _=some _
   rw [e1,e2]
   kernel_rfl
  ·exact ⟨[],_,rfl,⟨i+1,hlt,next hm⟩,by show 64 - (i+1)<64 - i; omega,Fits.tle ⟨rfl,rfl,rfl,rfl,rfl,step,trivial⟩,rfl⟩
  ·exact ⟨[],_,rfl,⟨i+1,hlt,next hm⟩,by show 64 - (i+1)<64 - i; omega,Fits.tle ⟨rfl,rfl,rfl,rfl,rfl,step,trivial⟩,rfl⟩
 ·have h65:hasX (opsX (rowsX.getD i (0,[],0,0,0)).2.1) 65=_:=h65
  have h66:hasX (opsX (rowsX.getD i (0,[],0,0,0)).2.1) 66=_:=h66
  have h67:hasX (opsX (rowsX.getD i (0,[],0,0,0)).2.1) 67=_:=h67
  have he:readX w (rowsX.getD i (0,[],0,0,0))=((rowsX.getD i (0,[],0,0,0)).2.1,IntKind.wrap IntKind.i64 (bitX w 7 5),IntKind.wrap IntKind.i64 (bitX w 15 5),0,0,immX (rowsX.getD i (0,[],0,0,0)).1 w):=by unfold readX; rw [h65,h66,h67]; rfl
  have hmx:matchX w (rowsX.getD i (0,[],0,0,0))=cond (checkX ((rowsX.getD i (0,[],0,0,0)).2.1,IntKind.wrap IntKind.i64 (bitX w 7 5),IntKind.wrap IntKind.i64 (bitX w 15 5),0,0,immX (rowsX.getD i (0,[],0,0,0)).1 w) == 0) (wordX ((rowsX.getD i (0,[],0,0,0)).2.1,IntKind.wrap IntKind.i64 (bitX w 7 5),IntKind.wrap IntKind.i64 (bitX w 15 5),0,0,immX (rowsX.getD i (0,[],0,0,0)).1 w) == w) false:=by unfold matchX; rw [he]
  refine three (matchX w (rowsX.getD i (0,[],0,0,0))) hmx (fun hm=>?_) (fun hm=>?_) (fun hm=>?_)
  ·obtain ⟨e1,e2⟩:=found hm
   rw [he] at e1
   refine ⟨[],_,rfl,.inl rfl,?_⟩
   show answerV _ _ _ _=some _
   rw [e1,e2]
   kernel_rfl
  ·exact ⟨[],_,rfl,⟨i+1,hlt,next hm⟩,by show 64 - (i+1)<64 - i; omega,Fits.tle ⟨rfl,rfl,rfl,rfl,rfl,step,trivial⟩,rfl⟩
  ·exact ⟨[],_,rfl,⟨i+1,hlt,next hm⟩,by show 64 - (i+1)<64 - i; omega,Fits.tle ⟨rfl,rfl,rfl,rfl,rfl,step,trivial⟩,rfl⟩
 ·have h65:hasX (opsX (rowsX.getD i (0,[],0,0,0)).2.1) 65=_:=h65
  have h66:hasX (opsX (rowsX.getD i (0,[],0,0,0)).2.1) 66=_:=h66
  have h67:hasX (opsX (rowsX.getD i (0,[],0,0,0)).2.1) 67=_:=h67
  have he:readX w (rowsX.getD i (0,[],0,0,0))=((rowsX.getD i (0,[],0,0,0)).2.1,IntKind.wrap IntKind.i64 (bitX w 7 5),0,IntKind.wrap IntKind.i64 (bitX w 20 5),0,immX (rowsX.getD i (0,[],0,0,0)).1 w):=by unfold readX; rw [h65,h66,h67]; rfl
  have hmx:matchX w (rowsX.getD i (0,[],0,0,0))=cond (checkX ((rowsX.getD i (0,[],0,0,0)).2.1,IntKind.wrap IntKind.i64 (bitX w 7 5),0,IntKind.wrap IntKind.i64 (bitX w 20 5),0,immX (rowsX.getD i (0,[],0,0,0)).1 w) == 0) (wordX ((rowsX.getD i (0,[],0,0,0)).2.1,IntKind.wrap IntKind.i64 (bitX w 7 5),0,IntKind.wrap IntKind.i64 (bitX w 20 5),0,immX (rowsX.getD i (0,[],0,0,0)).1 w) == w) false:=by unfold matchX; rw [he]
  refine three (matchX w (rowsX.getD i (0,[],0,0,0))) hmx (fun hm=>?_) (fun hm=>?_) (fun hm=>?_)
  ·obtain ⟨e1,e2⟩:=found hm
   rw [he] at e1
   refine ⟨[],_,rfl,.inl rfl,?_⟩
   show answerV _ _ _ _=some _
   rw [e1,e2]
   kernel_rfl
  ·exact ⟨[],_,rfl,⟨i+1,hlt,next hm⟩,by show 64 - (i+1)<64 - i; omega,Fits.tle ⟨rfl,rfl,rfl,rfl,rfl,step,trivial⟩,rfl⟩
  ·exact ⟨[],_,rfl,⟨i+1,hlt,next hm⟩,by show 64 - (i+1)<64 - i; omega,Fits.tle ⟨rfl,rfl,rfl,rfl,rfl,step,trivial⟩,rfl⟩
 ·have h65:hasX (opsX (rowsX.getD i (0,[],0,0,0)).2.1) 65=_:=h65
  have h66:hasX (opsX (rowsX.getD i (0,[],0,0,0)).2.1) 66=_:=h66
  have h67:hasX (opsX (rowsX.getD i (0,[],0,0,0)).2.1) 67=_:=h67
  have he:readX w (rowsX.getD i (0,[],0,0,0))=((rowsX.getD i (0,[],0,0,0)).2.1,IntKind.wrap IntKind.i64 (bitX w 7 5),0,0,0,immX (rowsX.getD i (0,[],0,0,0)).1 w):=by unfold readX; rw [h65,h66,h67]; rfl
  have hmx:matchX w (rowsX.getD i (0,[],0,0,0))=cond (checkX ((rowsX.getD i (0,[],0,0,0)).2.1,IntKind.wrap IntKind.i64 (bitX w 7 5),0,0,0,immX (rowsX.getD i (0,[],0,0,0)).1 w) == 0) (wordX ((rowsX.getD i (0,[],0,0,0)).2.1,IntKind.wrap IntKind.i64 (bitX w 7 5),0,0,0,immX (rowsX.getD i (0,[],0,0,0)).1 w) == w) false:=by unfold matchX; rw [he]
  refine three (matchX w (rowsX.getD i (0,[],0,0,0))) hmx (fun hm=>?_) (fun hm=>?_) (fun hm=>?_)
  ·obtain ⟨e1,e2⟩:=found hm
   rw [he] at e1
   refine ⟨[],_,rfl,.inl rfl,?_⟩
   show answerV _ _ _ _=some _
   rw [e1,e2]
   kernel_rfl
  ·exact ⟨[],_,rfl,⟨i+1,hlt,next hm⟩,by show 64 - (i+1)<64 - i; omega,Fits.tle ⟨rfl,rfl,rfl,rfl,rfl,step,trivial⟩,rfl⟩
  ·exact ⟨[],_,rfl,⟨i+1,hlt,next hm⟩,by show 64 - (i+1)<64 - i; omega,Fits.tle ⟨rfl,rfl,rfl,rfl,rfl,step,trivial⟩,rfl⟩
 ·have h65:hasX (opsX (rowsX.getD i (0,[],0,0,0)).2.1) 65=_:=h65
  have h66:hasX (opsX (rowsX.getD i (0,[],0,0,0)).2.1) 66=_:=h66
  have h67:hasX (opsX (rowsX.getD i (0,[],0,0,0)).2.1) 67=_:=h67
  have he:readX w (rowsX.getD i (0,[],0,0,0))=((rowsX.getD i (0,[],0,0,0)).2.1,0,IntKind.wrap IntKind.i64 (bitX w 15 5),IntKind.wrap IntKind.i64 (bitX w 20 5),0,immX (rowsX.getD i (0,[],0,0,0)).1 w):=by unfold readX; rw [h65,h66,h67]; rfl
  have hmx:matchX w (rowsX.getD i (0,[],0,0,0))=cond (checkX ((rowsX.getD i (0,[],0,0,0)).2.1,0,IntKind.wrap IntKind.i64 (bitX w 15 5),IntKind.wrap IntKind.i64 (bitX w 20 5),0,immX (rowsX.getD i (0,[],0,0,0)).1 w) == 0) (wordX ((rowsX.getD i (0,[],0,0,0)).2.1,0,IntKind.wrap IntKind.i64 (bitX w 15 5),IntKind.wrap IntKind.i64 (bitX w 20 5),0,immX (rowsX.getD i (0,[],0,0,0)).1 w) == w) false:=by unfold matchX; rw [he]
  refine three (matchX w (rowsX.getD i (0,[],0,0,0))) hmx (fun hm=>?_) (fun hm=>?_) (fun hm=>?_)
  ·obtain ⟨e1,e2⟩:=found hm
   rw [he] at e1
   refine ⟨[],_,rfl,.inl rfl,?_⟩
   show answerV _ _ _ _=some _
   rw [e1,e2]
   kernel_rfl
  ·exact ⟨[],_,rfl,⟨i+1,hlt,next hm⟩,by show 64 - (i+1)<64 - i; omega,Fits.tle ⟨rfl,rfl,rfl,rfl,rfl,step,trivial⟩,rfl⟩
  ·exact ⟨[],_,rfl,⟨i+1,hlt,next hm⟩,by show 64 - (i+1)<64 - i; omega,Fits.tle ⟨rfl,rfl,rfl,rfl,rfl,step,trivial⟩,rfl⟩
 ·have h65:hasX (opsX (rowsX.getD i (0,[],0,0,0)).2.1) 65=_:=h65
  have h66:hasX (opsX (rowsX.getD i (0,[],0,0,0)).2.1) 66=_:=h66
  have h67:hasX (opsX (rowsX.getD i (0,[],0,0,0)).2.1) 67=_:=h67
  have he:readX w (rowsX.getD i (0,[],0,0,0))=((rowsX.getD i (0,[],0,0,0)).2.1,0,IntKind.wrap IntKind.i64 (bitX w 15 5),0,0,immX (rowsX.getD i (0,[],0,0,0)).1 w):=by unfold readX; rw [h65,h66,h67]; rfl
  have hmx:matchX w (rowsX.getD i (0,[],0,0,0))=cond (checkX ((rowsX.getD i (0,[],0,0,0)).2.1,0,IntKind.wrap IntKind.i64 (bitX w 15 5),0,0,immX (rowsX.getD i (0,[],0,0,0)).1 w) == 0) (wordX ((rowsX.getD i (0,[],0,0,0)).2.1,0,IntKind.wrap IntKind.i64 (bitX w 15 5),0,0,immX (rowsX.getD i (0,[],0,0,0)).1 w) == w) false:=by unfold matchX; rw [he]
  refine three (matchX w (rowsX.getD i (0,[],0,0,0))) hmx (fun hm=>?_) (fun hm=>?_) (fun hm=>?_)
  ·obtain ⟨e1,e2⟩:=found hm
   rw [he] at e1
   refine ⟨[],_,rfl,.inl rfl,?_⟩
   show answerV _ _ _ _=some _
   rw [e1,e2]
   kernel_rfl
  ·exact ⟨[],_,rfl,⟨i+1,hlt,next hm⟩,by show 64 - (i+1)<64 - i; omega,Fits.tle ⟨rfl,rfl,rfl,rfl,rfl,step,trivial⟩,rfl⟩
  ·exact ⟨[],_,rfl,⟨i+1,hlt,next hm⟩,by show 64 - (i+1)<64 - i; omega,Fits.tle ⟨rfl,rfl,rfl,rfl,rfl,step,trivial⟩,rfl⟩
 ·have h65:hasX (opsX (rowsX.getD i (0,[],0,0,0)).2.1) 65=_:=h65
  have h66:hasX (opsX (rowsX.getD i (0,[],0,0,0)).2.1) 66=_:=h66
  have h67:hasX (opsX (rowsX.getD i (0,[],0,0,0)).2.1) 67=_:=h67
  have he:readX w (rowsX.getD i (0,[],0,0,0))=((rowsX.getD i (0,[],0,0,0)).2.1,0,0,IntKind.wrap IntKind.i64 (bitX w 20 5),0,immX (rowsX.getD i (0,[],0,0,0)).1 w):=by unfold readX; rw [h65,h66,h67]; rfl
  have hmx:matchX w (rowsX.getD i (0,[],0,0,0))=cond (checkX ((rowsX.getD i (0,[],0,0,0)).2.1,0,0,IntKind.wrap IntKind.i64 (bitX w 20 5),0,immX (rowsX.getD i (0,[],0,0,0)).1 w) == 0) (wordX ((rowsX.getD i (0,[],0,0,0)).2.1,0,0,IntKind.wrap IntKind.i64 (bitX w 20 5),0,immX (rowsX.getD i (0,[],0,0,0)).1 w) == w) false:=by unfold matchX; rw [he]
  refine three (matchX w (rowsX.getD i (0,[],0,0,0))) hmx (fun hm=>?_) (fun hm=>?_) (fun hm=>?_)
  ·obtain ⟨e1,e2⟩:=found hm
   rw [he] at e1
   refine ⟨[],_,rfl,.inl rfl,?_⟩
   show answerV _ _ _ _=some _
   rw [e1,e2]
   kernel_rfl
  ·exact ⟨[],_,rfl,⟨i+1,hlt,next hm⟩,by show 64 - (i+1)<64 - i; omega,Fits.tle ⟨rfl,rfl,rfl,rfl,rfl,step,trivial⟩,rfl⟩
  ·exact ⟨[],_,rfl,⟨i+1,hlt,next hm⟩,by show 64 - (i+1)<64 - i; omega,Fits.tle ⟨rfl,rfl,rfl,rfl,rfl,step,trivial⟩,rfl⟩
 ·have h65:hasX (opsX (rowsX.getD i (0,[],0,0,0)).2.1) 65=_:=h65
  have h66:hasX (opsX (rowsX.getD i (0,[],0,0,0)).2.1) 66=_:=h66
  have h67:hasX (opsX (rowsX.getD i (0,[],0,0,0)).2.1) 67=_:=h67
  have he:readX w (rowsX.getD i (0,[],0,0,0))=((rowsX.getD i (0,[],0,0,0)).2.1,0,0,0,0,immX (rowsX.getD i (0,[],0,0,0)).1 w):=by unfold readX; rw [h65,h66,h67]; rfl
  have hmx:matchX w (rowsX.getD i (0,[],0,0,0))=cond (checkX ((rowsX.getD i (0,[],0,0,0)).2.1,0,0,0,0,immX (rowsX.getD i (0,[],0,0,0)).1 w) == 0) (wordX ((rowsX.getD i (0,[],0,0,0)).2.1,0,0,0,0,immX (rowsX.getD i (0,[],0,0,0)).1 w) == w) false:=by unfold matchX; rw [he]
  refine three (matchX w (rowsX.getD i (0,[],0,0,0))) hmx (fun hm=>?_) (fun hm=>?_) (fun hm=>?_)
  ·obtain ⟨e1,e2⟩:=found hm
   rw [he] at e1
   refine ⟨[],_,rfl,.inl rfl,?_⟩
   show answerV _ _ _ _=some _
   rw [e1,e2]
   kernel_rfl
  ·exact ⟨[],_,rfl,⟨i+1,hlt,next hm⟩,by show 64 - (i+1)<64 - i; omega,Fits.tle ⟨rfl,rfl,rfl,rfl,rfl,step,trivial⟩,rfl⟩
  ·exact ⟨[],_,rfl,⟨i+1,hlt,next hm⟩,by show 64 - (i+1)<64 - i; omega,Fits.tle ⟨rfl,rfl,rfl,rfl,rfl,step,trivial⟩,rfl⟩
end Go.Rj

namespace Go.Rj
open Go Go.Ab Go.Proofs Go.Ra
set_option maxRecDepth 2000
def bytesB (l:List Int):Bool:=l.all fun b=>decide (0≤b) && decide (b<256)
theorem bytesB_to {l:List Int} (h:bytesB l=true):Bytes l:=by
 intro x hx
 have:=List.all_eq_true.1 h x hx
 simpa using this
def decXS:Ab.Spec:=fun args=>match args with
 | [.sl (.int .u8) l _ _,.int .i64 at_]=>.req (decide (l.length<1000000000)) (.req (bytesB l) (.leaf (.tup [insV (dI l at_),.int .i64 (dN l at_),.int .i64 (dE l at_)])))
 | _=>.fail
theorem sub4 {l:List Int} {k:Nat} (h:k+4≤l.length):sub l k (k+4)=[l.getD k 0,l.getD (k+1) 0,l.getD (k+2) 0,l.getD (k+3) 0]:=by
 have e:sub l k (k+4)=(l.drop k).take 4:=by
  simp only [sub,List.drop_take]
  congr 1
  omega
 rw [e,List.drop_eq_getElem_cons (by omega),List.drop_eq_getElem_cons (by omega),List.drop_eq_getElem_cons (by omega),List.drop_eq_getElem_cons (by omega)]
 rw [getD_lt (by omega),getD_lt (by omega),getD_lt (by omega),getD_lt (by omega)]
 rfl
theorem num4 {a b c d:Int} (ha:0≤a∧a<256) (hb:0≤b∧b<256) (hc:0≤c∧c<256) (hd:0≤d∧d<256):numL [a,b,c,d]=a+256*b+65536*c+16777216*d:=by
 simp only [numL]
 rw [num_step (a:=0) (b:=d) (by omega) (by omega) (by omega) (by omega)]
 rw [num_step (a:=0*256+d) (b:=c) (by omega) (by omega) (by omega) (by omega)]
 rw [num_step (a:=(0*256+d)*256+c) (b:=b) (by omega) (by omega) (by omega) (by omega)]
 rw [num_step (b:=a) (by omega) (by omega) (by omega) (by omega)]
 omega
theorem decX_ok (l sp:List Int) (fl:Fl) (at_:Int) (hl:l.length<1000000000) (hb:Bytes l) :
  PCall Tryz.prog 51 [.sl (.int .u8) l sp fl,.int .i64 at_] (.tup [insV (dI l at_),.int .i64 (dN l at_),.int .i64 (dE l at_)]):=by
 refine pcall_of' (c:=bodyOf Tryz.f51) (fn:=Tryz.f51) (by kernel_rfl) (by kernel_rfl) (by kernel_rfl) (by kernel_rfl) ?_
 refine AWP_headE (cx:=cx51) rfl rfl cx51_ok 4 (by kernel_rfl) (decXPre_eq l sp fl at_) ?_
 refine all_t (decide_eq_true (by omega)) ⟨fun he=>?_,fun he=>?_⟩
 ·have key:dI l at_=zeroI∧dN l at_=0∧dE l at_=uE l at_:=by
   unfold uE at he ⊢
   unfold dI dN dE
   cases ho:outOf l at_
   ·rw [ho] at he
    cases hs:shortOf l at_
    ·rw [hs] at he; cases he
    ·exact ⟨rfl,rfl,rfl⟩
   ·exact ⟨rfl,rfl,rfl⟩
  obtain ⟨a1,a2,a3⟩:=key
  refine ⟨.inl rfl,?_⟩
  show answerV _ _ _ _=some _
  rw [a1,a2,a3]
  kernel_rfl
 ·have ho:outOf l at_=false∧shortOf l at_=false:=by
   unfold uE at he
   cases ho:outOf l at_
   ·rw [ho] at he
    cases hs:shortOf l at_
    ·exact ⟨rfl,rfl⟩
    ·rw [hs] at he; cases he
   ·rw [ho] at he; cases he
  obtain ⟨ho,hs⟩:=ho
  have g1:0≤at_∧at_≤l.length:=by
   simp only [outOf,Bool.or_eq_false_iff,decide_eq_false_iff_not] at ho
   omega
  have g2:at_+4≤l.length:=by
   simp only [shortOf,decide_eq_false_iff_not] at hs
   rw [wrap_i64 (by omega) (by omega)] at hs
   omega
  have hw:=w4_sum hb g1.1 g2 hl
  obtain ⟨r0,r1⟩:=sum4_rng hb at_.toNat
  have hu:uV l at_=sum4 l at_.toNat:=by
   unfold uV
   rw [ho,hs]
   show numL (sub l at_.toNat (at_.toNat+4))=_
   rw [sub4 (by omega)]
   exact num4 (bytes_getD hb _) (bytes_getD hb _) (bytes_getD hb _) (bytes_getD hb _)
  have a1:dI l at_=decI (sum4 l at_.toNat):=by unfold dI; rw [ho,hs,hw]; rfl
  have a2:dN l at_=cond (decOk (sum4 l at_.toNat)) 4 0:=by unfold dN; rw [ho,hs,hw]; rfl
  have a3:dE l at_=cond (decOk (sum4 l at_.toNat)) 0 22:=by unfold dE; rw [ho,hs,hw]; rfl
  have hwr:IntKind.wrap IntKind.u32 (uV l at_)=sum4 l at_.toNat:=by rw [hu,wrap_u32]; omega
  show AWP _ _ _ _ _ _
  refine AWP.less (s:=[(4,.ptr 0 0),(5,.int .i64 0),(6,.int .i64 0),(9,.int .u32 (sum4 l at_.toNat)),(10,.sl rowXE rowsX [] .ro)]) (Fits.tle ⟨rfl,rfl,rfl,congrArg (V.int .u32) hwr,rfl,trivial⟩) ?_
  rw [a1,a2,a3]
  exact decX_loop (sum4 l at_.toNat).toNat (by omega) _ (by omega)
theorem decXS_ok:Sound Tryz.prog 51 decXS:=by
 intro args out h
 unfold decXS at h
 split at h
 rotate_left
 ·cases h
 rename_i l sp fl at_
 obtain ⟨h1,ha⟩:=req_run h
 obtain ⟨h2,hc⟩:=req_run ha
 simp only [Tree.run,Option.some.injEq] at hc
 subst hc
 exact decX_ok l sp fl at_ (of_decide_eq_true h1) (bytesB_to h2)
end Go.Rj

namespace Go.Ra
open Go Go.Ab Go.Proofs
noncomputable def memC:Tabs:={ mtab:=[(67,thereM),(31,setPM),(32,setRM)] }
theorem memC_ok:memC.Ok Tryz.prog:=⟨.nil _,.cons thereM_ok (.cons setPM_ok (.cons setRM_ok fun p h=>by cases h)),.nil _,fun p h=>by cases h⟩
noncomputable def memD_ps:List Fi:=[⟨66,Tryz.f66,[0,1,4,5,6],[],0,[]⟩]
theorem memD_ps_ok:FisOk Tryz.prog memD_ps:=⟨⟨by kernel_rfl,by kernel_rfl⟩,trivial⟩
noncomputable def memD_ms:List Fi:=[⟨9,Tryz.f9,[0],[],0,[]⟩,⟨33,Tryz.f33,[0,2],[],0,[]⟩,⟨29,Tryz.f29,[0,1,2,3,8,9,10,11,12,13,14,15,22,37,52,54,78,87],[],4,[]⟩,⟨69,Tryz.f69,[0,1,4,5,30,41,53],[],8,[]⟩,⟨30,Tryz.f30,[0,1,2,3,8,9,10,11,12,13,14,15,16,33,44,53,61,76,84,88,95],[103,105,106],4,[103]⟩]
theorem memD_ms_ok:FisOk Tryz.prog memD_ms:=⟨⟨by kernel_rfl,by kernel_rfl⟩,⟨by kernel_rfl,by kernel_rfl⟩,⟨by kernel_rfl,by kernel_rfl⟩,⟨by kernel_rfl,by kernel_rfl⟩,⟨by kernel_rfl,by kernel_rfl⟩,trivial⟩
noncomputable def memD (d:Nat):Tabs:=deep Tryz.prog memC memD_ps memD_ms d
theorem memD_ok (d:Nat):(memD d).Ok Tryz.prog:=deep_ok memC_ok memD_ps_ok memD_ms_ok d
noncomputable def cxWd:Cx:={ P:=Tryz.prog,n:=Tryz.f11.ntmps,tab:=(memD 4).tab,mtab:=(memD 4).mtab,rtab:=(memD 4).rtab,refs:=[],keeps:=[0,1,4,5,6,7] }
theorem cxWd_ok:CxOk cxWd:=memD_ok 4
noncomputable abbrev Bwd:Code:=bodyOf Tryz.f11
def wdPg (r:Int) (l:List Int):O:=.obj (.page 1 .u8 l) [.int .i64 r]
def wdHeap (A B C D E:List Int):List O:=[.obj (.map [1,2,16,17,32]) [.ptr 3 0,.ptr 4 0,.ptr 11 0,.ptr 12 0,.ptr 19 0],.cells [.bool true,.mp 0] 64,.cells [.ref 22 3 0 5,.int .i64 0] 52,
 wdPg 5 A,wdPg 5 B,newPg A,.cells (wRow 1 5 5) (54+4294967296),.dead,newPg B,.cells (wRow 2 5 8) (54+4294967296),.dead,wdPg 6 C,wdPg 6 D,newPg C,.cells (wRow 16 6 13) (54+4294967296),.dead,newPg D,.cells (wRow 17 6 16) (54+4294967296),.dead,wdPg 4 E,newPg E,
 .cells (wRow 32 4 20) (54+4294967296),.cells (wRow 1 5 5++(wRow 2 5 8++(wRow 16 6 13++(wRow 17 6 16++wRow 32 4 20)))) 0]
theorem wd_head (c d:V):(dcode cxWd (headN 7 Bwd) (initT 0 [c,d]) []).run.map (fun s=>(s.1,keep [0,1,6,7] s.2.1,s.2.2)) =
  some (.normal,[(0,c),(1,d),(6,.ptr 1 0),(7,.ptr 2 0)],wdHeap zeros zeros zeros zeros zeros):=by kernel_rfl
def bothO (A B C D E:List Int):List O:=[.cells [.bool true,.mp 1] 64,.obj (.map [1,2,16,17,32]) [.ptr 2 0,.ptr 3 0,.ptr 4 0,.ptr 5 0,.ptr 6 0],wdPg 5 A,wdPg 5 B,wdPg 6 C,wdPg 6 D,wdPg 4 E,
 .cells [.ref 8 3 0 5,lastV] 52,.cells (wRow 1 5 9++(wRow 2 5 10++(wRow 16 6 11++(wRow 17 6 12++wRow 32 4 13)))) 0,newPg A,newPg B,newPg C,newPg D,newPg E]
def wdKeep:List Nat:=[1,0,3,4,11,12,19,2,22,5,8,13,16,20]
def wdK (k:Int) (l m P:List Int):List Int:=layL k 65536 m m.length (layL k 4096 l l.length P)
def wdL (l m A B C D E:List Int):List O:=bothO (wdK 1 l m A) (wdK 2 l m B) (wdK 16 l m C) (wdK 17 l m D) (wdK 32 l m E)
noncomputable def wdT (c d:V) (A B C D E:List Int):Option Res:=(((dcode cxWd (tailN 7 Bwd) [(0,c),(1,d),(6,.ptr 1 0),(7,.ptr 2 0)] (wdHeap A B C D E)).bind (answerM Tryz.prog Tryz.f11.results.toList)).bind (dropR 0 wdKeep)).fin
def setB (l:List Int):Bool:=decide (l.length≤8192) && l.all byteB
def wdC (L n:Bool) (r:Option Res):Option Res:=cond (true && L) (cond (true && n) (cond (true && (true && (true && L))) (cond (true && n) r none) none) none) none
def wdN (L:Bool) (r:Option Res):Option Res:=cond (true && L) (cond (true && (true && (true && L))) r none) none
def wdS1 (l A B C D E:List Int):Bool:=lens5 (layL 1 4096 l l.length A) (layL 2 4096 l l.length B) (layL 16 4096 l l.length C) (layL 17 4096 l l.length D) (layL 32 4096 l l.length E)
def wdOk (l m A B C D E:List Int):Option Res:=some (.ok (.tup [.ptr 0 0,.ptr 7 0]) (wdL l m A B C D E))
theorem wd_ss (l sp m sq:List Int) (fl fm:Fl) (A B C D E:List Int):wdT (.sl (.int .u8) l sp fl) (.sl (.int .u8) m sq fm) A B C D E =
  wdC (lens5 A B C D E) (setB l) (wdC (wdS1 l A B C D E) (setB m) (wdOk l m A B C D E)):=by kernel_rfl
theorem wd_ns (m sq:List Int) (fm:Fl) (A B C D E:List Int):wdT (.val (.slice none 0 0)) (.sl (.int .u8) m sq fm) A B C D E =
  wdN (lens5 A B C D E) (wdC (lens5 A B C D E) (setB m) (wdOk [] m A B C D E)):=by kernel_rfl
theorem wd_sn (l sp:List Int) (fl:Fl) (A B C D E:List Int):wdT (.sl (.int .u8) l sp fl) (.val (.slice none 0 0)) A B C D E =
  wdC (lens5 A B C D E) (setB l) (wdN (wdS1 l A B C D E) (wdOk l [] A B C D E)):=by kernel_rfl
theorem wd_nn (A B C D E:List Int):wdT (.val (.slice none 0 0)) (.val (.slice none 0 0)) A B C D E =
  wdN (lens5 A B C D E) (wdN (lens5 A B C D E) (wdOk [] [] A B C D E)):=by kernel_rfl
def wdArg:V→Option (List Int)
 | .sl (.int .u8) l _ _=>some l
 | .val (.slice none 0 0)=>some []
 | _=>none
theorem wdArg_spec {v:V} {l:List Int} (h:wdArg v=some l):(∃ sp fl,v = .sl (.int .u8) l sp fl)∨(v = .val (.slice none 0 0)∧l=[]):=by
 unfold wdArg at h
 split at h
 ·cases h; exact .inl ⟨_,_,rfl⟩
 ·cases h; exact .inr ⟨rfl,rfl⟩
 ·cases h
theorem zeros_len:zeros.length=4096:=List.length_replicate
theorem lens_zeros:lens5 zeros zeros zeros zeros zeros=true:=by
 have h:pgB zeros=true:=by
  unfold pgB
  rw [zeros_len,Bool.and_eq_true_iff]
  refine ⟨rfl,?_⟩
  unfold zeros
  rw [List.all_replicate]
  rfl
 unfold lens5
 rw [h]
 rfl
theorem wd_run {c d:V} {l m:List Int} (hc:wdArg c=some l) (hd:wdArg d=some m) (h1:setB l=true) (h2:setB m=true) {A B C D E:List Int} (hl:lens5 A B C D E=true) :
  wdT c d A B C D E=wdOk l m A B C D E:=by
 have hs:wdS1 l A B C D E=true:=lens5_layL _ _ (Bool.and_eq_true_iff.1 h1).2 hl _
 rcases wdArg_spec hc with ⟨sp,fl,rfl⟩ | ⟨rfl,rfl⟩ <;> rcases wdArg_spec hd with ⟨sq,fm,rfl⟩ | ⟨rfl,rfl⟩
 ·exact (wd_ss l sp m sq fl fm A B C D E).trans (by rw [hl,hs,h1,h2]; rfl)
 ·exact (wd_sn l sp fl A B C D E).trans (by rw [hl,hs,h1]; rfl)
 ·exact (wd_ns m sq fm A B C D E).trans (by rw [hl,h2]; rfl)
 ·rw [wd_nn,hl]; rfl
def worldD:MSpec:=fun args H=>match args,H with
 | [c,d],[]=>match wdArg c,wdArg d with
  | some l,some m=>.req (setB l && setB m) (.leaf (.ok (.tup [.ptr 0 0,.ptr 7 0]) (wdL l m zeros zeros zeros zeros zeros)))
  | _,_=>.fail
 | _,_=>.fail
theorem worldD_ok:MSound Tryz.prog 11 worldD:=by
 intro args H out h
 unfold worldD at h
 split at h
 rotate_left
 ·cases h
 rename_i c d
 split at h
 rotate_left
 ·cases h
 rename_i l m hc hd
 obtain ⟨h0,h⟩:=req_run h
 cases h
 obtain ⟨h1,h2⟩:=Bool.and_eq_true_iff.1 h0
 have e:=wd_run hc hd h1 h2 lens_zeros
 unfold wdT at e
 rw [Tree.fin_run] at e
 obtain ⟨r0,e1,e2⟩:=bind_run e
 refine mcall_drop (H:=[]) (r:=r0) (κ:=wdKeep) ?_ e2
 obtain ⟨s,g1,g2⟩:=bind_run e1
 refine mcall_of' (c:=Bwd) (fn:=Tryz.f11) (by kernel_rfl) (by kernel_rfl) (by kernel_rfl) (by kernel_rfl) ?_
 refine AWP_headK (cx:=cxWd) rfl rfl cxWd_ok 7 [0,1,6,7] (by kernel_rfl) (wd_head c d) ?_
 exact AWP_run (cx:=cxWd) rfl rfl cxWd_ok g1 (answerM_post g2)
theorem lens5_wd {l m:List Int} (hl:setB l=true) (hm:setB m=true) {A B C D E:List Int} (h:lens5 A B C D E=true):lens5 (wdK 1 l m A) (wdK 2 l m B) (wdK 16 l m C) (wdK 17 l m D) (wdK 32 l m E)=true:=lens5_layL _ _ (Bool.and_eq_true_iff.1 hm).2 (lens5_layL _ _ (Bool.and_eq_true_iff.1 hl).2 h _) _
end Go.Ra

namespace Go.Ra
open Go Go.Ab Go.Proofs
noncomputable def cx159:Cx:={ P:=Tryz.prog,n:=36,tab:=[],mtab:=[],refs:=[],keeps:=[0,1,4,5,6,7,8,10,25,31] }
def wdRound (a b h l i:Int):Tree St:=
 (.br (decide (0≤i)) (.br (decide (0≤IntKind.wrap IntKind.u64 i)) (.br (IntKind.wrap IntKind.u64 ↑(BitVec.toNat (BitVec.ofInt 64 (Int.fdiv b (2 ^ Min.min (Int.toNat (IntKind.wrap IntKind.u64 i)) 64)) &&& BitVec.ofInt 64 1)) == 1) (.br (decide (IntKind.wrap IntKind.u64 (IntKind.wrap IntKind.u64 (l*2 ^ 1)+a)<a)) (.leaf (.normal,[(0,(.int .u64 a)),(1,(.int .u64 b)),(6,(.int .u64 (IntKind.wrap IntKind.u64 (IntKind.wrap IntKind.u64 ↑(BitVec.toNat (BitVec.ofInt 64 (IntKind.wrap IntKind.u64 (h*2 ^ 1)) ||| BitVec.ofInt 64 (Int.fdiv l (2 ^ 63))))+1)))),(7,(.int .u64 (IntKind.wrap IntKind.u64 (IntKind.wrap IntKind.u64 (l*2 ^ 1)+a)))),(8,(.int .i64 (IntKind.wrap IntKind.i64 (i - 1)))),(10,(.bool true)),(25,(.bool true)),(31,(.bool true))],[])) (.leaf (.normal,[(0,(.int .u64 a)),(1,(.int .u64 b)),(6,(.int .u64 (IntKind.wrap IntKind.u64 ↑(BitVec.toNat (BitVec.ofInt 64 (IntKind.wrap IntKind.u64 (h*2 ^ 1)) ||| BitVec.ofInt 64 (Int.fdiv l (2 ^ 63))))))),(7,(.int .u64 (IntKind.wrap IntKind.u64 (IntKind.wrap IntKind.u64 (l*2 ^ 1)+a)))),(8,(.int .i64 (IntKind.wrap IntKind.i64 (i - 1)))),(10,(.bool true)),(25,(.bool true)),(31,(.bool false))],[]))) (.leaf (.normal,[(0,(.int .u64 a)),(1,(.int .u64 b)),(6,(.int .u64 (IntKind.wrap IntKind.u64 ↑(BitVec.toNat (BitVec.ofInt 64 (IntKind.wrap IntKind.u64 (h*2 ^ 1)) ||| BitVec.ofInt 64 (Int.fdiv l (2 ^ 63))))))),(7,(.int .u64 (IntKind.wrap IntKind.u64 (l*2 ^ 1)))),(8,(.int .i64 (IntKind.wrap IntKind.i64 (i - 1)))),(10,(.bool true)),(25,(.bool false))],[]))) .fail) (.leaf ((.exit 0),[(0,(.int .u64 a)),(1,(.int .u64 b)),(6,(.int .u64 h)),(7,(.int .u64 l)),(8,(.int .i64 i)),(10,(.bool false))],[])))
theorem wdRound_eq (a b h l i:Int):(dcode cx159 (cin (cin (c2 (c1 (tailN 1 (bodyOf Tryz.f159)))))) [(0,.int .u64 a),(1,.int .u64 b),(6,.int .u64 h),(7,.int .u64 l),(8,.int .i64 i)] []).run=(wdRound a b h l i).run:=
 (show (dcode cx159 (cin (cin (c2 (c1 (tailN 1 (bodyOf Tryz.f159)))))) [(0,.int .u64 a),(1,.int .u64 b),(6,.int .u64 h),(7,.int .u64 l),(8,.int .i64 i)] []).run=(wdRound a b h l i).out by kernel_rfl).trans (Tree.out_run _)
def wdEnd (h l:Int):Tree St:=
 (.leaf (.ret,[(4,(.int .u64 h)),(5,(.int .u64 l)),(6,(.int .u64 h)),(7,(.int .u64 l))],[]))
theorem wdEnd_eq (h l:Int):(dcode cx159 (tailN 2 (bodyOf Tryz.f159)) [(6,.int .u64 h),(7,.int .u64 l)] []).run=(wdEnd h l).run:=
 (show (dcode cx159 (tailN 2 (bodyOf Tryz.f159)) [(6,.int .u64 h),(7,.int .u64 l)] []).run=(wdEnd h l).out by kernel_rfl).trans (Tree.out_run _)
def hiS (h l:Int):Int:=IntKind.wrap .u64 (((BitVec.ofInt 64 (IntKind.wrap .u64 (h*2 ^ 1)) ||| BitVec.ofInt 64 (Int.fdiv l (2 ^ 63))).toNat:Nat):Int)
def loS (l:Int):Int:=IntKind.wrap .u64 (l*2 ^ 1)
def bitB (b i:Int):Bool:=IntKind.wrap .u64 (((BitVec.ofInt 64 (Int.fdiv b (2 ^ Min.min (Int.toNat (IntKind.wrap .u64 i)) 64)) &&& BitVec.ofInt 64 1).toNat:Nat):Int) == 1
def wStep (a b i:Int) (p:Int × Int):Int × Int:=
 cond (bitB b i) (cond (decide (IntKind.wrap .u64 (loS p.2+a)<a)) (IntKind.wrap .u64 (hiS p.1 p.2+1),IntKind.wrap .u64 (loS p.2+a)) (hiS p.1 p.2,IntKind.wrap .u64 (loS p.2+a))) (hiS p.1 p.2,loS p.2)
noncomputable def wN (a b:Int) (k:Nat):Int × Int:=Nat.rec (motive:=fun _=>Int × Int) (0,0) (fun i p=>wStep a b (63 - (i:Int)) p) k
theorem wN_succ (a b:Int) (k:Nat):wN a b (k+1)=wStep a b (63 - (k:Int)) (wN a b k):=rfl
noncomputable def wSt (a b:Int) (k:{ k:Nat // k≤64 }):T × List O:=([(0,.int .u64 a),(1,.int .u64 b),(6,.int .u64 (wN a b k.1).1),(7,.int .u64 (wN a b k.1).2),(8,.int .i64 (63 - (k.1:Int)))],[])
theorem wide_ok (a b:Int):PCall Tryz.prog 159 [.int .u64 a,.int .u64 b] (.tup [.int .u64 (wN a b 64).1,.int .u64 (wN a b 64).2]):=by
 refine pcall_of' (c:=bodyOf Tryz.f159) (fn:=Tryz.f159) (by kernel_rfl) (by kernel_rfl) (by kernel_rfl) (by kernel_rfl) ?_
 have eb:bodyOf Tryz.f159 = .seq (c1 (bodyOf Tryz.f159)) (.seq (c1 (tailN 0 (bodyOf Tryz.f159))) (.seq (.seq (c1 (c1 (tailN 1 (bodyOf Tryz.f159)))) (.block 0 (.loop (cin (cin (c2 (c1 (tailN 1 (bodyOf Tryz.f159))))))))) (tailN 2 (bodyOf Tryz.f159)))):=by kernel_rfl
 rw [eb]
 generalize hQ:(fun e' t H=>(e' = AEx.ret∨e' = .normal)∧answerV Tryz.prog Tryz.f159.results.toList H t=some (.tup [.int .u64 (wN a b 64).1,.int .u64 (wN a b 64).2]))=Q
 have hok:CxOk cx159:=cx0_ok rfl rfl
 refine AWP_seq (AWP_run (cx:=cx159) rfl rfl hok (s:=(.normal,[(0,.int .u64 a),(1,.int .u64 b),(4,.int .u64 0),(5,.int .u64 0)],[])) (by kernel_rfl) ?_)
 refine AWP_seq (AWP_run (cx:=cx159) rfl rfl hok (s:=(.normal,[(0,.int .u64 a),(1,.int .u64 b),(4,.int .u64 0),(5,.int .u64 0),(6,.int .u64 0),(7,.int .u64 0)],[])) (by kernel_rfl) ?_)
 refine AWP_seq (AWP_seq (AWP_run (cx:=cx159) rfl rfl hok (s:=(.normal,[(0,.int .u64 a),(1,.int .u64 b),(4,.int .u64 0),(5,.int .u64 0),(6,.int .u64 0),(7,.int .u64 0),(8,.int .i64 63)],[])) (by kernel_rfl) ?_))
 refine AWP_block ?_
 refine AWP.less (s:=(wSt a b ⟨0,Nat.zero_le _⟩).1) (Fits.tle ⟨rfl,rfl,rfl,rfl,rfl,trivial⟩) ?_
 refine AWP_rounds (cx:=cx159) (P:=Tryz.prog) (n:=36) rfl rfl hok (wSt a b) (fun i=>64 - i.1) ?_ ⟨0,Nat.zero_le _⟩
 rintro ⟨k,hk⟩
 refine Tree.all_run_eq (wdRound_eq a b (wN a b k).1 (wN a b k).2 (63 - (k:Int))) ?_
 have step:V.int .i64 (IntKind.wrap .i64 (63 - (k:Int) - 1))=V.int .i64 (63 - ((k+1:Nat):Int)):=by
  rw [wrap_i64 (by omega) (by omega)]
  exact congrArg (V.int .i64) (by omega)
 refine ⟨fun hge=>⟨fun hp=>⟨fun hb=>⟨fun hc=>?_,fun hc=>?_⟩,fun hb=>?_⟩,fun hp=>?_⟩,fun hlt=>?_⟩
 ·have hge:(0:Int)≤63 - k:=of_decide_eq_true hge
  have e:wN a b (k+1)=(IntKind.wrap .u64 (hiS (wN a b k).1 (wN a b k).2+1),IntKind.wrap .u64 (loS (wN a b k).2+a)):=by
   rw [wN_succ]
   unfold wStep
   rw [show bitB b (63 - (k:Int))=true from hb,cond_true,show decide (IntKind.wrap .u64 (loS (wN a b k).2+a)<a)=true from hc,cond_true]
  refine ⟨[],_,rfl,⟨k+1,by omega⟩,by show 64 - (k+1)<64 - k; omega,Fits.tle ⟨rfl,rfl,?_,?_,step,trivial⟩,rfl⟩
  ·show V.int .u64 _=V.int .u64 (wN a b (k+1)).1
   rw [e]
   rfl
  ·show V.int .u64 _=V.int .u64 (wN a b (k+1)).2
   rw [e]
   rfl
 ·have hge:(0:Int)≤63 - k:=of_decide_eq_true hge
  have e:wN a b (k+1)=(hiS (wN a b k).1 (wN a b k).2,IntKind.wrap .u64 (loS (wN a b k).2+a)):=by
   rw [wN_succ]
   unfold wStep
   rw [show bitB b (63 - (k:Int))=true from hb,cond_true,show decide (IntKind.wrap .u64 (loS (wN a b k).2+a)<a)=false from hc,cond_false]
  refine ⟨[],_,rfl,⟨k+1,by omega⟩,by show 64 - (k+1)<64 - k; omega,Fits.tle ⟨rfl,rfl,?_,?_,step,trivial⟩,rfl⟩
  ·show V.int .u64 _=V.int .u64 (wN a b (k+1)).1
   rw [e]
   rfl
  ·show V.int .u64 _=V.int .u64 (wN a b (k+1)).2
   rw [e]
   rfl
 ·have hge:(0:Int)≤63 - k:=of_decide_eq_true hge
  have e:wN a b (k+1)=(hiS (wN a b k).1 (wN a b k).2,loS (wN a b k).2):=by
   rw [wN_succ]
   unfold wStep
   rw [show bitB b (63 - (k:Int))=false from hb,cond_false]
  refine ⟨[],_,rfl,⟨k+1,by omega⟩,by show 64 - (k+1)<64 - k; omega,Fits.tle ⟨rfl,rfl,?_,?_,step,trivial⟩,rfl⟩
  ·show V.int .u64 _=V.int .u64 (wN a b (k+1)).1
   rw [e]
   rfl
  ·show V.int .u64 _=V.int .u64 (wN a b (k+1)).2
   rw [e]
   rfl
 ·exfalso
  have:(0:Int)≤IntKind.wrap IntKind.u64 (63 - (k:Int)):=by show (0:Int)≤(63 - (k:Int)) % 18446744073709551616; omega
  exact absurd this (of_decide_eq_false hp)
 ·have hlt:¬ (0:Int)≤63 - k:=of_decide_eq_false hlt
  have hk' : k=64:=by omega
  subst hk'
  refine ⟨[],_,rfl,?_⟩
  show AWP _ _ _ _ _ _
  refine AWP.less (s:=[(6,.int .u64 (wN a b 64).1),(7,.int .u64 (wN a b 64).2)]) (Fits.tle ⟨rfl,rfl,trivial⟩) ?_
  refine AWP_run (cx:=cx159) rfl rfl hok ((wdEnd_eq _ _).trans rfl) ?_
  subst hQ
  refine ⟨.inl rfl,?_⟩
  show answerV _ _ _ _=some _
  kernel_rfl
end Go.Ra

namespace Go.Ra
open Go Go.Ab Go.Proofs
noncomputable def wdF (a b:Int):Int × Int:=wN a b 64
theorem wdF_ok:Sound Tryz.prog 159 (wdP wdF):=by
 intro args out h
 unfold wdP at h
 split at h
 rotate_left
 ·cases h
 cases h
 exact wide_ok _ _
theorem bit1 {y:Int} (h0:0≤y) (h1:y<18446744073709551616):(((BitVec.ofInt 64 y &&& BitVec.ofInt 64 1).toNat:Nat):Int)=y % 2:=by
 obtain ⟨n,rfl⟩:=Int.eq_ofNat_of_zero_le h0
 have hn:n<2 ^ 64:=by omega
 rw [BitVec.toNat_and]
 have e1:(BitVec.ofInt 64 (n:Int)).toNat=n:=by
  rw [BitVec.ofInt_natCast,BitVec.toNat_ofNat,Nat.mod_eq_of_lt hn]
 have e2:(BitVec.ofInt 64 1).toNat=1:=rfl
 rw [e1,e2,Nat.and_one_is_mod]
 rfl
theorem wr_def (x:Int):IntKind.wrap .u64 x=x % 18446744073709551616:=rfl
theorem bitB_eq {b:Int} (h0:0≤b) (h1:b<18446744073709551616) {k:Nat} (hk:k<64):bitB b (63 - (k:Int))=(b / 2 ^ (63 - k) % 2 == 1):=by
 have e:Min.min (Int.toNat (IntKind.wrap .u64 (63 - (k:Int)))) 64=63 - k:=by
  rw [wr_def]
  omega
 have hp:(0:Int)≤2 ^ (63 - k):=Int.le_of_lt (Int.pow_pos (by decide))
 have n0:=Int.ediv_nonneg h0 hp
 have n1:=Int.ediv_le_self (2 ^ (63 - k)) h0
 unfold bitB
 rw [e,Int.fdiv_eq_ediv_of_nonneg _ hp,bit1 n0 (by omega),wr_def]
 have:b / 2 ^ (63 - k) % 2 % 18446744073709551616=b / 2 ^ (63 - k) % 2:=by omega
 rw [this]
theorem step_mod {a q q' l bit:Int} (hl:l=(a*q) % 18446744073709551616) (hq:q' = 2*q+bit) (hb:bit=0∨bit=1):((l*2 ^ 1) % 18446744073709551616+a*bit) % 18446744073709551616=(a*q') % 18446744073709551616:=by
 subst hl hq
 have e:a*(2*q+bit)=(a*q)*2+a*bit:=by
  rw [Int.mul_add,Int.mul_comm 2 q,Int.mul_assoc]
 rw [e]
 generalize a*q=z
 generalize a*bit=y
 omega
theorem wN_lo {a b:Int} (h0:0≤b) (h1:b<18446744073709551616):∀ k,k≤64→(wN a b k).2=(a*(b / 2 ^ (64 - k))) % 18446744073709551616
 | 0,_=>by
  have e:b / 2 ^ (64 - 0)=0:=Int.ediv_eq_zero_of_lt h0 (by omega)
  rw [e,Int.mul_zero]
  rfl
 | k+1,hk=>by
  have ih:=wN_lo (a:=a) h0 h1 k (by omega)
  have e1:64 - (k+1)=63 - k:=by omega
  have e2:64 - k=(63 - k)+1:=by omega
  rw [wN_succ,e1]
  rw [e2,Int.pow_succ,← Int.ediv_ediv_of_nonneg (Int.le_of_lt (Int.pow_pos (by decide)))] at ih
  have hb:=bitB_eq h0 h1 (k:=k) (by omega)
  generalize b / 2 ^ (63 - k)=q' at ih hb
  unfold wStep
  rw [hb]
  cases h:q' % 2 == 1
  ·have h:=ne_of_beq_false h
   have:=step_mod (bit:=0) ih (q' := q') (by omega) (.inl rfl)
   rw [Int.mul_zero,Int.add_zero] at this
   rw [cond_false,← this,loS,wr_def]
   omega
  ·have h:=eq_of_beq h
   have:=step_mod (bit:=1) ih (q' := q') (by omega) (.inr rfl)
   rw [Int.mul_one] at this
   rw [cond_true,← this]
   cases decide (IntKind.wrap .u64 (loS (wN a b k).2+a)<a) <;> rfl
theorem or_bit {e c:Int} (h0:0≤e) (h1:e<18446744073709551616) (he:e % 2=0) (hc:c=0∨c=1):IntKind.wrap .u64 (((BitVec.ofInt 64 e ||| BitVec.ofInt 64 c).toNat:Nat):Int)=e+c:=by
 obtain ⟨n,rfl⟩:=Int.eq_ofNat_of_zero_le h0
 have e1:(BitVec.ofInt 64 (n:Int)).toNat=n:=by
  rw [BitVec.ofInt_natCast,BitVec.toNat_ofNat,Nat.mod_eq_of_lt (by omega)]
 have key:∀ m:Nat,m<2→(BitVec.ofInt 64 (n:Int) ||| BitVec.ofInt 64 (m:Int)).toNat=n+m:=by
  intro m hm
  have e2:(BitVec.ofInt 64 (m:Int)).toNat=m:=by
   rw [BitVec.ofInt_natCast,BitVec.toNat_ofNat,Nat.mod_eq_of_lt (by omega)]
  have e3:n=2 ^ 1*(n / 2):=by omega
  rw [BitVec.toNat_or,e1,e2,e3,← Nat.two_pow_add_eq_or_of_lt (by simpa using hm)]
 rw [wr_def]
 rcases hc with rfl | rfl
 ·rw [show (0:Int)=((0:Nat):Int) from rfl,key 0 (by decide)]
  omega
 ·rw [show (1:Int)=((1:Nat):Int) from rfl,key 1 (by decide)]
  omega
theorem hiS_eq {h l:Int} (h0:0≤h) (h1:h<9223372036854775808) (l0:0≤l) (l1:l<18446744073709551616):hiS h l=2*h+l / 9223372036854775808:=by
 unfold hiS
 have e:IntKind.wrap .u64 (h*2 ^ 1)=2*h:=by
  rw [wr_def]
  show (h*2) % 18446744073709551616=_
  omega
 have e2:Int.fdiv l (2 ^ 63)=l / 9223372036854775808:=Int.fdiv_eq_ediv_of_nonneg _ (by decide)
 rw [e,e2,or_bit (by omega) (by omega) (by omega) (by omega)]
theorem step_hi {z a h l t u:Int} (hz:z=18446744073709551616*h+l) (hl:l*2=18446744073709551616*t+u) (u0:0≤u) (u1:u<18446744073709551616) (a0:0≤a) (a1:a<18446744073709551616) (hb:2*z+a<340282366920938463463374607431768211456) (h0:0≤2*h+t) :
  cond (decide ((u+a) % 18446744073709551616<a)) ((2*h+t+1) % 18446744073709551616) (2*h+t)=(2*z+a) / 18446744073709551616:=by
 by_cases hc:18446744073709551616≤u+a
 ·have e:(u+a) % 18446744073709551616=u+a - 18446744073709551616:=by omega
  rw [e,decide_eq_true (by omega),cond_true]
  omega
 ·have e:(u+a) % 18446744073709551616=u+a:=by omega
  rw [e,decide_eq_false (by omega),cond_false]
  omega
theorem wN_hi {a b:Int} (a0:0≤a) (a1:a<18446744073709551616) (h0:0≤b) (h1:b<18446744073709551616):∀ k,k≤64→(wN a b k).1=(a*(b / 2 ^ (64 - k))) / 18446744073709551616
 | 0,_=>by
  have e:b / 2 ^ (64 - 0)=0:=Int.ediv_eq_zero_of_lt h0 (by omega)
  rw [e,Int.mul_zero]
  rfl
 | k+1,hk=>by
  have ih:=wN_hi a0 a1 h0 h1 k (by omega)
  have lo:=wN_lo (a:=a) h0 h1 k (by omega)
  have e1:64 - (k+1)=63 - k:=by omega
  have e2:64 - k=(63 - k)+1:=by omega
  have hq:0≤b / 2 ^ (64 - k)∧b / 2 ^ (64 - k)<9223372036854775808:=by
   refine ⟨Int.ediv_nonneg h0 (Int.le_of_lt (Int.pow_pos (by decide))),?_⟩
   rw [e2,Int.pow_succ,Int.mul_comm,← Int.ediv_ediv_of_nonneg (by decide)]
   have:=Int.ediv_le_self (2 ^ (63 - k)) (show 0≤b / 2 by omega)
   omega
  rw [wN_succ,e1]
  have hqq:b / 2 ^ (64 - k)=b / 2 ^ (63 - k) / 2:=by
   rw [e2,Int.pow_succ,← Int.ediv_ediv_of_nonneg (Int.le_of_lt (Int.pow_pos (by decide)))]
  rw [hqq] at ih lo hq
  have hb:=bitB_eq h0 h1 (k:=k) (by omega)
  generalize b / 2 ^ (63 - k)=q' at ih lo hb hq
  have hz0:0≤a*(q' / 2):=Int.mul_nonneg a0 hq.1
  have hz1:a*(q' / 2)<18446744073709551616*9223372036854775808:=by
   have x1:=Int.mul_le_mul_of_nonneg_left (show q' / 2≤9223372036854775807 by omega) a0
   omega
  have hz2:a*q' = 2*(a*(q' / 2))+a*(q' % 2):=by
   have:q' = 2*(q' / 2)+q' % 2:=by omega
   calc a*q' = a*(2*(q' / 2)+q' % 2):=by rw [← this]
    _=_:=by rw [Int.mul_add,Int.mul_left_comm]
  have hz3:a*q' < 340282366920938463463374607431768211456:=by
   have x1:=Int.mul_le_mul_of_nonneg_left (show q' ≤ 18446744073709551615 by omega) a0
   omega
  have hh:=hiS_eq (h:=(wN a b k).1) (l:=(wN a b k).2) (by rw [ih]; omega) (by rw [ih]; omega) (by rw [lo]; omega) (by rw [lo]; omega)
  have hl:loS (wN a b k).2=(wN a b k).2*2 % 18446744073709551616:=rfl
  unfold wStep
  rw [hz2] at hz3
  rw [hb,hh,hl,hz2]
  rw [ih,lo] at *
  generalize a*(q' / 2)=z at *
  cases h:q' % 2 == 1
  ·have h:=ne_of_beq_false h
   have h:q' % 2=0:=by omega
   rw [h,Int.mul_zero,cond_false]
   show 2*(z / 18446744073709551616)+z % 18446744073709551616 / 9223372036854775808=_
   omega
  ·have h:=eq_of_beq h
   rw [h,Int.mul_one] at hz3
   rw [h,Int.mul_one,cond_true,wr_def,wr_def]
   have:=step_hi (z:=z) (a:=a) (h:=z / 18446744073709551616) (l:=z % 18446744073709551616) (t:=z % 18446744073709551616 / 9223372036854775808) (u:=z % 18446744073709551616*2 % 18446744073709551616) (by omega) (by omega) (by omega) (by omega) a0 a1 (by omega) (by omega)
   rw [← this]
   cases decide ((z % 18446744073709551616*2 % 18446744073709551616+a) % 18446744073709551616<a) <;> rfl
theorem wdF_wide:WdOk wdF:=by
 intro x y hx hy
 obtain ⟨x0,x1⟩:=rng_spec hx
 obtain ⟨h0,h1⟩:=rng_spec hy
 have h:=wN_lo (a:=x) h0 h1 64 (Nat.le_refl _)
 have g:=wN_hi x0 x1 h0 h1 64 (Nat.le_refl _)
 rw [Nat.sub_self,Int.pow_zero,Int.ediv_one] at h g
 exact ⟨g,h⟩
end Go.Ra
