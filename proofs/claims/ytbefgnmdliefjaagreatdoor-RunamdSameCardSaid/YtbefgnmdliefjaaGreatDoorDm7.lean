/-
  An instruction's bytes, kind by kind. Conditions: none.
-/
import Derived.Test.YtbefgnmdliefjaaGreatDoorPk14
set_option linter.unusedVariables false
set_option linter.unusedSimpArgs false
namespace Go.Amd
open Go Go.Ab Go.Proofs
def w8 (x:Int):Int:=IntKind.wrap .u8 x
def or8 (a b:Int):Int:=IntKind.wrap .u8 ↑(BitVec.toNat (BitVec.ofInt 8 a ||| BitVec.ofInt 8 b))
def ori (a b:Int):Int:=IntKind.wrap .i64 ↑(BitVec.toNat (BitVec.ofInt 64 a ||| BitVec.ofInt 64 b))
def andi (a b:Int):Int:=IntKind.wrap .i64 ↑(BitVec.toNat (BitVec.ofInt 64 a &&& BitVec.ofInt 64 b))
def wi (x:Int):Int:=IntKind.wrap .i64 x
def hi4 (r k:Int):Int:=w8 (w8 (Int.fdiv r (2 ^ 3))*k)
def rexM (R reg rm:Int):Int:=or8 R (or8 (hi4 reg 4) (hi4 rm 1))
def mrB (m reg rm:Int):Int:=w8 (ori (ori (wi (m*2 ^ 6)) (wi (andi reg 7*2 ^ 3))) (andi rm 7))
def imB (n:Int) (k:Nat):Int:=w8 (Int.fdiv n (2 ^ k))
def im1 (n:Int):List Int:=[imB n 0]
def im4 (n:Int):List Int:=[imB n 0,imB n 8,imB n 16,imB n 24]
def im8 (n:Int):List Int:=[imB n 0,imB n 8,imB n 16,imB n 24,imB n 32,imB n 40,imB n 48,imB n 56]
def leafB (l:List Int):Tree V:=.leaf (.sl (.int .u8) l [] .ro)
def W0 (fsl:List Int) (R:Int) (op tail:List Int):Tree V:=.br (R != 0) (leafB (fsl++[or8 64 R]++op++tail)) (leafB (fsl++op++tail))
def W1 (fsl:List Int) (R:Int) (op tail:List Int):Tree V:=leafB (fsl++[or8 64 (or8 R 8)]++op++tail)
def W2 (fsl:List Int) (R:Int) (op tail:List Int):Tree V:=leafB (fsl++[or8 64 R]++op++tail)
def sibR (R index b:Int):Int:=or8 R (or8 (hi4 index 2) (hi4 b 1))
def sibH (K:Int→List Int→Tree V) (R:Int) (tail imm:List Int) (b index d:Int):Tree V:=
 .br (decide (1<d)) (.br (decide (2<d)) (.br (decide (4<d)) (.br (decide (8<d)) (.br (decide (16<d)) .fail (K (sibR R index b) (tail++[mrB 4 index b]++imm))) (K (sibR R index b) (tail++[mrB 3 index b]++imm)))
  (K (sibR R index b) (tail++[mrB 2 index b]++imm))) (K (sibR R index b) (tail++[mrB 1 index b]++imm))) (K (sibR R index b) (tail++[mrB 0 index b]++imm))
def withH (K:Int→List Int→Tree V) (m a b c d:Int) (imm:List Int):Tree V:=
 .br (c == 16) (sibH K (rexM 0 a 4) [mrB m a 4] imm b 4 d) (sibH K (rexM 0 a 4) [mrB m a 4] imm b c d)
def modH (K:Int→List Int→Tree V) (m a b c d:Int) (imm:List Int):Tree V:=
 .br (c == 16) (.br (andi b 7 != 4) (K (rexM 0 a b) ([mrB m a b]++imm)) (withH K m a b c d imm)) (withH K m a b c d imm)
def longH (K:Int→List Int→Tree V) (a b c d n:Int):Tree V:=
 .br (fitsF n) (modH K 1 a b c d (im1 n)) (modH K 2 a b c d (im4 n))
def memH (K:Int→List Int→Tree V) (a b c d n:Int):Tree V:=
 .br (b == 17) (K (rexM 0 a 5) ([mrB 0 a 5]++im4 n)) (.br (n == 0) (.br (andi b 7 != 5) (modH K 0 a b c d []) (longH K a b c d n)) (longH K a b c d n))
abbrev BodyT:=Int→List Int→Int→Int→Int→Int→Int→Int→Tree V
def kindsB:List ((Int × Int × Bool) × BodyT):=[
 ((0,0,false),fun _dg hd l _a _b _c _d _n=>W0 [] 0 (hd++[l]) []),
 ((0,1,false),fun _dg hd l _a _b _c _d _n=>W1 [] 0 (hd++[l]) []),
 ((1,0,false),fun _dg hd l a _b _c _d _n=>W0 [] (or8 0 (hi4 a 1)) (hd++[w8 (l+w8 (andi a 7))]) []),
 ((2,1,false),fun _dg hd l a _b _c _d n=>W1 [] (or8 0 (hi4 a 1)) (hd++[w8 (l+w8 (andi a 7))]) (im8 n)),
 ((3,0,false),fun dg hd l a _b _c _d _n=>W0 [] (rexM 0 (wi dg) a) (hd++[l]) [mrB 3 (wi dg) a]),
 ((3,1,false),fun dg hd l a _b _c _d _n=>W1 [] (rexM 0 (wi dg) a) (hd++[l]) [mrB 3 (wi dg) a]),
 ((4,1,false),fun dg hd l a _b _c _d n=>W1 [] (rexM 0 (wi dg) a) (hd++[l]) ([mrB 3 (wi dg) a]++im4 n)),
 ((5,1,false),fun dg hd l a _b _c _d n=>W1 [] (rexM 0 (wi dg) a) (hd++[l]) ([mrB 3 (wi dg) a]++im1 n)),
 ((6,1,false),fun dg hd l a _b _c _d n=>.br (fitsF n) (W1 [] (rexM 0 (wi dg) a) (hd++[l]) ([mrB 3 (wi dg) a]++im1 n)) (W1 [] (rexM 0 (wi dg) a) (hd++[129]) ([mrB 3 (wi dg) a]++im4 n))),
 ((7,1,false),fun _dg hd l a b _c _d _n=>W1 [] (rexM 0 b a) (hd++[l]) [mrB 3 b a]),
 ((8,1,false),fun _dg hd l a b _c _d _n=>W1 [] (rexM 0 a b) (hd++[l]) [mrB 3 a b]),
 ((8,1,true),fun _dg hd l a b _c d _n=>W1 [] (rexM 0 a b) (hd++[(w8 (l+w8 d))]) [mrB 3 a b]),
 ((9,0,false),fun _dg hd l a b c d n=>memH (fun R t=>W0 [] R (hd++[l]) t) a b c d n),
 ((9,1,false),fun _dg hd l a b c d n=>memH (fun R t=>W1 [] R (hd++[l]) t) a b c d n),
 ((9,2,false),fun _dg hd l a b c d n=>memH (fun R t=>W2 [] R (hd++[l]) t) a b c d n),
 ((10,1,false),fun _dg hd l a _b _c _d n=>W1 [100] (rexM 0 a 4) (hd++[l]) ([mrB 0 a 4]++[37]++im4 n)),
 ((11,0,false),fun _dg hd l _a _b _c _d n=>W0 [] 0 (hd++[l]) (im4 n)),
 ((11,0,true),fun _dg hd l _a _b _c d n=>W0 [] 0 (hd++[(w8 (l+w8 d))]) (im4 n)),
 ((12,0,false),fun _dg hd l _a _b _c _d n=>W0 [] 0 (hd++[l]) (im1 n)),
 ((12,0,true),fun _dg hd l _a _b _c d n=>W0 [] 0 (hd++[(w8 (l+w8 d))]) (im1 n))]
def kindOf (x:RowT):Int × Int × Bool:=(formR x,x.2.1,condR x)
def kindOk (x:RowT):Bool:=(kindsB.map (·.1)).contains (kindOf x)
end Go.Amd
