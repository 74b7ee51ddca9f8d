/-
  An instruction's bytes, kind by kind. Conditions: none.
-/
import Derived.Test.YtbefgnmdliefjaaGreatDoorPk14
set_option linter.unusedVariables false
set_option linter.unusedSimpArgs false
namespace Go.Amd
open Go Go.Ab Go.Proofs
def w8 (x:Int):Int:=IntKind.wrap .u8 x
def bX (a b:Int):Int:=IntKind.wrap .u8 ↑(BitVec.toNat (BitVec.ofInt 8 a ||| BitVec.ofInt 8 b))
def ori (a b:Int):Int:=IntKind.wrap .i64 ↑(BitVec.toNat (BitVec.ofInt 64 a ||| BitVec.ofInt 64 b))
def cO (a b:Int):Int:=IntKind.wrap .i64 ↑(BitVec.toNat (BitVec.ofInt 64 a &&& BitVec.ofInt 64 b))
def wi (x:Int):Int:=IntKind.wrap .i64 x
def gD (r k:Int):Int:=w8 (w8 (Int.fdiv r (2 ^ 3))*k)
def aS (R reg rm:Int):Int:=bX R (bX (gD reg 4) (gD rm 1))
def aG (m reg rm:Int):Int:=w8 (ori (ori (wi (m*2 ^ 6)) (wi (cO reg 7*2 ^ 3))) (cO rm 7))
def cS (n:Int) (k:Nat):Int:=w8 (Int.fdiv n (2 ^ k))
def dR (n:Int):List Int:=[cS n 0]
def bV (n:Int):List Int:=[cS n 0,cS n 8,cS n 16,cS n 24]
def qF (n:Int):List Int:=[cS n 0,cS n 8,cS n 16,cS n 24,cS n 32,cS n 40,cS n 48,cS n 56]
def NI (l:List Int):Tree V:=.leaf (.sl (.int .u8) l [] .ro)
def W0 (a:List Int) (R:Int) (b tail:List Int):Tree V:=.br (R != 0) (NI (a++[bX 64 R]++b++tail)) (NI (a++b++tail))
def W1 (a:List Int) (R:Int) (b tail:List Int):Tree V:=NI (a++[bX 64 (bX R 8)]++b++tail)
def W2 (a:List Int) (R:Int) (b tail:List Int):Tree V:=NI (a++[bX 64 R]++b++tail)
def jE (R index b:Int):Int:=bX R (bX (gD index 2) (gD b 1))
def aOO (K:Int->List Int->Tree V) (R:Int) (tail a:List Int) (b index d:Int):Tree V:=
 .br (decide (1<d)) (.br (decide (2<d)) (.br (decide (4<d)) (.br (decide (8<d)) (.br (decide (16<d)) .fail (K (jE R index b) (tail++[aG 4 index b]++a))) (K (jE R index b) (tail++[aG 3 index b]++a)))
  (K (jE R index b) (tail++[aG 2 index b]++a))) (K (jE R index b) (tail++[aG 1 index b]++a))) (K (jE R index b) (tail++[aG 0 index b]++a))
def aMQ (K:Int->List Int->Tree V) (m a b c d:Int) (e:List Int):Tree V:=
 .br (c==16) (aOO K (aS 0 a 4) [aG m a 4] e b 4 d) (aOO K (aS 0 a 4) [aG m a 4] e b c d)
def ZT (K:Int->List Int->Tree V) (m a b c d:Int) (e:List Int):Tree V:=
 .br (c==16) (.br (cO b 7 != 4) (K (aS 0 a b) ([aG m a b]++e)) (aMQ K m a b c d e)) (aMQ K m a b c d e)
def aMW (K:Int->List Int->Tree V) (a b c d n:Int):Tree V:=
 .br (dC n) (ZT K 1 a b c d (dR n)) (ZT K 2 a b c d (bV n))
def ZF (K:Int->List Int->Tree V) (a b c d n:Int):Tree V:=
 .br (b==17) (K (aS 0 a 5) ([aG 0 a 5]++bV n)) (.br (n==0) (.br (cO b 7 != 5) (ZT K 0 a b c d []) (aMW K a b c d n)) (aMW K a b c d n))
abbrev ag6:=Int->List Int->Int->Int->Int->Int->Int->Int->Tree V
def aaZ:List ((Int × Int × Bool) × ag6):=[
 ((0,0,false),fun f e l k h g i j=>W0 [] 0 (e++[l]) []),
 ((0,1,false),fun f e l k h g i j=>W1 [] 0 (e++[l]) []),
 ((1,0,false),fun f e l a h g i j=>W0 [] (bX 0 (gD a 1)) (e++[w8 (l+w8 (cO a 7))]) []),
 ((2,1,false),fun f e l a h g i n=>W1 [] (bX 0 (gD a 1)) (e++[w8 (l+w8 (cO a 7))]) (qF n)),
 ((3,0,false),fun dg e l a h g i j=>W0 [] (aS 0 (wi dg) a) (e++[l]) [aG 3 (wi dg) a]),
 ((3,1,false),fun dg e l a h g i j=>W1 [] (aS 0 (wi dg) a) (e++[l]) [aG 3 (wi dg) a]),
 ((4,1,false),fun dg e l a h g i n=>W1 [] (aS 0 (wi dg) a) (e++[l]) ([aG 3 (wi dg) a]++bV n)),
 ((5,1,false),fun dg e l a h g i n=>W1 [] (aS 0 (wi dg) a) (e++[l]) ([aG 3 (wi dg) a]++dR n)),
 ((6,1,false),fun dg e l a h g i n=>.br (dC n) (W1 [] (aS 0 (wi dg) a) (e++[l]) ([aG 3 (wi dg) a]++dR n)) (W1 [] (aS 0 (wi dg) a) (e++[129]) ([aG 3 (wi dg) a]++bV n))),
 ((7,1,false),fun f e l a b g i j=>W1 [] (aS 0 b a) (e++[l]) [aG 3 b a]),
 ((8,1,false),fun f e l a b g i j=>W1 [] (aS 0 a b) (e++[l]) [aG 3 a b]),
 ((8,1,true),fun f e l a b g d j=>W1 [] (aS 0 a b) (e++[(w8 (l+w8 d))]) [aG 3 a b]),
 ((9,0,false),fun f e l a b c d n=>ZF (fun R t=>W0 [] R (e++[l]) t) a b c d n),
 ((9,1,false),fun f e l a b c d n=>ZF (fun R t=>W1 [] R (e++[l]) t) a b c d n),
 ((9,2,false),fun f e l a b c d n=>ZF (fun R t=>W2 [] R (e++[l]) t) a b c d n),
 ((10,1,false),fun f e l a h g i n=>W1 [100] (aS 0 a 4) (e++[l]) ([aG 0 a 4]++[37]++bV n)),
 ((11,0,false),fun f e l k h g i n=>W0 [] 0 (e++[l]) (bV n)),
 ((11,0,true),fun f e l k h g d n=>W0 [] 0 (e++[(w8 (l+w8 d))]) (bV n)),
 ((12,0,false),fun f e l k h g i n=>W0 [] 0 (e++[l]) (dR n)),
 ((12,0,true),fun f e l k h g d n=>W0 [] 0 (e++[(w8 (l+w8 d))]) (dR n))]
def kindOf (x:RowT):Int × Int × Bool:=(aA x,x.2.1,bI x)
def kindOk (x:RowT):Bool:=(aaZ.map (·.1)).contains (kindOf x)
end Go.Amd
