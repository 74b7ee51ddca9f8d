/-
  runrv: Run by hand: all rows. Conditions: none.
-/
import Derived.Test.YtnickegmpffneaaGreatDoorPk32
import Derived.Test.YtnickegmpffneaaGreatDoorPk11
import Derived.Test.YtnickegmpffneaaGreatDoorPk10
set_option linter.unusedVariables false
set_option linter.unusedSimpArgs false
namespace Go.Ra
open Go Go.Ab Go.Proofs
def q (c:Bool) (k:Option Res):Option Res:=cond c k none
def errK (s:CpuT) (e:Int) (H:List O):Option Res:=some (.ok (.tup [.agg s.l,.int .i64 0,.int .i64 e]) H)
def outK (L:List V) (ev:Int) (H:List O):Option Res:=some (.ok (.tup [.agg L,.int .i64 ev,.int .i64 0]) H)
def pcL (nx:Int) (L:List V):List V:=.int .u64 nx :: L.drop 1
def finK (s:CpuT) (L:List V) (nx:Int) (H:List O):Option Res:=cond (Int.tmod nx 2 != 0) (errK s 10 H) (outK (pcL nx L) 0 H)
section
variable (mb:InsR→Bool)
def topM (nm:List UInt8) (K:RunTy):RunTy:=fun s a b c d m sz A B C D E =>
 cond (!mb (nm,a,b,c,d,m)) (errK s 22 (memO A B C D E)) (cond (Int.tmod s.pc 2 != 0) (errK s 10 (memO A B C D E)) (K s a b c d m sz A B C D E))
def topK (nm:List UInt8) (K:RunTy):RunTy:=fun s a b c d m sz A B C D E =>
 cond (sz != 2) (cond (sz != 4) (errK s 1 (memO A B C D E)) (topM mb nm K s a b c d m sz A B C D E)) (topM mb nm K s a b c d m sz A B C D E)
end
def nxF (s:CpuT) (sz:Int):Int:=wu (s.pc+wu sz)
def zs (s:CpuT):CpuT:=⟨s.pc,0 :: s.x.drop 1,s.z,s.n,s.c,s.v,s.th⟩
def stC (k:Nat) (s:CpuT) (nm:List UInt8) (a b c d m nx:Int):List V:=(zs s).l++(.ptr k 0 :: [.str nm,.int .i64 a,.int .i64 b,.int .i64 c,.int .i64 d,.int .i64 m,.int .u64 nx])
def setL (a v:Int) (L:List V):List V:=setI .u64 (oX a) v 0 L
def orU (a b:Int):Int:=IntKind.wrap .u64 (((BitVec.ofInt 64 a ||| BitVec.ofInt 64 b).toNat:Nat):Int)
def xorU (a b:Int):Int:=IntKind.wrap .u64 (((BitVec.ofInt 64 a ^^^ BitVec.ofInt 64 b).toNat:Nat):Int)
def andnU (a b:Int):Int:=IntKind.wrap .u64 (((BitVec.ofInt 64 a &&& ~~~BitVec.ofInt 64 b).toNat:Nat):Int)
def w32 (x:Int):Int:=wi (IntKind.wrap .i32 x)
def u32 (x:Int):Int:=wu (IntKind.wrap .u32 x)
def wd (x:Int):Int:=wu (w32 x)
def sraF (x c:Int):Int:=wu (shrF (wi x) c)
def srlwF (x c:Int):Int:=wd (wu (Int.fdiv (IntKind.wrap .u32 x) (2 ^ (min c.toNat 32))))
def srawF (x c:Int):Int:=wu (wi (Int.fdiv (IntKind.wrap .i32 x) (2 ^ (min c.toNat 32))))
def extF (k x:Int):Int:=wu (shrF (wi (shlF x k)) k)
def nxS (o:Nat) (v nx:Int):Int:=cond (Nat.beq 45 o) v nx
abbrev KTy:=List V→Int→Option Res
def setK (a v nx:Int) (L:List V) (K:KTy):Option Res:=q (okReg a) (K (setL a v L) (nxS (oX a) v nx))
def inX (b:Int) (S:List V) (k:Option Res):Option Res:=q (inside b 32) (q (isIntAt .u64 S (1+b.toNat*1)) k)
def xAt (b:Int) (S:List V):Int:=intAt S (1+b.toNat*1)
def preK (s:CpuT) (nm:List UInt8) (i:Bool) (a b c d m sz:Int) (k:Int→Int→List V→Option Res):Option Res:=
 inX b (stC 0 s nm a b c d m (nxF s sz)) (cond i (k (xAt b (stC 0 s nm a b c d m (nxF s sz))) (wu m) (stC 1 s nm a b c d m (nxF s sz)))
  (inX c (stC 1 s nm a b c d m (nxF s sz)) (k (xAt b (stC 0 s nm a b c d m (nxF s sz))) (xAt c (stC 1 s nm a b c d m (nxF s sz))) (stC 1 s nm a b c d m (nxF s sz)))))
abbrev TwoTy:=Int→Int→(Int→Option Res)→Option Res
def twoR (nm:List UInt8) (i:Bool) (f:TwoTy):RunTy:=fun s a b c d m sz A B C D E =>
 preK s nm i a b c d m sz fun x y _=>f x y fun v=>setK a v (nxF s sz) (zs s).l fun L nx=>finK s L nx (memO A B C D E)
def opF (g:Int→Int→Int):TwoTy:=fun x y k=>k (g x y)
def shF (n:Int) (g:Int→Int→Int):TwoTy:=fun x y k=>q (decide (0≤andU y n)) (k (g x (andU y n)))
def muF (g:Int→Int→Int):TwoTy:=fun x y k=>q (rng64 x && rng64 y) (k (g x y))
def atF (b m:Int) (S:List V):Int:=wu (xAt b S+wu m)
def errLd (at_ n:Int):Int:=cond (mayB at_ n 4) 0 21
def valLd (A B C D E:List Int) (at_ n:Int):Int:=cond (mayB at_ n 4) (ldN A B C D E at_ n.toNat 0) 0
def errSt (at_ n:Int):Int:=cond (mayB at_ n 2) 0 21
def ldR (nm:List UInt8) (n:Int) (g:Int→Int):RunTy:=fun s a b c d m sz A B C D E =>
 preK s nm true a b c d m sz fun _ _ S=>inX b S (q (lens5 A B C D E) (q (rng64 (atF b m S) && true) (cond (errLd (atF b m S) n != 0) (errK s 21 (memO A B C D E))
  (setK a (g (valLd A B C D E (atF b m S) n)) (nxF s sz) (zs s).l fun L nx=>finK s L nx (memO A B C D E)))))
def stK (at_ n v:Int) (A B C D E:List Int) (k:List Int→List Int→List Int→List Int→List Int→Option Res):Option Res:=
 q (lens5 A B C D E) (q (rng64 at_ && true) (k (stB 1 at_ n v A) (stB 2 at_ n v B) (stB 16 at_ n v C) (stB 17 at_ n v D) (stB 32 at_ n v E)))
def strR (nm:List UInt8) (n:Int):RunTy:=fun s a b c d m sz A B C D E =>
 preK s nm false a b c d m sz fun _ _ S=>inX b S (inX c S (stK (atF b m S) n (xAt c S) A B C D E fun A' B' C' D' E' =>
  cond (errSt (atF b m S) n != 0) (errK s 21 (memO A' B' C' D' E')) (finK s (zs s).l (nxF s sz) (memO A' B' C' D' E'))))
abbrev JTy:=CpuT→Int→Int→Int→Int→Int→List V→KTy→Option Res
def elR (nm:List UInt8) (i:Bool) (f:JTy):RunTy:=fun s a b c d m sz A B C D E =>
 preK s nm i a b c d m sz fun _ _ S=>inX b S (inX b S (inX c S (f s a (xAt b S) (xAt c S) m (nxF s sz) (zs s).l fun L nx=>finK s L nx (memO A B C D E))))
def brJ (g:Int→Int→Bool):JTy:=fun s _ x y m nx L K=>cond (g x y) (K L (wu (s.pc+wu m))) (K L nx)
def jalJ:JTy:=fun s a _ _ m nx L K=>setK a nx (wu (s.pc+wu m)) L K
def jalrJ:JTy:=fun _ a x _ m nx L K=>setK a nx (andnU (wu (x+wu m)) 1) L K
def uF (m:Int):Int:=wu (wi (m*2 ^ 12))
def luiJ:JTy:=fun _ a _ _ m nx L K=>setK a (uF m) nx L K
def auipcJ:JTy:=fun s a _ _ m nx L K=>setK a (wu (s.pc+uF m)) nx L K
def ecallR:RunTy:=fun s _ _ _ _ _ sz A B C D E=>outK (pcL (nxF s sz) (zs s).l) 1 (memO A B C D E)
def ebreakR:RunTy:=fun s _ _ _ _ _ _ A B C D E=>outK (zs s).l 2 (memO A B C D E)
def rowsR:List (List UInt8 × RunTy):=[
 ([97,100,100],twoR [97,100,100] false (opF fun x y=>wu (x+y))),
 ([115,117,98],twoR [115,117,98] false (opF fun x y=>wu (x - y))),
 ([115,108,108],twoR [115,108,108] false (shF 63 shlF)),
 ([115,108,116],twoR [115,108,116] false (opF fun x y=>bitF (decide (wi x<wi y)))),
 ([115,108,116,117],twoR [115,108,116,117] false (opF fun x y=>bitF (decide (x<y)))),
 ([120,111,114],twoR [120,111,114] false (opF xorU)),
 ([115,114,108],twoR [115,114,108] false (shF 63 shrF)),
 ([115,114,97],twoR [115,114,97] false (shF 63 sraF)),
 ([111,114],twoR [111,114] false (opF orU)),
 ([97,110,100],twoR [97,110,100] false (opF andU)),
 ([109,117,108],twoR [109,117,108] false (opF fun x y=>wu (x*y))),
 ([109,117,108,104],twoR [109,117,108,104] false (muF fun x y=>hiF x y false (mulHi x y))),
 ([109,117,108,104,115,117],twoR [109,117,108,104,115,117] false (muF fun x y=>hiF x y true (mulHi x y))),
 ([109,117,108,104,117],twoR [109,117,108,104,117] false (muF mulHi)),
 ([100,105,118],twoR [100,105,118] false (opF fun x y=>dqF (wi x) (wi y))),
 ([100,105,118,117],twoR [100,105,118,117] false (opF uqF)),
 ([114,101,109],twoR [114,101,109] false (opF fun x y=>drF (wi x) (wi y))),
 ([114,101,109,117],twoR [114,101,109,117] false (opF urF)),
 ([97,100,100,119],twoR [97,100,100,119] false (opF fun x y=>wd (wu (x+y)))),
 ([115,117,98,119],twoR [115,117,98,119] false (opF fun x y=>wd (wu (x - y)))),
 ([115,108,108,119],twoR [115,108,108,119] false (shF 31 fun x c=>wd (shlF x c))),
 ([115,114,108,119],twoR [115,114,108,119] false (shF 31 srlwF)),
 ([115,114,97,119],twoR [115,114,97,119] false (shF 31 srawF)),
 ([109,117,108,119],twoR [109,117,108,119] false (opF fun x y=>wd (wu (x*y)))),
 ([100,105,118,119],twoR [100,105,118,119] false (opF fun x y=>wd (dqF (w32 x) (w32 y)))),
 ([100,105,118,117,119],twoR [100,105,118,117,119] false (opF fun x y=>wd (uqF (u32 x) (u32 y)))),
 ([114,101,109,119],twoR [114,101,109,119] false (opF fun x y=>wd (drF (w32 x) (w32 y)))),
 ([114,101,109,117,119],twoR [114,101,109,117,119] false (opF fun x y=>wd (urF (u32 x) (u32 y)))),
 ([97,100,100,105],twoR [97,100,100,105] true (opF fun x y=>wu (x+y))),
 ([115,108,116,105],twoR [115,108,116,105] true (opF fun x y=>bitF (decide (wi x<wi y)))),
 ([115,108,116,105,117],twoR [115,108,116,105,117] true (opF fun x y=>bitF (decide (x<y)))),
 ([120,111,114,105],twoR [120,111,114,105] true (opF xorU)),
 ([111,114,105],twoR [111,114,105] true (opF orU)),
 ([97,110,100,105],twoR [97,110,100,105] true (opF andU)),
 ([97,100,100,105,119],twoR [97,100,100,105,119] true (opF fun x y=>wd (wu (x+y)))),
 ([108,98],ldR [108,98] 1 (extF 56)),
 ([108,104],ldR [108,104] 2 (extF 48)),
 ([108,119],ldR [108,119] 4 (extF 32)),
 ([108,100],ldR [108,100] 8 fun x=>x),
 ([108,98,117],ldR [108,98,117] 1 fun x=>x),
 ([108,104,117],ldR [108,104,117] 2 fun x=>x),
 ([108,119,117],ldR [108,119,117] 4 fun x=>x),
 ([106,97,108,114],elR [106,97,108,114] true jalrJ),
 ([115,108,108,105],twoR [115,108,108,105] true (shF 63 shlF)),
 ([115,114,108,105],twoR [115,114,108,105] true (shF 63 shrF)),
 ([115,114,97,105],twoR [115,114,97,105] true (shF 63 sraF)),
 ([115,108,108,105,119],twoR [115,108,108,105,119] true (shF 31 fun x c=>wd (shlF x c))),
 ([115,114,108,105,119],twoR [115,114,108,105,119] true (shF 31 srlwF)),
 ([115,114,97,105,119],twoR [115,114,97,105,119] true (shF 31 srawF)),
 ([115,98],strR [115,98] 1),
 ([115,104],strR [115,104] 2),
 ([115,119],strR [115,119] 4),
 ([115,100],strR [115,100] 8),
 ([98,101,113],elR [98,101,113] false (brJ fun x y=>x == y)),
 ([98,110,101],elR [98,110,101] false (brJ fun x y=>x != y)),
 ([98,108,116],elR [98,108,116] false (brJ fun x y=>decide (wi x<wi y))),
 ([98,103,101],elR [98,103,101] false (brJ fun x y=>decide (wi y≤wi x))),
 ([98,108,116,117],elR [98,108,116,117] false (brJ fun x y=>decide (x<y))),
 ([98,103,101,117],elR [98,103,101,117] false (brJ fun x y=>decide (y≤x))),
 ([108,117,105],elR [108,117,105] false luiJ),
 ([97,117,105,112,99],elR [97,117,105,112,99] false auipcJ),
 ([106,97,108],elR [106,97,108] false jalJ),
 ([101,99,97,108,108],ecallR),
 ([101,98,114,101,97,107],ebreakR)]
def W1 (g:RunTy) (p x0 x1 x2 x3 x4 x5 x6 x7 x8 x9 x10 x11 x12 x13 x14 x15 x16 x17 x18 x19 x20 x21 x22 x23 x24 x25 x26 x27 x28 x29 x30 x31 th:Int) (z n c v:Bool) (a b c' d m sz:Int) (A B C D E:List Int):Option Res:=
 g ⟨p,[x0,x1,x2,x3,x4,x5,x6,x7,x8,x9,x10,x11,x12,x13,x14,x15,x16,x17,x18,x19,x20,x21,x22,x23,x24,x25,x26,x27,x28,x29,x30,x31],z,n,c,v,th⟩ a b c' d m sz A B C D E
def W2 (g:RunTy) (p x0 x1 x2 x3 x4 x5 x6 x7 x8 x9 x10 x11 x12 x13 x14 x15 x16 x17 x18 x19 x20 x21 x22 x23 x24 x25 x26 x27 x28 x29 x30 x31 th:Int) (z n c v:Bool) (a b c' d m sz:Int) (A B C D E:List Int):Option Res:=
 g ⟨p,[x0,x1,x2,x3,x4,x5,x6,x7,x8,x9,x10,x11,x12,x13,x14,x15,x16,x17,x18,x19,x20,x21,x22,x23,x24,x25,x26,x27,x28,x29,x30,x31],z,n,c,v,th⟩ a b c' d m sz A B C D E
def rE (mb:InsR→Bool) (x:List UInt8 × RunTy):=W2 (topK mb x.1 x.2)
noncomputable def rO (mb:InsR→Bool) (x:List UInt8 × RunTy):=W1 (runE mb x.1)
end Go.Ra

namespace Go.Ra
open Go Go.Ab Go.Proofs
theorem getD_set {l:List Int} {i j:Nat} {v:Int} (hi:i<l.length):(l.set i v).getD j 0=if j=i then v else l.getD j 0:=by
 rw [List.getD_eq_getElem?_getD,List.getElem?_set,List.getD_eq_getElem?_getD]
 by_cases h:i=j
 ·subst h
  rw [if_pos rfl,if_pos hi,if_pos rfl]
  rfl
 ·rw [if_neg h,if_neg fun e=>h e.symm]
theorem lens5_stN {x y:Int}:∀ (m i:Nat) {a b c d e:List Int},lens5 a b c d e=true→lens5 (stN 1 x y m i a) (stN 2 x y m i b) (stN 16 x y m i c) (stN 17 x y m i d) (stN 32 x y m i e)=true
 | 0,_,_,_,_,_,_,h=>h
 | m+1,i,_,_,_,_,_,h=>lens5_stN m (i+1) (lens5_set h (adr x i) (byS_byte y i))
theorem byS_eq (y:Int) (i:Nat):byS y i=y / 2 ^ (8*i) % 256:=by
 unfold byS
 rw [Int.fdiv_eq_ediv_of_nonneg _ (Int.pow_nonneg (by decide))]
 rfl
end Go.Ra

namespace Go.Ra
open Go Go.Ab Go.Proofs
def rRow (n r:Int) (id:Nat):List V:=[.int .u64 n,.int .i64 r,.ref id 1 0 4096]
def rRows:List V:=rRow 1 5 2++(rRow 2 5 3++(rRow 16 6 4++(rRow 17 6 5++rRow 32 4 6)))
def rPg (l:List Int):O:=.obj (.page 0 .u8 l) []
def refH (l:V) (A B C D E:List Int):List O:=[.cells [.ref 1 3 0 5,l] 52,.cells rRows 0,rPg A,rPg B,rPg C,rPg D,rPg E]
def lastV:V:=.rng .i64 0 5
abbrev refO (A B C D E:List Int):List O:=refH lastV A B C D E
def refM {α:Type} (f:List Int→List Int→List Int→List Int→List Int→Tree α):List O→Tree α
 | [.cells [.ref 1 3 0 5,.rng .i64 0 5] t,.cells [.int .u64 n1,.int .i64 r1,.ref 2 1 0 4096,.int .u64 n2,.int .i64 r2,.ref 3 1 0 4096,.int .u64 n3,.int .i64 r3,.ref 4 1 0 4096,.int .u64 n4,.int .i64 r4,.ref 5 1 0 4096,.int .u64 n5,.int .i64 r5,.ref 6 1 0 4096] u,
   .obj (.page 0 .u8 a) [],.obj (.page 0 .u8 b) [],.obj (.page 0 .u8 c) [],.obj (.page 0 .u8 d) [],.obj (.page 0 .u8 e) []] =>
  .req (Nat.beq t 52 && (Nat.beq u 0 && ([n1,r1,n2,r2,n3,r3,n4,r4,n5,r5] == [1,5,2,5,16,6,17,6,32,4] && lens5 a b c d e))) (f a b c d e)
 | _=>.fail
theorem refM_run {α:Type} {f:List Int→List Int→List Int→List Int→List Int→Tree α} {H:List O} {out:α} (h:(refM f H).run=some out) :
  ∃ a b c d e,H=refO a b c d e∧lens5 a b c d e=true∧(f a b c d e).run=some out:=by
 unfold refM at h
 split at h
 rotate_left
 ·cases h
 rename_i t n1 r1 n2 r2 n3 r3 n4 r4 n5 r5 u a b c d e
 obtain ⟨h1,h2⟩:=req_run h
 simp only [Bool.and_eq_true] at h1
 obtain ⟨g0,g1,g2,g3⟩:=h1
 have g0:=Nat.eq_of_beq_eq_true g0
 have g1:=Nat.eq_of_beq_eq_true g1
 have g2:=eq_of_beq g2
 simp only [List.cons.injEq,and_true] at g2
 obtain ⟨k1,k2,k3,k4,k5,k6,k7,k8,k9,k10⟩:=g2
 subst g0 g1 k1 k2 k3 k4 k5 k6 k7 k8 k9 k10
 exact ⟨a,b,c,d,e,rfl,g3,h2⟩
noncomputable def cxRfind:Cx:={ P:=Tryz.prog,n:=Tryz.f69.ntmps,tab:=[],mtab:=[],refs:=[],keeps:=[0,1,4,5,30,41,53],fuel:=8 }
noncomputable def findE (l:Nat) (A B C D E:List Int) (n:Int):Option Res:=(mfun cxRfind Tryz.f69 [.ptr 0 0,.int .u64 n] (refH (.int .i64 (l:Int)) A B C D E)).fin
def fdK (i:Int) (A B C D E:List Int):Option Res:=some (.ok (.int .i64 i) (refH (.int .i64 i) A B C D E))
def findX (l:Nat) (A B C D E:List Int) (n:Int):Option Res:=
 cond ([(1:Int),2,16,17,32].getD l 0 == n) (fdK (l:Int) A B C D E) (cond ((1:Int) == n) (fdK 0 A B C D E) (cond ((2:Int) == n) (fdK 1 A B C D E) (cond ((16:Int) == n) (fdK 2 A B C D E) (cond ((17:Int) == n) (fdK 3 A B C D E) (cond ((32:Int) == n) (fdK 4 A B C D E)
  (some (.ok (.int .i64 (-1)) (refH (.int .i64 (l:Int)) A B C D E))))))))
theorem find_all:[0,1,2,3,4].map findE=[0,1,2,3,4].map findX:=by kernel_rfl
def idxF (n:Int):Int:=cond (n == 1) 0 (cond (n == 2) 1 (cond (n == 16) 2 (cond (n == 17) 3 (cond (n == 32) 4 (-1)))))
theorem findX_eq (l:Nat) (hl:l<5) (A B C D E:List Int) (n:Int):∃ l' : Int,0≤l' ∧ l' < 5∧findX l A B C D E n=some (.ok (.int .i64 (idxF n)) (refH (.int .i64 l') A B C D E)):=by
 have sw:∀ k:Int,(k == n)=(n == k):=fun k=>by
  cases h:n == k
  ·simpa using fun e:k=n=>by simp [e] at h
  ·have:n=k:=by simpa using h
   simp [this]
 unfold findX fdK idxF
 rw [sw,sw,sw,sw,sw,sw]
 by_cases h1:n=1
 ·subst h1
  refine ⟨0,by omega,by omega,?_⟩
  match l,hl with
  | 0,_ | 1,_ | 2,_ | 3,_ | 4,_=>rfl
 by_cases h2:n=2
 ·subst h2
  refine ⟨1,by omega,by omega,?_⟩
  match l,hl with
  | 0,_ | 1,_ | 2,_ | 3,_ | 4,_=>rfl
 by_cases h3:n=16
 ·subst h3
  refine ⟨2,by omega,by omega,?_⟩
  match l,hl with
  | 0,_ | 1,_ | 2,_ | 3,_ | 4,_=>rfl
 by_cases h4:n=17
 ·subst h4
  refine ⟨3,by omega,by omega,?_⟩
  match l,hl with
  | 0,_ | 1,_ | 2,_ | 3,_ | 4,_=>rfl
 by_cases h5:n=32
 ·subst h5
  refine ⟨4,by omega,by omega,?_⟩
  match l,hl with
  | 0,_ | 1,_ | 2,_ | 3,_ | 4,_=>rfl
 have e:∀ k:Int,n ≠ k→(n == k)=false:=fun k h=>by simpa using h
 rw [e 1 h1,e 2 h2,e 16 h3,e 17 h4,e 32 h5]
 refine ⟨(l:Int),by omega,by omega,?_⟩
 have:(n == [(1:Int),2,16,17,32].getD l 0)=false:=by
  match l,hl with
  | 0,_=>exact e 1 h1
  | 1,_=>exact e 2 h2
  | 2,_=>exact e 16 h3
  | 3,_=>exact e 17 h4
  | 4,_=>exact e 32 h5
 rw [this]
 rfl
theorem find_mcall (A B C D E:List Int) (n:Int):MCall Tryz.prog 69 [.ptr 0 0,.int .u64 n] (refO A B C D E) (.ok (.int .i64 (idxF n)) (refO A B C D E)):=by
 refine mcall_rng (A:=[]) (pre:=[.ref 1 3 0 5]) (post:=[]) (k:=.i64) (lo:=0) (hi:=5) (by decide) fun l h0 h1=>?_
 obtain ⟨m,rfl⟩:=Int.eq_ofNat_of_zero_le h0
 obtain ⟨l',g0,g1,g2⟩:=findX_eq m (by omega) A B C D E n
 refine ⟨l',g0,g1,?_⟩
 refine msound_fun (cx:=cxRfind) (fn:=Tryz.f69) (cx0_ok rfl rfl) (by kernel_rfl) (by kernel_rfl) _ _ _ ?_
 refine run_req (by kernel_rfl) ?_
 rw [← Tree.fin_run]
 have hm:m ∈ [0,1,2,3,4]:=by
  simp only [List.mem_cons,List.not_mem_nil,or_false]
  omega
 exact (congrFun (congrFun (congrFun (congrFun (congrFun (congrFun (List.map_inj_left.1 find_all m hm) A) B) C) D) E) n).trans g2
def findR:RSpec:=fun args H=>match args with
 | [.ptr 0 0,.int .u64 n]=>refM (fun _ _ _ _ _=>.leaf (.int .i64 (idxF n))) H
 | _=>.fail
theorem findR_ok:RSound Tryz.prog 69 findR:=by
 intro args H v h
 unfold findR at h
 split at h
 rotate_left
 ·cases h
 obtain ⟨a,b,c,d,e,rfl,_,h⟩:=refM_run h
 cases h
 exact find_mcall _ _ _ _ _ _
def findRT:RSpec:=fun args H=>match args with
 | [.ptr 0 0,.int .u64 n]=>refM (fun _ _ _ _ _=>.br (n == 1) (.leaf (.int .i64 0)) (.br (n == 2) (.leaf (.int .i64 1)) (.br (n == 16) (.leaf (.int .i64 2)) (.br (n == 17) (.leaf (.int .i64 3)) (.br (n == 32) (.leaf (.int .i64 4)) .fail))))) H
 | _=>.fail
theorem findRT_ok:RSound Tryz.prog 69 findRT:=by
 intro args H v h
 unfold findRT at h
 split at h
 rotate_left
 ·cases h
 rename_i n
 obtain ⟨a,b,c,d,e,rfl,_,h⟩:=refM_run h
 have g:=find_mcall a b c d e n
 have k:v = .int .i64 (idxF n):=by
  unfold idxF
  revert h
  simp only [Tree.run]
  cases n == 1 <;> cases n == 2 <;> cases n == 16 <;> cases n == 17 <;> cases n == 32 <;> intro h <;> first | (cases h; rfl) | cases h
 rw [k]
 exact g
end Go.Ra
