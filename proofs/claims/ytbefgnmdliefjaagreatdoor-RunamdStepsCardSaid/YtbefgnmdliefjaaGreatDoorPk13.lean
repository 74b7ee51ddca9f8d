/-
  The program's memory, of five pages: what may be used, a byte got and put, each as one answer. Conditions: none.
-/
import Derived.Test.YtbefgnmdliefjaaGreatDoorPk12
import Derived.Test.YtbefgnmdliefjaaGreatDoorPk11
import Derived.Test.YtbefgnmdliefjaaGreatDoorPk10
import Derived.Lib.BitFns
open Go.IntKind (wrap i64 u64 u8)
open Go.Proofs.Tryz (prog)
open Bool renaming and_eq_true_iff→ZA0,or_eq_true_iff→ZA1,and_eq_true→ZA2,or_eq_true→ZA3
open List renaming all_eq_true→ZE1,mem_cons→ZE3,getD_eq_getElem?_getD→ZG0
open Nat renaming eq_of_beq_eq_true→ZG1
open Int renaming toNat_natCast→ZJ0
set_option linter.unusedVariables false
set_option linter.unusedSimpArgs false
namespace Go.Ra
open Go Go.Ab Go.Proofs
def jT (b:Int):Bool:=decide (0<=b)&&decide (b<256)
def qG (l:List Int):Bool:=Nat.beq l.length 4096&&l.all jT
def lens5 (a b c d e:List Int):Bool:=qG a&&(qG b&&(qG c&&(qG d&&qG e)))
def aN6 (t:Nat) (keys:List Int) (a b c d e:Int):Bool:=Nat.beq t 72&&(keys==[1,2,16,17,32]&&(a==5&&(b==5&&(c==6&&(d==6&&e==4)))))
def lT (f:List Int->List Int->List Int->List Int->List Int->Tree Res):List O->Tree Res
 | [.cells [.bool true,.mp 1] t,.obj (.map keys) [.ptr 2 0,.ptr 3 0,.ptr 4 0,.ptr 5 0,.ptr 6 0],.obj (.page 1 .u8 a) [.int .i64 r1],.obj (.page 1 .u8 b) [.int .i64 r2],.obj (.page 1 .u8 c) [.int .i64 r3],.obj (.page 1 .u8 d) [.int .i64 r4],.obj (.page 1 .u8 e) [.int .i64 r5]] =>
  .aF (aN6 t keys r1 r2 r3 r4 r5&&lens5 a b c d e) (f a b c d e)
 | _=>.fail
theorem m6 {f:List Int->List Int->List Int->List Int->List Int->Tree Res} {H:List O} {out:Res} (h:(lT f H).run=some out) :
  ∃ a b c d e,H=aR a b c d e/\lens5 a b c d e=true/\(f a b c d e).run=some out:=by
 unfold lT at h;split at h;rotate_left
 ·cases h
 rename_i t keys a j b k c l d m e n;obtain ⟨g,h2⟩:=aM h;obtain ⟨g,h3⟩:=ZA0.1 g;simp only [aN6,ZA2,beq_iff_eq] at g;obtain ⟨i,g1,g2,g3,g4,g5,g6⟩:=g;have i:=ZG1 i;subst i g1 g2 g3 g4 g5 g6;exact ⟨a,b,c,d,e,rfl,h3,h2⟩
def iS (k:Int):Bool:=k==1 || (k==2 || (k==16 || (k==17 || k==32)))
def rng64 (x:Int):Bool:=decide (0<=x)&&decide (x<18446744073709551616)
def q7 (k:Int) (a b c d e:List Int):List Int:=cond (k==1) a (cond (k==2) b (cond (k==16) c (cond (k==17) d e)))
def iO (a b c d e:List Int) (x:Int):Int:=(q7 (aQ x) a b c d e).getD (nQ x) 0
def cP (k x v:Int) (l:List Int):List Int:=cond (aQ x==k) (l.set (nQ x) v) l
def iH (r k:Int):Bool:=rC k (fun R=>!OZ R r) false
def cM (x n r:Int):Bool:=decide (x<=jC x n)&&(iH r (aQ x)&&(aQ (jC x n)==aQ x || iH r (aQ (jC x n))))
def getM:MSpec:=fun args H=>match args with
 | [.ptr 0 0,.int .u64 x]=>lT (fun a b c d e=>.aF (rng64 x&&iS (aQ x)) (.leaf (.ok (.int .u8 (iO a b c d e x)) (aR a b c d e)))) H
 | _=>.fail
def NX:MSpec:=fun args H=>match args with
 | [.ptr 0 0,.int .u64 x,.int .u8 v]=>lT (fun a b c d e=>.aF (rng64 x&&iS (aQ x)) (.leaf (.ok (.tup []) (aR (cP 1 x v a) (cP 2 x v b) (cP 16 x v c) (cP 17 x v d) (cP 32 x v e))))) H
 | _=>.fail
def HR:MSpec:=fun args H=>match args with
 | [.ptr 0 0,.int .u64 x,.int .i64 n,.int .i64 r]=>lT (fun a b c d e=>.aF (rng64 x&&(decide (1<=n)&&decide (n<=16))) (.leaf (.ok (.bool (cM x n r)) (aR a b c d e)))) H
 | _=>.fail
theorem aJX {x:Int} (h:rng64 x=true):inside (Int.tmod x 4096) 4096=true/\nQ x<4096:=by
 simp only [rng64,ZA2,decide_eq_true_eq] at h;have a:0<=Int.tmod x 4096:=Int.tmod_nonneg _ h.1;have b:Int.tmod x 4096<4096:=Int.tmod_lt_of_pos _ (by decide);refine ⟨jI a b,?_⟩;unfold nQ;omega
theorem aLY {x:Int} {l:List Int} {v:Option Res} (h:rng64 x=true) (b:l.length=4096):PN x l v=v:=by
 obtain ⟨a,h2⟩:=aJX h;unfold PN
 have e:(Nat.ble 1 (1+Int.toNat (Int.tmod x 4096)*1)&&Nat.blt (nQ x) l.length)=true:=by
  rw [ZA0];refine ⟨Nat.ble_eq_true_of_le (by omega),?_⟩;rw [b];exact Nat.ble_eq_true_of_le h2
 rw [a,e];rfl
theorem A5 {a b c d e:List Int} (h:lens5 a b c d e=true):a.length=4096/\b.length=4096/\c.length=4096/\d.length=4096/\e.length=4096:=by
 simp only [lens5,qG,ZA2] at h;obtain ⟨⟨f,_⟩,⟨h2,_⟩,⟨h3,_⟩,⟨h4,_⟩,⟨h5,_⟩⟩:=h;exact ⟨ZG1 f,ZG1 h2,ZG1 h3,ZG1 h4,ZG1 h5⟩
theorem T0:bP prog 33 getM:=by
 intro args H out h;unfold getM at h;split at h;rotate_left
 ·cases h
 rename_i x;obtain ⟨a,b,c,d,e,rfl,hl,h⟩:=m6 h;obtain ⟨g,h⟩:=aM h;cases h;obtain ⟨i,f⟩:=ZA0.1 g;obtain ⟨j,l2,l3,l4,l5⟩:=A5 hl;refine fA (cx:=aP6) (fn:=Tryz.f33) (dO rfl rfl) (by kernel_rfl) (by kernel_rfl) _ _ _ ?_;refine nC (by kernel_rfl) ?_;rw [<- Tree.bJ,get_eq];unfold PQ iO q7;simp only [aLY i,j,l2,l3,l4,l5];simp only [iS,ZA3,beq_iff_eq] at f
 rcases f with f | f | f | f | f <;> rw [f] <;> rfl
theorem aH8:bP prog 32 NX:=by
 intro args H out h;unfold NX at h;split at h;rotate_left
 ·cases h
 rename_i x v;obtain ⟨a,b,c,d,e,rfl,hl,h⟩:=m6 h;obtain ⟨g,h⟩:=aM h;cases h;obtain ⟨i,f⟩:=ZA0.1 g;obtain ⟨j,l2,l3,l4,l5⟩:=A5 hl;refine fA (cx:=aP0) (fn:=Tryz.f32) (dO rfl rfl) (by kernel_rfl) (by kernel_rfl) _ _ _ ?_;refine nC (by kernel_rfl) ?_;rw [<- Tree.bJ,put_eq];unfold PQ cP;simp only [aLY i,j,l2,l3,l4,l5];simp only [iS,ZA3,beq_iff_eq] at f
 rcases f with f | f | f | f | f <;> rw [f] <;> rfl
theorem pD {x:Int} (h:rng64 x=true):aQ x=x / 4096:=by
 simp only [rng64,ZA2,decide_eq_true_eq] at h;unfold aQ;rw [Int.tdiv_eq_ediv_of_nonneg h.1];show x / 4096 % 18446744073709551616=_;omega
theorem KE (x n:Int):rng64 (jC x n)=true:=by
 simp only [rng64,ZA2,decide_eq_true_eq];show 0<=(wrap .u64 (x+wrap .u64 n) - 1) % 18446744073709551616/\(wrap .u64 (x+wrap .u64 n) - 1) % 18446744073709551616<18446744073709551616;omega
theorem LG {x n:Int} (h:rng64 x=true) (a:1<=n) (b:n<=16) (hle:x<=jC x n):jC x n=x+n - 1:=by
 simp only [rng64,ZA2,decide_eq_true_eq] at h;have e:jC x n=((x+n % 18446744073709551616) % 18446744073709551616 - 1) % 18446744073709551616:=rfl;rw [e] at hle ⊢;omega
theorem A2 (H:List O) (y r k:Int) (f:Nat):CH H y r (f+1) k=cond (decide (k<=aQ y)) (cond (iH r k) (CH H y r f (wrap .u64 (k+1))) (some (.ok (.bool false) H))) (some (.ok (.bool true) H)):=by
 show cond (decide (k<=aQ y)) (rC k (fun R=>cond (OZ R r) (some (.ok (.bool false) H)) (CH H y r f (wrap .u64 (k+1)))) (some (.ok (.bool false) H))) (some (.ok (.bool true) H))=_;congr 1;unfold iH rC;cases k==1 <;> cases k==2 <;> cases k==16 <;> cases k==17 <;> cases k==32 <;> simp only [cond_true,cond_false] <;> cases OZ _ r <;> rfl
theorem T4:bP prog 31 HR:=by
 intro args H out h;unfold HR at h;split at h;rotate_left
 ·cases h
 rename_i x n r;obtain ⟨a,b,c,d,e,rfl,hl,h⟩:=m6 h;obtain ⟨m,h⟩:=aM h;cases h;obtain ⟨i,hn⟩:=ZA0.1 m;obtain ⟨j,k⟩:=ZA0.1 hn;have j:=of_decide_eq_true j;have k:=of_decide_eq_true k;refine fA (cx:=X7) (fn:=Tryz.f31) (bU (dT aG2) (.cons vH fun p h=>by cases h) rfl rfl) (by kernel_rfl) (by kernel_rfl) _ _ _ ?_;refine nC (by kernel_rfl) ?_;rw [<- Tree.bJ,aLR];generalize aR a b c d e=M;unfold OQ cM
 have e0:(n==0)=false:=by
  rw [beq_eq_false_iff_ne];omega
 rw [e0,cond_false];cases hle:decide (x<=jC x n)
 ·rfl
 have hle:=of_decide_eq_true hle;rw [Bool.not_true,cond_false,Bool.true_and];have l:=KE x n;have s:=LG i j k hle;have t:=pD i;have py:=pD l;simp only [rng64,ZA2,decide_eq_true_eq] at i l
 have o:wrap .u64 (aQ x+1)=aQ x+1:=by
  show (aQ x+1) % 18446744073709551616=_;omega
 have q:wrap .u64 (aQ x+1+1)=aQ x+1+1:=by
  show (aQ x+1+1) % 18446744073709551616=_;omega
 rw [A2,decide_eq_true (by omega),cond_true];cases iH r (aQ x)
 ·rfl
 rw [cond_true,Bool.true_and,o,A2];by_cases hq:aQ (jC x n)=aQ x
 ·rw [decide_eq_false (by omega),cond_false,hq,beq_self_eq_true,Bool.true_or]
 ·have f:aQ (jC x n)=aQ x+1:=by omega
  have g:(aQ (jC x n)==aQ x)=false:=by
   rw [beq_eq_false_iff_ne];exact hq
  rw [decide_eq_true (by omega),cond_true,g,Bool.false_or,<- f];cases iH r (aQ (jC x n))
  ·rfl
  rw [cond_true,A2,f,q,decide_eq_false (by omega),cond_false]
end Go.Ra

namespace Go.Ra
open Go Go.Ab Go.Proofs
def DN (pc:Int) (x:List Int) (z n c v:Bool) (a:Int):List V:=(.int .u64 pc :: x.map (V.int .u64))++[.bool z,.bool n,.bool c,.bool v,.int .u64 a]
def lV (nm:List UInt8) (a b c d n:Int):V:=.agg [.str nm,.int .i64 a,.int .i64 b,.int .i64 c,.int .i64 d,.int .i64 n]
def GJ:Nat->List V->Option (List Int × List V)
 | 0,l=>some ([],l)
 | k+1,.int .u64 x :: r=>match GJ k r with
  | some (xs,l)=>some (x :: xs,l)
  | none=>none
 | _,_=>none
structure CpuT where
 pc:Int
 x:List Int
 z:Bool
 n:Bool
 c:Bool
 v:Bool
 th:Int
abbrev CpuT.l (s:CpuT):List V:=DN s.pc s.x s.z s.n s.c s.v s.th
def wF (l:List V):Option CpuT:=match GJ 33 l with
 | some (p :: xs,[.bool z,.bool n,.bool c,.bool v,.int .u64 th])=>some ⟨p,xs,z,n,c,v,th⟩
 | _=>none
theorem aCE:∀ (k:Nat) (l:List V) (xs:List Int) (r:List V),GJ k l=some (xs,r)->l=xs.map (V.int .u64)++r/\xs.length=k
 | 0,l,xs,r,h=>by
  simp only [GJ,Option.some.injEq,Prod.mk.injEq] at h;obtain ⟨rfl,rfl⟩:=h;exact ⟨rfl,rfl⟩
 | k+1,[],xs,r,h=>by cases h
 | k+1,v :: r',xs,r,h=>by
  have key:∀ x,v = .int .u64 x->v :: r' = xs.map (V.int .u64)++r/\xs.length=k+1:=by
   intro x b;subst b;have h:(match GJ k r' with | some (xs,l)=>some (x :: xs,l) | none=>none)=some (xs,r):=h;split at h
   ·rename_i xs' l' hi
    cases h;obtain ⟨a,h2⟩:=aCE k r' xs' _ hi;exact ⟨by rw [a]; rfl,by simp [h2]⟩
   ·cases h
  cases v with
  | int c x =>
   cases c with
   | u64=>exact key x rfl
   | _=>cases h
  | _=>cases h
theorem A4 {l:List V} {s:CpuT} (h:wF l=some s):l=s.l/\s.x.length=32:=by
 unfold wF at h;split at h
 ·rename_i p xs z n c v b hi
  cases h;obtain ⟨a,h2⟩:=aCE _ _ _ _ hi;exact ⟨by rw [a]; rfl,by simpa using h2⟩
 ·cases h
theorem a4L {l:List Int} {n:Nat} (h:l.length=n):l=(List.range n).map fun i=>l.getD i 0:=by
 refine List.ext_getElem (by simp [h]) fun i a b=>?_;simp [ZG0,a]
def wi (x:Int):Int:=wrap .i64 x
def wu (x:Int):Int:=wrap .u64 x
def oR (n:Int):Bool:=decide (0<=n)&&decide (n<=31)
theorem FH {n:Int} (h:oR n=true):0<=n/\n<=31:=by
 simpa only [oR,ZA2,decide_eq_true_eq] using h
theorem qP {s:CpuT} (h:s.x.length=32):(⟨s.pc,[s.x.getD 0 0,s.x.getD 1 0,s.x.getD 2 0,s.x.getD 3 0,s.x.getD 4 0,s.x.getD 5 0,s.x.getD 6 0,s.x.getD 7 0,s.x.getD 8 0,s.x.getD 9 0,s.x.getD 10 0,s.x.getD 11 0,s.x.getD 12 0,s.x.getD 13 0,s.x.getD 14 0,s.x.getD 15 0,s.x.getD 16 0,s.x.getD 17 0,s.x.getD 18 0,s.x.getD 19 0,s.x.getD 20 0,s.x.getD 21 0,s.x.getD 22 0,s.x.getD 23 0,s.x.getD 24 0,s.x.getD 25 0,s.x.getD 26 0,s.x.getD 27 0,s.x.getD 28 0,s.x.getD 29 0,s.x.getD 30 0,s.x.getD 31 0],s.z,s.n,s.c,s.v,s.th⟩:CpuT)=s:=by
 obtain ⟨p,x,z,n,c,v,th⟩:=s;simp only [CpuT.mk.injEq,true_and,and_true];exact (a4L h).symm
structure Fine (s:CpuT):Prop where
 len:s.x.length=32
 rng:∀ i,rng64 (s.x.getD i 0)=true
 pc:rng64 s.pc=true
abbrev bZ:=List UInt8 × Int × Int × Int × Int × Int
structure Out where
 s:CpuT
 ev:Int
 err:Int
 A:List Int
 B:List Int
 C:List Int
 D:List Int
 E:List Int
instance:Inhabited Out:=⟨⟨⟨0,[],false,false,false,false,0⟩,0,0,[],[],[],[],[]⟩⟩
abbrev iZ:=List UInt8->CpuT->Int->Int->Int->Int->Int->Int->List Int->List Int->List Int->List Int->List Int->Out
def pN (s:CpuT):Bool:=rng64 s.pc&&(s.x.all rng64)
theorem KW {s:CpuT} (b:s.x.length=32) (h:pN s=true):Fine s:=by
 obtain ⟨a,h2⟩:=ZA0.1 h;refine ⟨b,fun i=>?_,a⟩;rw [ZG0]
 cases hi:s.x[i]? with
 | none=>rfl
 | some v=>exact ZE1.1 h2 v (List.mem_of_getElem? hi)
def gW (s:CpuT):CpuT:=⟨s.pc,[s.x.getD 0 0,s.x.getD 1 0,s.x.getD 2 0,s.x.getD 3 0,s.x.getD 4 0,s.x.getD 5 0,s.x.getD 6 0,s.x.getD 7 0,s.x.getD 8 0,s.x.getD 9 0,s.x.getD 10 0,s.x.getD 11 0,s.x.getD 12 0,s.x.getD 13 0,s.x.getD 14 0,s.x.getD 15 0,
 s.x.getD 16 0,s.x.getD 17 0,s.x.getD 18 0,s.x.getD 19 0,s.x.getD 20 0,s.x.getD 21 0,s.x.getD 22 0,s.x.getD 23 0,s.x.getD 24 0,s.x.getD 25 0,s.x.getD 26 0,s.x.getD 27 0,s.x.getD 28 0,s.x.getD 29 0,s.x.getD 30 0,s.x.getD 31 0],s.z,s.n,s.c,s.v,s.th⟩
def wW (o:Out):V:=.tup [.agg (gW o.s).l,.int .i64 o.ev,.int .i64 o.err]
def OP:List Int->List Int->Bool
 | a :: r,b :: s=>(a==b)&&OP r s
 | _,_=>true
def eqS (s t:CpuT):Bool:=(s.pc==t.pc)&&(OP s.x t.x&&((s.z==t.z)&&((s.n==t.n)&&((s.c==t.c)&&((s.v==t.v)&&((s.th==t.th)&&true))))))
theorem aDR:∀ l:List Int,OP l l=true
 | []=>rfl
 | a :: r=>by
  unfold OP;rw [beq_self_eq_true,aDR r];rfl
theorem a1O (s:CpuT):eqS s s=true:=by
 unfold eqS;simp only [beq_self_eq_true,aDR,Bool.and_self]
theorem R5 {s:CpuT} (h:Fine s):pN s=true:=by
 unfold pN;rw [h.pc,Bool.true_and,ZE1];intro x a;obtain ⟨i,hi,rfl⟩:=List.getElem_of_mem a;have:=h.rng i;rw [oD hi] at this;exact this
abbrev pV:EC:=.prod [.int .u64,.prod (List.replicate 32 (.int .u64)),.bool,.bool,.bool,.bool,.int .u64]
def DE:(n:Nat)->EC.tys (List.replicate n (EC.int .u64))->List Int
 | 0,_=>[]
 | 1,x=>[x]
 | n+2,x=>x.1 :: DE (n+1) x.2
theorem aG4:∀ (n:Nat) (x:EC.tys (List.replicate n (EC.int .u64))),(DE n x).length=n
 | 0,_=>rfl
 | 1,_=>rfl
 | n+2,x=>congrArg (· + 1) (aG4 (n+1) x.2)
theorem S6 {y:Int} (h:IntKind.u64.has y):rng64 y=true:=by
 have a:IntKind.u64.min=0/\IntKind.u64.max=18446744073709551616 - 1:=⟨rfl,rfl⟩;unfold IntKind.has at h;rw [a.1,a.2] at h;simp only [rng64,ZA2,decide_eq_true_eq];omega
theorem aFZ:∀ (n:Nat) (x:EC.tys (List.replicate n (EC.int .u64))),okEs (List.replicate n (.int .u64)) x -> ∀ y ∈ DE n x,rng64 y=true
 | 0,_,_,y,a=>by cases a
 | 1,x,h,y,a=>by
  rcases ZE3.1 a with rfl | a
  ·exact S6 h
  ·cases a
 | n+2,x,h,y,a=>by
  rcases ZE3.1 a with rfl | a
  ·exact S6 h.1
  ·exact aFZ (n+1) x.2 h.2 y a
def aOS (x:pV.ty):CpuT:=⟨x.1,DE 32 x.2.1,x.2.2.1,x.2.2.2.1,x.2.2.2.2.1,x.2.2.2.2.2.1,x.2.2.2.2.2.2⟩
theorem aYB {x:pV.ty} (h:okE pV x):Fine (aOS x):=by
 refine ⟨aG4 32 _,fun i=>?_,S6 h.1⟩;show rng64 ((DE 32 x.2.1).getD i 0)=true;rw [ZG0]
 cases hi:(DE 32 x.2.1)[i]? with
 | none=>rfl
 | some v=>exact aFZ 32 x.2.1 h.2.1 v (List.mem_of_getElem? hi)
theorem a22 {y:Int} (h:IntKind.u8.has y):jT y=true:=by
 have a:IntKind.u8.min=0/\IntKind.u8.max=256 - 1:=⟨rfl,rfl⟩;unfold IntKind.has at h;rw [a.1,a.2] at h;simp only [jT,ZA2,decide_eq_true_eq];omega
theorem aFW {o:(EC.sl (.int .u8)).ty} (h:okE (.sl (.int .u8)) o):(o.getD []:List Int).all jT=true:=by
 cases o with
 | none=>rfl
 | some l=>exact ZE1.2 fun y a=>a22 (h.2 y a)
end Go.Ra

namespace Go.Ra
theorem aJF {v1 v0 u2 u1 q r:Nat} (b:0<v1) (e:q*v1+r=u2) (a:q*v0<=4294967296*r+u1) (hle:(u2*4294967296+u1) / (v1*4294967296+v0)<=q) :
  q=(u2*4294967296+u1) / (v1*4294967296+v0):=by
 refine Nat.le_antisymm ?_ hle;refine (Nat.le_div_iff_mul_le (by omega)).2 ?_;rw [Nat.mul_add q (v1*4294967296) v0,<- Nat.mul_assoc q v1 4294967296];omega
theorem a71 {v1 v0 u2 u1 q r:Nat} (c:0<v1) (b:u2*4294967296+u1<(v1*4294967296+v0)*4294967296) (e:q*v1+r=u2) (a:4294967296<=q\/4294967296*r+u1<q*v0) :
  (u2*4294967296+u1) / (v1*4294967296+v0)<=q - 1:=by
 have h:(u2*4294967296+u1) / (v1*4294967296+v0)<q:=by
  rcases a with h | h
  ·refine Nat.lt_of_lt_of_le ((Nat.div_lt_iff_lt_mul (by omega)).2 ?_) h
   omega
  ·refine (Nat.div_lt_iff_lt_mul (by omega)).2 ?_
   rw [Nat.mul_add q (v1*4294967296) v0,<- Nat.mul_assoc q v1 4294967296]
   clear b
   generalize q*v1=p at e ⊢;generalize q*v0=t at h ⊢;omega
 clear b a e
 omega
theorem a7K {v1 v0 u2 u1 q r:Nat} (b:0<v1) (c:v0<4294967296) (e:q*v1+r=u2) (f:4294967296<=r) (a:q<=4294967296) (hle:(u2*4294967296+u1) / (v1*4294967296+v0)<=q) :
  q=(u2*4294967296+u1) / (v1*4294967296+v0):=by
 refine aJF b e ?_ hle;have d:q*v0<=4294967296*v0:=Nat.mul_le_mul_right _ a;omega
theorem a1D {v1 v0 u2 u1:Nat} (e:2147483648<=v1) (b:v0<4294967296) (c:u1<4294967296) (a:u2*4294967296+u1<(v1*4294967296+v0)*4294967296) :
  (u2*4294967296+u1) / (v1*4294967296+v0)<=u2 / v1/\u2 / v1<=4294967297:=by
 constructor
 ·refine (Nat.le_div_iff_mul_le (by omega)).2 ?_
  have h:=Nat.div_mul_le_self (u2*4294967296+u1) (v1*4294967296+v0);generalize (u2*4294967296+u1) / (v1*4294967296+v0)=q at h;rw [Nat.mul_add q (v1*4294967296) v0,<- Nat.mul_assoc q v1 4294967296] at h
  clear a
  generalize q*v1=p at h ⊢;generalize q*v0=t at h;omega
 ·have h:=Nat.div_mul_le_self u2 v1
  generalize u2 / v1=q at h;by_cases hq:q<=4294967297
  ·exact hq
  ·have d:4294967298*v1<=q*v1:=Nat.mul_le_mul_right _ (by omega)
   omega
theorem a4W {v x u0:Nat} (a:0<v) :
  x / v*4294967296+(x % v*4294967296+u0) / v=(x*4294967296+u0) / v/\(x % v*4294967296+u0) % v=(x*4294967296+u0) % v:=by
 have h:=Nat.div_add_mod x v;generalize x / v=q at h ⊢;generalize x % v=r at h ⊢;subst h
 have e:(v*q+r)*4294967296+u0=(r*4294967296+u0)+v*(q*4294967296):=by
  rw [Nat.add_mul (v*q) r 4294967296,Nat.mul_assoc v q 4294967296];generalize v*(q*4294967296)=t;omega
 rw [e,Nat.add_mul_div_left (r*4294967296+u0) (q*4294967296) a,Nat.add_mul_mod_self_left (r*4294967296+u0) v (q*4294967296)];exact ⟨Nat.add_comm _ _,rfl⟩
theorem a3H {x y:Nat} (s:Nat) (b:0<y):(x*2 ^ s) / (y*2 ^ s)=x / y/\(x*2 ^ s) % (y*2 ^ s) / 2 ^ s=x % y:=by
 have a:0<2 ^ s:=Nat.two_pow_pos s;refine ⟨Nat.mul_div_mul_right _ _ a,?_⟩;rw [Nat.mul_mod_mul_right,Nat.mul_div_cancel _ a]
end Go.Ra

namespace Go.Ra
open Go Go.Ab Go.Proofs
noncomputable def aMI:Cx:={ P:=prog,n:=25,tab:=[],mtab:=[],refs:=[],keeps:=[0,2,4,8,14] }
def aLZ:List UInt8:=[0,1,2,2,3,3,3,3,4,4,4,4,4,4,4,4,5,5,5,5,5,5,5,5,5,5,5,5,5,5,5,5,6,6,6,6,6,6,6,6,6,6,6,6,6,6,6,6,6,6,6,6,6,6,6,6,6,6,6,6,6,6,6,6]++(List.replicate 64 7++List.replicate 128 8)
def aO0 (i:Int):Int:=wi ((UInt8.toNat (aLZ.getD i.toNat 0):Nat):Int)
def b8 (x:Int):Int:=wrap .u8 x
def NV (n x:Int):Option V:=cond (inside (b8 x) 256) (some (.int .i64 (wi (n+aO0 (b8 x))))) none
def OT (n x:Int):Option V:=cond (decide (256<=x)) (NV (wi (n+8)) (Int.fdiv x (2 ^ 8))) (NV n x)
def O1 (n x:Int):Option V:=cond (decide (65536<=x)) (OT (wi (n+16)) (Int.fdiv x (2 ^ 16))) (OT n x)
def ZE (x:Int):Option V:=cond (decide (4294967296<=x)) (O1 32 (Int.fdiv x (2 ^ 32))) (O1 0 x)
theorem adX (x:Int):(a7 aMI Tryz.f243 [.int .u64 x]).fin=ZE x:=by kernel_rfl
def blF (x:Int):Int:=(Lib.bitLen x.toNat:Nat)
theorem aXT:(List.range 256).all (fun n=>UInt8.toNat (aLZ.getD n 0)==Lib.bitLen n)=true:=by kernel_rfl
theorem B9 {x:Int} (a : -9223372036854775808<=x) (b:x<9223372036854775808):wi x=x:=by
 show wrap .i64 x=x;exact wrap_i64 a b
theorem aID {n:Int} {x:Nat} (h:x<256) (c:0<=n) (d:n<=64):NV n (x:Int)=some (.int .i64 (n+(Lib.bitLen x:Nat))):=by
 unfold NV aO0
 have e:b8 (x:Int)=x:=by
  show (x:Int) % 256=x;omega
 have b:=eq_of_beq (ZE1.1 aXT x (List.mem_range.2 h));have a:=Lib.bitLen_le8 ⟨x,h⟩;simp only at a;rw [e,jI (by omega) (by omega),cond_true,ZJ0,b,B9 (x:=((Lib.bitLen x:Nat):Int)) (by omega) (by omega),B9 (by omega) (by omega)]
theorem A8 (x k:Nat):Int.fdiv (x:Int) (2 ^ k)=((x / 2 ^ k:Nat):Int):=by
 rw [Int.fdiv_eq_ediv_of_nonneg _ (Int.le_of_lt (Int.pow_pos (by decide)))];simp
theorem aIM {n:Int} {x:Nat} (h:x<65536) (a:0<=n) (b:n<=48):OT n (x:Int)=some (.int .i64 (n+(Lib.bitLen x:Nat))):=by
 unfold OT;by_cases h2:256<=x
 ·rw [decide_eq_true (by omega),cond_true,A8,B9 (by omega) (by omega),aID (by omega) (by omega) (by omega),Lib.bitLen_shift8 x h2 (by omega)]
  exact congrArg (fun y=>some (V.int .i64 y)) (by rw [show (2:Nat) ^ 8=256 from rfl]; omega)
 ·rw [decide_eq_false (by omega),cond_false,aID (by omega) a (by omega)]
theorem aHN {n:Int} {x:Nat} (h:x<4294967296) (a:0<=n) (b:n<=32):O1 n (x:Int)=some (.int .i64 (n+(Lib.bitLen x:Nat))):=by
 unfold O1;by_cases h2:65536<=x
 ·rw [decide_eq_true (by omega),cond_true,A8,B9 (by omega) (by omega),aIM (by omega) (by omega) (by omega),Lib.bitLen_shift16 x h2 (by omega)]
  exact congrArg (fun y=>some (V.int .i64 y)) (by rw [show (2:Nat) ^ 16=65536 from rfl]; omega)
 ·rw [decide_eq_false (by omega),cond_false,aIM (by omega) a (by omega)]
theorem a9K {x:Nat} (h:x<18446744073709551616):ZE (x:Int)=some (.int .i64 (Lib.bitLen x:Nat)):=by
 unfold ZE;by_cases h2:4294967296<=x
 ·rw [decide_eq_true (by omega),cond_true,A8,aHN (by omega) (by omega) (by omega),Lib.bitLen_shift32 x h2 (by omega)]
  exact congrArg (fun y=>some (V.int .i64 y)) (by rw [show (2:Nat) ^ 32=4294967296 from rfl]; omega)
 ·rw [decide_eq_false (by omega),cond_false,aHN (by omega) (by omega) (by omega)]
  exact congrArg (fun y=>some (V.int .i64 y)) (by omega)
def Z0:Ab.Spec:=fun args=>match args with
 | [.int .u64 x]=>.aF (rng64 x) (.leaf (.int .i64 (blF x)))
 | _=>.fail
theorem a62:Sound prog 243 Z0:=by
 intro args out h;unfold Z0 at h;split at h;rotate_left
 ·cases h
 rename_i x;obtain ⟨a,h⟩:=aM h;cases h;simp only [rng64,ZA2,decide_eq_true_eq] at a;obtain ⟨m,rfl⟩:=Int.eq_ofNat_of_zero_le a.1;refine cE (cx:=aMI) (fn:=Tryz.f243) (dO rfl rfl) (by kernel_rfl) (by kernel_rfl) (by kernel_rfl) ?_;rw [<- Tree.bJ,adX,a9K (by omega)];rfl
theorem aLG:∀ (f x:Nat),x<2 ^ f->x<2 ^ Lib.bitLenAux f x/\(x ≠ 0->2 ^ Lib.bitLenAux f x<=2*x)
 | 0,x,h=>⟨h,fun c=>by simp at h; omega⟩
 | f+1,x,h=>by
  unfold Lib.bitLenAux;split
  ·rename_i d
   exact ⟨by rw [d]; decide,fun c=>absurd d c⟩
  ·rename_i d
   have e:x / 2<2 ^ f:=by
    rw [Nat.pow_succ] at h;omega
   obtain ⟨a,b⟩:=aLG f (x / 2) e;rw [Nat.add_comm,Nat.pow_succ];refine ⟨by omega,fun _=>?_⟩;by_cases c:x / 2=0
   ·have:x=1:=by omega
    subst this;rw [c]
    cases f with
    | zero=>decide
    | succ f =>
     show 2 ^ Lib.bitLenAux (f+1) 0*2<=_;unfold Lib.bitLenAux;simp
   ·have:=b c
    omega
theorem aiD {x:Nat} (h:x<2 ^ 64) (c:x ≠ 0):x<2 ^ Lib.bitLen x/\2 ^ Lib.bitLen x<=2*x/\Lib.bitLen x<=64:=by
 obtain ⟨a,b⟩:=aLG 64 x h;exact ⟨a,b c,Lib.bitLen_le x 64 (Nat.le_refl _) h⟩
noncomputable def aNB:Cx:={ P:=prog,n:=6,tab:=[(243,Z0)],mtab:=[],refs:=[],keeps:=[0,2] }
def IM (x:Int):Int:=wi (64 - blF x)
theorem afZ (x:Int):(a7 aNB Tryz.f201 [.int .u64 x]).fin=cond (rng64 x) (some (.int .i64 (IM x))) none:=by kernel_rfl
def lzS:Ab.Spec:=fun args=>match args with
 | [.int .u64 x]=>.aF (rng64 x) (.leaf (.int .i64 (IM x)))
 | _=>.fail
theorem aKI:Sound prog 201 lzS:=by
 intro args out h;unfold lzS at h;split at h;rotate_left
 ·cases h
 rename_i x;obtain ⟨a,h⟩:=aM h;cases h;refine cE (cx:=aNB) (fn:=Tryz.f201) (bU (dT a62) (.nil _) rfl rfl) (by kernel_rfl) (by kernel_rfl) (by kernel_rfl) ?_;rw [<- Tree.bJ,afZ,a];rfl
end Go.Ra

namespace Go.Ra
open Go Go.Ab Go.Proofs
noncomputable def iN:Cx:={ P:=prog,n:=135,tab:=[(201,lzS)],mtab:=[],refs:=[],keeps:=[0,1,2,6,7,8,9,10,11,12,13,14,15,16,17,18,20,24,27,78,85,113,120] }
noncomputable abbrev iV:Code:=cA Tryz.f151
def aKO (h l y:Int):Tree St:=
 (.br (y==0) .fail (.br (decide (y<=h)) .fail (.br (h==0) (.br (!decide (y=0)) (.br (!decide (y=0)) (.leaf (.ret,[(0,(.int .u64 h)),(1,(.int .u64 l)),(2,(.int .u64 y)),(6,(.int .u64 (wrap u64 (Int.tdiv l y)))),(7,(.int .u64 (Int.tmod l y))),(20,(.bool false)),(24,(.bool false)),(27,(.bool true))],[])) .fail) .fail) (.br (Go.Ra.rng64 y) (.leaf (.normal,[(0,(.int .u64 h)),(1,(.int .u64 l)),(2,(.int .u64 y)),(6,(.int .u64 0)),(7,(.int .u64 0)),(8,(.int .u64 (wrap u64 (Go.Ra.IM y)))),(20,(.bool false)),(24,(.bool false)),(27,(.bool false))],[])) .fail))))
theorem aZ5 (h l y:Int):(aK iN (eQ 4 iV) [(0,.int .u64 h),(1,.int .u64 l),(2,.int .u64 y)] []).run=(aKO h l y).run:=
 (show (aK iN (eQ 4 iV) [(0,.int .u64 h),(1,.int .u64 l),(2,.int .u64 y)] []).run=(aKO h l y).out by kernel_rfl).trans (Tree.out_run _)
def aN5 (h l y s:Int):Tree St:=
 (.br (decide (0<=s)) (.br (decide (0<=s)) (.br (decide (0<=wrap u64 (64 - s))) (.br (decide (0<=s)) (.br (!decide (Int.fdiv (wrap u64 (y*2 ^ Min.min (Int.toNat s) 64)) (2 ^ 32)=0)) (.leaf (.normal,[(0,(.int .u64 h)),(1,(.int .u64 l)),(2,(.int .u64 (wrap u64 (y*2 ^ Min.min (Int.toNat s) 64)))),(8,(.int .u64 s)),(9,(.int .u64 (Int.fdiv (wrap u64 (y*2 ^ Min.min (Int.toNat s) 64)) (2 ^ 32)))),(10,(.int .u64 (wrap u64 ↑(BitVec.toNat (BitVec.ofInt 64 (wrap u64 (y*2 ^ Min.min (Int.toNat s) 64)) &&& BitVec.ofInt 64 4294967295))))),(11,(.int .u64 (wrap u64 ↑(BitVec.toNat (BitVec.ofInt 64 (wrap u64 (h*2 ^ Min.min (Int.toNat s) 64)) ||| BitVec.ofInt 64 (Int.fdiv l (2 ^ Min.min (Int.toNat (wrap u64 (64 - s))) 64))))))),(12,(.int .u64 (wrap u64 (l*2 ^ Min.min (Int.toNat s) 64)))),(13,(.int .u64 (Int.fdiv (wrap u64 (l*2 ^ Min.min (Int.toNat s) 64)) (2 ^ 32)))),(14,(.int .u64 (wrap u64 ↑(BitVec.toNat (BitVec.ofInt 64 (wrap u64 (l*2 ^ Min.min (Int.toNat s) 64)) &&& BitVec.ofInt 64 4294967295))))),(15,(.int .u64 (wrap u64 (Int.tdiv (wrap u64 ↑(BitVec.toNat (BitVec.ofInt 64 (wrap u64 (h*2 ^ Min.min (Int.toNat s) 64)) ||| BitVec.ofInt 64 (Int.fdiv l (2 ^ Min.min (Int.toNat (wrap u64 (64 - s))) 64))))) (Int.fdiv (wrap u64 (y*2 ^ Min.min (Int.toNat s) 64)) (2 ^ 32)))))),(16,(.int .u64 (wrap u64 (wrap u64 ↑(BitVec.toNat (BitVec.ofInt 64 (wrap u64 (h*2 ^ Min.min (Int.toNat s) 64)) ||| BitVec.ofInt 64 (Int.fdiv l (2 ^ Min.min (Int.toNat (wrap u64 (64 - s))) 64)))) - wrap u64 (wrap u64 (Int.tdiv (wrap u64 ↑(BitVec.toNat (BitVec.ofInt 64 (wrap u64 (h*2 ^ Min.min (Int.toNat s) 64)) ||| BitVec.ofInt 64 (Int.fdiv l (2 ^ Min.min (Int.toNat (wrap u64 (64 - s))) 64))))) (Int.fdiv (wrap u64 (y*2 ^ Min.min (Int.toNat s) 64)) (2 ^ 32)))*Int.fdiv (wrap u64 (y*2 ^ Min.min (Int.toNat s) 64)) (2 ^ 32))))))],[])) .fail) .fail) .fail) .fail) .fail)
theorem a3F (h l y s:Int):(aK iN (eQ 8 (aJ 4 iV)) [(0,.int .u64 h),(1,.int .u64 l),(2,.int .u64 y),(8,.int .u64 s)] []).run=(aN5 h l y s).run:=
 (show (aK iN (eQ 8 (aJ 4 iV)) [(0,.int .u64 h),(1,.int .u64 l),(2,.int .u64 y),(8,.int .u64 s)] []).run=(aN5 h l y s).out by kernel_rfl).trans (Tree.out_run _)
def aMP (q v v1 v0 u2 u1 u0 s:Int):Tree St:=
 (.br (!decide (v1=0)) (.leaf (.normal,[(2,(.int .u64 v)),(8,(.int .u64 s)),(9,(.int .u64 v1)),(10,(.int .u64 v0)),(11,(.int .u64 u2)),(13,(.int .u64 u1)),(14,(.int .u64 u0)),(15,(.int .u64 q)),(16,(.int .u64 (wrap u64 (wrap u64 (wrap u64 (wrap u64 (u2*4294967296)+u1) - wrap u64 (q*v)) - wrap u64 (wrap u64 (Int.tdiv (wrap u64 (wrap u64 (wrap u64 (u2*4294967296)+u1) - wrap u64 (q*v))) v1)*v1))))),(17,(.int .u64 (wrap u64 (wrap u64 (wrap u64 (u2*4294967296)+u1) - wrap u64 (q*v))))),(18,(.int .u64 (wrap u64 (Int.tdiv (wrap u64 (wrap u64 (wrap u64 (u2*4294967296)+u1) - wrap u64 (q*v))) v1))))],[])) .fail)
theorem a3S (q v v1 v0 u2 u1 u0 s:Int):(aK iN (eQ 2 (aJ 14 iV)) [(2,.int .u64 v),(8,.int .u64 s),(9,.int .u64 v1),(10,.int .u64 v0),(11,.int .u64 u2),(13,.int .u64 u1),(14,.int .u64 u0),(15,.int .u64 q)] []).run=(aMP q v v1 v0 u2 u1 u0 s).run:=
 (show (aK iN (eQ 2 (aJ 14 iV)) [(2,.int .u64 v),(8,.int .u64 s),(9,.int .u64 v1),(10,.int .u64 v0),(11,.int .u64 u2),(13,.int .u64 u1),(14,.int .u64 u0),(15,.int .u64 q)] []).run=(aMP q v v1 v0 u2 u1 u0 s).out by kernel_rfl).trans (Tree.out_run _)
def aNS (c b v a u0 s:Int):Tree St:=
 (.br (decide (0<=s)) (.leaf (.ret,[(2,(.int .u64 v)),(6,(.int .u64 (wrap u64 (wrap u64 (c*4294967296)+b)))),(7,(.int .u64 (Int.fdiv (wrap u64 (wrap u64 (wrap u64 (a*4294967296)+u0) - wrap u64 (b*v))) (2 ^ Min.min (Int.toNat s) 64)))),(8,(.int .u64 s)),(14,(.int .u64 u0)),(15,(.int .u64 c)),(17,(.int .u64 a)),(18,(.int .u64 b))],[])) .fail)
theorem a30 (c b v a u0 s:Int):(aK iN (aJ 18 iV) [(2,.int .u64 v),(8,.int .u64 s),(14,.int .u64 u0),(15,.int .u64 c),(17,.int .u64 a),(18,.int .u64 b)] []).run=(aNS c b v a u0 s).run:=
 (show (aK iN (aJ 18 iV) [(2,.int .u64 v),(8,.int .u64 s),(14,.int .u64 u0),(15,.int .u64 c),(17,.int .u64 a),(18,.int .u64 b)] []).run=(aNS c b v a u0 s).out by kernel_rfl).trans (Tree.out_run _)
def KnI (v1 v0 u2 u1:Nat) (p:Nat × Nat):Prop:=p.1*v1+p.2=u2/\(u2*4294967296+u1) / (v1*4294967296+v0)<=p.1/\p.1<=4294967297/\p.2<4294967296
def PG (ex:Nat) (st:Int->Int->T) (a b:Nat) (q r v1:Int):Tree St:=
 .br (decide (4294967296<=wu (r+v1))) (.leaf (.exit ex,st (wu (q - 1)) (wu (r+v1))++[(a,.bool true),(b,.bool true)],[])) (.leaf (.normal,st (wu (q - 1)) (wu (r+v1))++[(a,.bool true),(b,.bool false)],[]))
def IP (ex:Nat) (st:Int->Int->T) (a b:Nat) (q v0 r u1 v1:Int):Tree St:=
 .br (decide (4294967296<=q)) (PG ex st a b q r v1) (.br (decide (wu (wu (4294967296*r)+u1)<wu (q*v0))) (PG ex st a b q r v1) (.leaf (.exit ex,st q r++[(a,.bool false)],[])))
theorem fQ {x:Nat} (h:x<18446744073709551616):wu (x:Int)=(x:Int):=by
 show (x:Int) % 18446744073709551616=_;omega
theorem aNM {a b:Nat} (d:a<4294967296) (hb:b<4294967296):a*b<18446744073709551616:=by
 have c:a*b<=4294967295*b:=Nat.mul_le_mul_right _ (by omega);generalize a*b=p at c ⊢;omega
set_option maxRecDepth 8000 in
theorem aJ3 {P:Program} {n:Nat} {cx:Cx} (y:cx.P=P) (A:cx.n=n) (z:aW cx) {body:Code} {Q:AEx->T->List O->Prop} {st:Int->Int->T} {ex a b:Nat} {v1 v0 u2 u1:Nat}
  (C:2147483648<=v1) (D:v1<4294967296) (g:v0<4294967296) (x:u1<4294967296) (t:u2*4294967296+u1<(v1*4294967296+v0)*4294967296)
  (k:∀ q r l,dK (st q r++l) (st q r)) (B:∀ q r:Int,(aK cx body (st q r) []).run=(IP ex st a b q v0 r u1 v1).run)
  (c:∀ r l,Q (.exit ex) (st (((u2*4294967296+u1) / (v1*4294967296+v0):Nat):Int) r++l) []) :
  aI P n (.loop body) Q (st ((u2 / v1:Nat):Int) ((u2 % v1:Nat):Int)) []:=by
 obtain ⟨w,g2⟩:=a1D C g x t
 have e0:u2 / v1*v1+u2 % v1=u2:=by rw [Nat.mul_comm]; exact Nat.div_add_mod _ _
 have r0:u2 % v1<v1:=Nat.mod_lt _ (by omega);refine JU (α:={ p:Nat × Nat // KnI v1 v0 u2 u1 p }) (fun p=>(st (p.1.1:Int) (p.1.2:Int),[])) (fun p=>4294967296 - p.1.2) (fun p=>kD y A z body _ _ _ ?_) ⟨(u2 / v1,u2 % v1),e0,w,g2,by show u2 % v1<_; omega⟩;obtain ⟨⟨q,r⟩,i1,i2,i3,i4⟩:=p;simp only at i1 i2 i3 i4;refine Tree.all_run_eq (B q r) ?_
 have v:wu ((r:Int)+v1)=((r+v1:Nat):Int):=by rw [<- Int.natCast_add]; exact fQ (by omega)
 have d:(4294967296<=q\/4294967296*r+u1<q*v0)->(PG ex st a b q r v1).all (fun s=>(match s.1 with | .normal=>∃ j:{ p:Nat × Nat // KnI v1 v0 u2 u1 p },4294967296 - j.1.2<4294967296 - r/\dK s.2.1 (st (j.1.1:Int) (j.1.2:Int))/\s.2.2=[] | e=>Q e s.2.1 s.2.2)):=by
  intro o;have m:=a71 (by omega) t i1 o
  have E:1<=q:=by
   rcases o with h | h
   ·omega
   ·cases q with
    | zero=>simp at h
    | succ q=>omega
  have e' : (q - 1)*v1+(r+v1)=u2:=by
   obtain ⟨p,rfl⟩:∃ p,q=p+1:=⟨q - 1,by omega⟩;rw [Nat.add_mul] at i1;simp only [Nat.add_sub_cancel];omega
  have u:wu ((q:Int) - 1)=((q - 1:Nat):Int):=by
   rw [show (q:Int) - 1=((q - 1:Nat):Int) by omega];exact fQ (by omega)
  unfold PG;rw [v,u];refine ⟨fun h=>?_,fun h=>?_⟩
  ·have h:(4294967296:Int)<=((r+v1:Nat):Int):=of_decide_eq_true h
   have e:=a7K (by omega) g e' (by omega) (by omega) m;show Q _ _ _;rw [e];exact c _ _
  ·have h:¬ (4294967296:Int)<=((r+v1:Nat):Int):=of_decide_eq_false h
   exact ⟨⟨(q - 1,r+v1),e',m,by show q - 1<=_; omega,by show r+v1<_; omega⟩,by show 4294967296 - (r+v1)<4294967296 - r; omega,k _ _ _,rfl⟩
 refine ⟨fun h=>d (.inl ?_),fun h=>⟨fun f=>d (.inr ?_),fun f=>?_⟩⟩
 ·have h:(4294967296:Int)<=(q:Int):=of_decide_eq_true h
  omega
 ·have h:¬ (4294967296:Int)<=(q:Int):=of_decide_eq_false h
  have f:wu (wu (4294967296*(r:Int))+u1)<wu ((q:Int)*v0):=of_decide_eq_true f;have i:=aNM (a:=q) (b:=v0) (by omega) g;rw [<- Int.natCast_mul,fQ i,show (4294967296*(r:Int))=((4294967296*r:Nat):Int) by omega,fQ (by omega),<- Int.natCast_add,fQ (by omega)] at f;omega
 ·have h:¬ (4294967296:Int)<=(q:Int):=of_decide_eq_false h
  have f:¬ wu (wu (4294967296*(r:Int))+u1)<wu ((q:Int)*v0):=of_decide_eq_false f;have i:=aNM (a:=q) (b:=v0) (by omega) g;rw [<- Int.natCast_mul,fQ i,show (4294967296*(r:Int))=((4294967296*r:Nat):Int) by omega,fQ (by omega),<- Int.natCast_add,fQ (by omega)] at f;have e:=aJF (by omega) i1 (by omega) i2;show Q _ _ _;rw [e];exact c _ _
theorem ad2 (v s v1 v0 u2 u1 u0:Int) (q r:Int):(aK iN (cin (cin (c1 (aJ 13 iV)))) [(2,.int .u64 v),(8,.int .u64 s),(9,.int .u64 v1),(10,.int .u64 v0),(11,.int .u64 u2),(13,.int .u64 u1),(14,.int .u64 u0),(15,.int .u64 q),(16,.int .u64 r)] []).run =
  (IP 0 (fun q r=>[(2,.int .u64 v),(8,.int .u64 s),(9,.int .u64 v1),(10,.int .u64 v0),(11,.int .u64 u2),(13,.int .u64 u1),(14,.int .u64 u0),(15,.int .u64 q),(16,.int .u64 r)]) 78 85 q v0 r u1 v1).run:=
 (show _=(IP 0 _ 78 85 q v0 r u1 v1).out by kernel_rfl).trans (Tree.out_run _)
theorem abC (v s v1 v0 u0 b a:Int) (q r:Int):(aK iN (cin (cin (c1 (aJ 17 iV)))) [(2,.int .u64 v),(8,.int .u64 s),(9,.int .u64 v1),(10,.int .u64 v0),(14,.int .u64 u0),(15,.int .u64 b),(16,.int .u64 r),(17,.int .u64 a),(18,.int .u64 q)] []).run =
  (IP 2 (fun q r=>[(2,.int .u64 v),(8,.int .u64 s),(9,.int .u64 v1),(10,.int .u64 v0),(14,.int .u64 u0),(15,.int .u64 b),(16,.int .u64 r),(17,.int .u64 a),(18,.int .u64 q)]) 113 120 q v0 r u0 v1).run:=
 (show _=(IP 2 _ 113 120 q v0 r u0 v1).out by kernel_rfl).trans (Tree.out_run _)
end Go.Ra

namespace Go.Ra
open Go Go.Ab Go.Proofs
def cK (y:Nat):Nat:=64 - Lib.bitLen y
theorem aKE {y:Nat} (h:y<2 ^ 64) (i:y ≠ 0):cK y<=63/\9223372036854775808<=y*2 ^ cK y/\y*2 ^ cK y<18446744073709551616:=by
 obtain ⟨a,b,c⟩:=aiD h i;unfold cK;generalize Lib.bitLen y=k at a b c
 have f:k ≠ 0:=by
  intro f;subst f;simp at a;omega
 have e:2 ^ k*2 ^ (64 - k)=18446744073709551616:=by
  rw [<- Nat.pow_add,Nat.add_sub_cancel' c]
 have g:0<2 ^ (64 - k):=Nat.two_pow_pos _;generalize 2 ^ k=p at a b e;generalize 2 ^ (64 - k)=t at e g;refine ⟨by omega,?_,?_⟩
 ·have d:p*t<=2*y*t:=Nat.mul_le_mul_right _ b
  rw [Nat.mul_assoc] at d;generalize y*t=z at d;omega
 ·have d:=Nat.mul_lt_mul_of_pos_right a g
  rw [e] at d;exact d
theorem ahN {y:Nat} (h:y<2 ^ 64):wu (IM (y:Int))=(cK y:Nat):=by
 unfold IM blF cK;have c:=Lib.bitLen_le y 64 (Nat.le_refl _) h;rw [ZJ0,B9 (by omega) (by omega)];rw [show (64:Int) - ((Lib.bitLen y:Nat):Int)=((64 - Lib.bitLen y:Nat):Int) by omega];exact fQ (by omega)
theorem RN {s:Nat} (h:s<=64):Min.min (Int.toNat (s:Int)) 64=s:=by
 rw [ZJ0];exact Nat.min_eq_left h
theorem RG {x s:Nat} (h:s<=64):wu ((x:Int)*2 ^ Min.min (Int.toNat (s:Int)) 64)=((x*2 ^ s % 18446744073709551616:Nat):Int):=by
 rw [RN h,show (x:Int)*2 ^ s=((x*2 ^ s:Nat):Int) by simp];rfl
theorem a8H (x:Nat):wu ((BitVec.toNat (BitVec.ofInt 64 (x:Int) &&& BitVec.ofInt 64 4294967295):Nat):Int)=((x % 4294967296:Nat):Int):=by
 have a:(BitVec.ofInt 64 (x:Int)).toNat=x % 18446744073709551616:=by
  rw [BitVec.toNat_ofInt];omega
 rw [BitVec.toNat_and,a,show (BitVec.ofInt 64 4294967295).toNat=2 ^ 32 - 1 from by decide,Nat.and_two_pow_sub_one_eq_mod];show ((x % 18446744073709551616 % 2 ^ 32:Nat):Int) % 18446744073709551616=_;omega
theorem or_cast {x y:Nat} (a:x<18446744073709551616) (b:y<18446744073709551616):wu ((BitVec.toNat (BitVec.ofInt 64 (x:Int) ||| BitVec.ofInt 64 (y:Int)):Nat):Int)=((x ||| y:Nat):Int):=by
 have e:∀ z:Nat,z<18446744073709551616->(BitVec.ofInt 64 (z:Int)).toNat=z:=fun z c=>by
  rw [BitVec.toNat_ofInt];omega
 rw [BitVec.toNat_or,e x a,e y b];exact fQ (Nat.or_lt_two_pow (n:=64) a b)
def AB (h l s:Nat):Nat:=h*2 ^ s+l / 2 ^ (64 - s)
def G2 (l s:Nat):Nat:=l*2 ^ s % 18446744073709551616
theorem afQ {h l s:Nat} (c:s<=64):AB h l s*18446744073709551616+G2 l s=(h*18446744073709551616+l)*2 ^ s:=by
 unfold AB G2
 have e:2 ^ (64 - s)*2 ^ s=18446744073709551616:=by
  rw [<- Nat.pow_add,Nat.sub_add_cancel c]
 have b:0<2 ^ s:=Nat.two_pow_pos _
 have a:l / 2 ^ (64 - s)=l*2 ^ s / 18446744073709551616:=by
  rw [<- e,Nat.mul_div_mul_right _ _ b]
 have e3:=Nat.div_add_mod (l*2 ^ s) 18446744073709551616;rw [a,Nat.add_mul (h*2 ^ s),Nat.add_mul (h*18446744073709551616),Nat.mul_right_comm h];generalize l*2 ^ s=x at e3 ⊢;generalize h*2 ^ s=z;omega
theorem a6Q {h l y:Nat} (i:y<2 ^ 64) (c:y ≠ 0) (e:h<y) (f:l<18446744073709551616) :
  wu ((BitVec.toNat (BitVec.ofInt 64 (wu ((h:Int)*2 ^ Min.min (Int.toNat (cK y:Nat)) 64)) ||| BitVec.ofInt 64 (Int.fdiv (l:Int) (2 ^ Min.min (Int.toNat (wu (64 - (cK y:Nat)))) 64))):Nat):Int)=((AB h l (cK y):Nat):Int)/\AB h l (cK y)<18446744073709551616:=by
 obtain ⟨j,b2,b3⟩:=aKE i c
 have g:h*2 ^ cK y+2 ^ cK y<=y*2 ^ cK y:=by
  have:=Nat.mul_le_mul_right (2 ^ cK y) (show h+1<=y from e);rw [Nat.add_mul,Nat.one_mul] at this;exact this
 have k:0<2 ^ cK y:=Nat.two_pow_pos _
 have a:wu (64 - ((cK y:Nat):Int))=((64 - cK y:Nat):Int):=by
  rw [show (64:Int) - ((cK y:Nat):Int)=((64 - cK y:Nat):Int) by omega];exact fQ (by omega)
 have d:l / 2 ^ (64 - cK y)<2 ^ cK y:=by
  refine (Nat.div_lt_iff_lt_mul (Nat.two_pow_pos _)).2 ?_;rw [<- Nat.pow_add,Nat.add_sub_cancel' (by omega)];exact f
 have b:=RG (x:=h) (s:=cK y) (by omega);rw [Nat.mod_eq_of_lt (by omega)] at b;rw [b,a,RN (by omega),A8,or_cast (by omega) (by omega)];unfold AB
 generalize cK y=s at *
 refine ⟨?_,by omega⟩;rw [Nat.mul_comm h,<- Nat.two_pow_add_eq_or_of_lt d]
theorem aE8 (x y:Nat):Int.tdiv (x:Int) (y:Int)=((x / y:Nat):Int):=by
 rw [Int.tdiv_eq_ediv_of_nonneg (by omega)];rfl
theorem fS (x:Int):wu x=x % 18446744073709551616:=rfl
theorem aXG {x v:Nat} (a:x<18446744073709551616):wu ((x:Int) - wu (((x / v:Nat):Int)*(v:Int)))=((x % v:Nat):Int):=by
 have h:=Nat.div_add_mod x v;rw [Nat.mul_comm] at h;rw [<- Int.natCast_mul];generalize x / v*v=p at h ⊢;rw [fQ (by omega),show (x:Int) - (p:Int)=((x % v:Nat):Int) by omega];exact fQ (by have:=Nat.mod_le x v; omega)
theorem aDL {a b v:Nat} (d:0<v) (e:v<=18446744073709551616):wu (wu (wu ((a:Int)*4294967296)+(b:Int)) - wu ((((a*4294967296+b) / v:Nat):Int)*(v:Int)))=(((a*4294967296+b) % v:Nat):Int):=by
 have h:=Nat.div_add_mod (a*4294967296+b) v;have c:=Nat.mod_lt (a*4294967296+b) d;rw [Nat.mul_comm] at h;rw [<- Int.natCast_mul];generalize (a*4294967296+b) / v*v=p at h ⊢;generalize (a*4294967296+b) % v=r at h c ⊢;rw [fS,fS,fS,fS];omega
def nM (h l y:Int):Int:=(h*18446744073709551616+l) / y
def pF (h l y:Int):Int:=(h*18446744073709551616+l) % y
theorem a6B (h l y:Nat):nM h l y=(((h*18446744073709551616+l) / y:Nat):Int):=by
 unfold nM;simp
theorem a6W (h l y:Nat):pF h l y=(((h*18446744073709551616+l) % y:Nat):Int):=by
 unfold pF;simp
theorem aiT {h l y:Nat} (a:h<y) (b:l<18446744073709551616):(h*18446744073709551616+l) / y<18446744073709551616:=by
 refine (Nat.div_lt_iff_lt_mul (by omega)).2 ?_;have:(h+1)*18446744073709551616<=y*18446744073709551616:=Nat.mul_le_mul_right _ a;rw [Nat.mul_comm 18446744073709551616 y];omega
end Go.Ra

namespace Go.Ra
open Go Go.Ab Go.Proofs
noncomputable def aO2:Cx:={ P:=prog,n:=17,tab:=[],mtab:=[],refs:=[],keeps:=[0,2] }
noncomputable def U3:Ab.Spec:=fun args=>.aF (Nat.ble args.length Tryz.f29.ntmps) (a7 aO2 Tryz.f29 args)
theorem aDU:Sound prog 29 U3:=EZ (cx:=aO2) (fn:=Tryz.f29) (dO rfl rfl) (by kernel_rfl) (by kernel_rfl)
noncomputable def aMN:Cx:={ P:=prog,n:=41,tab:=[(29,U3)],mtab:=[(30,wD),(31,HR),(33,getM)],refs:=[],keeps:=[0,1,2,6,7,8,9,10,14,27],fuel:=9 }
noncomputable def aPK:Cx:={ P:=prog,n:=40,tab:=[(29,U3)],mtab:=[(30,wD),(31,HR),(32,NX)],refs:=[],keeps:=[0,1,2,3,8,9,10,14,24,25,26],fuel:=9 }
def a8 (x:Int) (i:Nat):Int:=wrap .u64 (x+wrap .u64 (i:Int))
def ldS (v b:Int):Int:=wrap .u64 (((BitVec.ofInt 64 (wrap .u64 (v*2 ^ 8)) ||| BitVec.ofInt 64 (wrap .u64 b)).toNat:Nat):Int)
def usable (x:Int):Bool:=rng64 x&&iS (aQ x)
def NU (a b c d e:List Int) (x:Int):Nat->Int->Option Res
 | 0,v=>some (.ok (.tup [.int .u64 v,.int .i64 0]) (aR a b c d e))
 | m+1,v=>cond (true&&lens5 a b c d e) (cond (usable (a8 x m)) (NU a b c d e x m (ldS v (iO a b c d e (a8 x m)))) none) none
def ldX (n:Nat) (a b c d e:List Int) (x:Int):Option Res:=cond (true&&lens5 a b c d e) (cond (rng64 x&&true) (cond (!cM x (n:Int) 4) (some (.ok (.tup [.int .u64 0,.int .i64 21]) (aR a b c d e))) (NU a b c d e x n 0)) none) none
noncomputable def ldE (n:Nat) (a b c d e:List Int) (x:Int):Option Res:=(dF aMN Tryz.f145 [.ptr 0 0,.int .u64 x,.int .i64 (n:Int)] (aR a b c d e)).fin
def qD (y:Int) (i:Nat):Int:=wrap .u8 (Int.fdiv y (2 ^ (8*i)))
def OC (x y:Int):Nat->Nat->List Int->List Int->List Int->List Int->List Int->Option Res
 | 0,_,a,b,c,d,e=>some (.ok (.int .i64 0) (aR a b c d e))
 | m+1,i,a,b,c,d,e=>cond (true&&lens5 a b c d e) (cond (usable (a8 x i)) (OC x y m (i+1) (cP 1 (a8 x i) (qD y i) a) (cP 2 (a8 x i) (qD y i) b) (cP 16 (a8 x i) (qD y i) c) (cP 17 (a8 x i) (qD y i) d) (cP 32 (a8 x i) (qD y i) e)) none) none
def stX (n:Nat) (a b c d e:List Int) (x y:Int):Option Res:=cond (true&&lens5 a b c d e) (cond (rng64 x&&true) (cond (!cM x (n:Int) 2) (some (.ok (.int .i64 21) (aR a b c d e))) (OC x y n 0 a b c d e)) none) none
noncomputable def stE (n:Nat) (a b c d e:List Int) (x y:Int):Option Res:=(dF aPK Tryz.f13 [.ptr 0 0,.int .u64 x,.int .i64 (n:Int),.int .u64 y] (aR a b c d e)).fin
theorem aa3:[1,2,4,8].map ldE=[1,2,4,8].map ldX:=by kernel_rfl
theorem aaP:[1,2,4,8].map stE=[1,2,4,8].map stX:=by kernel_rfl
def EH (n:Int):Bool:=n==1 || (n==2 || (n==4 || n==8))
theorem K4 {n:Int} (h:EH n=true):∃ m:Nat,m ∈ [1,2,4,8]/\n=(m:Int):=by
 simp only [EH,ZA3,beq_iff_eq] at h
 rcases h with h | h | h | h
 ·exact ⟨1,by decide,h⟩
 ·exact ⟨2,by decide,h⟩
 ·exact ⟨4,by decide,h⟩
 ·exact ⟨8,by decide,h⟩
theorem MG {r k:Int} (h:iH r k=true):iS k=true:=by
 unfold iH rC at h;unfold iS
 revert h
 cases k==1 <;> cases k==2 <;> cases k==16 <;> cases k==17 <;> cases k==32 <;> intro h <;> first | rfl | cases h
theorem acL {x n:Int} {r:Int} (h:rng64 x=true) (f:1<=n) (g:n<=16) (b:cM x n r=true) {i:Nat} (hi:(i:Int)<n):a8 x i=x+i/\rng64 (x+i)=true:=by
 unfold cM at b;obtain ⟨a,_⟩:=ZA0.1 b;have a:=of_decide_eq_true a;have d:=LG h f g a;have c:=KE x n;rw [d] at c;simp only [rng64,ZA2,decide_eq_true_eq] at h c ⊢;have e:a8 x i=(x+(i:Int) % 18446744073709551616) % 18446744073709551616:=rfl;rw [e];omega
theorem JS {x n:Int} {r:Int} (h:rng64 x=true) (d:1<=n) (e:n<=16) (c:cM x n r=true) {i:Nat} (hi:(i:Int)<n):usable (a8 x i)=true:=by
 obtain ⟨f,e2⟩:=acL h d e c hi;unfold usable;rw [f,e2,Bool.true_and];unfold cM at c;obtain ⟨b,a⟩:=ZA0.1 c;obtain ⟨a,g3⟩:=ZA0.1 a;have b:=of_decide_eq_true b;have j:=LG h d e b;have g:=KE x n;have l:=pD h;have py:=pD g;have k:=pD e2
 rcases ZA1.1 g3 with g3 | g3
 ·have g3:aQ (jC x n)=aQ x:=by simpa using g3
  have:aQ (x+i)=aQ x:=by omega
  rw [this];exact MG a
 ·by_cases hq:aQ (x+i)=aQ x
  ·rw [hq]
   exact MG a
  ·have:aQ (x+i)=aQ (jC x n):=by omega
   rw [this];exact MG g3
def xI (a b c d e:List Int) (x:Int):Nat->Int->Int
 | 0,v=>v
 | m+1,v=>xI a b c d e x m (ldS v (iO a b c d e (a8 x m)))
def kA (k x y:Int):Nat->Nat->List Int->List Int
 | 0,_,l=>l
 | m+1,i,l=>kA k x y m (i+1) (cP k (a8 x i) (qD y i) l)
theorem aIV {a b c d e:List Int} {x:Int} (f:lens5 a b c d e=true):∀ (m:Nat) (v:Int),(∀ i,i<m->usable (a8 x i)=true)->NU a b c d e x m v=some (.ok (.tup [.int .u64 (xI a b c d e x m v),.int .i64 0]) (aR a b c d e))
 | 0,_,_=>rfl
 | m+1,v,h=>by
  unfold NU xI;rw [f,h m (by omega),Bool.and_true,cond_true,cond_true];exact aIV f m _ fun i hi=>h i (by omega)
theorem a19 (k x v:Int) (l:List Int):(cP k x v l).length=l.length:=by
 unfold cP;cases aQ x==k
 ·rfl
 ·exact List.length_set
theorem FX {l:List Int} (h:qG l=true) (k x:Int) {v:Int} (c:jT v=true):qG (cP k x v l)=true:=by
 unfold qG at h ⊢;rw [a19];obtain ⟨b,h2⟩:=ZA0.1 h;rw [b,Bool.true_and];unfold cP;cases aQ x==k
 ·exact h2
 ·rw [cond_true,ZE1]
  intro y a
  rcases List.mem_or_eq_of_mem_set a with a | rfl
  ·exact ZE1.1 h2 y a
  ·exact c
theorem R1 (y:Int) (i:Nat):jT (qD y i)=true:=by
 unfold jT qD;have e:wrap .u8 (Int.fdiv y (2 ^ (8*i)))=Int.fdiv y (2 ^ (8*i)) % 256:=rfl;rw [e,ZA0,decide_eq_true_iff,decide_eq_true_iff];omega
theorem JH {a b c d e:List Int} (h:lens5 a b c d e=true) (x:Int) {v:Int} (f:jT v=true):lens5 (cP 1 x v a) (cP 2 x v b) (cP 16 x v c) (cP 17 x v d) (cP 32 x v e)=true:=by
 unfold lens5 at h ⊢;simp only [ZA2] at h ⊢;obtain ⟨g,h2,h3,h4,h5⟩:=h;exact ⟨FX g _ _ f,FX h2 _ _ f,FX h3 _ _ f,FX h4 _ _ f,FX h5 _ _ f⟩
theorem aIZ {x y:Int}:∀ (m i:Nat) {a b c d e:List Int},lens5 a b c d e=true->(∀ j,i<=j->j<i+m->usable (a8 x j)=true) ->
  OC x y m i a b c d e=some (.ok (.int .i64 0) (aR (kA 1 x y m i a) (kA 2 x y m i b) (kA 16 x y m i c) (kA 17 x y m i d) (kA 32 x y m i e)))
 | 0,_,_,_,_,_,_,_,_=>rfl
 | m+1,i,a,b,c,d,e,hl,h=>by
  unfold OC kA;rw [hl,h i (by omega) (by omega),Bool.and_true,cond_true,cond_true];exact aIZ m (i+1) (JH hl _ (R1 _ _)) fun j f g=>h j (by omega) (by omega)
def WO:MSpec:=fun args H=>match args with
 | [.ptr 0 0,.int .u64 x,.int .i64 n]=>lT (fun a b c d e=>.aF (rng64 x&&EH n) (.leaf (.ok (.tup [.int .u64 (cond (cM x n 4) (xI a b c d e x n.toNat 0) 0),.int .i64 (cond (cM x n 4) 0 21)]) (aR a b c d e)))) H
 | _=>.fail
def b9 (k x n y:Int) (l:List Int):List Int:=cond (cM x n 2) (kA k x y n.toNat 0 l) l
def UF:MSpec:=fun args H=>match args with
 | [.ptr 0 0,.int .u64 x,.int .i64 n,.int .u64 y]=>lT (fun a b c d e=>.aF (rng64 x&&EH n) (.leaf (.ok (.int .i64 (cond (cM x n 2) 0 21)) (aR (b9 1 x n y a) (b9 2 x n y b) (b9 16 x n y c) (b9 17 x n y d) (b9 32 x n y e))))) H
 | _=>.fail
theorem a16:bP prog 145 WO:=by
 intro args H out h;unfold WO at h;split at h;rotate_left
 ·cases h
 rename_i x n;obtain ⟨a,b,c,d,e,rfl,hl,h⟩:=m6 h;obtain ⟨g,h⟩:=aM h;cases h;obtain ⟨f,hn⟩:=ZA0.1 g;obtain ⟨m,hm,rfl⟩:=K4 hn;refine fA (cx:=aMN) (fn:=Tryz.f145) (bU (dT aDU) (.cons vH (.cons T4 (.cons T0 fun p h=>by cases h))) rfl rfl) (by kernel_rfl) (by kernel_rfl) _ _ _ ?_;refine nC (by kernel_rfl) ?_;rw [<- Tree.bJ];refine (congrFun (congrFun (congrFun (congrFun (congrFun (congrFun (List.map_inj_left.1 aa3 _ hm) a) b) c) d) e) x).trans ?_
 have j:1<=m/\m<=16:=by
  simp only [ZE3,List.not_mem_nil,or_false] at hm;omega
 unfold ldX;rw [hl,f];cases hb:cM x (m:Int) 4
 ·rfl
 ·exact aIV hl m 0 fun i hi=>JS f (by omega) (by omega) hb (by omega)
theorem aZT:bP prog 13 UF:=by
 intro args H out h;unfold UF at h;split at h;rotate_left
 ·cases h
 rename_i x n y;obtain ⟨a,b,c,d,e,rfl,hl,h⟩:=m6 h;obtain ⟨g,h⟩:=aM h;cases h;obtain ⟨f,hn⟩:=ZA0.1 g;obtain ⟨m,hm,rfl⟩:=K4 hn;refine fA (cx:=aPK) (fn:=Tryz.f13) (bU (dT aDU) (.cons vH (.cons T4 (.cons aH8 fun p h=>by cases h))) rfl rfl) (by kernel_rfl) (by kernel_rfl) _ _ _ ?_;refine nC (by kernel_rfl) ?_;rw [<- Tree.bJ];refine (congrFun (congrFun (congrFun (congrFun (congrFun (congrFun (congrFun (List.map_inj_left.1 aaP _ hm) a) b) c) d) e) x) y).trans ?_
 have j:1<=m/\m<=16:=by
  simp only [ZE3,List.not_mem_nil,or_false] at hm;omega
 unfold stX b9;rw [hl,f];cases hb:cM x (m:Int) 2
 ·rfl
 ·exact aIZ m 0 hl fun i _ hi=>JS f (by omega) (by omega) hb (by omega)
end Go.Ra

namespace Go.Ra
open Go Go.Ab Go.Proofs
noncomputable def aPM:Cx:={ P:=prog,n:=27,tab:=[],mtab:=[(30,wD)],refs:=[],keeps:=[0,1,4,16] }
theorem aY4 (a b c d e:List Int) (x:Int):(dF aPM Tryz.f41 [.ptr 0 0,.int .u64 x] (aR a b c d e)).fin =
  rC (aQ x) (fun _=>rC (aQ x) (fun R=>some (.ok (.int .i64 R) (aR a b c d e))) none) (some (.ok (.int .i64 0) (aR a b c d e))):=by kernel_rfl
def aM1 (x:Int):Int:=rC (aQ x) (fun R=>R) 0
def SP:MSpec:=fun args H=>match args with
 | [.ptr 0 0,.int .u64 x]=>lT (fun a b c d e=>.leaf (.ok (.int .i64 (aM1 x)) (aR a b c d e))) H
 | _=>.fail
theorem aVF:bP prog 41 SP:=by
 intro args H out h;unfold SP at h;split at h;rotate_left
 ·cases h
 rename_i x;obtain ⟨a,b,c,d,e,rfl,hl,h⟩:=m6 h;cases h;refine fA (cx:=aPM) (fn:=Tryz.f41) (bU (.nil _) (.cons vH fun p h=>by cases h) rfl rfl) (by kernel_rfl) (by kernel_rfl) _ _ _ ?_;refine nC (by kernel_rfl) ?_;rw [<- Tree.bJ,aY4];unfold aM1 rC;cases aQ x==1 <;> cases aQ x==2 <;> cases aQ x==16 <;> cases aQ x==17 <;> cases aQ x==32 <;> rfl
end Go.Ra

namespace Go.Ra
open Go Go.Ab Go.Proofs
noncomputable def aOD:Cx:={ P:=prog,n:=10,tab:=[],mtab:=[(30,wD)],refs:=[],keeps:=[0,2,4] }
theorem count_eq (a b c d e:List Int):(dF aOD Tryz.f40 [.ptr 0 0] (aR a b c d e)).fin=some (.ok (.int .i64 5) (aR a b c d e)):=by kernel_rfl
def U6:MSpec:=fun args H=>match args with
 | [.ptr 0 0]=>lT (fun a b c d e=>.leaf (.ok (.int .i64 5) (aR a b c d e))) H
 | _=>.fail
theorem aWP:bP prog 40 U6:=by
 intro args H out h;unfold U6 at h;split at h;rotate_left
 ·cases h
 obtain ⟨a,b,c,d,e,rfl,hl,h⟩:=m6 h;cases h;refine fA (cx:=aOD) (fn:=Tryz.f40) (bU (.nil _) (.cons vH fun p h=>by cases h) rfl rfl) (by kernel_rfl) (by kernel_rfl) _ _ _ ?_;refine nC (by kernel_rfl) ?_;rw [<- Tree.bJ,count_eq]
def K0 (x:Int):Bool:=x==4096 || (x==8192 || (x==65536 || (x==69632 || x==131072)))
def lK (x:Int):Bool:=x==4096 || x==65536
def wK (x n r:Int):Bool:=n==0 || ((lK x&&(decide (1<=n)&&(decide (n<=8192)&&r==0))) || (K0 x&&(n==4096&&r==4)))
theorem aE3 {H:List O} {y r k:Int} (e:0<=k) (f:k<1000) (b:iH r k=true) (a:aQ y=k\/(aQ y=k+1/\iH r (k+1)=true)):CH H y r 3 k=some (.ok (.bool true) H):=by
 have c:wrap .u64 (k+1)=k+1:=by
  show (k+1) % 18446744073709551616=_;omega
 have d:wrap .u64 (k+1+1)=k+1+1:=by
  show (k+1+1) % 18446744073709551616=_;omega
 rw [A2,decide_eq_true (by omega),cond_true,b,cond_true,c,A2]
 rcases a with a | ⟨a,h2⟩
 ·rw [decide_eq_false (by omega),cond_false]
 ·rw [decide_eq_true (by omega),cond_true,h2,cond_true,d,A2,decide_eq_false (by omega),cond_false]
theorem a4O {x n:Int} (a:0<=x) (b:x<1000000) (c:1<=n) (d:n<=8192):jC x n=x+n - 1:=by
 have e:jC x n=((x+n % 18446744073709551616) % 18446744073709551616 - 1) % 18446744073709551616:=rfl;rw [e];omega
theorem Q0 {x:Int} (a:0<=x) (b:x<10000000):aQ x=x / 4096:=by
 refine pD ?_;simp only [rng64,ZA2,decide_eq_true_eq];omega
theorem a2L {H:List O} {x n r:Int} (h:wK x n r=true):OQ H x n r=some (.ok (.bool true) H):=by
 unfold OQ;unfold wK at h;cases c:n==0;rotate_left
 ·rfl
 rw [cond_false];rw [c,Bool.false_or] at h
 rcases ZA1.1 h with h | h
 ·simp only [ZA2,decide_eq_true_eq,beq_iff_eq] at h
  obtain ⟨a,h1,h2,rfl⟩:=h
  have a:x=4096\/x=65536:=by simpa [lK] using a
  have d:=a4O (x:=x) (n:=n) (by omega) (by omega) h1 h2;have b:=Q0 (x:=x+n - 1) (by omega) (by omega);rw [d,decide_eq_true (by omega),Bool.not_true,cond_false]
  rcases a with rfl | rfl
  ·refine aE3 (k:=1) (by decide) (by decide) rfl ?_
   rw [b];by_cases hn:n<=4096
   ·exact .inl (by omega)
   ·exact .inr ⟨by omega,rfl⟩
  ·refine aE3 (k:=16) (by decide) (by decide) rfl ?_
   rw [b];by_cases hn:n<=4096
   ·exact .inl (by omega)
   ·exact .inr ⟨by omega,rfl⟩
 ·simp only [ZA2,decide_eq_true_eq,beq_iff_eq] at h
  obtain ⟨a,rfl,rfl⟩:=h
  have a:x=4096\/x=8192\/x=65536\/x=69632\/x=131072:=by simpa [K0] using a
  rcases a with rfl | rfl | rfl | rfl | rfl <;> rfl
def L6:MSpec:=fun args H=>match args with
 | [.ptr 0 0,.int .u64 x,.int .i64 n,.int .i64 r]=>lT (fun a b c d e=>.aF (wK x n r) (.leaf (.ok (.bool true) (aR a b c d e)))) H
 | _=>.fail
theorem aFB:bP prog 31 L6:=by
 intro args H out h;unfold L6 at h;split at h;rotate_left
 ·cases h
 rename_i x n r;obtain ⟨a,b,c,d,e,rfl,hl,h⟩:=m6 h;obtain ⟨f,h⟩:=aM h;cases h;refine fA (cx:=X7) (fn:=Tryz.f31) (bU (dT aG2) (.cons vH fun p h=>by cases h) rfl rfl) (by kernel_rfl) (by kernel_rfl) _ _ _ ?_;refine nC (by kernel_rfl) ?_;rw [<- Tree.bJ,aLR,a2L f]
end Go.Ra
