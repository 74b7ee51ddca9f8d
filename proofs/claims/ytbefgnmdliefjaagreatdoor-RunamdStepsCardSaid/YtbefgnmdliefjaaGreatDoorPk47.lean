/-
  runamd: Run of the program and of the document: one answer, told by both specs. Conditions: none.
-/
import Derived.Test.YtbefgnmdliefjaaGreatDoorDt7
import Derived.Test.YtbefgnmdliefjaaGreatDoorPk19
import Derived.Test.YtbefgnmdliefjaaGreatDoorPk30
import Derived.Test.YtbefgnmdliefjaaGreatDoorPk24
import Derived.Test.YtbefgnmdliefjaaGreatDoorDy1
import Derived.Test.YtbefgnmdliefjaaGreatDoorDx1
import Derived.Test.YtbefgnmdliefjaaGreatDoorDy2
import Derived.Test.YtbefgnmdliefjaaGreatDoorDx2
import Derived.Test.YtbefgnmdliefjaaGreatDoorDy3
import Derived.Test.YtbefgnmdliefjaaGreatDoorDx3
import Derived.Test.YtbefgnmdliefjaaGreatDoorDy4
import Derived.Test.YtbefgnmdliefjaaGreatDoorDx4
import Derived.Test.YtbefgnmdliefjaaGreatDoorDy5
import Derived.Test.YtbefgnmdliefjaaGreatDoorDx5
import Derived.Test.YtbefgnmdliefjaaGreatDoorDy6
import Derived.Test.YtbefgnmdliefjaaGreatDoorDx6
import Derived.Test.YtbefgnmdliefjaaGreatDoorDy7
import Derived.Test.YtbefgnmdliefjaaGreatDoorDx7
import Derived.Test.YtbefgnmdliefjaaGreatDoorDy8
import Derived.Test.YtbefgnmdliefjaaGreatDoorDx8
open Go.Proofs.Tryz (prog)
open Bool renaming and_eq_true_iff→ZA0
set_option linter.unusedVariables false
set_option linter.unusedSimpArgs false
namespace Go.Ra
open Go Go.Ab Go.Proofs Go.Amd
theorem aIL {nm:List UInt8} (h:fI nm=true):dW nm ∈ NR/\(dW nm).1=nm:=by
 rw [a3J];unfold fI at h;unfold dW
 cases a:qW nm aD with
 | none=>rw [a] at h; cases h
 | some r =>
  have b:=List.find?_some (p:=fun r:RowT=>wL r.1 nm) a;exact ⟨List.mem_of_find?_eq_some a,eq_of_beq b⟩
theorem aZU {ck:bZ->Int} {wd:Int->Int->Int × Int} {lg:Int->Int->Int->Int × Int} (h:∀ i:aE,eG i.2.2.2.2.2=true->ck i=cX i) (hw:DJ wd) (hg:DA lg) {nm:List UInt8} (n:fI nm=true) :
  ∃ x ∈ iP,∃ y ∈ iR wd lg,x.1=nm/\y.1=nm /\ ∀ s a b c d m e A B C D E,Fine s->lens5 A B C D E=true->eG m=true ->
   oV s (Y1 (fun i=>cX i==0) x.1 x.2 s a b c d m e A B C D E) (YB ck y.1 y.2 s a b c d m e A B C D E):=by
 obtain ⟨hm,h1⟩:=aIL n;obtain ⟨x,hx,y,hy,e1,e2,al⟩:=aGN (a0C hw hg) (by kernel_rfl) rfl _ hm;have ex:x.1=nm:=e1.symm.trans h1;refine ⟨x,hx,y,hy,ex,e2.symm.trans ex,fun s a b c d m e A B C D E g f j=>?_⟩;unfold Y1 YB;cases decide (e<1);rotate_left
 ·exact vM g 1 f
 cases decide (16<e);rotate_left
 ·exact vM g 1 f
 simp only [cond_false];unfold aO3 aN0;show oV s (cond (!(cX (x.1,a,b,c,d,m)==0)) _ _) _;rw [<- e2,ex,h (nm,a,b,c,d,m) j];cases k:cX (nm,a,b,c,d,m)==0
 ·have:(cX (nm,a,b,c,d,m) != 0)=true:=by
   rw [bne,k];rfl
  rw [this];exact vM g 22 f
 ·have e0:cX (nm,a,b,c,d,m)=0:=eq_of_beq k
  rw [e0]
  have l:c8 (dW nm) (nm,a,b,c,d,m)=0:=by
   unfold cX at e0;simp only [n,cond_true] at e0;exact e0
  exact al s a b c d m e A B C D E g f (iX l) (lL l).1
theorem aDB {α:Type} (l:List α):l.length=58->l=(l.drop 0).take 8++((l.drop 8).take 8++((l.drop 16).take 8++((l.drop 24).take 8++((l.drop 32).take 8++((l.drop 40).take 8++((l.drop 48).take 8++(l.drop 56).take 8)))))):=by
 intro h
 have step:∀ (k:Nat),l.drop k=(l.drop k).take 8++l.drop (k+8):=fun k=>by
  rw [<- List.drop_drop,List.take_append_drop]
 have a:l.drop 64=[]:=List.drop_eq_nil_of_le (by omega);rw [show (l.drop 56).take 8=l.drop 56 by rw [step 56,a,List.append_nil,List.take_take,Nat.min_self],<- step 48,<- step 40,<- step 32,<- step 24,<- step 16,<- step 8,<- step 0];rfl
theorem gH (mb:bZ->Bool):∀ x ∈ iP,rO mb x=rE mb x:=by
 have h:iP.map (rO mb)=iP.map (rE mb):=by
  rw [aDB iP (by kernel_rfl)];simp only [List.map_append,agZ,aiM,ahZ,ah5,ajD,ajE,ajP,ah9]
 exact List.map_inj_left.1 h
theorem a86 (ck:bZ->Int) (wd:Int->Int->Int × Int) (lg:Int->Int->Int->Int × Int):∀ x ∈ iR wd lg,gO ck wd lg x=gE ck x:=by
 have h:(iR wd lg).map (gO ck wd lg)=(iR wd lg).map (gE ck):=by
  rw [aDB (iR wd lg) rfl];simp only [List.map_append,ai7,aiA,agI,afT,ai2,ai3,aiL,agQ]
 exact List.map_inj_left.1 h
section
variable {mb:bZ->Bool} (hm:Sound prog 26 (OX mb))
include hm
theorem abH:(ruB mb).Ok prog:=
 ⟨.cons hm (.consX VO (.consX aLP (.consX aM2 (.cons a5K (.cons a02 (.cons aeF (.cons a8A (.nil _)))))))),.cons a16 (.cons aZT (fun p h=>by cases h)),.cons abI (.nil _),fun p h=>by cases h⟩
theorem UM (d:Nat):(AN mb d).Ok prog:=qN (abH hm) aXD aXO d
end
theorem aH6 {mb:bZ->Bool} {tab:List (Nat × Ab.Spec)} (hc:aW { F4 mb with tab:=tab }) {H:List O} {args:List V} {r:Res} (b:Nat.ble args.length Tryz.f11.ntmps=true) (a:H.length=7)
  (h:((zU { F4 mb with tab:=tab } zY Tryz.f11 27 Tryz.f27 args H).bind (wQ 7 [])).fin=some r):dQ prog 11 args H r:=by
 rw [Tree.bJ] at h;obtain ⟨r0,h1,h2⟩:=bD h;rw [<- a] at h2;exact I8 (P0 (cx:={ F4 mb with tab:=tab }) (cl:=zY) (fn:=Tryz.f11) (fg:=Tryz.f27) hc (dO rfl rfl) rfl (by kernel_rfl) (by kernel_rfl) (by kernel_rfl) (by kernel_rfl) b h1) h2
def nU (i:bZ):Bool:=cX i==0
theorem TM:Sound prog 26 (OX nU):=by
 intro args out h;unfold OX at h;split at h;rotate_left
 ·cases h
 exact SO _ _ h
def Z6 (mb:bZ->Bool):Ab.Spec:=fun args=>match args with
 | [.agg [.str nm,.int .i64 a,.int .i64 b,.int .i64 c,.int .i64 d,.int .i64 m]]=>.aF (!mb (nm,a,b,c,d,m)) (.leaf (.bool false))
 | _=>.fail
theorem a4V:Sound prog 26 (Z6 nU):=by
 intro args out h;unfold Z6 at h;split at h;rotate_left
 ·cases h
 obtain ⟨a,h2⟩:=aM h
 have e:nU _=false:=Bool.not_eq_true' _ |>.mp a
 refine SO _ _ ?_;rw [<- h2];show some (V.bool (nU _))=_;rw [e];rfl
noncomputable def aLL (mb:bZ->Bool):Cx:={ F4 mb with tab:=(26,Z6 mb) :: (AN mb 6).tab }
noncomputable def aMV (mb:bZ->Bool) (nm:List UInt8):bR:=fun s a b c d m e A B C D E=>((zU (aLL mb) zY Tryz.f11 27 Tryz.f27 [.agg s.l,lV nm a b c d m,.int .i64 e,.ptr 0 0] (aR A B C D E)).bind (wQ 7 [])).fin
def aMD (mb:bZ->Bool) (nm:List UInt8):bR:=fun s a b c d m _ A B C D E=>cond (!mb (nm,a,b,c,d,m)) (j8 s 22 (aR A B C D E)) none
def aOY (mb:bZ->Bool) (nm:List UInt8):bR:=fun s a b c d m e A B C D E=>cond (decide (e<1)) (j8 s 1 (aR A B C D E)) (cond (decide (16<e)) (j8 s 1 (aR A B C D E)) (aMD mb nm s a b c d m e A B C D E))
theorem a9F (mb:bZ->Bool) (nm:List UInt8):W1 (aMV mb nm)=W2 (aOY mb nm):=by kernel_rfl
section
variable {ck:bZ->Int} {wd:Int->Int->Int × Int} {lg:Int->Int->Int->Int × Int} (hc:Sound prog 35 (sV ck)) (hw:Sound prog 79 (DW wd)) (hg:Sound prog 129 (DX lg))
include hc hw hg
theorem abG:(rgB ck wd lg).Ok prog:=
 ⟨.cons hc (.cons hw (.cons hg (.cons aa7 (.nil _)))),.cons aUU (fun p h=>by cases h),.cons aYO (.cons ahR (.nil _)),fun p h=>by cases h⟩
theorem VE (d:Nat):(EI ck wd lg d).Ok prog:=qN (abG hc hw hg) aWX aXV d
theorem a5J:bP prog 18 (wM (OV ck wd lg) Tryz.f18 []):=BQ (cx:=OV ck wd lg) (fn:=Tryz.f18) [] (VE hc hw hg 5) (by kernel_rfl) (by kernel_rfl)
end
def IU (ck:bZ->Int):Ab.Spec:=fun args=>match args with
 | [.agg [.str nm,.int .i64 a,.int .i64 b,.int .i64 c,.int .i64 d,.int .i64 m]]=>.aF (ck (nm,a,b,c,d,m)==7) (.leaf (.int .i64 7))
 | _=>.fail
noncomputable def XE (ck:bZ->Int) (wd:Int->Int->Int × Int) (lg:Int->Int->Int->Int × Int):Cx:={ OV ck wd lg with tab:=(35,IU ck) :: (EI ck wd lg 5).tab }
noncomputable def aNV (ck:bZ->Int) (wd:Int->Int->Int × Int) (lg:Int->Int->Int->Int × Int) (nm:List UInt8):bR:=fun s a b c d m e A B C D E=>(wM (XE ck wd lg) Tryz.f18 [] [.agg s.l,lV nm a b c d m,.int .i64 e,.ptr 0 0] (aO A B C D E)).fin
def aL9 (ck:bZ->Int) (nm:List UInt8):bR:=fun s a b c d m _ A B C D E=>cond (ck (nm,a,b,c,d,m)==7) (j8 s 22 (aO A B C D E)) none
def aNT (ck:bZ->Int) (nm:List UInt8):bR:=fun s a b c d m e A B C D E=>cond (decide (e<1)) (j8 s 1 (aO A B C D E)) (cond (decide (16<e)) (j8 s 1 (aO A B C D E)) (aL9 ck nm s a b c d m e A B C D E))
theorem a7L (ck:bZ->Int) (wd:Int->Int->Int × Int) (lg:Int->Int->Int->Int × Int) (nm:List UInt8):W1 (aNV ck wd lg nm)=W2 (aNT ck nm):=by kernel_rfl
theorem O3 {F G:bR} (h:W1 F=W2 G) {s:CpuT} (g:s.x.length=32) (a b c d m e:Int) (A B C D E:List Int):F s a b c d m e A B C D E=G s a b c d m e A B C D E:=by
 have h:=congrArg (fun f=>f s.pc (s.x.getD 0 0) (s.x.getD 1 0) (s.x.getD 2 0) (s.x.getD 3 0) (s.x.getD 4 0) (s.x.getD 5 0) (s.x.getD 6 0) (s.x.getD 7 0) (s.x.getD 8 0) (s.x.getD 9 0) (s.x.getD 10 0) (s.x.getD 11 0) (s.x.getD 12 0) (s.x.getD 13 0) (s.x.getD 14 0) (s.x.getD 15 0)
  (s.x.getD 16 0) (s.x.getD 17 0) (s.x.getD 18 0) (s.x.getD 19 0) (s.x.getD 20 0) (s.x.getD 21 0) (s.x.getD 22 0) (s.x.getD 23 0) (s.x.getD 24 0) (s.x.getD 25 0) (s.x.getD 26 0) (s.x.getD 27 0) (s.x.getD 28 0) (s.x.getD 29 0) (s.x.getD 30 0) (s.x.getD 31 0) s.th s.z s.n s.c s.v a b c d m e A B C D E) h
 unfold W1 W2 at h;rw [qP g] at h;exact h
end Go.Ra

namespace Go.Ra
open Go Go.Ab Go.Proofs Go.Amd
def NJ (s:CpuT) (r g:Option Res) (o:Out):Prop:=Fine o.s/\lens5 o.A o.B o.C o.D o.E=true/\(o.err ≠ 0->o.s=s/\o.ev=0) /\
 r=some (.ok (.tup [.agg o.s.l,.int .i64 o.ev,.int .i64 o.err]) (aR o.A o.B o.C o.D o.E))/\g=some (.ok (.tup [.agg o.s.l,.int .i64 o.ev,.int .i64 o.err]) (aO o.A o.B o.C o.D o.E))
noncomputable def zZ (nm:List UInt8):bR:=cond (fI nm) (aP5 nU nm) (aMV nU nm)
noncomputable def AG (ck:bZ->Int) (wd:Int->Int->Int × Int) (lg:Int->Int->Int->Int × Int) (nm:List UInt8):bR:=cond (fI nm) (aOW ck wd lg nm) (aNV ck wd lg nm)
noncomputable def xD (ck:bZ->Int) (wd:Int->Int->Int × Int) (lg:Int->Int->Int->Int × Int):iZ:=fun nm s a b c d m e A B C D E =>
 Classical.epsilon (NJ s (zZ nm s a b c d m e A B C D E) (AG ck wd lg nm s a b c d m e A B C D E))
theorem aJ6 {nm:List UInt8} (h:fI nm=false) (a b c d m:Int):cX (nm,a,b,c,d,m)=7:=by
 unfold cX;simp only [h];rfl
theorem V8 {ck:bZ->Int} {wd:Int->Int->Int × Int} {lg:Int->Int->Int->Int × Int} (hck:∀ i:aE,eG i.2.2.2.2.2=true->ck i=cX i) (hw:DJ wd) (hg:DA lg) (nm:List UInt8) {s:CpuT} (f:Fine s) (a b c d m e:Int) {A B C D E:List Int} (k:lens5 A B C D E=true) (g:eG m=true) :
  NJ s (zZ nm s a b c d m e A B C D E) (AG ck wd lg nm s a b c d m e A B C D E) (xD ck wd lg nm s a b c d m e A B C D E):=by
 refine Classical.epsilon_spec (p:=NJ s (zZ nm s a b c d m e A B C D E) (AG ck wd lg nm s a b c d m e A B C D E)) ?_
 have key:oV s (zZ nm s a b c d m e A B C D E) (AG ck wd lg nm s a b c d m e A B C D E):=by
  unfold zZ AG;cases n:fI nm
  ·rw [cond_false,cond_false,O3 (a9F nU nm) f.len,O3 (a7L ck wd lg nm) f.len]
   unfold aOY aNT aMD aL9;have l:=aJ6 n a b c d m
   have o:nU (nm,a,b,c,d,m)=false:=by
    unfold nU;rw [l];rfl
   have j:(ck (nm,a,b,c,d,m)==7)=true:=by
    rw [hck (nm,a,b,c,d,m) g,l];rfl
   rw [o,j];cases decide (e<1)
   ·cases decide (16<e)
    ·exact vM f 22 k
    ·exact vM f 1 k
   ·exact vM f 1 k
  ·obtain ⟨x,hx,y,hy,rfl,j,h⟩:=aZU hck hw hg n
   rw [cond_true,cond_true,O3 (gH nU x hx) f.len,<- j,O3 (a86 ck wd lg y hy) f.len];have h:=h s a b c d m e A B C D E f k g;rw [<- j] at h;exact h
 obtain ⟨s',ev,err,A',B',C',D',E',h1,h2,h3,h4,h5⟩:=key;exact ⟨⟨s',ev,err,A',B',C',D',E'⟩,h1,h2,h3,h4,h5⟩
def C6 (f:iZ):MSpec:=fun args H=>match args with
 | [.agg cs,.agg [.str nm,.int .i64 a,.int .i64 b,.int .i64 c,.int .i64 d,.int .i64 m],.int .i64 sz,.ptr 0 0]=>match wF cs with
  | some s=>lT (fun A B C D E=>.aF (pN s&&eG m) (.leaf (.ok (wW (f nm s a b c d m sz A B C D E)) (aR (f nm s a b c d m sz A B C D E).A (f nm s a b c d m sz A B C D E).B (f nm s a b c d m sz A B C D E).C (f nm s a b c d m sz A B C D E).D (f nm s a b c d m sz A B C D E).E)))) H
  | none=>.fail
 | _=>.fail
def DC (f:iZ):MSpec:=fun args H=>match args with
 | [.agg cs,.agg [.str nm,.int .i64 a,.int .i64 b,.int .i64 c,.int .i64 d,.int .i64 m],.int .i64 sz,.ptr 0 0]=>match wF cs with
  | some s=>mX (fun A B C D E=>.aF (pN s&&eG m) (.leaf (.ok (wW (f nm s a b c d m sz A B C D E)) (aO (f nm s a b c d m sz A B C D E).A (f nm s a b c d m sz A B C D E).B (f nm s a b c d m sz A B C D E).C (f nm s a b c d m sz A B C D E).D (f nm s a b c d m sz A B C D E).E)))) H
  | none=>.fail
 | _=>.fail
theorem aXB:aW (aLL nU):=⟨.cons a4V (UM TM 6).1,(UM TM 6).2⟩
theorem a15 {ck:bZ->Int} {wd:Int->Int->Int × Int} {lg:Int->Int->Int->Int × Int} (b:Sound prog 35 (sV ck)) (hw:Sound prog 79 (DW wd)) (a : Sound prog 129 (DX lg)) (c:Sound prog 35 (IU ck)):aW (XE ck wd lg):=
 ⟨.cons c (VE b hw a 5).1,(VE b hw a 5).2⟩
theorem aeL {ck:bZ->Int} (b:Sound prog 35 (sV ck)):Sound prog 35 (IU ck):=by
 intro args out h;unfold IU at h;split at h;rotate_left
 ·cases h
 obtain ⟨a,h2⟩:=aM h;refine b _ _ ?_;rw [<- h2];show some (V.int .i64 (ck _))=_;rw [beq_iff_eq.1 a];rfl
section
variable {ck:bZ->Int} {wd:Int->Int->Int × Int} {lg:Int->Int->Int->Int × Int} (hck:∀ i:aE,eG i.2.2.2.2.2=true->ck i=cX i) (hw:DJ wd) (hg:DA lg)
include hck hw hg
theorem a6F:bP prog 11 (C6 (xD ck wd lg)):=by
 intro args H out h;unfold C6 at h;split at h;rotate_left
 ·cases h
 rename_i cs nm a b c d m f;split at h;rotate_left
 ·cases h
 rename_i s k;obtain ⟨A,B,C,D,E,rfl,hl,h⟩:=m6 h;obtain ⟨e,h⟩:=aM h;cases h;obtain ⟨rfl,e2⟩:=A4 k;obtain ⟨e,hm6⟩:=ZA0.1 e;have j:=KW e2 e;obtain ⟨l,_,_,o4,_⟩:=V8 hck hw hg nm j a b c d m f hl hm6;have et:gW (xD ck wd lg nm s a b c d m f A B C D E).s=(xD ck wd lg nm s a b c d m f A B C D E).s:=qP l.len;unfold wW;rw [et];unfold zZ at o4;cases g:fI nm
 ·rw [g,cond_false] at o4
  exact aH6 (mb:=nU) aXB (by kernel_rfl) rfl o4
 ·rw [g,cond_true] at o4
  exact aH6 (mb:=nU) (tab:=(AN nU 6).tab) (UM TM 6) (by kernel_rfl) rfl o4
theorem a5W (e : Sound prog 35 (sV ck)) (g : Sound prog 79 (DW wd)) (f : Sound prog 129 (DX lg)) (o:Sound prog 35 (IU ck)):bP prog 18 (DC (xD ck wd lg)):=by
 intro args H out h;unfold DC at h;split at h;rotate_left
 ·cases h
 rename_i cs nm a b c d m k;split at h;rotate_left
 ·cases h
 rename_i s p;obtain ⟨A,B,C,D,E,rfl,hl,h⟩:=nZ h;obtain ⟨j,h⟩:=aM h;cases h;obtain ⟨rfl,e2⟩:=A4 p;obtain ⟨j,hm6⟩:=ZA0.1 j;have n:=KW e2 j;obtain ⟨q,_,_,_,o4⟩:=V8 hck hw hg nm n a b c d m k hl hm6;have et:gW (xD ck wd lg nm s a b c d m k A B C D E).s=(xD ck wd lg nm s a b c d m k A B C D E).s:=qP q.len;unfold wW;rw [et];unfold AG at o4;cases l:fI nm
 ·rw [l,cond_false] at o4
  refine BQ (cx:=XE ck wd lg) (fn:=Tryz.f18) [] (a15 e g f o) (by kernel_rfl) (by kernel_rfl) _ _ _ ?_;rw [<- Tree.bJ];exact o4
 ·rw [l,cond_true] at o4
  refine a5J e g f _ _ _ ?_;rw [<- Tree.bJ];exact o4
end
theorem aK9:Sound prog 35 (sV rY):=by
 intro args out h;unfold sV at h;split at h;rotate_left
 ·cases h
 exact aDS _ _ h
theorem WT (i:aE) (h:eG i.2.2.2.2.2=true):rY i=cX i:=aG3 h
noncomputable def ON:iZ:=xD rY PH PA
theorem a5T:bP prog 11 (C6 ON):=a6F WT RU TA
theorem a9P:bP prog 18 (DC ON):=a5W WT RU TA aK9 aeE aa6 (aeL aK9)
theorem a79 (nm:List UInt8) {s:CpuT} (h:Fine s) (a b c d m e:Int) {A B C D E:List Int} (g:lens5 A B C D E=true) (f:eG m=true) :
  NJ s (zZ nm s a b c d m e A B C D E) (AG rY PH PA nm s a b c d m e A B C D E) (ON nm s a b c d m e A B C D E):=V8 WT RU TA nm h a b c d m e g f
end Go.Ra
