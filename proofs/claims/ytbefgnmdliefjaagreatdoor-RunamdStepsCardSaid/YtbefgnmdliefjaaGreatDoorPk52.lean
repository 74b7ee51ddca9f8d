/-
  runamd: a step of the program and of the document, each as one answer. Conditions: none.
-/
import Derived.Test.YtbefgnmdliefjaaGreatDoorPk51
import Derived.Test.YtbefgnmdliefjaaGreatDoorPk23
import Derived.Test.YtbefgnmdliefjaaGreatDoorPk28
open Go.Proofs.Tryz (prog)
open Bool renaming and_eq_true_iff→ZA0,and_eq_true→ZA2
open List renaming all_eq_true→ZE1
set_option linter.unusedVariables false
set_option linter.unusedSimpArgs false
namespace Go.Ra
open Go Go.Ab Go.Proofs Go.Amd
noncomputable def dcB:Tabs:={ tab:=[(58,TV)] }
theorem adI:dcB.Ok prog:=⟨dT aVC,(fun p h=>by cases h),.nil _,fun p h=>by cases h⟩
noncomputable def aL2:List Fi:=[⟨17,Tryz.f17,[0,1,2,6,7,8,9,10,17],[],0,[]⟩,⟨34,Tryz.f34,[0,2,3,4,5,8,11],[],0,[]⟩]
theorem aWT:fY prog aL2:=⟨⟨by kernel_rfl,by kernel_rfl⟩,⟨by kernel_rfl,by kernel_rfl⟩,trivial⟩
noncomputable def aKY:List Fi:=[]
theorem aZE:fY prog aKY:=trivial
noncomputable def dcT (d:Nat):Tabs:=deep prog dcB aL2 aKY d
theorem aeI (d:Nat):(dcT d).Ok prog:=qN adI aWT aZE d
noncomputable def akJ (l sp:List Int) (fl:Fl) (at_:Int):Option V:=(a7 { P:=prog,n:=Tryz.f17.ntmps,tab:=(dcT 1).tab,mtab:=[],refs:=[],keeps:=[0,1,2,6,7,8,9,10,17] } Tryz.f17 [.int .i64 1,.sl (.int .u8) l sp fl,.int .i64 at_]).fin
theorem aaH (l sp:List Int) (fl:Fl) (at_:Int):akJ l sp fl at_=cond (decide (l.length<1000000000)) (cond (tO l) (some (.tup [Go.Amd.lV (dI l at_),.int .i64 (dN l at_),.int .i64 (dE l at_)])) none) none:=by kernel_rfl
theorem aHS {α:Type} {c:Bool} {x y:α} (h:c=true):cond c x y=x:=by
 rw [h];rfl
def YW:Ab.Spec:=fun args=>match args with
 | [.int .i64 k,.sl (.int .u8) l _ _,.int .i64 at_]=>.aF (k==1&&decide (l.length<1000000000)) (.aF (tO l) (.leaf (.tup [Go.Amd.lV (dI l at_),.int .i64 (dN l at_),.int .i64 (dE l at_)])))
 | _=>.fail
theorem a5M:Sound prog 17 YW:=by
 intro args out h;unfold YW at h;split at h;rotate_left
 ·cases h
 rename_i k l sp fl at_;obtain ⟨b,h⟩:=aM h;obtain ⟨hb,h⟩:=aM h;cases h;obtain ⟨a,hl⟩:=ZA0.1 b
 have a:k=1:=by simpa using a
 subst a;have e:=((aaH l sp fl at_).trans (aHS hl)).trans (aHS hb);exact cE (cx:={ P:=prog,n:=Tryz.f17.ntmps,tab:=(dcT 1).tab,mtab:=[],refs:=[],keeps:=[0,1,2,6,7,8,9,10,17] }) (fn:=Tryz.f17) (aeI 1) (by kernel_rfl) (by kernel_rfl) (by kernel_rfl) ((Tree.bJ _).symm.trans e)
abbrev oX:=CpuT->List Int->List Int->List Int->List Int->List Int->Out
def xS (f:iZ):oX:=fun s A B C D E=>cond (Nat.beq (dL s.pc) 0) ⟨s,0,21,A,B,C,D,E⟩ (cond (dE (bL A B C D E s.pc) 0 != 0) ⟨s,0,22,A,B,C,D,E⟩
 (f (dI (bL A B C D E s.pc) 0).1 s (dI (bL A B C D E s.pc) 0).2.1 (dI (bL A B C D E s.pc) 0).2.2.1 (dI (bL A B C D E s.pc) 0).2.2.2.1 (dI (bL A B C D E s.pc) 0).2.2.2.2.1 (dI (bL A B C D E s.pc) 0).2.2.2.2.2 (dN (bL A B C D E s.pc) 0) A B C D E))
def OS (o:Out):Option Res:=some (.ok (wW o) (aR o.A o.B o.C o.D o.E))
def N1 (o:Out):Option Res:=some (.ok (wW o) (aO o.A o.B o.C o.D o.E))
noncomputable def ZL (f:iZ):Cx:={ P:=prog,n:=Tryz.f15.ntmps,tab:=[(17,YW)],mtab:=[(16,VK),(11,C6 f)],refs:=[],keeps:=[0,1,2,4,5,6,7,8,9,10,19,28] }
noncomputable def aOM (f:iZ) (s:CpuT) (A B C D E:List Int):Option Res:=(wM (ZL f) Tryz.f15 [] [.agg (gW s).l,.ptr 0 0] (aR A B C D E)).fin
def Z2 (f:iZ) (s:CpuT) (A B C D E:List Int):Option Res:=
 cond (true&&lens5 A B C D E) (cond (rng64 s.pc&&true) (cond (Nat.beq (dL s.pc) 0) (OS ⟨s,0,21,A,B,C,D,E⟩) (cond (true&&decide ((bL A B C D E s.pc).length<1000000000)) (cond (tO (bL A B C D E s.pc)) (cond (dE (bL A B C D E s.pc) 0 != 0) (OS ⟨s,0,22,A,B,C,D,E⟩)
  (cond (true&&lens5 A B C D E) (cond (pN (gW s)&&eG (dI (bL A B C D E s.pc) 0).2.2.2.2.2) (OS (f (dI (bL A B C D E s.pc) 0).1 (gW s) (dI (bL A B C D E s.pc) 0).2.1 (dI (bL A B C D E s.pc) 0).2.2.1 (dI (bL A B C D E s.pc) 0).2.2.2.1 (dI (bL A B C D E s.pc) 0).2.2.2.2.1 (dI (bL A B C D E s.pc) 0).2.2.2.2.2 (dN (bL A B C D E s.pc) 0) A B C D E)) none) none)) none) none)) none) none
theorem ajF (f:iZ) (s:CpuT) (A B C D E:List Int):aOM f s A B C D E=Z2 f s A B C D E:=by kernel_rfl
noncomputable def ZQ (f:iZ):Cx:={ P:=prog,n:=Tryz.f20.ntmps,tab:=[(44,YY)],mtab:=[(43,TN),(18,DC f)],refs:=[],keeps:=[0,1,2,4,5,6,7,8,9,10,19,29] }
noncomputable def srE (f:iZ) (s:CpuT) (A B C D E:List Int):Option Res:=(wM (ZQ f) Tryz.f20 [] [.agg (gW s).l,.ptr 0 0] (aO A B C D E)).fin
def srX (f:iZ) (s:CpuT) (A B C D E:List Int):Option Res:=
 cond (true&&(true&&(true&&lens5 A B C D E))) (cond (rng64 s.pc&&true) (cond (Nat.beq (dL s.pc) 0) (N1 ⟨s,0,21,A,B,C,D,E⟩) (cond (true&&decide ((bL A B C D E s.pc).length<=10)) (cond (tT (bL A B C D E s.pc)) (cond (AV (bL A B C D E s.pc) != 0) (N1 ⟨s,0,22,A,B,C,D,E⟩)
  (cond (true&&(true&&(true&&lens5 A B C D E))) (cond (pN (gW s)&&eG (iA (bL A B C D E s.pc)).2.2.2.2.2) (N1 (f (iA (bL A B C D E s.pc)).1 (gW s) (iA (bL A B C D E s.pc)).2.1 (iA (bL A B C D E s.pc)).2.2.1 (iA (bL A B C D E s.pc)).2.2.2.1 (iA (bL A B C D E s.pc)).2.2.2.2.1 (iA (bL A B C D E s.pc)).2.2.2.2.2 (p6 (bL A B C D E s.pc)) A B C D E)) none) none)) none) none)) none) none
theorem aj6 (f:iZ) (s:CpuT) (A B C D E:List Int):srE f s A B C D E=srX f s A B C D E:=by kernel_rfl
theorem aUO {A B C D E:List Int} (a:lens5 A B C D E=true) (x:Int):jT (iO A B C D E x)=true:=by
 unfold lens5 at a;simp only [ZA2] at a;obtain ⟨b,c,d,e,f⟩:=a;have g:∀ {l:List Int},qG l=true->jT (l.getD (nQ x) 0)=true:=fun h=>aFD (ZA0.1 h).2 _;unfold iO q7
 cases aQ x==1 <;> cases aQ x==2 <;> cases aQ x==16 <;> cases aQ x==17 <;> first | exact g b | exact g c | exact g d | exact g e | exact g f
theorem QB {A B C D E:List Int} (a:lens5 A B C D E=true) (x:Int):Go.Amd.tO (bL A B C D E x)=true:=by
 unfold Go.Amd.tO bL;rw [ZE1];intro y b;obtain ⟨i,_,rfl⟩:=List.mem_map.1 b;exact aUO a _
theorem a3E:NR.all (fun x=>decide (-9223372036854775808<=lowR x)&&decide (highR x<=9223372036854775807))=true:=by kernel_rfl
theorem a5Y {i:Go.Amd.aE} (h:cX i=0):eG i.2.2.2.2.2=true:=by
 cases b:fI i.1
 ·have a:=aJ6 b i.2.1 i.2.2.1 i.2.2.2.1 i.2.2.2.2.1 i.2.2.2.2.2
  have a:cX i=7:=a;rw [h] at a;cases a
 ·obtain ⟨f,_⟩:=aIL b
  have g:=ZE1.1 a3E _ f;simp only [ZA2,decide_eq_true_eq] at g
  have e:c8 (dW i.1) i=0:=by
   unfold cX at h;simp only [b,cond_true] at h;exact h
  obtain ⟨d,g2⟩:=Go.Amd.lL e;simp only [eG,ZA2,decide_eq_true_eq];cases c:uI (dW i.1)
  ·have:=g2 c
   omega
  ·have:=d c
   omega
theorem TL {l:List Int} (hb:tO l=true):eG (dI l 0).2.2.2.2.2=true:=by
 have b:bE l:=fun c d=>by
  have:=QY hb c d;exact ⟨by omega,by omega⟩
 cases a:dE l 0 != 0
 ·exact a5Y (a2S b a).2.2.2.1
 ·rw [(a8P a).1]
  rfl
theorem a9L {f:iZ} {s:CpuT} {A B C D E:List Int} (a:Fine s) (c:lens5 A B C D E=true):Z2 f s A B C D E=OS (xS f s A B C D E):=by
 have b:gW s=s:=qP a.len;have d:decide ((bL A B C D E s.pc).length<1000000000)=true:=decide_eq_true (by rw [RL]; have:=K7 s.pc; omega);unfold Z2 xS;have hb:=QB c s.pc;rw [b,c,a.pc,d,R5 a,hb,TL hb];cases Nat.beq (dL s.pc) 0
 ·cases dE (bL A B C D E s.pc) 0 != 0 <;> rfl
 ·rfl
theorem af0 {f:iZ} {s:CpuT} {A B C D E:List Int} (b:Fine s) (e:lens5 A B C D E=true):srX f s A B C D E=N1 (xS f s A B C D E):=by
 have d:gW s=s:=qP b.len;have h:decide ((bL A B C D E s.pc).length<=10)=true:=decide_eq_true (by rw [RL]; have:=K7 s.pc; omega);unfold srX xS;have hb:=QB e s.pc
 have a:tT (bL A B C D E s.pc)=true:=a4M fun c a=>by
  have:=QY hb c a;exact ⟨by omega,by omega⟩
 obtain ⟨g,e2,e3⟩:=ac1 (bL A B C D E s.pc);rw [d,e,b.pc,h,R5 b,a,g,e2,e3,TL hb];cases Nat.beq (dL s.pc) 0
 ·cases dE (bL A B C D E s.pc) 0 != 0 <;> rfl
 ·rfl
def H6 (g:oX):MSpec:=fun args H=>match args with
 | [.agg cs,.ptr 0 0]=>match wF cs with
  | some s=>lT (fun A B C D E=>.aF (pN s) (.leaf (.ok (wW (g s A B C D E)) (aR (g s A B C D E).A (g s A B C D E).B (g s A B C D E).C (g s A B C D E).D (g s A B C D E).E)))) H
  | none=>.fail
 | _=>.fail
def HI (g:oX):MSpec:=fun args H=>match args with
 | [.agg cs,.ptr 0 0]=>match wF cs with
  | some s=>mX (fun A B C D E=>.aF (pN s) (.leaf (.ok (wW (g s A B C D E)) (aO (g s A B C D E).A (g s A B C D E).B (g s A B C D E).C (g s A B C D E).D (g s A B C D E).E)))) H
  | none=>.fail
 | _=>.fail
theorem a57 {f:iZ} (h:bP prog 11 (C6 f)):aW (ZL f):=⟨dT a5M,.cons aXS (.cons h (.nil _)),.nil _,fun p h=>by cases h⟩
theorem a8F {f:iZ} (h:bP prog 18 (DC f)):aW (ZQ f):=⟨dT a6X,.cons aW1 (.cons h (.nil _)),.nil _,fun p h=>by cases h⟩
theorem a7G {f:iZ} (c:bP prog 11 (C6 f)):bP prog 15 (H6 (xS f)):=by
 intro args H out h;unfold H6 at h;split at h;rotate_left
 ·cases h
 rename_i cs;split at h;rotate_left
 ·cases h
 rename_i s d;obtain ⟨A,B,C,D,E,rfl,hl,h⟩:=m6 h;obtain ⟨a,h⟩:=aM h;cases h;obtain ⟨rfl,e2⟩:=A4 d;have b:=KW e2 a;refine BQ (cx:=ZL f) (fn:=Tryz.f15) [] (a57 c) (by kernel_rfl) (by kernel_rfl) _ _ _ ?_;rw [<- Tree.bJ];have e:=(ajF f s A B C D E).trans (a9L b hl);unfold aOM at e;rw [show gW s=s from qP e2] at e;exact e
theorem a5F {f:iZ} (c:bP prog 18 (DC f)):bP prog 20 (HI (xS f)):=by
 intro args H out h;unfold HI at h;split at h;rotate_left
 ·cases h
 rename_i cs;split at h;rotate_left
 ·cases h
 rename_i s d;obtain ⟨A,B,C,D,E,rfl,hl,h⟩:=nZ h;obtain ⟨a,h⟩:=aM h;cases h;obtain ⟨rfl,e2⟩:=A4 d;have b:=KW e2 a;refine BQ (cx:=ZQ f) (fn:=Tryz.f20) [] (a8F c) (by kernel_rfl) (by kernel_rfl) _ _ _ ?_;rw [<- Tree.bJ];have e:=(aj6 f s A B C D E).trans (af0 b hl);unfold srE at e;rw [show gW s=s from qP e2] at e;exact e
def GOk (g:oX):Prop:=∀ s A B C D E,Fine s->lens5 A B C D E=true->Fine (g s A B C D E).s/\lens5 (g s A B C D E).A (g s A B C D E).B (g s A B C D E).C (g s A B C D E).D (g s A B C D E).E=true
theorem aeJ {f:iZ} (c:FOk f):GOk (xS f):=by
 intro s A B C D E b a;unfold xS;cases Nat.beq (dL s.pc) 0
 ·cases dE (bL A B C D E s.pc) 0 != 0
  ·exact c _ _ _ _ _ _ _ _ _ _ _ _ _ b a (TL (QB a s.pc))
  ·exact ⟨b,a⟩
 ·exact ⟨b,a⟩
end Go.Ra

namespace Go.Ra
open Go Go.Ab Go.Proofs
noncomputable def tZ (g:oX):Cx:={ P:=prog,n:=Tryz.f8.ntmps,tab:=[(9,Go.Amd.VG)],mtab:=(15,H6 g) :: (20,HI g) :: (10,VU) :: (myT 1).mtab,rtab:=(myT 1).rtab,still:=[15,20],refs:=[],keeps:=[0,1,2,3,6,7,8,9,10,11,12,13,14,15,16,18,26,35,64,66] }
noncomputable abbrev sR:Code:=cA Tryz.f8
def rG (k:Int):T:=[(3,.ptr 0 0),(7,.ptr 1 0),(8,.ptr 8 0),(9,.ptr 15 0),(10,.int .i64 k)]
def VN (k:Int) (s:CpuT) (o:Out):Tree St:=.leaf (.ret,rG k,sT s s o.A o.B o.C o.D o.E)
def aJC (g:oX) (k:Int) (s:CpuT) (A B C D E:List Int):Tree St:=
 .br (decide (k<200)) (.br (true&&lens5 A B C D E) (.br (pN (gW s)) (.br (true&&(true&&(true&&lens5 A B C D E))) (.br (pN (gW s))
  (let o:=g (gW s) A B C D E
  .br (!(eqS (gW o.s) (gW o.s))) (VN k s o) (.br (o.ev != o.ev) (VN k s o) (.br (o.err != o.err) (VN k s o) (.br (o.err != 0) (.leaf (.exit 0,rG k,sT s s o.A o.B o.C o.D o.E)) (.leaf (.normal,rG (IntKind.wrap .i64 (k+1)),sT o.s o.s o.A o.B o.C o.D o.E)))))) .fail) .fail) .fail) .fail)
  (.leaf (.exit 0,rG k,sT s s A B C D E))
theorem aVS (g:oX) (k:Int) (s:CpuT) (A B C D E:List Int) :
  ((aK (tZ g) (cin (cin (c2 (c1 (aJ 4 sR))))) (rG k) (sT s s A B C D E)).bind (rD 16 [] [3,7,8,9,10])).run=(aJC g k s A B C D E).run:=
 (show _=(aJC g k s A B C D E).out by kernel_rfl).trans (Tree.out_run _)
def ssA (s:CpuT) (l m:List Int) (t:T):T:=(0,.agg (gW s).l) :: (1,.sl (.int .u8) l [] .may) :: (2,.sl (.int .u8) m [] .may) :: (3,.ptr 0 0) :: t
def aJY (s:CpuT) (l m:List Int):Tree St:=
 .br (decide (8192<((l.length:Nat):Int))) (.leaf (.ret,ssA s l m [(6,.bool true),(18,.bool false),(26,.bool true)],[N8 s])) (.br (decide (8192<((m.length:Nat):Int))) (.leaf (.ret,ssA s l m [(6,.bool true),(18,.bool false),(26,.bool true)],[N8 s]))
  (.br (lX l&&lX m) (.leaf (.normal,ssA s l m [(6,.bool false),(7,.ptr 1 0),(8,.ptr 8 0),(9,.ptr 15 0),(18,.bool false),(26,.bool false)],
  sT s s (jX 1 l m eK) (jX 2 l m eK) (jX 16 l m eK) (jX 17 l m eK) (jX 32 l m eK))) .fail))
theorem a9H (g:oX) (s:CpuT) (l m:List Int):(aK (tZ g) (eQ 4 sR) (dZ 0 [.agg (gW s).l,.sl (.int .u8) l [] .may,.sl (.int .u8) m [] .may]) []).run=(aJY s l m).run:=
 (show _=(aJY s l m).out by kernel_rfl).trans (Tree.out_run _)
theorem a34 (g:oX) (H:List O):((aK (tZ g) (c1 (c1 (aJ 4 sR))) [(3,.ptr 0 0),(7,.ptr 1 0),(8,.ptr 8 0),(9,.ptr 15 0)] H).bind (nR [3,7,8,9,10])).run=some (.normal,rG 0,H):=by kernel_rfl
noncomputable def aMC (g:oX) (s:CpuT) (A B C D E:List Int):Option V:=((aK (tZ g) (aJ 5 sR) [(7,.ptr 1 0),(8,.ptr 8 0)] (sT s s A B C D E)).bind (answer prog Tryz.f8.results.toList)).fin
theorem aa2 (g:oX) (s:CpuT) (A B C D E:List Int):aMC g s A B C D E =
  cond (true&&lens5 A B C D E) (pZ (lens5 A B C D E) A (pZ (lens5 A B C D E) B (pZ (lens5 A B C D E) C (pZ (lens5 A B C D E) D (pZ (lens5 A B C D E) E (some (.bool true))))))) none:=by kernel_rfl
structure SsSt where
 k:Nat
 s:CpuT
 A:List Int
 B:List Int
 C:List Int
 D:List Int
 E:List Int
 hk:k<=200
 hs:Fine s
 hl:lens5 A B C D E=true
def aOI (i:SsSt):T × List O:=(rG i.k,sT i.s i.s i.A i.B i.C i.D i.E)
theorem a77 {g:oX} (a:bP prog 15 (H6 g)) (b:bP prog 20 (HI g)):aW (tZ g):=
 ⟨.cons Go.Amd.aZW (.nil _),.cons a (.cons b (.cons aX4 (aLN 1).2.1)),(aLN 1).2.2⟩
set_option maxRecDepth 8000 in
theorem aZ3 {g:oX} (Q:GOk g) (L:bP prog 15 (H6 g)) (M:bP prog 20 (HI g)) {s:CpuT} (h:Fine s) {l m:List Int} (N:l.all jT=true) (O:m.all jT=true) :
  jS prog 8 [.agg s.l,.sl (.int .u8) l [] .may,.sl (.int .u8) m [] .may] (.bool true):=by
 have b:=a77 L M;have d:gW s=s:=qP h.len;rw [<- d];refine vG (c:=sR) (fn:=Tryz.f8) (by kernel_rfl) (by kernel_rfl) (by kernel_rfl) (by kernel_rfl) ?_;refine yF (cx:=tZ g) rfl rfl b 4 (by kernel_rfl) (a9H g s l m) ?_;refine ⟨fun _=>⟨.inl rfl,by kernel_rfl⟩,fun I=>⟨fun _=>⟨.inl rfl,by kernel_rfl⟩,fun J=>?_⟩⟩;have I:=of_decide_eq_false I;have J:=of_decide_eq_false J
 have F:lX l=true:=by
  unfold lX;rw [N,decide_eq_true (by omega)];rfl
 have G:lX m=true:=by
  unfold lX;rw [O,decide_eq_true (by omega)];rfl
 refine cN (by rw [F,G]; rfl) ?_;show aI _ _ _ _ _ _;refine aI.less (s:=[(3,.ptr 0 0),(7,.ptr 1 0),(8,.ptr 8 0),(9,.ptr 15 0)]) (Fits.tle ⟨rfl,rfl,rfl,rfl,trivial⟩) ?_
 have K:aJ 4 sR = .seq (.seq (c1 (c1 (aJ 4 sR))) (.block 0 (.loop (cin (cin (c2 (c1 (aJ 4 sR)))))))) (aJ 5 sR):=by kernel_rfl
 rw [K];have a:=a2D F G aCN;generalize jX 1 l m eK=A at a;generalize jX 2 l m eK=B at a;generalize jX 16 l m eK=C at a;generalize jX 17 l m eK=D at a;generalize jX 32 l m eK=E at a;obtain ⟨r,g1,g2⟩:=Option.map_eq_some_iff.1 ((qM _ _).symm.trans (a34 g (sT s s A B C D E)));refine cL (cL (dA (cx:=tZ g) rfl rfl b g1 ?_));obtain ⟨ex,t,H⟩:=r;simp only [Prod.mk.injEq] at g2;obtain ⟨rfl,g2,rfl⟩:=g2;refine mA (aI.less (s:=rG 0) (g2 ▸ dK.bC _ _) ?_)
 refine xX (cx:=tZ g) (P:=prog) (n:=72) rfl rfl b aOI (fun i=>200 - i.k) [] [3,7,8,9,10] ?_ ⟨0,s,A,B,C,D,E,by omega,h,a⟩;rintro ⟨k,s,A,B,C,D,E,hk,h,a⟩;refine Tree.all_run_eq (aVS g k s A B C D E) ?_;have d:gW s=s:=qP h.len
 have j:pN (gW s)=true:=by rw [d]; exact R5 h
 have f:∀ {p q u v w : List Int},lens5 p q u v w = true->rS aOI (fun i=>200 - i.k) [3,7,8,9,10] (vV 0 (xE (aI prog 72 (aJ 5 sR) fun e t H=>(e = .ret\/e = .normal)/\hD prog Tryz.f8.results.toList H t=some (.bool true)) fun e t H=>(e = .ret\/e = .normal)/\hD prog Tryz.f8.results.toList H t=some (.bool true)))
   ⟨k,s,A,B,C,D,E,hk,h,a⟩ (.exit 0,rG k,sT s s p q u v w):=by
  intro p q u v w y t z;have z:rG k=bC [3,7,8,9,10] t:=z;show aI _ _ _ _ _ _;refine aI.less (s:=rG k) (z ▸ dK.bC _ _) ?_;refine aI.less (s:=[(7,.ptr 1 0),(8,.ptr 8 0)]) (Fits.tle ⟨rfl,rfl,trivial⟩) ?_;have x:=(aa2 g s p q u v w).trans (ajR y);unfold aMC at x;rw [Tree.bJ] at x;obtain ⟨r,q1,q2⟩:=bD x;refine dA (cx:=tZ g) rfl rfl b q1 ?_;exact aTE q2
 refine ⟨fun o=>?_,fun _=>f a⟩;have o:=of_decide_eq_true o;refine cN (by rw [a]; rfl) (cN j (cN (by rw [a]; rfl) (cN j ?_)));refine zH (by rw [a1O]; rfl) (zH (bne_self_eq_false _) (zH (bne_self_eq_false _) ?_));rw [d];obtain ⟨f1,f2⟩:=Q s A B C D E h a;refine ⟨fun _=>f f2,fun _=>?_⟩;refine ⟨⟨k+1,_,_,_,_,_,_,by omega,f1,f2⟩,by show 200 - (k+1)<200 - k; omega,?_,rfl⟩;rw [wrap_i64 (by omega) (by omega)];exact dK.refl _
theorem ajU (x:EC.tys [pV,.sl (.int .u8),.sl (.int .u8)]):oP [pV,.sl (.int .u8),.sl (.int .u8)] x=[.agg (aOS x.1).l,.sl (.int .u8) (x.2.1.getD []) [] .may,.sl (.int .u8) (x.2.2.getD []) [] .may]:=by kernel_rfl
theorem steps_call (x:EC.tys [pV,.sl (.int .u8),.sl (.int .u8)]) (h:okEs [pV,.sl (.int .u8),.sl (.int .u8)] x):jS prog 8 (oP [pV,.sl (.int .u8),.sl (.int .u8)] x) (.bool true):=by
 rw [ajU];exact aZ3 (aeJ a6C) (a7G a5T) (a5F a9P) (aYB h.1) (aFW h.2.1) (aFW h.2.2)
end Go.Ra
