/-
  The row whose prefixes and opcode were taken: the loops. Conditions: none.
-/
import Derived.Test.YtbefgnmdliefjaaGreatDoorPk19
import Derived.Test.YtbefgnmdliefjaaGreatDoorPk10
open Go.IntKind (wrap i64 u64 u8)
open Go.Proofs.Tryz (prog)
open List renaming length_cons→ZD3,length_append→ZE0,all_eq_true→ZE1
open Option.some renaming injEq→ZH3
open Int renaming toNat_natCast→ZJ0
set_option linter.unusedVariables false
set_option linter.unusedSimpArgs false
namespace Go.Amd
open Go Go.Ab Go.Proofs
def wU:List Int->Bool
 | [_]=>true
 | [_,_]=>true
 | _=>false
def U8:Ab.Spec:=fun args=>match args with
 | [.agg [.str nm,.int .i64 rex,.int .u16 op,.int .i64 f,.int .u8 dg,.bool cn,.int .i64 lo,.int .i64 hi,.str ops],.sl (.int .u8) l [] .full] =>
  .aF (wU l) (.aF (eO (nm,rex,op,f,dg,cn,lo,hi,ops)) (.leaf (.bool (fE (nm,rex,op,f,dg,cn,lo,hi,ops) l))))
 | _=>.fail
theorem aXH:Sound prog 203 U8:=by
 intro args out h;unfold U8 at h;split at h;rotate_left
 ·cases h
 rename_i nm b op f dg d lo hi os l;obtain ⟨a,h⟩:=aM h;refine aXU _ out ?_
 match l,a,h with
 | [c],_,h=>exact h
 | [c,e],_,h=>exact h
 | [],a,_=>cases a
 | _ :: _ :: _ :: _,a,_=>cases a
noncomputable def lS:Cx:={ P:=prog,n:=65,tab:=[(92,NB),(203,U8),(205,SG),(206,YL)],mtab:=[(204,X5),(163,zL),(164,C4)],refs:=[],keeps:=[0,1,4,5,6,8,9,11,12,13,14,15,25,39,45,46,47,48,59] }
theorem rQ:aW lS:=bU (.cons aGR (.cons aXH (.cons aVK (dT a99)))) (.cons a2O (.cons BM (.cons FA (.nil _)))) rfl rfl
noncomputable abbrev AM:Code:=cA Tryz.f160
abbrev rO (r:RowT):O:=.cells (eW r) 104
noncomputable abbrev ZV:Code:=cin (cin (c2 (c1 (c2 (c2 AM)))))
abbrev iW (op:List Int):V:=.sl (.int .u8) op [] .full
def eE (op:List Int) (fs:Bool) (R:Int) (has:Bool) (r:RowT):Bool:=cond (fE r op) (nK r fs R has) false
section
variable (l sp:List Int) (fl:Fl) (k R i:Int) (op:List Int) (fs has:Bool) (L G:List RowT)
abbrev t1A (g:V) (j:Int) (b:Bool):T:=[(0,.ptr 0 0),(1,iW op),(4,.ptr 1 0),(5,.int .u8 0),(6,g),(8,.ptr 2 0),(12,.sl bM L [] .ro),(13,.int .i64 L.length),(14,.int .i64 j),(15,.bool true),(25,.bool b)]
abbrev t1G (g:V) (j:Int) (b:Bool):T:=[(0,.ptr 0 0),(1,iW op),(4,.ptr 1 0),(5,.int .u8 0),(6,g),(8,.ptr 3 0),(12,.sl bM L [] .ro),(13,.int .i64 L.length),(14,.int .i64 j),(15,.bool true),(25,.bool b)]
abbrev O7 (g:V) (j:Int):T:=[(0,.ptr 0 0),(1,iW op),(4,.ptr 1 0),(5,.int .u8 0),(6,g),(12,.sl bM L [] .ro),(13,.int .i64 L.length),(14,.int .i64 j),(15,.bool false)]
abbrev AX (g:V) (j:Int):T:=[(0,.ptr 0 0),(1,iW op),(4,.ptr 1 0),(5,.int .u8 0),(6,g),(12,.sl bM L [] .ro),(13,.int .i64 L.length),(14,.int .i64 j)]
def aNZ:Tree St:=
 .br (decide (i<(L.length:Nat))) (.br (inside i L.length) (.br (wU op) (.br (eO (rowAt L i.toNat)) (.br (fE (rowAt L i.toNat) op) (.br (eO (rowAt L i.toNat)) (.br (nK (rowAt L i.toNat) fs R has)
  (.leaf (.normal,t1A op L (.gro 4 bM [rowAt L i.toNat]) (wrap .i64 (i+1)) true,[aT l sp fl k fs R has,rO bH,rO (rowAt L i.toNat),rO (rowAt L i.toNat),.tok 1 9]))
  (.leaf (.normal,t1A op L mZ (wrap .i64 (i+1)) false,[aT l sp fl k fs R has,rO bH,rO (rowAt L i.toNat),rO (rowAt L i.toNat)]))) .fail)
  (.leaf (.normal,t1A op L mZ (wrap .i64 (i+1)) false,[aT l sp fl k fs R has,rO bH,rO (rowAt L i.toNat)]))) .fail) .fail) .fail)
  (.leaf (.exit 0,O7 op L mZ i,[aT l sp fl k fs R has,rO bH]))
theorem a66:(aK lS ZV (AX op L mZ i) [aT l sp fl k fs R has,rO bH]).run=(aNZ l sp fl k R i op fs has L).run:=
 (show _=(aNZ l sp fl k R i op fs has L).out by kernel_rfl).trans (Tree.out_run _)
def aOA:Tree St:=
 .br (decide (i<(L.length:Nat))) (.br (inside i L.length) (.br (wU op) (.br (eO (rowAt L i.toNat)) (.br (fE (rowAt L i.toNat) op) (.br (eO (rowAt L i.toNat)) (.br (nK (rowAt L i.toNat) fs R has)
  (.br (decide (G.length=G.length)&&roomy (G.length+1) 80) (.leaf (.normal,t1G op L (.gro 2 bM (G++[rowAt L i.toNat])) (wrap .i64 (i+1)) true,[aT l sp fl k fs R has,rO bH,.tok (G.length+1) 9,rO (rowAt L i.toNat),rO (rowAt L i.toNat)])) .fail)
  (.leaf (.normal,t1G op L (.gro 2 bM G) (wrap .i64 (i+1)) false,[aT l sp fl k fs R has,rO bH,.tok G.length 9,rO (rowAt L i.toNat),rO (rowAt L i.toNat)]))) .fail)
  (.leaf (.normal,t1G op L (.gro 2 bM G) (wrap .i64 (i+1)) false,[aT l sp fl k fs R has,rO bH,.tok G.length 9,rO (rowAt L i.toNat)]))) .fail) .fail) .fail)
  (.leaf (.exit 0,O7 op L (.gro 2 bM G) i,[aT l sp fl k fs R has,rO bH,.tok G.length 9]))
theorem a6G:(aK lS ZV (AX op L (.gro 2 bM G) i) [aT l sp fl k fs R has,rO bH,.tok G.length 9]).run=(aOA l sp fl k R i op fs has L G).run:=
 (show _=(aOA l sp fl k R i op fs has L G).out by kernel_rfl).trans (Tree.out_run _)
end
end Go.Amd

namespace Go.Amd
open Go Go.Ab Go.Proofs
noncomputable abbrev T3:Code:=c2 (c2 (c2 AM))
noncomputable abbrev aOF:Code:=cin (cin (c2 (c1 (aJ 2 T3))))
abbrev gT (e:Int):V:=.ifc 143 (.agg [.int .i64 e])
section
variable (l sp:List Int) (fl:Fl) (k R i c:Int) (op:List Int) (fs has:Bool) (G:List RowT)
abbrev D8 (g:V):T:=[(0,.ptr 0 0),(4,.ptr 1 0),(5,.int .u8 0),(6,g)]
abbrev H3 (r:RowT):List O:=[aT l sp fl k fs R has,rO r,.tok G.length 9]
def chT:Tree St:=
 .br (!decide (0<(G.length:Int))) (.leaf (.panic (gT 22),[(0,.ptr 0 0),(4,.ptr 1 0),(5,.int .u8 0),(6,.gro 2 bM G),(31,.gro 2 bM G),(32,.int .i64 (G.length:Nat)),(33,.bool (decide (0<(G.length:Int))))],H3 l sp fl k R fs has G bH))
  (.br (inside 0 G.length) (.br (eO (rowAt G 0)) (.br (!eD (aA (rowAt G 0))) (.br (inside 0 G.length) (.leaf (.ret,[(0,.ptr 0 0),(4,.ptr 1 0),(5,.int .u8 0),(6,.gro 2 bM G),(39,.bool true)],H3 l sp fl k R fs has G (rowAt G 0))) .fail)
   (.leaf (.normal,[(0,.ptr 0 0),(4,.ptr 1 0),(5,.int .u8 0),(6,.gro 2 bM G),(39,.bool false)],H3 l sp fl k R fs has G bH))) .fail) .fail)
theorem afN:(aK lS (eQ 1 T3) (D8 (.gro 2 bM G)) (H3 l sp fl k R fs has G bH)).run=(chT l sp fl k R fs has G).run:=
 (show _=(chT l sp fl k R fs has G).out by kernel_rfl).trans (Tree.out_run _)
def chN:Tree St:=
 .br (decide ((l.length:Nat)<=k)) (.leaf (.panic (gT 2),[(0,.ptr 0 0),(4,.ptr 1 0),(5,.int .u8 0),(6,.gro 2 bM G),(43,.ptr 0 0)],H3 l sp fl k R fs has G bH))
  (.br (inside (wrap .i64 (wrap .i64 (k+1) - 1)) l.length) (.leaf (.normal,[(0,.ptr 0 0),(4,.ptr 1 0),(5,.int .u8 0),(6,.gro 2 bM G),(9,.int .u8 (l.getD (Int.toNat (wrap .i64 (wrap .i64 (k+1) - 1))) 0))],H3 l sp fl (wrap .i64 (k+1)) R fs has G bH)) .fail)
theorem ad0:(aK lS (eQ 0 (aJ 1 T3)) (D8 (.gro 2 bM G)) (H3 l sp fl k R fs has G bH)).run=(chN l sp fl k R fs has G).run:=
 (show _=(chN l sp fl k R fs has G).out by kernel_rfl).trans (Tree.out_run _)
def cR (c:Int) (r:RowT):Bool:=mU r (Int.fdiv c (2 ^ 6)) (aC (Int.fdiv c (2 ^ 3)) 7) (aC c 7)
abbrev t4S (j:Int):T:=[(0,.ptr 0 0),(4,.ptr 1 0),(5,.int .u8 0),(9,.int .u8 c),(45,.gro 2 bM G),(46,.int .i64 (G.length:Nat)),(47,.int .i64 j)]
def aP8:Tree St:=
 .br (decide (i<(G.length:Nat))) (.br (inside i G.length) (.br (eO (rowAt G i.toNat)) (.br (cR c (rowAt G i.toNat))
  (.leaf (.ret,[(0,.ptr 0 0),(4,.ptr 1 0),(5,.int .u8 c),(9,.int .u8 c),(11,.ptr 3 0),(45,.gro 2 bM G),(46,.int .i64 (G.length:Nat)),(47,.int .i64 i),(48,.bool true),(59,.bool true)],H3 l sp fl k R fs has G (rowAt G i.toNat)++[rO (rowAt G i.toNat)]))
  (.leaf (.normal,[(0,.ptr 0 0),(4,.ptr 1 0),(5,.int .u8 0),(9,.int .u8 c),(11,.ptr 3 0),(45,.gro 2 bM G),(46,.int .i64 (G.length:Nat)),(47,.int .i64 (wrap .i64 (i+1))),(48,.bool true),(59,.bool false)],H3 l sp fl k R fs has G bH++[rO (rowAt G i.toNat)]))) .fail) .fail)
  (.leaf (.exit 2,[(0,.ptr 0 0),(4,.ptr 1 0),(5,.int .u8 0),(9,.int .u8 c),(45,.gro 2 bM G),(46,.int .i64 (G.length:Nat)),(47,.int .i64 i),(48,.bool false)],H3 l sp fl k R fs has G bH))
theorem a89:(aK lS aOF (t4S c G i) (H3 l sp fl k R fs has G bH)).run=(aP8 l sp fl k R i c fs has G).run:=
 (show _=(aP8 l sp fl k R i c fs has G).out by kernel_rfl).trans (Tree.out_run _)
def nP:Tree Res:=match G.find? (cR c) with
 | some r=>.leaf (.ok (.tup [.agg (eW r),.int .u8 c]) [aT l sp fl k fs R has,rO r])
 | none=>.leaf (.pan (gT 22) [aT l sp fl k fs R has])
def gR:List RowT:=aD.filter (eE op fs R has)
def BV:Tree Res:=match gR R op fs has with
 | []=>.leaf (.pan (gT 22) [aT l sp fl k fs R has])
 | r0 :: G=>.br (eD (aA r0)) (.br (decide ((l.length:Nat)<=k)) (.leaf (.pan (gT 2) [aT l sp fl k fs R has]))
   (nP l sp fl (k+1) R (l.getD k.toNat 0) fs has (r0 :: G)))
  (.leaf (.ok (.tup [.agg (eW r0),.int .u8 0]) [aT l sp fl k fs R has,rO r0]))
theorem aEU {r:RowT} {G:List RowT} (h:∀ r ∈ G,r ∈ aD) (a:r ∈ G):eO r=true:=ZE1.1 vD r (h r a)
def PO (r:Res) (e:AEx) (t:T) (H:List O):Prop:=∃ κ s,iQ 1 κ (e,t,H)=some s/\sC prog Tryz.f160 r s.1 s.2.1 s.2.2
variable {l sp fl k R op fs has G}
theorem aVY (q:∀ r ∈ G,r ∈ aD) (hlen:G.length<=58) {res:Res}
  (a:(nP l sp fl k R c fs has G).run=some res) :
  aI prog 65 (aJ 1 (c2 T3)) (PO res) [(0,.ptr 0 0),(4,.ptr 1 0),(5,.int .u8 0),(6,.gro 2 bM G),(9,.int .u8 c)] (H3 l sp fl k R fs has G bH):=by
 unfold nP at a
 have e:aJ 1 (c2 T3) = .seq (.seq (c1 (c1 (aJ 2 T3))) (.block 2 (.loop aOF))) (c2 (aJ 2 T3)):=by kernel_rfl
 rw [e];refine cL (cL (dA (cx:=lS) rfl rfl rQ (s:=(.normal,[(0,.ptr 0 0),(4,.ptr 1 0),(5,.int .u8 0),(6,.gro 2 bM G),(9,.int .u8 c),(45,.gro 2 bM G),(46,.int .i64 (G.length:Nat)),(47,.int .i64 0)],H3 l sp fl k R fs has G bH)) (by kernel_rfl) ?_));refine mA ?_;refine aI.less (s:=t4S c G ((0:Nat):Int)) (Fits.tle ⟨rfl,rfl,rfl,rfl,rfl,rfl,rfl,trivial⟩) ?_;refine EP (cx:=lS) (P:=prog) (n:=65) rfl rfl rQ (fun j:{ j:Nat // j<=G.length/\(G.take j).find? (cR c)=none }=>(t4S c G (j.1:Int),H3 l sp fl k R fs has G bH)) (fun j=>58 - j.1) ?_ ⟨0,Nat.zero_le _,rfl⟩
 rintro ⟨j,hj,hnone⟩;refine Tree.all_run_eq (a89 l sp fl k R j c fs has G) ?_;refine ⟨fun b=>⟨fun f=>?_,fun f=>?_⟩,fun d=>?_⟩
 ·have b:j<G.length:=Int.ofNat_lt.1 (of_decide_eq_true b)
  have g:rowAt G j ∈ G:=by
   show G.getD j bH ∈ G;rw [oD b];exact List.getElem_mem b
  refine cN (aEU q g) ⟨fun p=>?_,fun p=>?_⟩
  ·have m:G.find? (cR c)=some (rowAt G j):=aEE b hnone p
   rw [m] at a;simp only [Tree.run,ZH3] at a;subst a;refine ⟨[],(.ret,[(0,.ptr 0 0),(4,.ptr 1 0),(5,.int .u8 c),(9,.int .u8 c),(11,.any),(45,.gro 2 bM G),(46,.int .i64 (G.length:Nat)),(47,.int .i64 (j:Int)),(48,.bool true),(59,.bool true)],H3 l sp fl k R fs has G (rowAt G j)),by kernel_rfl,?_⟩;show PO _ _ _ _;exact ⟨[1],(.ret,[(0,.ptr 0 0),(4,.ptr 1 0),(5,.int .u8 c),(9,.int .u8 c),(11,.any),(45,.any),(46,.int .i64 (G.length:Nat)),(47,.int .i64 (j:Int)),(48,.bool true),(59,.bool true)],[aT l sp fl k fs R has,rO (rowAt G j)]),by kernel_rfl,.inl rfl,rfl,by kernel_rfl⟩
  ·have t:(G.take (j+1)).find? (cR c)=none:=aDZ b hnone p
   refine ⟨[],(.normal,[(0,.ptr 0 0),(4,.ptr 1 0),(5,.int .u8 0),(9,.int .u8 c),(11,.any),(45,.gro 2 bM G),(46,.int .i64 (G.length:Nat)),(47,.int .i64 (wrap .i64 ((j:Int)+1))),(48,.bool true),(59,.bool false)],H3 l sp fl k R fs has G bH),by kernel_rfl,
    ⟨j+1,b,t⟩,by show 58 - (j+1)<58 - j; omega,Fits.tle ⟨rfl,rfl,rfl,rfl,rfl,rfl,?_,trivial⟩,rfl⟩
   show V.int .i64 (wrap .i64 ((j:Int)+1))=V.int .i64 ((j+1:Nat):Int);rw [wrap_i64 (by omega) (by omega)];rfl
 ·exfalso
  have b:j<G.length:=Int.ofNat_lt.1 (of_decide_eq_true b);exact Bool.noConfusion ((jI (Int.natCast_nonneg j) (Int.ofNat_lt.2 b)).symm.trans f)
 ·have d:¬ j<G.length:=fun h=>of_decide_eq_false d (Int.ofNat_lt.2 h)
  have o : j=G.length:=by omega
  have m:G.find? (cR c)=none:=by rw [<- hnone,o,List.take_length]
  rw [m] at a;simp only [Tree.run,ZH3] at a;subst a;refine ⟨[],(.exit 2,[(0,.ptr 0 0),(4,.ptr 1 0),(5,.int .u8 0),(9,.int .u8 c),(45,.gro 2 bM G),(46,.int .i64 (G.length:Nat)),(47,.int .i64 (j:Int)),(48,.bool false)],H3 l sp fl k R fs has G bH),by kernel_rfl,?_⟩;show aI _ _ _ _ _ _;refine aI.less (s:=[(0,.ptr 0 0),(4,.ptr 1 0),(5,.int .u8 0)]) (Fits.tle ⟨rfl,rfl,rfl,trivial⟩) ?_;refine dA (cx:=lS) rfl rfl rQ (s:=(.panic (gT 22),[(0,.ptr 0 0),(4,.ptr 1 0),(5,.int .u8 0)],H3 l sp fl k R fs has G bH)) (by kernel_rfl) ?_
  exact ⟨[],(.panic (gT 22),[(0,.ptr 0 0),(4,.any),(5,.int .u8 0)],[aT l sp fl k fs R has]),by kernel_rfl,rfl,rfl⟩
end
end Go.Amd

namespace Go.Amd
open Go Go.Ab Go.Proofs
section
variable {l sp:List Int} {fl:Fl} {k R:Int} {op:List Int} {fs has:Bool}
theorem aTC {G:List RowT} {r0:RowT} (hG:∀ r ∈ r0 :: G,r ∈ aD) (hlen:(r0 :: G).length<=58) (k0:0<=k) (k1:k<1000000000) (hl:l.length<1000000000) {res:Res}
  (hres:(Tree.br (eD (aA r0)) (.br (decide ((l.length:Nat)<=k)) (.leaf (.pan (gT 2) [aT l sp fl k fs R has])) (nP l sp fl (k+1) R (l.getD k.toNat 0) fs has (r0 :: G)))
   (.leaf (.ok (.tup [.agg (eW r0),.int .u8 0]) [aT l sp fl k fs R has,rO r0]))).run=some res) :
  aI prog 65 T3 (PO res) (D8 (.gro 2 bM (r0 :: G))) (H3 l sp fl k R fs has (r0 :: G) bH):=by
 refine yF (cx:=lS) rfl rfl rQ 1 (by kernel_rfl) (afN l sp fl k R fs has (r0 :: G)) ?_;have hpos:decide (0<(((r0 :: G).length:Nat):Int))=true:=decide_eq_true (by rw [ZD3]; omega);have hin:inside 0 (r0 :: G).length=true:=jI (by omega) (by rw [ZD3]; omega);have h0:rowAt (r0 :: G) 0=r0:=rfl;refine ⟨fun h=>(by rw [hpos] at h; cases h),fun _=>cN hin (cN (aEU hG List.mem_cons_self) ⟨fun hm=>cN hin ?_,fun hm=>?_⟩)⟩
 ·-- no ModRM
  have hm:eD (aA r0)=false:=by simpa [h0] using hm
  rw [hm] at hres;simp only [Tree.run,cond_false,ZH3] at hres;subst hres;exact ⟨[1],(.ret,[(0,.ptr 0 0),(4,.ptr 1 0),(5,.int .u8 0),(6,.any),(39,.bool true)],[aT l sp fl k fs R has,rO r0]),by kernel_rfl,.inl rfl,rfl,by kernel_rfl⟩
 ·have hm:eD (aA r0)=true:=by simpa [h0] using hm
  rw [hm,a6,cond_true] at hres;show aI _ _ _ _ _ _;refine aI.less (s:=D8 (.gro 2 bM (r0 :: G))) (Fits.tle ⟨rfl,rfl,rfl,rfl,trivial⟩) ?_;refine yF (cx:=lS) rfl rfl rQ 0 (by kernel_rfl) (ad0 l sp fl k R fs has (r0 :: G)) ?_;have w1:wrap .i64 (k+1)=k+1:=wrap_i64 (by omega) (by omega)
  have w2:wrap .i64 (wrap .i64 (k+1) - 1)=k:=by rw [w1,wrap_i64 (by omega) (by omega)]; omega
  refine ⟨fun hs=>?_,fun hs=>?_⟩
  ·rw [hs] at hres
   simp only [Tree.run,cond_true,ZH3] at hres;subst hres;exact ⟨[],(.panic (gT 2),[(0,.ptr 0 0),(4,.any),(5,.int .u8 0),(6,.any),(43,.ptr 0 0)],[aT l sp fl k fs R has]),by kernel_rfl,rfl,rfl⟩
  ·rw [hs] at hres
   rw [a6,cond_false] at hres
   have hk:k<(l.length:Int):=by have:=of_decide_eq_false hs; omega
   rw [w2,w1];refine cN (jI k0 hk) ?_;show aI _ _ _ _ _ _;exact aVY _ hG hlen hres
theorem aSH {p:RowT->Bool} {i:Nat} (hi:i<aD.length):(aD.take (i+1)).filter p=(aD.take i).filter p++(cond (p (rowAt aD i)) [rowAt aD i] []):=by
 rw [List.take_add_one,List.filter_append];congr 1;rw [List.getElem?_eq_getElem hi];have:rowAt aD i=aD[i]:=oD hi;rw [this];cases h:p aD[i] <;> simp [h]
def M7 (G:List RowT):V:=match G with
 | []=>mZ
 | _ :: _=>.gro 2 bM G
def IF (G:List RowT):List O:=match G with
 | []=>[]
 | _ :: _=>[.tok G.length 9]
def C7 (l sp:List Int) (fl:Fl) (k R:Int) (op:List Int) (fs has:Bool) (j:{ j:Nat // j<=58 }):T × List O:=
 (AX op aD (M7 ((aD.take j.1).filter (eE op fs R has))) (j.1:Int),[aT l sp fl k fs R has,rO bH]++IF ((aD.take j.1).filter (eE op fs R has)))
theorem aEI (z:wU op=true) (I:0<=k) (k1:k<1000000000) (F:l.length<1000000000) {res:Res} (f:(BV l sp fl k R op fs has).run=some res) :
  dQ prog 160 [.ptr 0 0,iW op] [aT l sp fl k fs R has] res:=by
 refine rM (c:=AM) (fn:=Tryz.f160) (by kernel_rfl) (by kernel_rfl) (by kernel_rfl) (by kernel_rfl) ?_;refine yG ?_;show aI _ _ _ (PO res) _ _
 have e:AM = .seq (c1 AM) (.seq (c1 (c2 AM)) (.seq (.seq (c1 (c1 (c2 (c2 AM)))) (.block 0 (.loop ZV))) T3)):=by kernel_rfl
 rw [e];have hlen:=aEL;refine cL (dA (cx:=lS) rfl rfl rQ (s:=(.normal,[(0,.ptr 0 0),(1,iW op),(4,.ptr 1 0),(5,.int .u8 0)],[aT l sp fl k fs R has,rO bH])) (by kernel_rfl) ?_);refine cL (dA (cx:=lS) rfl rfl rQ (s:=(.normal,[(0,.ptr 0 0),(1,iW op),(4,.ptr 1 0),(5,.int .u8 0),(6,mZ)],[aT l sp fl k fs R has,rO bH])) (by kernel_rfl) ?_);refine cL (cL (dA (cx:=lS) rfl rfl rQ (s:=(.normal,AX op aD mZ 0,[aT l sp fl k fs R has,rO bH])) (by kernel_rfl) ?_))
 refine mA ?_;have D:([aT l sp fl k fs R has,rO bH]:List O)=[aT l sp fl k fs R has,rO bH]++IF ((aD.take 0).filter (eE op fs R has)):=rfl;refine aI.less (s:=AX op aD (M7 ((aD.take 0).filter (eE op fs R has))) ((0:Nat):Int)) (Fits.tle ⟨rfl,rfl,rfl,rfl,rfl,rfl,rfl,rfl,trivial⟩) ?_;rw [D];refine EP (cx:=lS) (P:=prog) (n:=65) rfl rfl rQ (C7 l sp fl k R op fs has) (fun j=>58 - j.1) ?_ ⟨0,Nat.zero_le _⟩;rintro ⟨j,hj⟩
 have step:∀ a:j<aD.length,V.int .i64 (wrap .i64 ((j:Int)+1))=V.int .i64 ((j+1:Nat):Int):=fun a=>by
  rw [wrap_i64 (by omega) (by omega)];rfl
 have m:j<aD.length->eO (rowAt aD j)=true:=fun a=>ZE1.1 vD _ (by show aD.getD j bH ∈ aD; rw [oD a]; exact List.getElem_mem a);have w:∀ r ∈ (aD.take j).filter (eE op fs R has),r ∈ aD:=fun r H=>List.mem_of_mem_take (List.mem_filter.1 H).1;have hle:((aD.take j).filter (eE op fs R has)).length<=58:=Nat.le_trans (List.length_filter_le _ _) (by rw [List.length_take]; omega)
 have q:j=aD.length->(aD.take j).filter (eE op fs R has)=gR R op fs has:=fun h=>by rw [h,List.take_length]; rfl
 have b:=fun a=>aSH (p:=eE op fs R has) (i:=j) a;generalize E:(aD.take j).filter (eE op fs R has)=G at w hle q b
 have B:C7 l sp fl k R op fs has ⟨j,hj⟩=(AX op aD (M7 G) (j:Int),[aT l sp fl k fs R has,rO bH]++IF G):=by unfold C7; rw [E]
 have d:∀ (h:j+1<=58) (A : List RowT),(aD.take (j+1)).filter (eE op fs R has)=A -> C7 l sp fl k R op fs has ⟨j+1,h⟩=(AX op aD (M7 A) ((j+1:Nat):Int),[aT l sp fl k fs R has,rO bH]++IF A):=by
  intro h A o;unfold C7;rw [o]
 have v:(C7 l sp fl k R op fs has ⟨j,hj⟩).2.length=([aT l sp fl k fs R has,rO bH]++IF G).length:=by rw [B]
 cases G with
 | nil =>
  rw [B];refine Tree.all_run_eq (a66 l sp fl k R j op fs has aD) ?_;refine ⟨fun a=>?_,fun t=>?_⟩
  ·have a:j<aD.length:=Int.ofNat_lt.1 (of_decide_eq_true a)
   refine cN (jI (Int.natCast_nonneg j) (Int.ofNat_lt.2 a)) (cN z (cN (m a) ⟨fun u=>cN (m a) ⟨fun x=>?_,fun x=>?_⟩,fun u=>?_⟩))
   ·have o:(aD.take (j+1)).filter (eE op fs R has)=[rowAt aD j]:=by
     rw [b a,show eE op fs R has (rowAt aD j)=true from by unfold eE; rw [show fE (rowAt aD j) op=true from u]; exact x];rfl
    refine ⟨[4],(.normal,[(0,.ptr 0 0),(1,iW op),(4,.ptr 1 0),(5,.int .u8 0),(6,.gro 2 bM [rowAt aD j]),(8,.any),(12,.sl bM aD [] .ro),(13,.int .i64 aD.length),(14,.int .i64 (wrap .i64 ((j:Int)+1))),(15,.bool true),(25,.bool true)],[aT l sp fl k fs R has,rO bH,.tok 1 9]),(by rw [v]; kernel_rfl),
     ⟨j+1,by omega⟩,by show 58 - (j+1)<58 - j; omega,?_,?_⟩
    ·rw [d _ _ o]
     exact Fits.tle ⟨rfl,rfl,rfl,rfl,rfl,rfl,rfl,step a,trivial⟩
    ·rw [d _ _ o]
     rfl
   ·have o:(aD.take (j+1)).filter (eE op fs R has)=[]:=by
     rw [b a,show eE op fs R has (rowAt aD j)=false from by unfold eE; rw [show fE (rowAt aD j) op=true from u]; exact x];rfl
    refine ⟨[],(.normal,[(0,.ptr 0 0),(1,iW op),(4,.ptr 1 0),(5,.int .u8 0),(6,mZ),(8,.any),(12,.sl bM aD [] .ro),(13,.int .i64 aD.length),(14,.int .i64 (wrap .i64 ((j:Int)+1))),(15,.bool true),(25,.bool false)],[aT l sp fl k fs R has,rO bH]),(by rw [v]; kernel_rfl),
     ⟨j+1,by omega⟩,by show 58 - (j+1)<58 - j; omega,?_,?_⟩
    ·rw [d _ _ o]
     exact Fits.tle ⟨rfl,rfl,rfl,rfl,rfl,rfl,rfl,step a,trivial⟩
    ·rw [d _ _ o]
     rfl
   ·have o:(aD.take (j+1)).filter (eE op fs R has)=[]:=by
     rw [b a,show eE op fs R has (rowAt aD j)=false from by unfold eE; rw [show fE (rowAt aD j) op=false from u]; rfl];rfl
    refine ⟨[],(.normal,[(0,.ptr 0 0),(1,iW op),(4,.ptr 1 0),(5,.int .u8 0),(6,mZ),(8,.any),(12,.sl bM aD [] .ro),(13,.int .i64 aD.length),(14,.int .i64 (wrap .i64 ((j:Int)+1))),(15,.bool true),(25,.bool false)],[aT l sp fl k fs R has,rO bH]),(by rw [v]; kernel_rfl),
     ⟨j+1,by omega⟩,by show 58 - (j+1)<58 - j; omega,?_,?_⟩
    ·rw [d _ _ o]
     exact Fits.tle ⟨rfl,rfl,rfl,rfl,rfl,rfl,rfl,step a,trivial⟩
    ·rw [d _ _ o]
     rfl
  ·have t:¬ j<aD.length:=fun h=>of_decide_eq_false t (Int.ofNat_lt.2 h)
   have C:=q (by omega);unfold BV at f;rw [<- C] at f;simp only [Tree.run,ZH3] at f;subst f;refine ⟨[],(.exit 0,O7 op aD mZ (j:Int),[aT l sp fl k fs R has,rO bH]),(by rw [v]; kernel_rfl),?_⟩;show aI _ _ _ _ _ _;refine aI.less (s:=D8 mZ) (Fits.tle ⟨rfl,rfl,rfl,rfl,trivial⟩) ?_
   have e3:T3 = .seq (c1 T3) (c2 T3):=by kernel_rfl
   rw [e3];refine cL (dA (cx:=lS) rfl rfl rQ (s:=(.panic (gT 22),[(0,.ptr 0 0),(4,.ptr 1 0),(5,.int .u8 0),(6,mZ),(31,mZ),(32,.int .i64 0),(33,.bool false)],[aT l sp fl k fs R has,rO bH])) (by kernel_rfl) ?_);exact ⟨[],(.panic (gT 22),[(0,.ptr 0 0),(4,.any),(5,.int .u8 0),(6,mZ),(31,mZ),(32,.int .i64 0),(33,.bool false)],[aT l sp fl k fs R has]),by kernel_rfl,rfl,rfl⟩
 | cons g G =>
  rw [B];refine Tree.all_run_eq (a6G l sp fl k R j op fs has aD (g :: G)) ?_;refine ⟨fun a=>?_,fun t=>?_⟩
  ·have a:j<aD.length:=Int.ofNat_lt.1 (of_decide_eq_true a)
   refine cN (jI (Int.natCast_nonneg j) (Int.ofNat_lt.2 a)) (cN z (cN (m a) ⟨fun u=>cN (m a) ⟨fun x=>?_,fun x=>?_⟩,fun u=>?_⟩))
   ·have o:(aD.take (j+1)).filter (eE op fs R has)=g :: G++[rowAt aD j]:=by
     rw [b a,show eE op fs R has (rowAt aD j)=true from by unfold eE; rw [show fE (rowAt aD j) op=true from u]; exact x];rfl
    have y:(decide ((g :: G).length=(g :: G).length)&&roomy ((g :: G).length+1) 80)=true:=by
     rw [decide_eq_true rfl,Bool.true_and];exact decide_eq_true (by omega)
    refine cN y ?_
    refine ⟨[],(.normal,[(0,.ptr 0 0),(1,iW op),(4,.ptr 1 0),(5,.int .u8 0),(6,.gro 2 bM (g :: G++[rowAt aD j])),(8,.any),(12,.sl bM aD [] .ro),(13,.int .i64 aD.length),(14,.int .i64 (wrap .i64 ((j:Int)+1))),(15,.bool true),(25,.bool true)],[aT l sp fl k fs R has,rO bH,.tok ((g :: G).length+1) 9]),(by rw [v]; kernel_rfl),
     ⟨j+1,by omega⟩,by show 58 - (j+1)<58 - j; omega,?_,?_⟩
    ·rw [d _ _ o]
     exact Fits.tle ⟨rfl,rfl,rfl,rfl,rfl,rfl,rfl,step a,trivial⟩
    ·rw [d _ _ o]
     show [aT l sp fl k fs R has,rO bH,O.tok ((g :: G).length+1) 9]=[aT l sp fl k fs R has,rO bH,O.tok (g :: G++[rowAt aD j]).length 9];rw [ZE0];rfl
   ·have o:(aD.take (j+1)).filter (eE op fs R has)=g :: G:=by
     rw [b a,show eE op fs R has (rowAt aD j)=false from by unfold eE; rw [show fE (rowAt aD j) op=true from u]; exact x];exact List.append_nil _
    refine ⟨[],(.normal,[(0,.ptr 0 0),(1,iW op),(4,.ptr 1 0),(5,.int .u8 0),(6,.gro 2 bM (g :: G)),(8,.any),(12,.sl bM aD [] .ro),(13,.int .i64 aD.length),(14,.int .i64 (wrap .i64 ((j:Int)+1))),(15,.bool true),(25,.bool false)],[aT l sp fl k fs R has,rO bH,.tok (g :: G).length 9]),(by rw [v]; kernel_rfl),
     ⟨j+1,by omega⟩,by show 58 - (j+1)<58 - j; omega,?_,?_⟩
    ·rw [d _ _ o]
     exact Fits.tle ⟨rfl,rfl,rfl,rfl,rfl,rfl,rfl,step a,trivial⟩
    ·rw [d _ _ o]
     rfl
   ·have o:(aD.take (j+1)).filter (eE op fs R has)=g :: G:=by
     rw [b a,show eE op fs R has (rowAt aD j)=false from by unfold eE; rw [show fE (rowAt aD j) op=false from u]; rfl];exact List.append_nil _
    refine ⟨[],(.normal,[(0,.ptr 0 0),(1,iW op),(4,.ptr 1 0),(5,.int .u8 0),(6,.gro 2 bM (g :: G)),(8,.any),(12,.sl bM aD [] .ro),(13,.int .i64 aD.length),(14,.int .i64 (wrap .i64 ((j:Int)+1))),(15,.bool true),(25,.bool false)],[aT l sp fl k fs R has,rO bH,.tok (g :: G).length 9]),(by rw [v]; kernel_rfl),
     ⟨j+1,by omega⟩,by show 58 - (j+1)<58 - j; omega,?_,?_⟩
    ·rw [d _ _ o]
     exact Fits.tle ⟨rfl,rfl,rfl,rfl,rfl,rfl,rfl,step a,trivial⟩
    ·rw [d _ _ o]
     rfl
  ·have t:¬ j<aD.length:=fun h=>of_decide_eq_false t (Int.ofNat_lt.2 h)
   have C:=q (by omega);unfold BV at f;rw [<- C] at f;refine ⟨[],(.exit 0,O7 op aD (.gro 2 bM (g :: G)) (j:Int),[aT l sp fl k fs R has,rO bH,.tok (g :: G).length 9]),(by rw [v]; kernel_rfl),?_⟩;show aI _ _ _ _ _ _;refine aI.less (s:=D8 (.gro 2 bM (g :: G))) (Fits.tle ⟨rfl,rfl,rfl,rfl,trivial⟩) ?_;exact aTC w hle I k1 F f
end
end Go.Amd

namespace Go.Amd
open Go Go.Ab Go.Proofs
def cH (R n:Int):Int:=cond (aC R n != 0) 8 0
def Y4 (l sp:List Int) (fl:Fl) (k:Int) (fs:Bool) (R:Int) (has:Bool) (n:Int):Tree Res:=
 .br (aC R n != 0) (.leaf (.ok (.int .i64 8) [aT l sp fl k fs R has])) (.leaf (.ok (.int .i64 0) [aT l sp fl k fs R has]))
theorem a6U (l sp:List Int) (fl:Fl) (k:Int) (fs:Bool) (R:Int) (has:Bool) (n:Int):(dF aNN Tryz.f161 [.ptr 0 0,.int .u8 n] [aT l sp fl k fs R has]).run=(Y4 l sp fl k fs R has n).run:=
 (show _=(Y4 l sp fl k fs R has n).out by kernel_rfl).trans (Tree.out_run _)
def HN:RSpec:=fun args H=>match args,H with
 | [.ptr 0 0,.int .u8 n],[.cells [.sl (.int .u8) _ _ _,.int .i64 _,.bool _,.int .u8 R,.bool _] 146]=>.leaf (.int .i64 (cH R n))
 | _,_=>.fail
theorem SF:nF prog 161 HN:=by
 intro args H r h;unfold HN at h;split at h;rotate_left
 ·cases h
 rename_i n l sp fl k fs R has;have h:=dU h;subst h;refine QA (cx:=aNN) (fn:=Tryz.f161) (bU (.nil _) (.nil _) rfl rfl) (by kernel_rfl) (by kernel_rfl) (by kernel_rfl) ((a6U l sp fl k fs R has n).trans ?_);unfold Y4 cH;cases (aC R n != 0) <;> rfl
def sW (l:List Int) (k:Int) (E:Int->Int->Tree Res) (K:Int->Int->Tree Res):Tree Res:=
 .br (decide ((l.length:Nat)<=k)) (E 2 k) (.br (inside (wrap .i64 (wrap .i64 (k+1) - 1)) l.length) (K (l.getD (Int.toNat (wrap .i64 (wrap .i64 (k+1) - 1))) 0) (wrap .i64 (k+1))) .fail)
theorem a96 {l:List Int} {k:Int} (b:0<=k) (k1:k<1000000000) (E K:Int->Int->Tree Res) :
  (sW l k E K).run=cond (decide ((l.length:Nat)<=k)) (E 2 k).run (K (l.getD k.toNat 0) (k+1)).run:=by
 have a:wrap .i64 (k+1)=k+1:=wrap_i64 (by omega) (by omega)
 have c:wrap .i64 (wrap .i64 (k+1) - 1)=k:=by rw [a,wrap_i64 (by omega) (by omega)]; omega
 unfold sW;rw [a6,c,a];by_cases h:(l.length:Int)<=k
 ·rw [decide_eq_true h]; rfl
 ·rw [decide_eq_false h,cond_false,cond_false]
  exact pS (jI b (by omega))
section
variable (l sp:List Int) (fl:Fl)
abbrev sP (e k:Int) (fs:Bool) (R:Int) (has:Bool):Tree Res:=.leaf (.pan (gT e) [aT l sp fl k fs R has])
abbrev EK (a:List Int) (k:Int) (fs:Bool) (R:Int) (has:Bool):Tree Res:=.leaf (.ok (iW a) [aT l sp fl k fs R has])
def jG (c:Int):Int:=Int.fdiv c (2 ^ 4)
def YF (c k R:Int):Tree Res:=.br (c != 15) (EK l sp fl [c] k false R true) (.br (!(aC R 8 != 0)) (sP l sp fl 22 k false R true) (sW l k (fun e k=>sP l sp fl e k false R true) fun d k=>EK l sp fl [c,d] k false R true))
def OO:Tree Res:=
 sW l 0 (fun e k=>sP l sp fl e k false 0 false) fun c k =>
  .br (c==100) (sW l k (fun e k=>sP l sp fl e k true 0 false) fun c1 k=>.br (!(aC c1 251==72)) (sP l sp fl 22 k true 0 false)
    (.br (jG c1==4) (sW l k (fun e k=>sP l sp fl e k true (aC c1 15) true) fun c2 k=>.br (c2 != 15) (EK l sp fl [c2] k true (aC c1 15) true) (sP l sp fl 22 k true (aC c1 15) true))
     (.br (c1 != 15) (EK l sp fl [c1] k true 0 false) (sP l sp fl 22 k true 0 false))))
   (.br (jG c==4) (sW l k (fun e k=>sP l sp fl e k false (aC c 15) true) fun c1 k=>YF l sp fl c1 k (aC c 15))
    (.br (c != 15) (EK l sp fl [c] k false 0 false) (sW l k (fun e k=>sP l sp fl e k false 0 false) fun d k=>EK l sp fl [c,d] k false 0 false)))
theorem a84:(dF aNX Tryz.f159 [.ptr 0 0] [aT l sp fl 0 false 0 false]).run=(OO l sp fl).run:=
 (show _=(OO l sp fl).out by kernel_rfl).trans (Tree.out_run _)
end
theorem zB {l p t:List Int} {k:Int} (a:l=p++t) (d:k=(p.length:Int)) (e:l.length<1000000000) (E K:Int->Int->Tree Res) :
  (sW l k E K).run=match t with
   | []=>(E 2 k).run
   | c :: _=>(K c (k+1)).run:=by
 have hlen:l.length=p.length+t.length:=by rw [a,ZE0]
 rw [a96 (by omega) (by omega)]
 cases t with
 | nil =>
  rw [decide_eq_true (by simp only [List.length_nil] at hlen; omega)];rfl
 | cons c t =>
  have b:l.getD k.toNat 0=c:=by
   rw [a,d,ZJ0,List.getD_eq_getElem?_getD,List.getElem?_append_right (Nat.le_refl _),Nat.sub_self];rfl
  rw [decide_eq_false (by simp only [ZD3] at hlen; omega),b];rfl
abbrev uW:=Except (Int × Int × Bool × Int × Bool) (List Int × Int × Bool × Int × Bool)
def lY (R c:Int) (t:List Int):uW:=cond (c != 15) (.ok ([c],2,false,R,true)) (cond (!(aC R 8 != 0)) (.error (22,2,false,R,true)) (match t with
  | []=>.error (2,2,false,R,true)
  | d :: _=>.ok ([c,d],3,false,R,true)))
def uC (c:Int) (t:List Int):uW:=cond (!(aC c 251==72)) (.error (22,2,true,0,false)) (cond (jG c==4) (match t with
  | []=>.error (2,2,true,aC c 15,true)
  | d :: _=>cond (d != 15) (.ok ([d],3,true,aC c 15,true)) (.error (22,3,true,aC c 15,true)))
  (cond (c != 15) (.ok ([c],2,true,0,false)) (.error (22,2,true,0,false))))
def iU (c:Int) (t:List Int):uW:=cond (c==100) (match t with
  | []=>.error (2,1,true,0,false)
  | d :: t=>uC d t) (cond (jG c==4) (match t with
  | []=>.error (2,1,false,aC c 15,true)
  | d :: t=>lY (aC c 15) d t) (cond (c != 15) (.ok ([c],1,false,0,false)) (match t with
  | []=>.error (2,1,false,0,false)
  | d :: _=>.ok ([c,d],2,false,0,false))))
def eS:List Int->uW
 | []=>.error (2,0,false,0,false)
 | c :: t=>iU c t
section
variable (l sp:List Int) (fl:Fl)
def OF:uW->Res
 | .ok (a,k,fs,R,has)=>.ok (iW a) [aT l sp fl k fs R has]
 | .error (e,k,fs,R,has)=>.pan (gT e) [aT l sp fl k fs R has]
theorem a29 {p t:List Int} {c R:Int} (b:l=p++(c :: t)) (e:p.length=1) (a:l.length<1000000000):(YF l sp fl c 2 R).run=some (OF l sp fl (lY R c t)):=by
 unfold YF lY;rw [a6,a6,zB (p:=p++[c]) (t:=t) (by rw [b]; simp) (by rw [ZE0,e]; rfl) a]
 cases t with
 | nil=>cases (c != 15) <;> cases (!(aC R 8 != 0)) <;> rfl
 | cons d t=>cases (c != 15) <;> cases (!(aC R 8 != 0)) <;> rfl
theorem a4B (a:l.length<1000000000):(OO l sp fl).run=some (OF l sp fl (eS l)):=by
 unfold OO;refine (zB (l:=l) (p:=[]) (t:=l) (k:=0) rfl rfl a _ _).trans ?_
 cases l with
 | nil=>rfl
 | cons c t =>
  show (Tree.br (c==100) _ _).run=some (OF (c :: t) sp fl (iU c t));unfold iU;rw [a6,a6,a6];cases h:(c==100)
  ·cases f:(jG c==4)
   ·cases b:(c != 15)
    ·simp only [cond_false]
     refine (zB (l:=c :: t) (p:=[c]) (t:=t) (k:=0+1) rfl rfl a _ _).trans ?_;cases t <;> rfl
    ·rfl
   ·simp only [cond_false,cond_true]
    refine (zB (l:=c :: t) (p:=[c]) (t:=t) (k:=0+1) rfl rfl a _ _).trans ?_
    cases t with
    | nil=>rfl
    | cons d t=>exact a29 _ sp fl (p:=[c]) (t:=t) rfl rfl a
  ·simp only [cond_true]
   refine (zB (l:=c :: t) (p:=[c]) (t:=t) (k:=0+1) rfl rfl a _ _).trans ?_
   cases t with
   | nil=>rfl
   | cons d t =>
    simp only;unfold uC;rw [a6,a6,a6];cases g:(!(aC d 251==72))
    ·cases f:(jG d==4)
     ·cases b:(d != 15) <;> rfl
     ·simp only [cond_false,cond_true]
      refine (zB (l:=c :: d :: t) (p:=[c,d]) (t:=t) (k:=0+1+1) rfl rfl a _ _).trans ?_
      cases t with
      | nil=>rfl
      | cons e t =>
       simp only;rw [a6];cases b:(e != 15) <;> rfl
    ·rfl
theorem aEY (a:l.length<1000000000):dQ prog 159 [.ptr 0 0] [aT l sp fl 0 false 0 false] (OF l sp fl (eS l)):=
 QA (cx:=aNX) (fn:=Tryz.f159) (bU (.nil _) (.cons BM (.cons FA (.nil _))) rfl rfl) (by kernel_rfl) (by kernel_rfl) (by kernel_rfl) ((a84 l sp fl).trans (a4B l sp fl a))
end
end Go.Amd

namespace Go.Wd
open Go Go.Ab
def Z1 (a b:Int):Int:=wrap .u32 ↑(BitVec.toNat (BitVec.ofInt 32 a ||| BitVec.ofInt 32 b))
def W6 (a:Int) (n:Nat):Int:=wrap .u32 (a*2 ^ n)
theorem wrap_u64 (n:Int):wrap .u64 n=n % 18446744073709551616:=by
 simp [wrap,IntKind.bits,IntKind.signed]
theorem wrap_u8 (n:Int):wrap .u8 n=n % 256:=by
 simp [wrap,IntKind.bits,IntKind.signed]
theorem aR7 {a:Int} (b:0<=a) (c:a<18446744073709551616):(BitVec.ofInt 64 a).toNat=a.toNat:=by
 rw [BitVec.toNat_ofInt];have:((2 ^ 64:Nat):Int)=18446744073709551616:=rfl;rw [this,Int.emod_eq_of_lt b c]
theorem a5R:∀ (x y:Nat),x &&& y=0->x ||| y=x+y:=by
 intro x
 induction x using Nat.strongRecOn with
 | ind x g =>
  intro y h;by_cases hx:x=0
  ·subst hx; simp
  ·have f:=g (x / 2) (by omega) (y / 2) (by rw [<- Nat.and_div_two,h])
   have e:(x ||| y) / 2=x / 2 ||| y / 2:=Nat.or_div_two
   have c:Nat.testBit (x &&& y) 0=false:=by rw [h]; rfl
   have d:Nat.testBit (x ||| y) 0=(Nat.testBit x 0 || Nat.testBit y 0):=Nat.testBit_or x y 0;rw [Nat.testBit_and] at c;simp only [Nat.testBit_zero] at c d;rw [f] at e
   generalize x ||| y=z at e d ⊢
   have a:x % 2=0\/x % 2=1:=by omega
   have b:y % 2=0\/y % 2=1:=by omega
   rcases a with a | a <;> rcases b with b | b <;> simp [a,b] at c d <;> omega
def z7 (x lo hi:Nat):Prop:=∀ j,lo<=j->j<hi->x.testBit j=false
theorem a8E {x p k b:Nat} (h:z7 x k (k+b)) (a:p<2 ^ b):x ||| p <<< k=x+p <<< k:=by
 refine a5R _ _ ?_;apply Nat.eq_of_testBit_eq;intro j;rw [Nat.testBit_and,Nat.testBit_shiftLeft,Nat.zero_testBit];by_cases h1:k<=j
 ·by_cases h2:j<k+b
  ·rw [h j h1 h2]; rfl
  ·have:p.testBit (j - k)=false:=Nat.testBit_lt_two_pow (Nat.lt_of_lt_of_le a (Nat.pow_le_pow_right (by omega) (by omega)))
   rw [this]; simp
 ·simp [h1]
abbrev Fd:=Nat × Nat × Nat
def Fine (x:Nat) (fs:List Fd):Prop:=∀ f ∈ fs,f.1<2 ^ f.2.2/\z7 x f.2.1 (f.2.1+f.2.2)
theorem z7.zero (lo hi:Nat):z7 0 lo hi:=fun j _ _=>Nat.zero_testBit j
theorem z7.low {x lo hi:Nat} (h:x<2 ^ lo):z7 x lo hi:=fun j a _=>Nat.testBit_lt_two_pow (Nat.lt_of_lt_of_le h (Nat.pow_le_pow_right (by omega) a))
def gb (l:List Int) (i:Int):Int:=wrap .u32 (l.getD i.toNat 0)
def w4 (l:List Int) (at_:Int):Int:=
 Z1 (Z1 (Z1 (gb l at_) (W6 (gb l (wrap .i64 (at_+1))) 8)) (W6 (gb l (wrap .i64 (at_+2))) 16)) (W6 (gb l (wrap .i64 (at_+3))) 24)
def jD (a b:Int):Int:=wrap .u64 ↑(BitVec.toNat (BitVec.ofInt 64 a ||| BitVec.ofInt 64 b))
theorem aBW {m:Nat} (h:m<2 ^ 64):(BitVec.ofInt 64 (m:Int)).toNat=m:=by
 rw [aR7 (by omega) (by omega),ZJ0]
theorem aE0 {a b:Nat} (c:a<2 ^ 64) (hb:b<2 ^ 64):jD (a:Int) (b:Int)=((a ||| b:Nat):Int):=by
 unfold jD;rw [wrap_u64,BitVec.toNat_or,aBW c,aBW hb]
 have:a ||| b<2 ^ 64:=Nat.or_lt_two_pow c hb
 omega
def r6 (x m:Nat):Prop:=x &&& m=x
theorem r6.disj {x m n:Nat} (h:r6 x m) (a:m &&& n=0):x &&& n=0:=by
 unfold r6 at h;rw [<- h,Nat.and_assoc,a,Nat.and_zero]
theorem r6.zero (m:Nat):r6 0 m:=Nat.zero_and m
theorem r6.or {x y m:Nat} (a:r6 x m) (b:r6 y m):r6 (x ||| y) m:=by
 unfold r6 at *
 rw [Nat.and_or_distrib_right,a,b]
end Go.Wd

namespace Go.Amd
open Go Go.Ab Go.Proofs
def aNC (P:Program) (rs:List ResultVar) (s:St):Option Res:=match s.1 with
 | .panic _=>match iQ 1 [] s with
  | some (.panic v,_,H)=>some (.pan v H)
  | _=>none
 | .ret=>match iQ 1 [1] s with
  | some (.ret,t,H)=>(tL P rs H t).map fun v=>.ok v H
  | _=>none
 | _=>none
def HE (cx:Cx) (fn:Func) (args:List V) (H:List O):Tree Res:=
 (aK { cx with n:=fn.ntmps } (cA fn) (dZ 0 args) H).bind fun s=>.ofOption (aNC cx.P fn.results.toList s)
theorem QD {cx:Cx} {f:Nat} {fn:Func} {args:List V} {H:List O} {r:Res} (hT:aW cx) (hf:cx.P.funcs[f]? = some fn) (hb:fn.body=some (cA fn))
  (hname : (fn.name == "runtime.NumGoroutine") = false) (hn : Nat.ble args.length fn.ntmps = true) (hH : H.length = 1) (h : (HE cx fn args H).run = some r) : dQ cx.P f args H r := by
 refine rM hf hb hname hn ?_;unfold HE at h;obtain ⟨s,h1,h2⟩:=bD h;have h2:=aBS h2;refine yG (dA (cx:={ cx with n:=fn.ntmps }) rfl rfl hT h1 ?_);rw [hH];obtain ⟨e,t,H2⟩:=s;unfold aNC at h2
 cases e with
 | normal=>cases h2
 | exit id=>cases h2
 | ret =>
  simp only at h2;split at h2
  ·rename_i t' H' hd
   obtain ⟨v,hv,rfl⟩:=Option.map_eq_some_iff.1 h2;exact ⟨[1],_,hd,.inl rfl,rfl,hv⟩
  ·cases h2
 | panic v =>
  simp only at h2;split at h2
  ·rename_i v' t' H' hd
   simp only [ZH3] at h2;subst h2;exact ⟨[],_,hd,rfl,rfl⟩
  ·cases h2
noncomputable def W3:Cx:={ P:=prog,n:=Tryz.f208.ntmps,tab:=[],mtab:=[(164,C4),(163,zL)],refs:=[],keeps:=[0,1,2,6,7,8,37],rtab:=[(161,HN)] }
theorem a2R:aW W3:=UC (.nil _) (.cons FA (.cons BM (.nil _))) (.cons SF (.nil _)) rfl rfl rfl
noncomputable def aPH:MSpec:=fun args H=>.aF (Nat.ble args.length Tryz.f208.ntmps) (dF W3 Tryz.f208 args H)
theorem a5V:bP prog 208 aPH:=fA (cx:=W3) (fn:=Tryz.f208) a2R (by kernel_rfl) (by kernel_rfl)
def kB (x:Int):Int:=wrap .u64 x
def jD (a b:Int):Int:=wrap .u64 ↑(BitVec.toNat (BitVec.ofInt 64 a ||| BitVec.ofInt 64 b))
def lE (c:Int) (j:Nat):Int:=kB (kB c*2 ^ j)
def H7 (n:Int) (j:Nat):Int:=Int.fdiv (wi (kB (n*2 ^ j))) (2 ^ j)
def oM (a:Int):Int:=H7 (jD 0 (lE a 0)) 56
def pO (a b c d:Int):Int:=H7 (jD (jD (jD (jD 0 (lE a 0)) (lE b 8)) (lE c 16)) (lE d 24)) 32
def pK (a b c d e f g h:Int):Int:=H7 (jD (jD (jD (jD (jD (jD (jD (jD 0 (lE a 0)) (lE b 8)) (lE c 16)) (lE d 24)) (lE e 32)) (lE f 40)) (lE g 48)) (lE h 56)) 0
abbrev pY:=(Int->Int) × (Int->Int->Int->Int->Int) × (Int->Int->Int->Int->Int->Int->Int->Int->Int)
def iT:pY:=(oM,pO,pK)
section
variable (N:pY) (l sp:List Int) (fl:Fl) (fs:Bool) (R:Int) (has:Bool)
abbrev lZ (e k:Int):Tree Res:=.leaf (.pan (gT e) [aT l sp fl k fs R has])
abbrev fC (k:Int) (K:Int->Int->Tree Res):Tree Res:=sW l k (fun e k=>lZ l sp fl fs R has e k) K
abbrev zS (k:Int) (K:Int->Int->Tree Res):Tree Res:=fC l sp fl fs R has k fun a k=>K (N.1 a) k
abbrev sH (k:Int) (K:Int->Int->Tree Res):Tree Res:=fC l sp fl fs R has k fun a k=>fC l sp fl fs R has k fun b k=>fC l sp fl fs R has k fun c k=>fC l sp fl fs R has k fun d k=>K (N.2.1 a b c d) k
abbrev M6 (k:Int) (K:Int->Int->Tree Res):Tree Res:=fC l sp fl fs R has k fun a k=>fC l sp fl fs R has k fun b k=>fC l sp fl fs R has k fun c k=>fC l sp fl fs R has k fun d k =>
 fC l sp fl fs R has k fun e k=>fC l sp fl fs R has k fun f k=>fC l sp fl fs R has k fun g k=>fC l sp fl fs R has k fun h k=>K (N.2.2 a b c d e f g h) k
abbrev uJ (n k:Int):Tree Res:=.leaf (.ok (.int .i64 n) [aT l sp fl k fs R has])
end
def KU (N:pY):MSpec:=fun args H=>match args,H with
 | [.ptr 0 0,.int .i64 s],[.cells [.sl (.int .u8) l sp fl,.int .i64 k,.bool fs,.int .u8 R,.bool has] 146] =>
  cond (s==1) (zS N l sp fl fs R has k fun n k=>uJ l sp fl fs R has n k) (cond (s==4) (sH N l sp fl fs R has k fun n k=>uJ l sp fl fs R has n k) (cond (s==8) (M6 N l sp fl fs R has k fun n k=>uJ l sp fl fs R has n k) .fail))
 | _,_=>.fail
section
variable (l sp:List Int) (fl:Fl) (fs:Bool) (R:Int) (has:Bool) (k:Int)
theorem aTK:(vN [.ptr 0 0,.int .i64 1] [aT l sp fl k fs R has]).out=(fC l sp fl fs R has k fun a k=>uJ l sp fl fs R has (oM a) k).out:=by kernel_rfl
theorem aU7:(vN [.ptr 0 0,.int .i64 1] [aT l sp fl k fs R has]).out=(zS iT l sp fl fs R has k fun n k=>uJ l sp fl fs R has n k).out:=aTK l sp fl fs R has k
theorem aTL:(vN [.ptr 0 0,.int .i64 4] [aT l sp fl k fs R has]).out=(fC l sp fl fs R has k fun a k=>fC l sp fl fs R has k fun b k=>fC l sp fl fs R has k fun c k=>fC l sp fl fs R has k fun d k=>uJ l sp fl fs R has (pO a b c d) k).out:=by kernel_rfl
theorem aU9:(vN [.ptr 0 0,.int .i64 4] [aT l sp fl k fs R has]).out=(sH iT l sp fl fs R has k fun n k=>uJ l sp fl fs R has n k).out:=aTL l sp fl fs R has k
theorem aT6:(vN [.ptr 0 0,.int .i64 8] [aT l sp fl k fs R has]).out=(fC l sp fl fs R has k fun a k=>fC l sp fl fs R has k fun b k=>fC l sp fl fs R has k fun c k=>fC l sp fl fs R has k fun d k=>fC l sp fl fs R has k fun e k=>fC l sp fl fs R has k fun f k=>fC l sp fl fs R has k fun g k=>fC l sp fl fs R has k fun h k=>uJ l sp fl fs R has (pK a b c d e f g h) k).out:=by kernel_rfl
theorem aUM:(vN [.ptr 0 0,.int .i64 8] [aT l sp fl k fs R has]).out=(M6 iT l sp fl fs R has k fun n k=>uJ l sp fl fs R has n k).out:=aT6 l sp fl fs R has k
end
theorem aD2:bP prog 207 (KU iT):=by
 intro args H r h;unfold KU at h;split at h;rotate_left
 ·cases h
 rename_i s l sp fl k fs R has
 have key:∀ s:Int,(vN [.ptr 0 0,.int .i64 s] [aT l sp fl k fs R has]).run=some r->dQ prog 207 [.ptr 0 0,.int .i64 s] [aT l sp fl k fs R has] r:=fun s h =>
  aVI _ _ _ h
 have d:∀ {a b:Tree Res},a.out=b.out->b.run=some r->a.run=some r:=fun e h=>(Tree.out_run _).symm.trans (e.trans ((Tree.out_run _).trans h));cases f:(s==1)
 ·rw [f,cond_false] at h
  cases g:(s==4)
  ·rw [g,cond_false] at h
   cases i:(s==8)
   ·rw [i] at h; cases h
   ·rw [i,cond_true] at h
    have:=eq_of_beq i;subst this;exact key 8 (d (aUM l sp fl fs R has k) h)
  ·rw [g,cond_true] at h
   have:=eq_of_beq g;subst this;exact key 4 (d (aU9 l sp fl fs R has k) h)
 ·rw [f,cond_true] at h
  have:=eq_of_beq f;subst this;exact key 1 (d (aU7 l sp fl fs R has k) h)
noncomputable def AE (N:pY):Cx:={ P:=prog,n:=Tryz.f162.ntmps,tab:=[(156,GX)],mtab:=[(207,KU N),(163,zL),(208,aPH)],refs:=[],keeps:=[0,1,2,6,7,18,48,60,61,82],rtab:=[(161,HN)] }
theorem a82:aW (AE iT):=UC (dT RH) (.cons aD2 (.cons BM (.cons a5V (.nil _)))) (.cons SF (.nil _)) rfl rfl rfl
noncomputable def aM4 (N:pY):MSpec:=fun args H=>.aF (Nat.ble args.length Tryz.f162.ntmps) (dF (AE N) Tryz.f162 args H)
theorem aX6:bP prog 162 (aM4 iT):=fA (cx:=AE iT) (fn:=Tryz.f162) a82 (by kernel_rfl) (by kernel_rfl)
noncomputable def aOC (N:pY):Cx:={ P:=prog,n:=Tryz.f165.ntmps,tab:=[(156,GX)],mtab:=[(207,KU N),(163,zL)],refs:=[],keeps:=[0,1,2,4,6,7,9,10,14,20,25,30] }
noncomputable def aOZ (N:pY):MSpec:=fun args H=>.aF (Nat.ble args.length Tryz.f165.ntmps) (dF (aOC N) Tryz.f165 args H)
theorem a6R:bP prog 165 (aOZ iT):=fA (cx:=aOC iT) (fn:=Tryz.f165) (bU (dT RH) (.cons aD2 (.cons BM (.nil _))) rfl rfl) (by kernel_rfl) (by kernel_rfl)
abbrev WS:=List Int × List Int × Fl × Int × Bool × Int × Bool
abbrev u7 (w:WS):O:=aT w.1 w.2.1 w.2.2.1 w.2.2.2.1 w.2.2.2.2.1 w.2.2.2.2.2.1 w.2.2.2.2.2.2
def sY (a b:WS):Bool:=decide (a=b)
def IS (a b:List Int):Bool:=decide (a=b)
theorem ac6 {a b:List Int} (h:IS a b=true):a=b:=of_decide_eq_true h
def HX (w0:WS) (r:Res):MSpec:=fun args H=>match args,H with
 | [.ptr 0 0],[.cells [.sl (.int .u8) l sp fl,.int .i64 k,.bool fs,.int .u8 R,.bool has] 146]=>.aF (sY (l,sp,fl,k,fs,R,has) w0) (.leaf r)
 | _,_=>.fail
def N3 (w0:WS) (op:List Int) (r:Res):MSpec:=fun args H=>match args,H with
 | [.ptr 0 0,.sl (.int .u8) o [] .full],[.cells [.sl (.int .u8) l sp fl,.int .i64 k,.bool fs,.int .u8 R,.bool has] 146]=>.aF (sY (l,sp,fl,k,fs,R,has) w0) (.aF (IS o op) (.leaf r))
 | _,_=>.fail
theorem SJ {w0:WS} {r:Res} (b:dQ prog 159 [.ptr 0 0] [u7 w0] r):bP prog 159 (HX w0 r):=by
 intro args H res h;unfold HX at h;split at h;rotate_left
 ·cases h
 obtain ⟨a,h⟩:=aM h;have h:=dU h;subst h;have a:=of_decide_eq_true a;subst a;exact b
theorem aI8 {w0:WS} {op:List Int} {r:Res} (d:dQ prog 160 [.ptr 0 0,iW op] [u7 w0] r):bP prog 160 (N3 w0 op r):=by
 intro args H res h;unfold N3 at h;split at h;rotate_left
 ·cases h
 obtain ⟨a,h⟩:=aM h;obtain ⟨b,h⟩:=aM h;have h:=dU h;subst h;have a:=of_decide_eq_true a;have b:=ac6 b;subst a;subst b;exact d
noncomputable def XX (N:pY) (w0 d:WS) (op:List Int) (a b:Res):Cx:={ P:=prog,n:=Tryz.f111.ntmps,tab:=[(156,GX),(52,LB)],mtab:=[(159,HX w0 a),(160,N3 d op b),(162,aM4 N),(164,C4),(163,zL),(165,aOZ N)],refs:=[],keeps:=[0,2,3,4,5,6,7,8,9,25,50,51,67,74,80,86,93,103],rtab:=[(161,HN)] }
theorem a0Q {w0 d:WS} {op:List Int} {a b:Res} (e:dQ prog 159 [.ptr 0 0] [u7 w0] a) (f:dQ prog 160 [.ptr 0 0,iW op] [u7 d] b):aW (XX iT w0 d op a b):=
 UC (.cons RH (dT aCL)) (.cons (SJ e) (.cons (aI8 f) (.cons aX6 (.cons FA (.cons BM (.cons a6R (.nil _))))))) (.cons SF (.nil _)) rfl rfl rfl
section
variable (N:pY) (l sp:List Int) (fl:Fl) (fs:Bool) (R:Int) (has:Bool)
variable (x:RowT) (op:List Int) (c k:Int)
abbrev N0 (i:aE):O:=.cells (N2 i) 36
abbrev lB (a b e d n k:Int):Tree Res:=.br (eO x) (.br (!(c8 x (x.1,a,b,e,d,n)==0)) (lZ l sp fl fs R has 22 k) (.leaf (.ok (lV (x.1,a,b,e,d,n)) [aT l sp fl k fs R has,N0 (x.1,a,b,e,d,n)]))) .fail
def MY (op:List Int):Int:=wrap .i64 ((op.length:Nat) - 1)
abbrev CY (K:Int->Tree Res):Tree Res:=.br (inside (MY op) op.length) (K (wi (w8 (op.getD (MY op).toNat 0 - w8 x.2.2.1)))) .fail
def cC (c R:Int):Int:=wi (wi (aC (Int.fdiv c (2 ^ 3)) 7)+cH R 4)
def aU (c R:Int):Int:=wi (wi (aC c 7)+cH R 1)
def bB (c:Int):Int:=Int.fdiv c (2 ^ 6)
def kR (c:Int):Int:=wi (aC c 7)
abbrev afE (d:Int):Tree Res:=lB l sp fl fs R has x 0 0 0 d 0 k
abbrev abD (d:Int):Tree Res:=CY x op fun n=>lB l sp fl fs R has x (wi (n+cH R 1)) 0 0 d 0 k
abbrev aaG (d:Int):Tree Res:=CY x op fun a=>M6 N l sp fl fs R has k fun n k=>lB l sp fl fs R has x (wi (a+cH R 1)) 0 0 d n k
abbrev af1 (d:Int):Tree Res:=lB l sp fl fs R has x (aU c R) 0 0 d 0 k
abbrev aeV (d:Int):Tree Res:=sH N l sp fl fs R has k fun n k=>lB l sp fl fs R has x (aU c R) 0 0 d n k
abbrev abF (d:Int):Tree Res:=zS N l sp fl fs R has k fun n k=>lB l sp fl fs R has x (aU c R) 0 0 d n k
abbrev ab9 (d:Int):Tree Res:=.br (inside 0 op.length) (.br (op.getD 0 0==131) (zS N l sp fl fs R has k fun n k=>lB l sp fl fs R has x (aU c R) 0 0 d n k)
 (sH N l sp fl fs R has k fun n k=>.br (!(!dC n)) (lZ l sp fl fs R has 22 k) (lB l sp fl fs R has x (aU c R) 0 0 d n k))) .fail
abbrev ab6 (d:Int):Tree Res:=lB l sp fl fs R has x (aU c R) (cC c R) 0 d 0 k
abbrev aKS (d:Int):Tree Res:=lB l sp fl fs R has x (cC c R) (aU c R) 0 d 0 k
abbrev NT (b a d k:Int) (K:Int->Int->Tree Res):Tree Res:=
 .br (bB c==1) (zS N l sp fl fs R has k fun n k=>.br (n != 0) (K n k) (.br (!(cO b 7==5)) (lZ l sp fl fs R has 22 k) (K n k)))
  (.br (bB c==2) (sH N l sp fl fs R has k fun n k=>.br (!(!dC n)) (lZ l sp fl fs R has 22 k) (K n k)) (K 0 k))
def cD (c R:Int):Int:=wi (wi (aC (Int.fdiv c (2 ^ 3)) 7)+cH R 2)
def rA (c:Int):Int:=wrap .i64 (1*2 ^ Min.min (Int.toNat (bB c)) 64)
abbrev YX (e k:Int) (K:Int->Int->Int->Int->Int->Tree Res):Tree Res:=
 .br (cD e R==4) (.br (bB e==0) (.br (!(cO (aU e R) 7==4)) (lZ l sp fl fs R has 22 k) (NT N l sp fl fs R has c (aU e R) 16 0 k (K (aU e R) 16 0))) (lZ l sp fl fs R has 22 k))
  (.br (decide (0<=bB e)) (NT N l sp fl fs R has c (aU e R) (cD e R) (rA e) k (K (aU e R) (cD e R) (rA e))) .fail)
abbrev aOG (k:Int) (K:Int->Int->Int->Int->Int->Tree Res):Tree Res:=
 fC l sp fl fs R has k fun e k=>.br (bB c != 0) (YX N l sp fl fs R has c e k K) (.br (!(cO (aU e R) 7 != 5)) (lZ l sp fl fs R has 22 k) (YX N l sp fl fs R has c e k K))
abbrev W4 (k:Int) (K:Int->Int->Int->Int->Int->Tree Res):Tree Res:=
 .br (kR c==4) (aOG N l sp fl fs R has c k K) (.br (!(aC R 2==0)) (lZ l sp fl fs R has 22 k) (NT N l sp fl fs R has c (wi (kR c+cH R 1)) 16 0 k (K (wi (kR c+cH R 1)) 16 0)))
abbrev aKA (k:Int) (K:Int->Int->Int->Int->Int->Tree Res):Tree Res:=
 .br (bB c==0) (.br (kR c==5) (.br (!(aC R 3==0)) (lZ l sp fl fs R has 22 k) (sH N l sp fl fs R has k fun n k=>K 17 16 0 n k)) (W4 N l sp fl fs R has c k K)) (W4 N l sp fl fs R has c k K)
abbrev abW:Tree Res:=aKA N l sp fl fs R has c k fun b a d n k=>lB l sp fl fs R has x (cC c R) b a d n k
abbrev a5C (d:Int):Tree Res:=fC l sp fl fs R has k fun e k=>.br (!(e==37)) (lZ l sp fl fs R has 22 k) (sH N l sp fl fs R has k fun n k=>lB l sp fl fs R has x (cC c R) 0 0 d n k)
abbrev aHD (d:Int):Tree Res:=sH N l sp fl fs R has k fun n k=>lB l sp fl fs R has x 0 0 0 d n k
abbrev aIP (d:Int):Tree Res:=zS N l sp fl fs R has k fun n k=>lB l sp fl fs R has x 0 0 0 d n k
end
end Go.Amd

namespace Go.Amd
open Go Go.Ab Go.Proofs
abbrev WL:=pY->List Int->List Int->Fl->Bool->Int->Bool->RowT->List Int->Int->Int->Tree Res
def fL:List ((Int × Bool) × WL):=[
 ((0,false),fun f l sp fl fs R has x a e k=>afE l sp fl fs R has x k 0),
 ((1,false),fun f l sp fl fs R has x b e k=>abD l sp fl fs R has x b k 0),
 ((2,false),fun N l sp fl fs R has x b e k=>aaG N l sp fl fs R has x b k 0),
 ((3,false),fun f l sp fl fs R has x a c k=>af1 l sp fl fs R has x c k 0),
 ((4,false),fun N l sp fl fs R has x a c k=>aeV N l sp fl fs R has x c k 0),
 ((5,false),fun N l sp fl fs R has x a c k=>abF N l sp fl fs R has x c k 0),
 ((6,false),fun N l sp fl fs R has x b c k=>ab9 N l sp fl fs R has x b c k 0),
 ((7,false),fun f l sp fl fs R has x a c k=>ab6 l sp fl fs R has x c k 0),
 ((8,false),fun f l sp fl fs R has x a c k=>aKS l sp fl fs R has x c k 0),
 ((8,true),fun f l sp fl fs R has x b c k=>CY x b fun d=>aKS l sp fl fs R has x c k d),
 ((9,false),fun N l sp fl fs R has x a c k=>abW N l sp fl fs R has x c k),
 ((10,false),fun N l sp fl fs R has x a c k=>a5C N l sp fl fs R has x c k 0),
 ((11,false),fun N l sp fl fs R has x a e k=>aHD N l sp fl fs R has x k 0),
 ((11,true),fun N l sp fl fs R has x b e k=>CY x b fun d=>aHD N l sp fl fs R has x k d),
 ((12,false),fun N l sp fl fs R has x a e k=>aIP N l sp fl fs R has x k 0),
 ((12,true),fun N l sp fl fs R has x b e k=>CY x b fun d=>aIP N l sp fl fs R has x k d)]
abbrev qA (l sp:List Int) (fl:Fl):WS:=(l,sp,fl,0,false,0,false)
noncomputable def NY (N:pY) (l sp:List Int) (fl:Fl) (k1:Int) (fs:Bool) (R:Int) (has:Bool) (x:RowT) (a:List Int) (c k:Int):Tree Res:=
 HE (XX N (qA l sp fl) (l,sp,fl,k1,fs,R,has) a (.ok (iW a) [aT l sp fl k1 fs R has]) (.ok (.tup [.agg (eW x),.int .u8 c]) [aT l sp fl k fs R has,rO x])) Tryz.f111 [.ptr 0 0] [u7 (qA l sp fl)]
def H8 (t:WL) (N:pY) (l sp:List Int) (fl:Fl) (k1:Int) (fs:Bool) (R:Int) (has:Bool) (x:RowT) (a:List Int) (c k:Int):Tree Res:=
 .br (sY (l,sp,fl,0,false,0,false) (qA l sp fl)) (.br (sY (l,sp,fl,k1,fs,R,has) (l,sp,fl,k1,fs,R,has)) (.br (IS a a) (t N l sp fl fs R has x a c k) .fail) .fail) .fail
theorem aiY:((fL.drop 0).take 7).map (fun p N l sp fl k1 fs R has nm b a dg lo hi os d c k=>(NY N l sp fl k1 fs R has (nm,b,a,p.1.1,dg,p.1.2,lo,hi,os) d c k).out) =
  ((fL.drop 0).take 7).map (fun p N l sp fl k1 fs R has nm b a dg lo hi os d c k=>(H8 p.2 N l sp fl k1 fs R has (nm,b,a,p.1.1,dg,p.1.2,lo,hi,os) d c k).out):=by kernel_rfl
theorem aiQ:((fL.drop 7).take 4).map (fun p N l sp fl k1 fs R has nm b a dg lo hi os d c k=>(NY N l sp fl k1 fs R has (nm,b,a,p.1.1,dg,p.1.2,lo,hi,os) d c k).out) =
  ((fL.drop 7).take 4).map (fun p N l sp fl k1 fs R has nm b a dg lo hi os d c k=>(H8 p.2 N l sp fl k1 fs R has (nm,b,a,p.1.1,dg,p.1.2,lo,hi,os) d c k).out):=by kernel_rfl
theorem ag2:((fL.drop 11).take 1).map (fun p N l sp fl k1 fs R has nm b a dg lo hi os d c k=>(NY N l sp fl k1 fs R has (nm,b,a,p.1.1,dg,p.1.2,lo,hi,os) d c k).out) =
  ((fL.drop 11).take 1).map (fun p N l sp fl k1 fs R has nm b a dg lo hi os d c k=>(H8 p.2 N l sp fl k1 fs R has (nm,b,a,p.1.1,dg,p.1.2,lo,hi,os) d c k).out):=by kernel_rfl
theorem ag3:((fL.drop 12).take 4).map (fun p N l sp fl k1 fs R has nm b a dg lo hi os d c k=>(NY N l sp fl k1 fs R has (nm,b,a,p.1.1,dg,p.1.2,lo,hi,os) d c k).out) =
  ((fL.drop 12).take 4).map (fun p N l sp fl k1 fs R has nm b a dg lo hi os d c k=>(H8 p.2 N l sp fl k1 fs R has (nm,b,a,p.1.1,dg,p.1.2,lo,hi,os) d c k).out):=by kernel_rfl
end Go.Amd
