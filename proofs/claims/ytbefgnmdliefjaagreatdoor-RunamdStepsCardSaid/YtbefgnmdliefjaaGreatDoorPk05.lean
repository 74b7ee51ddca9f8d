/-
  The engine, part M: slice expressions, numbers, texts, comparisons. Conditions: none.
-/
import Derived.Test.YtbefgnmdliefjaaGreatDoorPk04
import Derived.Laws.BytesArg
import Derived.Laws.IdiomStrings
import Derived.Laws.Runes
import Derived.ChangeKeysEq
open Bool renaming and_eq_true_iff→ZA0,and_eq_true→ZA2
open List renaming getElem?_append_left→ZB0,getElem?_append_right→ZB1,getElem?_eq_some_iff→ZB2,getElem?_drop→ZC1,getElem?_take→ZC2,getElem?_cons_zero→ZC3,getElem?_cons_succ→ZD0,mem_cons_self→ZD1,mem_cons_of_mem→ZD2,mem_cons→ZE3
open Nat renaming eq_of_beq_eq_true→ZG1,le_of_ble_eq_true→ZG2
open Option renaming map_eq_some_iff→ZH0,map_some→ZH2
open Option.some renaming injEq→ZH3
set_option linter.unusedVariables false
set_option linter.unusedSimpArgs false
namespace Go.Ab
section
variable {P:Program} {E:Nat->Nat->Prop} {H:List O} {β:List Loc} {w:World} {X:Nat->Nat->Prop}
def HZ (w:World) (X:Nat->Nat->Prop) (β:List Loc):Option V->Option Value->Prop
 | none,none=>True
 | some v,some y=>R w X β v y
 | _,_=>False
theorem vC {isS:Bool} {len cap:Nat} {lo hi:Option V} {b c:Option Value} {l h:Int} (a:HZ w X β lo b) (e:HZ w X β hi c)
  (d:jQ lo 0=some l) (g:jQ hi len=some h) (i:0<=l) (j:l<=h) (k:h<=cap) (m:len<=cap) :
  (Instr.sliceBounds isS len cap b c none).run P w = .ok (l.toNat,h.toNat,cap) w:=by
 have n:((h.toNat:Nat):Int)=h:=by omega
 unfold Instr.sliceBounds
 cases hi with
 | none =>
  cases c with
  | some _=>cases e
  | none =>
   simp only [jQ,ZH3] at g;subst g
   cases lo with
   | none =>
    cases b with
    | some _=>cases a
    | none=>simp only [jQ,ZH3] at d; subst d; simp
   | some v =>
    cases b with
    | none=>cases a
    | some y =>
     cases v <;> simp only [jQ,reduceCtorEq,ZH3] at d;subst d;cases a;simp [Instr.sliceBound,asIntOf,i,j]
 | some o =>
  cases c with
  | none=>cases e
  | some q =>
   cases o <;> simp only [jQ,reduceCtorEq,ZH3] at g;rename_i r p;subst g;cases e
   have f:0<=p:=by omega
   cases lo with
   | none =>
    cases b with
    | some _=>cases a
    | none=>simp only [jQ,ZH3] at d; subst d; simp [Instr.sliceBound,asIntOf,f,k]
   | some v =>
    cases b with
    | none=>cases a
    | some y =>
     cases v <;> simp only [jQ,reduceCtorEq,ZH3] at d;subst d;cases a;simp [Instr.sliceBound,asIntOf,i,j,f,k,n]
theorem a90 {α:Type} (l:List α) (lo hi i:Nat):(sub l lo hi)[i]? = if lo+i<hi then l[lo+i]? else none:=by
 unfold sub;rw [ZC1,ZC2]
theorem aV6 {α:Type} (l:List α) (lo hi:Nat) (h:hi<=l.length):(sub l lo hi).length=hi - lo:=by
 unfold sub; simp; omega
theorem RR {c:EC} {all:List c.ty} {b o cap l h:Nat} {fl:Fl} (u:l<=h) (s:h<=all.length) (m:all.length<=cap) (a:fl = .full->cap=all.length)
  (f:fl.fixed=false -> ∃ (cs:Array Value) (e:TypeId),w.heap[b]? = some (.cells cs e (0,0)))
  (q:∀ (i:Nat) x (k:Nat) v,all[i]? = some x->(enc c x)[k]? = some v->¬ X b (o+i*c.size+k) /\ ∃ y,w.cell? ⟨b,o+i*c.size+k,none⟩=some y/\R w X [] v y) :
  R w X β (.sl c (sub all l h) (all.drop h) fl) (.slice (if cap=l then some ⟨b,o,none⟩ else (some (⟨b,o,none⟩:Addr)).map (·.add (l*c.size))) (h - l) (cap - l)):=by
 have hlen:=aV6 all l h s
 have d:∀ (i:Nat) x (k:Nat) v,(sub all l h++all.drop h)[i]? = some x->(enc c x)[k]? = some v ->
   ¬ X b (o+l*c.size+i*c.size+k) /\ ∃ y,w.cell? ⟨b,o+l*c.size+i*c.size+k,none⟩=some y/\R w X [] v y:=by
  intro i x k v g t
  have j : all[l+i]? = some x:=by
   by_cases hi:i<h - l
   ·rw [ZB0 (by rw [hlen]; exact hi),a90,if_pos (by omega)] at g
    exact g
   ·rw [ZB1 (by rw [hlen]; omega),hlen,ZC1] at g
    rw [<- g]; congr 1; omega
  have:=q (l+i) x k v j t
  rwa [Nat.add_mul,show o+(l*c.size+i*c.size)+k=o+l*c.size+i*c.size+k from by omega] at this
 split
 ·rename_i r
  have n:sub all l h=[]:=List.length_eq_zero_iff.1 (by rw [hlen]; omega);have p:all.drop h=[]:=List.length_eq_zero_iff.1 (by simp; omega);rw [n,p];exact C2 (by simp; omega) (by simp) (fun e=>by have:=a e; simp; omega) f (by simp)
 ·simp only [ZH2,n8]
  exact C2 hlen.symm (by rw [hlen]; simp; omega) (fun e=>by have:=a e; rw [hlen]; simp; omega) f d
theorem xV {t e:TypeId} {a:Option Addr} {len cap size:Nat} {c b:Option Value} {l h:Nat} (f:P.underlying t=some (.slice e)) (d:(sizeOf e).run P w = .ok size w)
  (hb:(Instr.sliceBounds true len cap c b none).run P w = .ok (l,h,cap) w) :
  (Instr.sliceAt t (.slice a len cap) c b none).run P w = .ok (.slice (if cap=l then a else a.map (·.add (l*size))) (h - l) (cap - l)) w:=by
 simp [Instr.sliceAt,Instr.slice,cZ w f,hb,d]
theorem aR5 {t:TypeId} {s:ByteArray} {b a:Option Value} {l h:Nat} (c:P.underlying t=some .string)
  (hb:(Instr.sliceBounds false s.size s.size b a none).run P w = .ok (l,h,s.size) w) :
  (Instr.sliceAt t (.string s) b a none).run P w = .ok (.string (s.extract l h)) w:=by
 simp [Instr.sliceAt,Instr.slice,cZ w c,hb]
theorem aSU (s:List UInt8) (l h:Nat):(ByteArray.mk s.toArray).extract l h=⟨(sub s l h).toArray⟩:=by
 apply ByteArray.ext;apply Array.ext';simp [sub,List.extract_eq_take_drop,List.drop_take]
theorem aSW {t:TypeId} {x v:V} {y:Value} {lo hi:Option V} {K G:Option Value} (S:Rel w X H β) (J:R w X β x y) (n:HZ w X β lo K) (m:HZ w X β hi G)
  (h:(VQ P H t x lo hi).run=some v):∃ z,(Instr.sliceAt t y K G none).run P w = .ok z w/\R w X β v z:=by
 unfold VQ at h;split at h
 ·rename_i s
  split at h;rotate_left
  ·cases h
  rename_i r q A f p;obtain ⟨a,h⟩:=aM h;simp only [Tree.run,ZH3] at h;subst h;simp only [ZA2,decide_eq_true_eq] at a;obtain ⟨⟨u,r2⟩,r3⟩:=a;cases J
  have N:(ByteArray.mk s.toArray).size=s.length:=by simp [ByteArray.size]
  have hb:=vC (P:=P) (isS:=false) (len:=s.length) (cap:=s.length) n m p f u r2 r3 (Nat.le_refl _);refine ⟨_,aR5 A (by rw [N]; exact hb),?_⟩;rw [aSU];exact .str _ _
 ·split at h
  rotate_left
  ·cases h
  rename_i i M;split at h;rotate_left
  ·cases h
  rename_i e Y;have A:=yD M Y;split at h;rotate_left
  ·cases h
  rename_i j D;split at h
  ·rename_i c B spare fl _
   rcases LW J with ⟨rfl,rfl,rfl,rfl⟩ | ⟨b,o,cap,rfl,k,hfull,hrw,L⟩
   ·split at h
    ·rename_i r q p f
     obtain ⟨a,g⟩:=aM h;simp only [ZA2,decide_eq_true_eq] at a;obtain ⟨u,r2⟩:=a
     have C : r=0:=by simpa [jQ] using f.symm
     subst C;cases d:Nat.beq c.size j.size
     ·rw [d] at g; simp [Tree.run] at g
     rw [d] at g;simp only [cond_true,Tree.run,ZH3] at g;subst g
     have Q:q=0:=by omega
     subst Q;have hb:=vC (P:=P) (isS:=true) (len:=0) (cap:=0) n m p f (by omega) (by omega) (by omega) (by omega);exact ⟨_,xV A (hU w D) hb,.nil _ _⟩
    ·rename_i r q p _ f
     obtain ⟨a,h⟩:=aM h;simp only [ZA2,decide_eq_true_eq] at a;obtain ⟨⟨u,r2⟩,r3⟩:=a;cases d:Nat.beq c.size j.size
     ·simp [d,Tree.run] at h
     simp only [d,cond_true,Tree.run,ZH3] at h;subst h
     have Z : r<=0:=by simpa using r3
     have T:r=0:=by omega
     have Q:q=0:=by omega
     subst T;subst Q;have hb:=vC (P:=P) (isS:=true) (len:=0) (cap:=0) n m p f (by omega) (by omega) (by omega) (by omega);exact ⟨_,xV A (hU w D) hb,.nil _ _⟩
    ·cases h
   split at h
   ·rename_i r q p f
    obtain ⟨a,g⟩:=aM h;simp only [ZA2,decide_eq_true_eq] at a;obtain ⟨u,r2⟩:=a
    have C : r=B.length:=by simpa [jQ] using f.symm
    subst C;cases d:Nat.beq c.size j.size
    ·rw [d] at g; simp [Tree.run] at g
    rw [d] at g;simp only [cond_true,Tree.run,ZH3] at g;subst g;have d:=ZG1 d;have hb:=vC (P:=P) (isS:=true) (len:=B.length) (cap:=cap) n m p f u r2 (by omega) (by omega);refine ⟨_,xV A (hU w D) hb,?_⟩;have:=RR (w:=w) (X:=X) (β:=β) (all:=B++spare) (b:=b) (o:=o) (cap:=cap) (l:=q.toNat) (h:=B.length) (fl:=fl) (by omega) (by simp) (by simpa using k) (by simpa using hfull) hrw L;rw [d] at this;simpa [sub] using this
   ·rename_i r q p _ f
    obtain ⟨a,h⟩:=aM h;simp only [ZA2,decide_eq_true_eq] at a;obtain ⟨⟨u,r2⟩,r3⟩:=a;cases d:Nat.beq c.size j.size
    ·simp [d,Tree.run] at h
    simp only [d,cond_true,Tree.run,ZH3] at h;subst h;have d:=ZG1 d;have hb:=vC (P:=P) (isS:=true) (len:=B.length) (cap:=cap) n m p f u r2 (by omega) (by omega);refine ⟨_,xV A (hU w D) hb,?_⟩;have:=RR (w:=w) (X:=X) (β:=β) (all:=B++spare) (b:=b) (o:=o) (cap:=cap) (l:=q.toNat) (h:=r.toNat) (fl:=fl) (by omega) (by simp; omega) (by simpa using k) (by simpa using hfull) hrw L;rw [d] at this;exact this
   ·cases h
  ·rename_i id c B _
   obtain ⟨b,o,cap,loc,rfl,_,_,_,_,k,L⟩:=FV J;split at h
   ·rename_i r q f p
    obtain ⟨a,h⟩:=aM h;simp only [ZA2,decide_eq_true_eq] at a;obtain ⟨⟨u,r2⟩,r3⟩:=a;cases d:Nat.beq c.size j.size
    ·simp [d,Tree.run] at h
    simp only [d,cond_true,Tree.run,ZH3] at h;subst h;have d:=ZG1 d;have hb:=vC (P:=P) (isS:=true) (len:=B.length) (cap:=cap) n m p f u r2 (by omega) (by omega);refine ⟨_,xV A (hU w D) hb,?_⟩;have:=RR (w:=w) (X:=X) (β:=β) (all:=B) (b:=b) (o:=o) (cap:=cap) (l:=q.toNat) (h:=r.toNat) (fl:=.ro) (by omega) (by omega) k (fun h=>by cases h) (fun h=>by cases h) L;rw [d] at this;exact this
   ·cases h
  ·rename_i id sz off len _
   split at h;rotate_left
   ·cases h
   rename_i cs e' hH;split at h;rotate_left
   ·cases h
   rename_i r q f p;obtain ⟨a,h⟩:=aM h;simp only [ZA2,decide_eq_true_eq] at a;obtain ⟨⟨u,r2⟩,r3⟩:=a;cases d:Nat.beq sz j.size
   ·simp [d,Tree.run] at h
   simp only [d,cond_true,Tree.run,ZH3] at h;subst h;have d:=ZG1 d;subst d
   cases J with
   | ref _ _ _ _ _ loc b o cap F I hlen U k =>
    have hb:=vC (P:=P) (isS:=true) (len:=len) (cap:=cap) n m p f u r2 (by omega) hlen;refine ⟨_,xV A (hU w D) hb,?_⟩
    have hm:q.toNat*j.size+(cap - q.toNat)*j.size=cap*j.size:=by rw [<- Nat.add_mul]; congr 1; omega
    split
    ·rename_i W
     exact .ref β id j.size _ _ loc b o _ F I (by omega) (fun h=>by omega) (by omega)
    ·obtain ⟨rfl,rfl⟩:=U (by omega)
     simp only [ZH2,n8];exact .ref β id j.size _ _ loc _ _ _ F I (by omega) (fun _=>⟨rfl,by omega⟩) (by omega)
  ·split at h
   rotate_left
   ·cases h
   rename_i r q f p;obtain ⟨a,h⟩:=aM h;simp only [Tree.run,ZH3] at h;subst h;simp only [ZA2,decide_eq_true_eq] at a;obtain ⟨rfl,rfl⟩:=a;cases J;have hb:=vC (P:=P) (isS:=true) (len:=0) (cap:=0) n m p f (by omega) (by omega) (by omega) (by omega);refine ⟨_,xV A (hU w D) hb,?_⟩;exact .val _ _
  ·cases h
end
end Go.Ab

namespace Go.Ab
section
variable {P:Program} {E:Nat->Nat->Prop} {H:List O} {β:List Loc} {w:World} {X:Nat->Nat->Prop}
theorem a7R (c:List Int):∀ (news:List Value),news.length=c.length->(∀ (i:Nat) n,c[i]? = some n->news[i]? = some (Value.int .u8 n))->news=c.map (Value.int .u8):=by
 intro news a h;apply List.ext_getElem?;intro i;by_cases hi:i<c.length
 ·rw [h i c[i] (by simp [hi])]
  simp [hi]
 ·rw [List.getElem?_eq_none (by omega),List.getElem?_eq_none (by simp; omega)]
theorem News.nums {xs:List Int} {y:Value} {news:List Value} (N:News P w X (.int .u8) xs y news):news=xs.map (Value.int .u8):=by
 refine a7R xs news (by have:news.length=xs.length*1:=N.len; omega) ?_;intro i n b;obtain ⟨z,a,c⟩:=N.get i n 0 (.int .u8 n) b rfl;have a:news[i*1+0]? = some z:=a;simp only [Nat.mul_one,Nat.add_zero] at a;rw [a];cases c;rfl
theorem aSV (a:List Int):a.foldl (fun (r:ByteArray) n=>r.push (UInt8.ofNat n.toNat)) ByteArray.empty=⟨(a.map fun n=>UInt8.ofNat n.toNat).toArray⟩:=by
 rw [foldl_push_bytes];congr 1;show (#[]:Array UInt8)++_=_;simp
theorem Step.allocAny (f:Rel w (Xs E H β) H β) {w' : World} {a:Obj} (g:w'.heap=w.heap.push a) (c:w'.os=w.os) (d:w'.tape=w.tape) (e:w'.output=w.output):Step E H β w H β w' := by
 have b:=Step.alloc f a;exact b.trans (Step.heap_same b.rel g c d e)
theorem aQW {src dst:TypeId} {x v:V} {y:Value} (t:∀ b o,E b o->b<w.heap.size/\¬ Own H β b o) (m:Rel w (Xs E H β) H β) (D:R w (Xs E H β) β x y)
  (d:BW P src dst=true) (h:RP x=some v):∃ z w',(convert src dst y).run P w = .ok z w' /\ Step E H β w H β w' /\ R w' (Xs E H β) β v z:=by
 unfold BW at d;split at d;rotate_left
 ·cases d
 rename_i e C u;split at d;rotate_left
 ·cases d
 rename_i A;unfold RP at h;split at h;rotate_left
 ·cases h
 rename_i s;simp only [ZH3] at h;subst h;cases D;have a:=run_bytes_of_string (P:=P) w src dst e ⟨s.toArray⟩ C u A;have f:s.length<=grownCap w s.length 0 e:=grownCap_ge w s.length 0 e;refine ⟨_,_,a,Step.allocAny m (w' := w.drew.alloc _) rfl rfl rfl rfl,?_⟩;have p:List.length (α:=Int) (s.map fun b=>(b.toNat:Int))=s.length:=List.length_map _;refine C2 (l:=(s.map fun b=>(b.toNat:Int):List Int)) (spare:=[]) (c:=.int .u8) (fl:=.ro) p.symm (show List.length (α:=Int) (s.map fun b=>(b.toNat:Int))+0<=_ by rw [p]; exact f) (fun h=>by cases h) (fun h=>by cases h) ?_
 intro i n k v hi q;have hi:((s.map fun b=>(b.toNat:Int))++([]:List Int))[i]? = some n:=hi;rw [List.append_nil] at hi
 have B:k=0:=by
  cases k with
  | zero=>rfl
  | succ k=>cases q
 subst B;cases q;rw [List.getElem?_map] at hi;obtain ⟨b,hb,rfl⟩:=ZH0.1 hi;have j:i<s.length:=(ZB2.1 hb).1;refine ⟨?_,.int .u8 (b.toNat:Int),?_,.int _ _ _⟩
 ·rintro (g | g)
  ·exact absurd (t _ _ g).1 (Nat.lt_irrefl _)
  ·exact absurd (GO m g) (Nat.lt_irrefl _)
 ·have r:(EC.int .u8).size=1:=rfl
  refine (cell_of_row _ _ _ _ _ _ (heap_alloc_new w.drew _)).trans ?_;show (bytesRow ⟨s.toArray⟩ (grownCap w s.length 0 e))[0+i*(EC.int .u8).size+0]? = _;rw [r,show 0+i*1+0=i by omega];unfold bytesRow;rw [Array.getElem?_append_left (by simpa using j)];simp [hb]
theorem aTH {c:EC} {y:Value} {l:List c.ty} (h:qQ c H (.val y)=some l):y = .slice none 0 0/\l=[]:=by
 unfold qQ at h
 split at h <;> first | (rename_i e; cases e; done) | skip
 all_goals first
  | (rename_i e; cases e; simp only [ZH3] at h; exact ⟨rfl,h.symm⟩)
  | (cases h; done)
  | skip
 all_goals simp_all
theorem aR2 {src dst:TypeId} {x v:V} {y:Value} (A:Rel w X H β)
  (j:R w X β x y) (h:BF P H src dst x=some v) :
  ∃ z,(convert src dst y).run P w = .ok z w/\R w X β v z:=by
 unfold BF at h;split at h
 ·rename_i e d c
  split at h;rotate_left
  ·cases h
  rename_i q;split at h
  ·cases h
  rename_i i;obtain ⟨l,hl,rfl⟩:=ZH0.1 h;obtain ⟨news,N⟩:=T5 (P:=P) A j hl;change List Int at l;have g:=News.nums (xs:=l) N
  have key:∀ a len cap,y = .slice (some a) len cap -> ∃ z,(convert src dst y).run P w = .ok z w /\
    R w X β (.str (l.map fun (n:Int)=>UInt8.ofNat n.toNat)) z:=by
   intro a len cap C;subst C
   have m:=N.first w rfl
   have hlen:(Result.ok len w:Result Nat) = .ok (List.length (α:=Int) l) w:=N.lenOf w
   have hlen:len=List.length (α:=Int) l:=by simpa using hlen
   subst hlen
   have p:(loadCells a (List.length (α:=Int) l)).run P w = .ok (l.map (Value.int .u8)).toArray w:=by
    rw [<- g];have:(Builtin.firstCells 1 (List.length (α:=Int) l) (.slice (some a) (List.length (α:=Int) l) cap)).run P w = .ok news.toArray w:=m;simpa [Builtin.firstCells] using this
   refine ⟨_,by rw [run_convert_bytes_string w src dst e _ _ _ d q c,run_bytesToString w a _ cap l p],?_⟩;rw [aSV];exact .str _ _
  cases j with
  | sl _ _ _ _ _ b o cap f=>exact key _ _ _ rfl
  | nil _ t =>
   have r:l=[]:=by
    have s:sG (.int .u8) t ([]:List t.ty)=some (show List (EC.ty (.int .u8)) from l):=hl;obtain ⟨u,e2⟩:=xZ s;subst u;exact e2
   subst r;exact ⟨_,run_convert_bytes_nil (P:=P) w src e d q 0 0 dst c,.str _ []⟩
  | gro _ _ _ _ b o cap=>exact key _ _ _ rfl
  | ref _ _ _ _ _ _ b o cap=>exact key _ _ _ rfl
  | str=>exact absurd rfl (i _)
  | val _ =>
   obtain ⟨rfl,rfl⟩:=aTH hl;exact ⟨_,run_convert_bytes_nil (P:=P) w src e d q 0 0 dst c,.str _ []⟩
  | _=>simp [qQ] at hl
 ·rename_i d c
  split at h
  ·simp only [ZH3] at h
   subst h;cases j;exact ⟨_,by simp [convert,cZ w d,cZ w c],.str _ _⟩
  ·cases h
 ·rename_i k1 k d c
  split at h
  ·simp only [ZH3] at h
   subst h;cases j;exact ⟨_,by simp [convert,cZ w d,cZ w c,Conv.intToInt],.int _ _ _⟩
  ·cases h
 ·rename_i k1 d c
  split at h
  ·rename_i k n
   cases hb:(decide (0<=n)&&decide (n<128))
   ·rw [hb] at h; cases h
   ·rw [hb,cond_true] at h
    simp only [ZH3] at h;subst h;cases j;obtain ⟨m,p⟩:=ZA0.1 hb;have m:=of_decide_eq_true m;have p:=of_decide_eq_true p;refine ⟨_,run_convert_int_string w src dst k n (by rw [d]; rfl) c,?_⟩
    have e:Utf8.encode n=⟨([UInt8.ofNat n.toNat]:List UInt8).toArray⟩:=by
     have B:Utf8.valid n=true:=by
      unfold Utf8.valid;simp only [ZA2,Bool.or_eq_true,decide_eq_true_eq];omega
     unfold Utf8.encode;rw [if_pos B,if_pos (by omega)]
    rw [e];exact .str _ _
  ·cases h
 ·cases h
theorem E0 (c:BinOp) (t:TypeId) (x y:Operand) (k l:IntKind) (a b:Int):(eqGuard c t x y (.int k a) (.int l b)).run P w = .ok () w:=by
 cases c <;> simp [eqGuard]
theorem aEA (c:BinOp) (t:TypeId) (x y:Operand) (a b:ByteArray):(eqGuard c t x y (.string a) (.string b)).run P w = .ok () w:=by
 cases c <;> simp [eqGuard]
theorem aCK (c:BinOp) (t:TypeId) (x y:Operand) (a b:Bool):(eqGuard c t x y (.bool a) (.bool b)).run P w = .ok () w:=by
 cases c <;> simp [eqGuard]
def bin (a:BinOp) (t:TypeId) (b c:Operand) (x y:Value):Sem Value:=do eqGuard a t b c x y; binOp a t x y
theorem aXZ {e:BinOp} {t:TypeId} {g i:Operand} {k l:IntKind} {a b:Int} {v:V} (d:e ≠ .shl/\e ≠ .shr) (f:k=l) (h:(L2 e k a b).run=some v) :
  ∃ z,(bin e t g i (.int k a) (.int l b)).run P w = .ok z w/\R w X β v z:=by
 subst f;unfold L2 at h
 cases e <;> first | (exact absurd rfl d.1) | (exact absurd rfl d.2) | skip
 case quo =>
  obtain ⟨c,h⟩:=aM h;simp only [Tree.run,ZH3] at h;subst h
  have c:¬ b=0:=by simpa using c
  exact ⟨_,by simp [bin,E0,binOp,Op.intDiv,c],.int _ _ _⟩
 case rem =>
  obtain ⟨c,h⟩:=aM h;simp only [Tree.run,ZH3] at h;subst h
  have c:¬ b=0:=by simpa using c
  exact ⟨_,by simp [bin,E0,binOp,Op.intDiv,c],.int _ _ _⟩
 all_goals
  simp only [Tree.run,ZH3] at h;subst h
  first
   | exact ⟨_,by simp only [bin,Sem.run_bind,E0,Result.andThen_ok,binOp,ne_eq,not_true_eq_false,if_false]; rfl,.int _ _ _⟩
   | exact ⟨_,by simp only [bin,Sem.run_bind,E0,Result.andThen_ok,binOp,ne_eq,not_true_eq_false,if_false]; rfl,.bool _ _⟩
theorem aCD {d:BinOp} {t:TypeId} {e f:Operand} {k l:IntKind} {a b:Int} {v:V} (h:(JY d k a b).run=some v) :
  ∃ z,(bin d t e f (.int k a) (.int l b)).run P w = .ok z w/\R w X β v z:=by
 unfold JY at h
 cases d <;> first | (cases h; done) | skip
 all_goals
  obtain ⟨c,h⟩:=aM h;simp only [Tree.run,ZH3] at h;subst h
  have c:¬ b<0:=by have:=of_decide_eq_true c; omega
  exact ⟨_,by simp [bin,E0,binOp,Op.shift,c] <;> rfl,.int _ _ _⟩
theorem aUB (a b:List UInt8):(ByteArray.mk a.toArray)++(ByteArray.mk b.toArray)=⟨(a++b).toArray⟩:=by
 apply ByteArray.ext;apply Array.ext';simp
theorem aWN {e:BinOp} {t:TypeId} {j k:Operand} {a b:List UInt8} {v:V} (h:(MQ e a b).run=some v) :
  ∃ z,(bin e t j k (.string ⟨a.toArray⟩) (.string ⟨b.toArray⟩)).run P w = .ok z w/\R w X β v z:=by
 unfold MQ at h
 cases e <;> first | (cases h; done) | skip
 case add =>
  obtain ⟨d,h⟩:=aM h;simp only [Tree.run,ZH3] at h;subst h;have d:=of_decide_eq_true d
  have f:(ByteArray.mk a.toArray).size=a.length:=by simp [ByteArray.size]
  have g:(ByteArray.mk b.toArray).size=b.length:=by simp [ByteArray.size]
  have c:IntKind.i64.max=9223372036854775807:=by decide
  have i:¬ (9223372036854775807<(a.length:Int)+(b.length:Int)):=by simp at d; omega
  refine ⟨.string ⟨(a++b).toArray⟩,?_,.str _ _⟩;simp [bin,aEA,binOp,Op.stringOp,f,g,c,i,aUB]
 all_goals
  simp only [Tree.run,ZH3] at h;subst h;exact ⟨_,by simp [bin,aEA,binOp,Op.stringOp] <;> rfl,.bool _ _⟩
theorem aCF {a b:V} {x y:Value} {r:Bool} {t:TypeId} (d:Nat) (i:R w X β a x) (j:R w X β b y) (h:GI a b=some r)
  (f:(∃ k n,a = .int k n /\ ∃ o,P.underlying t=some (.int o))\/(∃ c,a = .bool c/\P.underlying t=some .bool)\/(∃ s,a = .str s/\P.underlying t=some .string)) :
  (Op.equalIn (d+1) t x y).run P w = .ok r w:=by
 unfold GI at h;split at h
 ·rename_i k n l m
  cases g:decide (k=l)
  ·simp [g] at h
  simp only [g,cond_true,ZH3] at h;subst h;have:=of_decide_eq_true g;subst this;cases i;cases j
  rcases f with ⟨_,_,_,o,hu⟩ | ⟨_,e,_⟩ | ⟨_,e,_⟩
  ·exact run_equalIn_int w d t k o n m hu
  ·cases e
  ·cases e
 ·simp only [ZH3] at h
  subst h;cases i;cases j
  rcases f with ⟨_,_,e,_⟩ | ⟨_,_,hu⟩ | ⟨_,e,_⟩
  ·cases e
  ·exact run_equalIn_bool w d t _ _ hu
  ·cases e
 ·simp only [ZH3] at h
  subst h;cases i;cases j
  rcases f with ⟨_,_,e,_⟩ | ⟨_,e,_⟩ | ⟨_,_,hu⟩
  ·cases e
  ·cases e
  ·rw [run_equalIn_string w d t _ _ hu]; simp
 ·cases h
end
end Go.Ab

namespace Go.Ab
section
variable {P:Program} {E:Nat->Nat->Prop} {H:List O} {β:List Loc} {w:World} {X:Nat->Nat->Prop}
theorem IZ {ft:TypeId} {xs:List Value} {off:Nat} {d:TypeDesc} {z:Value} (c:P.underlying ft=some d) (b:isAggB P ft=false) (e:xs[off]? = some z) :
  (part ft xs.toArray off).run P w = .ok z w:=by
 have a:=P8 w c;rw [b] at a;simp [part,a,e]
theorem R2 {t:TypeId} {a:V} (h:nP P t a=true) :
  (∃ k n,a = .int k n /\ ∃ d,P.underlying t=some (.int d))\/(∃ c,a = .bool c/\P.underlying t=some .bool)\/(∃ s,a = .str s/\P.underlying t=some .string):=by
 unfold nP at h;split at h
 ·rename_i d k n b; exact .inl ⟨k,n,rfl,_,b⟩
 ·rename_i c b; exact .inr (.inl ⟨c,rfl,b⟩)
 ·rename_i s b; exact .inr (.inr ⟨s,rfl,b⟩)
 ·cases h
theorem aIU {t:TypeId} {a:V} (h:nP P t a=true):∃ b,P.underlying t=some b/\isAggB P t=false:=by
 rcases R2 h with ⟨_,_,_,k',hu⟩ | ⟨_,_,hu⟩ | ⟨_,_,hu⟩ <;> exact ⟨_,hu,by simp [isAggB,hu]⟩
theorem PW (d:Nat) {e:TypeId} {xs ys:List Value}:∀ (cx f:List V) (k:Nat) (r:Bool),BS P e cx f=some r ->
  (∀ (j:Nat) (v:V),cx[j]? = some v -> ∃ x,xs[k+j]? = some x/\R w X β v x)->(∀ (j:Nat) (v:V),f[j]? = some v -> ∃ x,ys[k+j]? = some x/\R w X β v x) ->
  (Op.eqItems (d+1) e 1 xs.toArray ys.toArray (List.range' k cx.length)).run P w = .ok r w
 | [],[],k,r,h,_,_=>by
  simp only [BS,ZH3] at h;subst h;simp [Op.eqItems]
 | a :: cx,b :: f,k,r,h,hx,hy=>by
  have h:(match BS P e cx f with | some d=>cond (nP P e a) ((GI a b).map (· && d)) none | none=>none)=some r:=h;split at h;rotate_left
  ·cases h
  rename_i q m;cases g:nP P e a
  ·simp [g] at h
  simp only [g,cond_true] at h;obtain ⟨c,hc,rfl⟩:=ZH0.1 h;obtain ⟨s,hu,hag⟩:=aIU g;obtain ⟨x,hx0,rx⟩:=hx 0 a rfl;obtain ⟨y,hy0,ry⟩:=hy 0 b rfl;have o:=IZ (w:=w) hu hag (show xs[k]? = some x by simpa using hx0);have p:=IZ (w:=w) hu hag (show ys[k]? = some y by simpa using hy0);have i:=aCF (P:=P) d rx ry hc (R2 g)
  have n:=PW d cx f (k+1) q m (fun j v l=>by
   obtain ⟨x,h1,h2⟩:=hx (j+1) v l
   exact ⟨x,by rw [show k+1+j=k+(j+1) by omega]; exact h1,h2⟩) (fun j v l=>by
   obtain ⟨x,h1,h2⟩:=hy (j+1) v l
   exact ⟨x,by rw [show k+1+j=k+(j+1) by omega]; exact h1,h2⟩)
  simp only [List.length_cons,List.range'_succ,Op.eqItems,Nat.mul_one,Sem.run_bind,o,p,i,Result.andThen_ok];cases c
  ·simp
  ·simpa using n
 | [],_ :: _,_,_,h,_,_=>by cases h
 | _ :: _,[],_,_,h,_,_=>by cases h
theorem a3X {cx u:List V} {xs ys:List Value} (d:Nat) (q:xs.length=cx.length) (s:ys.length=u.length)
  (F:∀ (k:Nat) (v:V) (x:Value),cx[k]? = some v->xs[k]? = some x->R w X β v x) (G:∀ (k:Nat) (v:V) (x:Value),u[k]? = some v->ys[k]? = some x->R w X β v x)
  {f:Field} {r:Bool} (h:eqF P f cx u=some r) :
  ∃ a b,(part f.type xs.toArray f.offset).run P w = .ok a w/\(part f.type ys.toArray f.offset).run P w = .ok b w/\(Op.equalIn (d+2) f.type a b).run P w = .ok r w:=by
 unfold eqF at h;split at h
 ·rename_i n e l
  generalize D:(Nat.beq (P.cellsOf e) 1&&(Nat.beq (P.cellsOf f.type) n&&(Nat.ble (f.offset+n) cx.length&&(Nat.ble (f.offset+n) u.length&&(!isAggB P e&&((P.info? e).isSome&&(P.info? f.type).isSome))))))=c at h;cases c
  ·cases h
  rw [cond_true] at h;simp only [ZA2] at D;obtain ⟨c1,c2,A,B,_,c6,c7⟩:=D;have c1:=ZG1 c1;have c2:=ZG1 c2;have A:=ZG2 A;have B:=ZG2 B;obtain ⟨i,hi⟩:=Option.isSome_iff_exists.1 c6;obtain ⟨j,hj⟩:=Option.isSome_iff_exists.1 c7
  have g:(isAgg f.type).run P w = .ok true w:=by rw [P8 w l]; simp [isAggB,l]
  have t:(sizeOf f.type).run P w = .ok n w:=by rw [I1 w hj,<- c2]; simp [Program.cellsOf,hj]
  refine ⟨_,_,by simp [part,g,t]; rfl,by simp [part,g,t]; rfl,?_⟩;rw [run_equalIn_array w (d+1) _ _ l hi,c1,List.range_eq_range']
  have look:∀ {cs:List V} {zs:List Value},zs.length=cs.length->(∀ (k:Nat) (v:V) (x:Value),cs[k]? = some v->zs[k]? = some x->R w X β v x) ->
    ∀ (j:Nat) (v:V),((cs.drop f.offset).take n)[j]? = some v -> ∃ x,((zs.drop f.offset).take n)[0+j]? = some x/\R w X β v x:=by
   intro cs zs I J j v m;rw [Nat.zero_add];rw [ZC2] at m ⊢;split at m
   ·rename_i z
    rw [if_pos z,ZC1];rw [ZC1] at m
    have:f.offset+j<zs.length:=by rw [I]; exact (ZB2.1 m).1
    exact ⟨zs[f.offset+j],by simp [this],J _ _ _ m (by simp [this])⟩
   ·cases m
  have:=PW (P:=P) (w:=w) d (xs:=(xs.drop f.offset).take n) (ys:=(ys.drop f.offset).take n) _ _ 0 r h (look q F) (look s G)
  have hlen:((cx.drop f.offset).take n).length=n:=by simp; omega
  rw [hlen] at this;exact this
 ·split at h
  rotate_left
  ·cases h
  rename_i a b C hb;cases y:nP P f.type a
  ·simp [y] at h
  simp only [y,cond_true] at h;obtain ⟨M,l,hag⟩:=aIU y
  have o:f.offset<xs.length:=by rw [q]; exact (ZB2.1 C).1
  have p:f.offset<ys.length:=by rw [s]; exact (ZB2.1 hb).1
  have K:=F _ a xs[f.offset] C (by simp [o]);have L:=G _ b ys[f.offset] hb (by simp [p])
  exact ⟨_,_,IZ (w:=w) l hag (show xs[f.offset]? = some xs[f.offset] by simp [o]),IZ (w:=w) l hag (show ys[f.offset]? = some ys[f.offset] by simp [p]),
   aCF (P:=P) (d+1) K L h (R2 y)⟩
theorem aDT {cx cy:List V} {xs ys:List Value} (d:Nat) (hlx:xs.length=cx.length) (hly:ys.length=cy.length)
  (hx:∀ (k:Nat) (v:V) (x:Value),cx[k]? = some v->xs[k]? = some x->R w X β v x) (hy:∀ (k:Nat) (v:V) (x:Value),cy[k]? = some v->ys[k]? = some x->R w X β v x) :
  ∀ (fs:List Field) (r:Bool),HY P cx cy fs=some r->(Op.eqFields (d+2) xs.toArray ys.toArray fs).run P w = .ok r w
 | [],r,h=>by
  simp only [HY,ZH3] at h;subst h;simp [Op.eqFields]
 | f :: fs,r,h=>by
  unfold HY at h;split at h;rotate_left
  ·cases h
  rename_i a q ha hq
  cases hc : (!(f.name == "_"))
  ·simp [hc] at h
  simp only [hc,cond_true,ZH3] at h;subst h;have ih:=aDT d hlx hly hx hy fs q hq
  have hname : f.name ≠ "_" := by simpa using hc
  obtain ⟨x,y,p1,p2,heq⟩:=a3X d hlx hly hx hy ha;cases a <;> simp [Op.eqFields,hname,p1,p2,heq,ih]
theorem aeD (d:Nat) {t:TypeId} {e:TypeId} (h:P.underlying t=some (.slice e)) (b:Option Addr) (n m n' a : Nat) :
  (Op.equalIn (d+1) t (.slice b n m) (.slice none n' a)).run P w = .ok b.isNone w:=by
 cases b <;> simp [Op.equalIn,cZ w h]
theorem aJB {t:TypeId} {e:TypeId} (h:P.underlying t=some (.slice e)) (b:Option Addr) (n m n' a : Nat) :
  (Op.equal t (.slice b n m) (.slice none n' a)).run P w = .ok b.isNone w:=aeD 9999 h b n m n' a
theorem a56 (d:Nat) {t:TypeId} {e:TypeId} (h:P.underlying t=some (.pointer e)) (b:Option Addr) :
  (Op.equalIn (d+1) t (.pointer b) (.pointer none)).run P w = .ok b.isNone w:=by
 cases b <;> simp [Op.equalIn,cZ w h]
theorem aG0 {t:TypeId} {e:TypeId} (h:P.underlying t=some (.pointer e)) (b:Option Addr) :
  (Op.equal t (.pointer b) (.pointer none)).run P w = .ok b.isNone w:=a56 9999 h b
theorem a2X (d:Nat) {t:TypeId} {ms:Array (String × TypeId)} (h:P.underlying t=some (.interface ms)) (a:TypeId) (b:Value) :
  (Op.equalIn (d+1) t (.iface a b) .nilIface).run P w = .ok false w:=by
 simp [Op.equalIn,cZ w h]
theorem JN {t:TypeId} {ms:Array (String × TypeId)} (h:P.underlying t=some (.interface ms)) (a:TypeId) (b:Value) :
  (Op.equal t (.iface a b) .nilIface).run P w = .ok false w:=a2X 9999 h a b
theorem aUH (d:Nat) {t:TypeId} {ms:Array (String × TypeId)} (h:P.underlying t=some (.interface ms)) :
  (Op.equalIn (d+1) t .nilIface .nilIface).run P w = .ok true w:=by
 simp [Op.equalIn,cZ w h]
theorem LH {t:TypeId} {ms:Array (String × TypeId)} (h:P.underlying t=some (.interface ms)) :
  (Op.equal t .nilIface .nilIface).run P w = .ok true w:=aUH 9999 h
theorem I2 {a:BinOp} {t:TypeId} {d e:Operand} {b:TypeId} {c:Value}:(eqGuard a t d e (.iface b c) .nilIface).run P w = .ok () w:=by
 cases a <;> simp [eqGuard]
theorem aS5 (d:Nat) {t:TypeId} {ms:Array (String × TypeId)} (h:P.underlying t=some (.interface ms)) (a:ms.isEmpty=true) :
  (Op.eqGuardIn (d+1) t .nilIface .nilIface).run P w = .ok false w:=by
 simp [Op.eqGuardIn,cZ w h,a]
theorem aEC {a:BinOp} {t:TypeId} {d e:Operand} {ms:Array (String × TypeId)} (h:P.underlying t=some (.interface ms)) (c:ms.isEmpty=true) :
  (eqGuard a t d e .nilIface .nilIface).run P w = .ok () w:=by
 have b:(Op.eqGuardIn Op.maxDepth t .nilIface .nilIface).run P w = .ok false w:=aS5 9999 h c;unfold eqGuard;cases a <;> simp [b] <;> (split <;> rfl)
theorem aZC {f:BinOp} {t c ty:TypeId} {k l:IntKind} {a b:Int} {p q:Operand} {v:V} {X:Nat->Nat->Prop} {β:List Loc} (h:(ID P f t c k a ty l b).run=some v) :
  ∃ z,(bin f t p q (.iface c (.int k a)) (.iface ty (.int l b))).run P w = .ok z w/\R w X β v z:=by
 unfold ID at h;split at h;rotate_left
 ·cases h
 rename_i ms s i hi r e;cases hb:(Nat.beq c ty&&(i.comparable&&decide (k=l)))
 ·rw [hb] at h; cases h
 rw [hb,cond_true] at h;obtain ⟨j,q2⟩:=ZA0.1 hb;obtain ⟨g,m⟩:=ZA0.1 q2;have j:=ZG1 j;have m:=of_decide_eq_true m
 clear hb q2
 subst j;subst m
 have o:∀ f,(eqGuard f t p q (.iface c (.int k a)) (.iface c (.int k b))).run P w = .ok () w:=by intro f; cases f <;> simp [eqGuard]
 have n:(Op.equal t (.iface c (.int k a)) (.iface c (.int k b))).run P w = .ok (a==b) w:=by
  have:∀ d,(Op.equalIn (d+2) t (.iface c (.int k a)) (.iface c (.int k b))).run P w = .ok (a==b) w:=by
   intro d;simp [Op.equalIn,cZ w hi,cZ w r,typeInfo,e,g]
  exact this 9998
 split at h
 ·simp only [Tree.run,ZH3] at h
  subst h;exact ⟨_,by simp only [bin,Sem.run_bind,o,Result.andThen_ok,binOp]; simp [n],.bool _ _⟩
 ·simp only [Tree.run,ZH3] at h
  subst h;exact ⟨_,by simp only [bin,Sem.run_bind,o,Result.andThen_ok,binOp]; simp [n],.bool _ _⟩
 ·cases h
theorem aX1 {b:BinOp} {t:TypeId} {f:Operand} {x v:V} {e:Value} (c:R w X β x e) (h:(H5 P b t x).run=some v) :
  ∃ z,(bin b t f (.const .nilIface) e .nilIface).run P w = .ok z w/\R w X β v z:=by
 unfold H5 at h
 have d:∀ b,(eqGuard b t f (.const .nilIface) .nilIface .nilIface).run P w = .ok () w:=by intro b; cases b <;> simp [eqGuard]
 split at h
 ·rename_i ms _ _ a
  simp only [Tree.run,ZH3] at h;subst h;cases c;exact ⟨_,by simp only [bin,Sem.run_bind,I2,Result.andThen_ok,binOp]; simp [JN a],.bool _ _⟩
 ·rename_i ms _ _ a
  simp only [Tree.run,ZH3] at h;subst h;cases c;exact ⟨_,by simp only [bin,Sem.run_bind,I2,Result.andThen_ok,binOp]; simp [JN a],.bool _ _⟩
 ·rename_i ms a
  simp only [Tree.run,ZH3] at h;subst h;cases c;exact ⟨_,by simp only [bin,Sem.run_bind,d,Result.andThen_ok,binOp]; simp [LH a],.bool _ _⟩
 ·rename_i ms a
  simp only [Tree.run,ZH3] at h;subst h;cases c;exact ⟨_,by simp only [bin,Sem.run_bind,d,Result.andThen_ok,binOp]; simp [LH a],.bool _ _⟩
 ·cases h
theorem aZ0 {r:BinOp} {t:TypeId} {A B:Operand} {x y v:V} {T U:Value} (o:R w X β x T) (q:R w X β y U) (h:(HJ P r t x y).run=some v) :
  ∃ z,(bin r t A B T U).run P w = .ok z w/\R w X β v z:=by
 unfold HJ at h;split at h
 ·cases o
  cases q;split at h
  ·exact aCD h
  ·exact aCD h
  ·rename_i k a l b _ D F
   cases N:decide (k=l)
   ·simp [N,Tree.run] at h
   ·simp only [N,cond_true] at h
    exact aXZ ⟨D,F⟩ (of_decide_eq_true N) h
 ·cases o
  cases q;exact aWN h
 ·cases o
  cases q;split at h
  ·rename_i d
   simp only [Tree.run,ZH3] at h;subst h;exact ⟨_,by simp only [bin,Sem.run_bind,aCK,Result.andThen_ok]; exact run_eql_bool w t _ _ d,.bool _ _⟩
  ·rename_i d
   simp only [Tree.run,ZH3] at h;subst h;exact ⟨_,by simp only [bin,Sem.run_bind,aCK,Result.andThen_ok]; exact run_neq_bool w t _ _ d,.bool _ _⟩
  ·cases h
 ·rename_i a b
  cases o with
  | agg _ _ xs G J =>
  cases q with
  | agg _ _ ys I K =>
  have key:∀ c,X1 P t a b=some c->P.eqGuardType P.depth t=false/\(Op.equalIn 10000 t (.agg xs.toArray) (.agg ys.toArray)).run P w = .ok c w:=by
   intro c f;unfold X1 at f;split at f
   ·rename_i fs d
    cases p:(!P.stoodInHeld t&&!P.eqGuardType P.depth t)
    ·simp [p] at f
    simp only [p,cond_true] at f;obtain ⟨L,C⟩:=ZA0.1 p
    have Q:P.fieldsOf t=fs:=by simp [Program.fieldsOf,d]
    refine ⟨by simpa using C,?_⟩;rw [run_equalIn_struct w 9999 t _ _ (by rw [Q]; exact d) (by simpa using L),Q];exact aDT 9997 G I J K _ c f
   ·rename_i n e d
    generalize p:(!P.eqGuardType P.depth t&&(Nat.beq (P.cellsOf e) 1&&(Nat.beq a.length n&&(Nat.beq b.length n&&(P.info? e).isSome))))=g at f;cases g
    ·cases f
    rw [cond_true] at f;simp only [ZA2] at p;obtain ⟨L,C,M,g4,g5⟩:=p;have C:=ZG1 C;have M:=ZG1 M;obtain ⟨i,hi⟩:=Option.isSome_iff_exists.1 g5;refine ⟨by simpa using L,?_⟩;rw [run_equalIn_array w 9999 _ _ d hi,C,List.range_eq_range']
    have look:∀ {cs:List V} {zs:List Value},zs.length=cs.length->(∀ (k:Nat) (v:V) (x:Value),cs[k]? = some v->zs[k]? = some x->R w X β v x) ->
      ∀ (j:Nat) (v:V),cs[j]? = some v -> ∃ x,zs[0+j]? = some x/\R w X β v x:=by
     intro cs zs W Z j v S;rw [Nat.zero_add]
     have:j<zs.length:=by rw [W]; exact (ZB2.1 S).1
     exact ⟨zs[j],by simp [this],Z _ _ _ S (by simp [this])⟩
    have:=PW (P:=P) (w:=w) 9998 (xs:=xs) (ys:=ys) _ _ 0 c f (look G J) (look I K);rw [M] at this;exact this
   ·cases f
  split at h
  ·rename_i c f
   simp only [Tree.run,ZH3] at h;subst h;obtain ⟨k1,k2⟩:=key c f;exact ⟨_,by simp only [bin,Sem.run_bind,run_eqGuard_agg w _ t _ _ _ _ k1,Result.andThen_ok,run_eql_struct,k2],.bool _ _⟩
  ·rename_i c f
   simp only [Tree.run,ZH3] at h;subst h;obtain ⟨k1,k2⟩:=key c f;exact ⟨_,by simp only [bin,Sem.run_bind,run_eqGuard_agg w _ t _ _ _ _ k1,Result.andThen_ok,run_neq_struct,k2],.bool _ _⟩
  ·cases h
 ·cases q
  split at h;rotate_left
  ·cases h
  rename_i e d
  have p:∀ r a n m n' u,(eqGuard r t A B (.slice a n m) (.slice none n' u)).run P w = .ok () w:=by intro r a n m n' u; cases r <;> simp [eqGuard]
  have D:∀ a n m n' u,(bin .eql t A B (.slice a n m) (.slice none n' u)).run P w = .ok (.bool a.isNone) w:=by
   intro a n m n' u; simp only [bin,Sem.run_bind,p,Result.andThen_ok,binOp]; simp [aJB d]
  have F:∀ a n m n' u,(bin .neq t A B (.slice a n m) (.slice none n' u)).run P w = .ok (.bool (!a.isNone)) w:=by
   intro a n m n' u; simp only [bin,Sem.run_bind,p,Result.andThen_ok,binOp]; simp [aJB d]
  split at h <;> first | (cases h; done) | skip
  all_goals
   simp only [Tree.run,ZH3] at h;subst h
   cases o <;> first | exact ⟨_,D _ _ _ _ _,.bool _ _⟩ | exact ⟨_,F _ _ _ _ _,.bool _ _⟩ | (rename_i Y; exact (Y rfl).elim)
 ·cases q
  split at h;rotate_left
  ·cases h
  rename_i e d
  have p:∀ r a,(eqGuard r t A B (.pointer a) (.pointer none)).run P w = .ok () w:=by intro r a; cases r <;> simp [eqGuard]
  have D:∀ a,(bin .eql t A B (.pointer a) (.pointer none)).run P w = .ok (.bool a.isNone) w:=by
   intro a; simp only [bin,Sem.run_bind,p,Result.andThen_ok,binOp]; simp [aG0 d]
  have F:∀ a,(bin .neq t A B (.pointer a) (.pointer none)).run P w = .ok (.bool (!a.isNone)) w:=by
   intro a; simp only [bin,Sem.run_bind,p,Result.andThen_ok,binOp]; simp [aG0 d]
  split at h <;> first | (cases h; done) | skip
  all_goals
   simp only [Tree.run,ZH3] at h;subst h;cases o
   first | exact ⟨_,D _,.bool _ _⟩ | exact ⟨_,F _,.bool _ _⟩
 ·cases q
  split at h;rotate_left
  ·cases h
  rename_i ms d;cases s:ms.isEmpty
  ·rw [s] at h; cases h
  rw [s,cond_true] at h;split at h
  ·simp only [Tree.run,ZH3] at h
   subst h;cases o;exact ⟨_,by simp only [bin,Sem.run_bind,I2,Result.andThen_ok,binOp]; simp [JN d],.bool _ _⟩
  ·simp only [Tree.run,ZH3] at h
   subst h;cases o;exact ⟨_,by simp only [bin,Sem.run_bind,I2,Result.andThen_ok,binOp]; simp [JN d],.bool _ _⟩
  ·simp only [Tree.run,ZH3] at h
   subst h;cases o;exact ⟨_,by simp only [bin,Sem.run_bind,aEC d s,Result.andThen_ok,binOp]; simp [LH d],.bool _ _⟩
  ·simp only [Tree.run,ZH3] at h
   subst h;cases o;exact ⟨_,by simp only [bin,Sem.run_bind,aEC d s,Result.andThen_ok,binOp]; simp [LH d],.bool _ _⟩
  ·cases h
 ·cases o with
  | ifc _ _ _ _ o=>cases q with
   | ifc _ _ _ _ q =>
    cases o;cases q;exact aZC h
 ·cases h
theorem a2A {b:UnOp} {x v:V} {y:Value} (a:R w X β x y) (h:oUn b x=some v):∃ z,(Op.unary b y).run P w = .ok z w/\R w X β v z:=by
 unfold oUn at h;split at h
 ·simp only [ZH3] at h
  subst h;cases a;exact ⟨_,rfl,.int _ _ _⟩
 ·simp only [ZH3] at h
  subst h;cases a;exact ⟨_,rfl,.int _ _ _⟩
 ·simp only [ZH3] at h
  subst h;cases a;exact ⟨_,rfl,.bool _ _⟩
 ·cases h
theorem aSZ {t:TypeId} {x o v:V} {y p:Value} (m:R w X β x y) (hi:R w X β o p) (h:(VM P t x o).run=some v) :
  ∃ z,(Instr.index t y p).run P w = .ok z w/\R w X β v z:=by
 unfold VM at h;split at h
 ·rename_i s k n
  split at h;rotate_left
  ·cases h
  rename_i f;obtain ⟨a,h⟩:=aM h;simp only [Tree.run,ZH3] at h;subst h;obtain ⟨l,i1,i2⟩:=xW a;cases m;cases hi
  have b:(ByteArray.mk s.toArray).size=s.length:=by simp [ByteArray.size]
  refine ⟨.int .u8 (s.getD n.toNat 0).toNat,?_,.int _ _ _⟩;rw [run_index_string w t _ k n f,dif_pos ⟨l,by rw [b]; exact i1⟩]
  have:(ByteArray.mk s.toArray)[n.toNat]'(by rw [b]; exact i2)=s.getD n.toNat 0:=by
   rw [List.getD_eq_getElem?_getD,List.getElem?_eq_getElem i2,Option.getD_some];rfl
  rw [this]
 ·rename_i cells k n
  split at h;rotate_left
  ·cases h
  rename_i i d;split at h;rotate_left
  ·cases h
  rename_i len e q;have f:=SB d q;split at h;rotate_left
  ·cases h
  rename_i j c;obtain ⟨a,h⟩:=aM h;obtain ⟨l,i1,i2⟩:=xW a;split at h;rotate_left
  ·cases h
  rename_i u g;simp only [Tree.run,ZH3] at h;subst h;cases hi
  cases m with
  | agg _ _ xs r A =>
   obtain ⟨z,hz,hz'⟩:=aD9 (P:=P) (ft:=e) r A (J7 w c) (hU w c) g;exact ⟨z,by simp [Instr.index,asIntOf,cZ w f,l,i1,hU w c,hz],hz'⟩
 ·cases h
theorem aYL {argTypes:Array TypeId} {ty:TypeId} {x v:V} {y:Value} (f:R w X β x y) (h:YG P argTypes x=some v) :
  ∃ z,(Builtin.len_ argTypes ty #[y]).run P w = .ok z w/\R w X β v z:=by
 unfold YG at h;split at h;rotate_left
 ·cases h
 rename_i t i;split at h
 ·rename_i s d
  simp only [ZH3] at h;subst h;cases f
  have g:(ByteArray.mk s.toArray).size=s.length:=by simp [ByteArray.size]
  exact ⟨_,by simp [Builtin.len_,i,cZ w d,g,goInt],.int _ _ _⟩
 ·cases h
 ·rename_i e d c
  split at h;rotate_left
  ·cases h
  rename_i n b;simp only [ZH3] at h;subst h
  have key:∀ a cap,y = .slice a n cap -> ∃ z,(Builtin.len_ argTypes ty #[y]).run P w = .ok z w/\R w X β (.int .i64 n) z:=by
   intro a cap j;subst j;exact ⟨.int .i64 n,by simp [Builtin.len_,i,cZ w d,goInt],.int _ _ _⟩
  unfold aM6 at b
  split at b <;> first | (cases b; done) | skip
  ·cases b; cases f <;> exact key _ _ rfl
  ·cases b; cases f; exact key _ _ rfl
  ·cases b; cases f; exact key _ _ rfl
  ·cases b; cases f; exact key _ _ rfl
  ·exact absurd rfl (c _)
 ·rename_i n e d
  simp only [ZH3] at h;subst h;refine ⟨.int .i64 n,?_,.int _ _ _⟩;simp [Builtin.len_,i,cZ w d,goInt]
 ·cases h
theorem aZ9 {H:List O} {argTypes:Array TypeId} {ty:TypeId} {x v:V} {y:Value} (p:Rel w X H β) (m:R w X β x y) (h:ZS P H argTypes x=some v) :
  ∃ z,(Builtin.cap_ argTypes ty #[y]).run P w = .ok z w/\R w X β v z:=by
 unfold ZS at h;split at h;rotate_left
 ·cases h
 rename_i t k;split at h;rotate_left
 ·cases h
 rename_i e l;split at h
 ·rename_i id a off len
  split at h;rotate_left
  ·cases h
  rename_i cs e' n;cases hb:(Nat.ble 4294967296 e'&&(Nat.beq off 0&&(Nat.beq (len*a) cs.length&&Nat.blt 0 a)))
  ·rw [hb] at h; cases h
  rw [hb] at h;simp only [cond_true,ZH3] at h;subst h;simp only [ZA2] at hb;obtain ⟨c,g,i,d⟩:=hb;have c:=ZG2 c;have g:=ZG1 g;have i:=ZG1 i
  have d:1<=a:=by simpa [Nat.blt] using d
  cases m with
  | ref _ _ _ _ _ loc b o cap f s hlen r j =>
   obtain ⟨_,arr,e2,a1,a2,a3,a4⟩:=p.cells id cs e' loc n f;have u:=a3.2 c
   have hle:cap*a<=len*a:=by omega
   have q:cap=len:=Nat.le_antisymm (Nat.le_of_mul_le_mul_right hle d) hlen;subst q;exact ⟨.int .i64 cap,by simp [Builtin.cap_,k,cZ w l,goInt],.int _ _ _⟩
 ·simp only [ZH3] at h
  subst h;cases m;exact ⟨.int .i64 0,by simp [Builtin.cap_,k,cZ w l,goInt],.int _ _ _⟩
 ·cases h
theorem aYS {argTypes:Array TypeId} {ty:TypeId} {x y v:V} {d e:Value} (f:R w X β x d) (g:R w X β y e) (h:ZD x y=some v) :
  ∃ z,(Builtin.max_ argTypes ty #[d,e]).run P w = .ok z w/\R w X β v z:=by
 unfold ZD at h;split at h;rotate_left
 ·cases h
 rename_i k a l b;cases c:decide (k=l)
 ·simp [c] at h
 simp only [c,cond_true,ZH3] at h;subst h;cases f;cases g;exact ⟨_,run_max_int2 w argTypes ty k l a b,.int _ _ _⟩
theorem aWW {argTypes:Array TypeId} {ty:TypeId} {x y v:V} {d e:Value} (f:R w X β x d) (g:R w X β y e) (h:YU x y=some v) :
  ∃ z,(Builtin.min_ argTypes ty #[d,e]).run P w = .ok z w/\R w X β v z:=by
 unfold YU at h;split at h;rotate_left
 ·cases h
 rename_i k a l b;cases c:decide (k=l)
 ·simp [c] at h
 simp only [c,cond_true,ZH3] at h;subst h;cases f;cases g;exact ⟨_,run_min_int2 w argTypes ty k l a b,.int _ _ _⟩
theorem yH:∀ {cs d:List V},V.pures? cs=some d->d.length=cs.length /\ ∀ (k:Nat) v,d[k]? = some v -> ∃ u,cs[k]? = some u/\V.pure? u=some v
 | [],d,h=>by
  simp only [V.pures?,ZH3] at h;subst h;exact ⟨rfl,fun k v h=>by simp at h⟩
 | c :: cs,d,h=>by
  unfold V.pures? at h;split at h
  ·rename_i v r f g
   simp only [ZH3] at h;subst h;obtain ⟨a,b⟩:=yH g;refine ⟨by simp [a],fun k u e=>?_⟩
   cases k with
   | zero=>simp at e; subst e; exact ⟨c,rfl,f⟩
   | succ k=>simp at e; obtain ⟨z,hz,hz'⟩:=b k u e; exact ⟨z,by simpa using hz,hz'⟩
  ·cases h
theorem LR {β:List Loc} {v:V} {y:Value} (h:R w X β v y):∀ e,V.pure? v=some e -> R w X [] e y:=by
 induction h with
 | int=>intro e h; simp only [V.pure?,ZH3] at h; subst h; exact .int _ _ _
 | bool=>intro e h; simp only [V.pure?,ZH3] at h; subst h; exact .bool _ _
 | str=>intro e h; simp only [V.pure?,ZH3] at h; subst h; exact .str _ _
 | val=>intro e h; simp only [V.pure?,ZH3] at h; subst h; exact .val _ _
 | any=>intro e h; simp only [V.pure?,ZH3] at h; subst h; exact .any _ _
 | rng β k lo hi n s=>intro e h; simp only [V.pure?,ZH3] at h; subst h; exact .any _ _
 | pin β cells b o f z s i=>intro e h; simp only [V.pure?,ZH3] at h; subst h; exact .pin [] cells b o f z s
 | sl β c l spare fl b o cap f g p D z s i =>
  intro e h; simp only [V.pure?,ZH3] at h; subst h; exact .sl [] c l spare fl b o cap f g p D z s
 | nil β c=>intro e h; simp only [V.pure?,ZH3] at h; subst h; exact .nil [] c
 | gro β id c l b o cap loc f C I J A g z s i =>
  intro e h; simp only [V.pure?,ZH3] at h; subst h;exact aLX (.gro β id c l b o cap loc f C I J A g z s)
 | ptr=>intro e h; simp only [V.pure?,ZH3] at h; subst h; exact .any _ _
 | ref=>intro e h; simp only [V.pure?,ZH3] at h; subst h; exact .any _ _
 | mp=>intro e h; simp only [V.pure?,ZH3] at h; subst h; exact .any _ _
 | agg β cells xs A h i =>
  intro e h;simp only [V.pure?] at h;obtain ⟨B,hd,rfl⟩:=ZH0.1 h;obtain ⟨a,b⟩:=yH hd;exact .agg [] B xs (by omega) (fun k v x j m=>let ⟨u,r,q⟩:=b k v j; i k u x r m v q)
 | tup β cells xs A h i =>
  intro e h;simp only [V.pure?] at h;obtain ⟨B,hd,rfl⟩:=ZH0.1 h;obtain ⟨a,b⟩:=yH hd;exact .tup [] B xs (by omega) (fun k v x j m=>let ⟨u,r,q⟩:=b k v j; i k u x r m v q)
 | ifc β t v x h i =>
  intro e h;simp only [V.pure?] at h;obtain ⟨d,hd,rfl⟩:=ZH0.1 h;exact .ifc [] t d x (i d hd)
 | clo β fn as M xs ys A Q h N i F =>
  intro e h;simp only [V.pure?] at h;split at h
  ·rename_i a b G hb
   simp only [ZH3] at h;subst h;obtain ⟨K,a2⟩:=yH G;obtain ⟨L,b2⟩:=yH hb
   exact .clo [] fn a b xs ys (by omega) (by omega) (fun k v x j m=>let ⟨u,r,q⟩:=a2 k v j; i k u x r m v q)
    (fun k v x j m=>let ⟨u,r,q⟩:=b2 k v j; F k u x r m v q)
  ·cases h
end
end Go.Ab

namespace Go.Ab
def B5 (P : Program) (f : Nat) : Prop := ∃ fn, P.funcs[f]? = some fn /\ fn.name ≠ "runtime.NumGoroutine" /\ fn.body.isSome = true
def jS (P:Program) (f:Nat) (args:List V) (out:V):Prop:=
 B5 P f /\ ∀ (w:World) (E:Nat->Nat->Prop) (a:List Value),((∀ b o,E b o->b<w.heap.size)/\Gs P w E)->a.length=args.length ->
  (∀ (k:Nat) (v:V) (x:Value),args[k]? = some v->a[k]? = some x->R w E [] v x) ->
  Calls P f a.toArray w fun e w' => ∃ y,e = .returned y/\Step E [] [] w [] [] w' /\ R w' E [] out y
def Outcome (E:Nat->Nat->Prop) (H:List O) (β:List Loc) (w:World) (r:Res) (e:Ending) (w' : World):Prop:=
 match r with
 | .ok v H' => ∃ y a,e = .returned y/\Step E H β w H' a w' /\ R w' (Xs E H' a) a v y
 | .pan v H' => ∃ y a,e = .panicked [{ v:=y,recovered:=false }]/\Step E H β w H' a w' /\ R w' (Xs E H' a) a v y
def gJ (P:Program) (E:Nat->Nat->Prop) (c:List O) (a:List Loc) (w0:World):Prop:=(∀ b o,E b o->b<w0.heap.size/\¬ Own c a b o)/\Gs P w0 (Xs E c a)
def dQ (P:Program) (f:Nat) (args:List V) (H:List O) (r:Res):Prop:=
 B5 P f /\ ∀ (w:World) (E:Nat->Nat->Prop) (β:List Loc) (a:List Value),gJ P E H β w->Rel w (Xs E H β) H β ->
  a.length=args.length->(∀ (k:Nat) (v:V) (x:Value),args[k]? = some v->a[k]? = some x->R w (Xs E H β) β v x) ->
  Calls P f a.toArray w (Outcome E H β w r)
def bP (P:Program) (f:Nat) (s:MSpec):Prop:=∀ args H r,(s args H).run=some r->dQ P f args H r
def oI (P:Program) (tab:List (Nat × MSpec)):Prop:=∀ p ∈ tab,bP P p.1 p.2
def nF (P:Program) (f:Nat) (s:RSpec):Prop:=∀ args H v,(s args H).run=some v->dQ P f args H (.ok v H)
def rU (P:Program) (tab:List (Nat × RSpec)):Prop:=∀ p ∈ tab,nF P p.1 p.2
theorem rU.nil (P:Program):rU P []:=fun p h=>by cases h
theorem rU.cons {P:Program} {f:Nat} {s:RSpec} {tab:List (Nat × RSpec)} (h:nF P f s) (b:rU P tab):rU P ((f,s) :: tab):=by
 intro p a
 rcases ZE3.1 a with rfl | a
 ·exact h
 ·exact b p a
theorem aD6 {f:Nat} {args:List V} {H:List O} {r:V}:∀ {tab:List (Nat × RSpec)},(MZ f tab args H).run=some r -> ∃ s,(f,s) ∈ tab/\(s args H).run=some r
 | [],h=>by cases h
 | (g,s) :: r,h=>by
  unfold MZ at h;cases hb:Nat.beq f g
  ·simp only [hb,cond_false] at h
   obtain ⟨s',h1,h2⟩:=aD6 h;exact ⟨s',ZD2 _ h1,h2⟩
  ·simp only [hb,cond_true] at h
   have:=ZG1 hb;subst this;exact ⟨s,ZD1,h⟩
theorem oI.nil (P:Program):oI P []:=fun p h=>by cases h
theorem oI.cons {P:Program} {f:Nat} {s:MSpec} {tab:List (Nat × MSpec)} (h:bP P f s) (b:oI P tab):oI P ((f,s) :: tab):=by
 intro p a
 rcases ZE3.1 a with rfl | a
 ·exact h
 ·exact b p a
theorem aD0 {f:Nat} {args:List V} {H:List O} {r:Res}:∀ {tab:List (Nat × MSpec)},(G1 f tab args H).run=some r -> ∃ s,(f,s) ∈ tab/\(s args H).run=some r
 | [],h=>by cases h
 | (g,s) :: r,h=>by
  unfold G1 at h;cases hb:Nat.beq f g
  ·simp only [hb,cond_false] at h
   obtain ⟨s',h1,h2⟩:=aD0 h;exact ⟨s',ZD2 _ h1,h2⟩
  ·simp only [hb,cond_true] at h
   have:=ZG1 hb;subst this;exact ⟨s,ZD1,h⟩
theorem nY {ρ:Nat->Option Nat}:∀ {cs a:List V},V.rens? ρ cs=some a->a.length=cs.length /\ ∀ (k:Nat) v,a[k]? = some v -> ∃ u,cs[k]? = some u/\V.ren? ρ u=some v
 | [],a,h=>by
  simp only [V.rens?,ZH3] at h;subst h;exact ⟨rfl,by simp⟩
 | c :: cs,a,h=>by
  unfold V.rens? at h;split at h;rotate_left
  ·cases h
  rename_i u g e f;simp only [ZH3] at h;subst h;obtain ⟨d,g2⟩:=nY f;refine ⟨by simp [d],fun k v b=>?_⟩
  cases k with
  | zero=>simp only [ZC3,ZH3] at b; subst b; exact ⟨c,rfl,e⟩
  | succ k=>exact g2 k v (by simpa using b)
theorem E6 {ρ:Nat->Option Nat}:∀ {cs a:List O},eA ρ cs=some a->a.length=cs.length /\ ∀ (k:Nat) v,a[k]? = some v -> ∃ u,cs[k]? = some u/\O.ren? ρ u=some v
 | [],a,h=>by
  simp only [eA,ZH3] at h;subst h;exact ⟨rfl,by simp⟩
 | c :: cs,a,h=>by
  unfold eA at h;split at h;rotate_left
  ·cases h
  rename_i u g e f;simp only [ZH3] at h;subst h;obtain ⟨d,g2⟩:=E6 f;refine ⟨by simp [d],fun k v b=>?_⟩
  cases k with
  | zero=>simp only [ZC3,ZH3] at b; subst b; exact ⟨c,rfl,e⟩
  | succ k=>exact g2 k v (by simpa using b)
def GB (ρ:Nat->Option Nat) (β a : List Loc):Prop:=∀ i j loc,ρ i=some j->β[i]? = some loc->a[j]? = some loc
theorem wI {w:World} {X:Nat->Nat->Prop} {ρ:Nat->Option Nat} {β a : List Loc} (d:GB ρ β a) {v:V} {x:Value} (h:R w X β v x) :
  ∀ e,V.ren? ρ v=some e -> R w X a e x:=by
 induction h generalizing a with
 | int=>intro e h; simp only [V.ren?,ZH3] at h; subst h; exact .int a _ _
 | bool=>intro e h; simp only [V.ren?,ZH3] at h; subst h; exact .bool a _
 | str=>intro e h; simp only [V.ren?,ZH3] at h; subst h; exact .str a _
 | val=>intro e h; simp only [V.ren?,ZH3] at h; subst h; exact .val a _
 | any=>intro e h; simp only [V.ren?,ZH3] at h; subst h; exact .any a _
 | rng β k lo hi n z=>intro e h; simp only [V.ren?,ZH3] at h; subst h; exact .rng a k lo hi n z
 | pin β cells b o f C z p=>intro e h; simp only [V.ren?,ZH3] at h; subst h; exact .pin a cells b o f C z
 | sl β c l spare fl b o cap f g r F C z p =>
  intro e h; simp only [V.ren?,ZH3] at h; subst h; exact .sl a c l spare fl b o cap f g r F C z
 | nil β c=>intro e h; simp only [V.ren?,ZH3] at h; subst h; exact .nil a c
 | gro β id c l b o cap loc f i y K D g C z p =>
  intro e h;unfold V.ren? at h;split at h;rotate_left
  ·cases h
  rename_i j s;simp only [ZH3] at h;subst h;exact .gro a j c l b o cap loc f (d _ _ _ s i) y K D g C z
 | ptr β id off loc i y =>
  intro e h;unfold V.ren? at h;split at h;rotate_left
  ·cases h
  rename_i j s;simp only [ZH3] at h;subst h;exact .ptr a j off loc (d _ _ _ s i) y
 | ref β id L off len loc b o cap i y hlen J g =>
  intro e h;unfold V.ren? at h;split at h;rotate_left
  ·cases h
  rename_i j s;simp only [ZH3] at h;subst h;exact .ref a j L off len loc b o cap (d _ _ _ s i) y hlen J g
 | mp β id loc i y =>
  intro e h;unfold V.ren? at h;split at h;rotate_left
  ·cases h
  rename_i j s;simp only [ZH3] at h;subst h;exact .mp a j loc (d _ _ _ s i) y
 | agg β cells xs D h p =>
  intro e h;unfold V.ren? at h;split at h;rotate_left
  ·cases h
  rename_i cs m;simp only [ZH3] at h;subst h;obtain ⟨H,g2⟩:=nY m;refine .agg a cs xs (by omega) (fun k v x A B=>?_);obtain ⟨u,q,hu'⟩:=g2 k v A;exact p k u x q B d v hu'
 | tup β cells xs D h p =>
  intro e h;unfold V.ren? at h;split at h;rotate_left
  ·cases h
  rename_i cs m;simp only [ZH3] at h;subst h;obtain ⟨H,g2⟩:=nY m;refine .tup a cs xs (by omega) (fun k v x A B=>?_);obtain ⟨u,q,hu'⟩:=g2 k v A;exact p k u x q B d v hu'
 | ifc β t v x h p =>
  intro e h;unfold V.ren? at h;split at h;rotate_left
  ·cases h
  rename_i u q;simp only [ZH3] at h;subst h;exact .ifc a t u x (p d u q)
 | clo β fn as M xs ys D P h O p G =>
  intro e h;unfold V.ren? at h;split at h;rotate_left
  ·cases h
  rename_i cs I m E;simp only [ZH3] at h;subst h;obtain ⟨H,g2⟩:=nY m;obtain ⟨N,g4⟩:=nY E;refine .clo a fn cs I xs ys (by omega) (by omega) (fun k v x A B=>?_) (fun k v x A B=>?_)
  ·obtain ⟨u,q,hu'⟩:=g2 k v A
   exact p k u x q B d v hu'
  ·obtain ⟨u,q,hu'⟩:=g4 k v A
   exact G k u x q B d v hu'
theorem R.weak {w:World} {X a : Nat->Nat->Prop} {β:List Loc} {v:V} {x:Value} (h:R w X β v x) (f:∀ b o,a b o->X b o):R w a β v x:=
 h.stab ⟨fun b o _ c d=>⟨fun h=>c (f b o h),d⟩,fun _ cs e h=>⟨cs,e,h⟩⟩ β (.refl _)
theorem aGQ {i:Nat}:∀ {l:List Nat},cG i l=true ↔ i ∈ l
 | []=>by simp [cG]
 | j :: l=>by
  unfold cG;cases hb:Nat.beq i j
  ·have:i ≠ j:=fun e=>by subst e; simp at hb
   simp [aGQ,this]
  ·have:=ZG1 hb
   simp [this]
theorem JD {i k:Nat}:∀ {σ:List Nat},place i σ=some k->σ[k]? = some i
 | [],h=>by cases h
 | j :: σ,h=>by
  unfold place at h;cases hb:Nat.beq i j
  ·simp only [hb,cond_false] at h
   split at h;rotate_left
   ·cases h
   rename_i m a;simp only [ZH3] at h;subst h;simpa using JD a
  ·simp only [hb,cond_true,ZH3] at h
   subst h;simp [ZG1 hb]
theorem aDM {i:Nat} {σ:List Nat} (h:fU (i :: σ)=true):i ∉ σ/\fU σ=true:=by
 unfold fU at h;cases hb:cG i σ
 ·simp only [hb,cond_false] at h
  exact ⟨fun a=>(by rw [aGQ.2 a] at hb; cases hb),h⟩
 ·simp [hb] at h
theorem aEH:∀ {σ:List Nat} {i j k:Nat},fU σ=true->σ[i]? = some k->σ[j]? = some k->i=j
 | [],i,j,k,_,h,_=>by simp at h
 | s :: σ,i,j,k,hd,hi,hj=>by
  obtain ⟨a,h2⟩:=aDM hd
  cases i with
  | zero =>
   cases j with
   | zero=>rfl
   | succ j =>
    simp only [ZC3,ZH3,ZD0] at hi hj;subst hi;exact absurd (List.mem_of_getElem? hj) a
  | succ i =>
   cases j with
   | zero =>
    simp only [ZC3,ZH3,ZD0] at hi hj;subst hj;exact absurd (List.mem_of_getElem? hi) a
   | succ j =>
    simp only [ZD0] at hi hj;rw [aEH h2 hi hj]
theorem JC {α:Type}:∀ (H:List α) (σ:List Nat) (os:List α),σ.length<=os.length->(bQ H σ os).length=H.length+(os.length - σ.length)
 | H,[],os,_=>by cases os <;> simp [bQ]
 | H,s :: σ,[],h=>by simp at h
 | H,s :: σ,o :: os,h=>by
  simp only [bQ];rw [JC _ σ os (by simpa using h)];simp
theorem I6 {α:Type}:∀ (H:List α) (σ:List Nat) (os:List α) (i:Nat),i<H.length->i ∉ σ->σ.length<=os.length->(bQ H σ os)[i]? = H[i]?
 | H,[],os,i,hi,_,_=>by cases os <;> simp [bQ,ZB0,hi]
 | H,s :: σ,[],i,_,_,h=>by simp at h
 | H,s :: σ,o :: os,i,hi,hn,h=>by
  simp only [bQ];rw [I6 _ σ os i (by simpa using hi) (fun h=>hn (ZD2 _ h)) (by simpa using h)];have:s ≠ i:=fun e=>hn (by simp [e]);simp [this]
theorem aTV (s:Nat) (σ:List Nat) (n k:Nat):eJ (s :: σ) n (k+1)=eJ σ n k:=by
 simp [eJ,Nat.succ_sub_succ]
theorem P2 {α:Type}:∀ (H:List α) (σ:List Nat) (os:List α) (i j:Nat),fU σ=true->(∀ s ∈ σ,s<H.length)->σ.length<=os.length->eJ σ H.length j=some i->(bQ H σ os)[i]? = os[j]?
 | H,[],os,i,j,_,_,_,h=>by
  simp only [eJ,List.getElem?_nil,List.length_nil,Nat.sub_zero,ZH3] at h;subst h
  have:bQ H [] os=H++os:=by cases os <;> rfl
  rw [this,ZB1 (by omega)];simp
 | H,s :: σ,[],_,_,_,_,h,_=>by simp at h
 | H,s :: σ,o :: os,i,j,hd,hs,hl,h=>by
  obtain ⟨b,h2⟩:=aDM hd;simp only [bQ]
  cases j with
  | zero =>
   simp only [eJ,ZC3,ZH3] at h;subst h;rw [I6 _ σ os s (by simpa using hs s (by simp)) b (by simpa using hl)];simp [hs s (by simp)]
  | succ j =>
   rw [aTV] at h;rw [P2 (H.set s o) σ os i j h2 (fun s' a => by simpa using hs s' (by simp [a])) (by simpa using hl) (by simpa using h)];simp
theorem aW8 {σ:List Nat} {n i:Nat} (h:¬ (i<n/\i ∉ σ)):∃ j,eJ σ n j=some i:=by
 by_cases hi:i ∈ σ
 ·obtain ⟨j,hj,he⟩:=List.getElem_of_mem hi
  exact ⟨j,by simp [eJ,hj,he]⟩
 ·refine ⟨σ.length+(i - n),?_⟩
  have:n<=i:=by
   rcases Nat.lt_or_ge i n with a | a
   ·exact absurd ⟨a,hi⟩ h
   ·exact a
  simp only [eJ];rw [List.getElem?_eq_none (by omega)];simp;omega
theorem JQ {H:List O}:∀ {σ:List Nat} {os:List O},gQ H σ=some os->os.length=σ.length /\ ∀ (k i:Nat),σ[k]? = some i->i<H.length/\os[k]? = H[i]?
 | [],os,h=>by
  simp only [gQ,ZH3] at h;subst h;exact ⟨rfl,by simp⟩
 | s :: σ,os,h=>by
  unfold gQ at h;split at h;rotate_left
  ·cases h
  rename_i o e b d;simp only [ZH3] at h;subst h;obtain ⟨c,g2⟩:=JQ d;refine ⟨by simp [c],fun k i a=>?_⟩
  cases k with
  | zero =>
   simp only [ZC3,ZH3] at a;subst a;exact ⟨(ZB2.1 b).1,by simp [b]⟩
  | succ k=>simpa using g2 k i (by simpa using a)
end Go.Ab
