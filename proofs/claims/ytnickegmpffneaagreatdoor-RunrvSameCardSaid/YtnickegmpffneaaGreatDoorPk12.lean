/-
  The engine, part Z: from a function's contract to the given statement of a law. Conditions: arguments are numbers, bools, strings, structs of these, or slices of such.
-/
import Derived.Test.YtnickegmpffneaaGreatDoorPk10
import Derived.ProofKit
import Derived.Deep.Slices
import Derived.OpenShut
import Derived.Test.YtnickegmpffneaaGreatDoorProg
set_option linter.unusedVariables false
set_option linter.unusedSimpArgs false
namespace Go.Ab
open Go.ChangeShapes Go.WideShapes Go.ChangeAt Go.RowKit
def arrFs (P : Program) (n : Nat) (e : TypeId) : List Field := (List.range n).map fun i => { name := "", type := e, offset := i * P.cellsOf e, embedded := false, tag := "", pkgPath := "", byteOffset := 0 }
mutual
def lay (P:Program):Nat→TypeId→Option EC
 | 0,_=>none
 | d+1,t=>match P.underlying t with
  | some (.int k)=>some (.int k)
  | some .bool=>some .bool
  | some .string=>some .str
  | some (.struct fs)=>match layF P d 0 fs.toList with
   | some cs=>if P.cellsOf t=EC.sizes cs then some (.prod cs) else none
   | none=>none
  | some (.array n e)=>match layF P d 0 (arrFs P n e) with
   | some cs=>if P.cellsOf t=EC.sizes cs then some (.prod cs) else none
   | none=>none
  | _=>none
def layF (P:Program):Nat→Nat→List Field→Option (List EC)
 | 0,_,_=>none
 | _+1,_,[]=>some []
 | d+1,off,f :: r=>match lay P d f.type with
  | some c=>if f.offset=off∧P.cellsOf f.type=c.size then (layF P d (off+c.size) r).map (c :: ·) else none
  | none=>none
end
def layP (P:Program) (t:TypeId):Option EC:=
 match P.underlying t with
 | some (.slice e)=>match lay P 80 e with
  | some c=>if P.cellsOf e=c.size∧0<c.size then some (.sl c) else none
  | none=>none
 | _=>lay P 80 t
mutual
def okE:(c:EC)→c.ty→Prop
 | .int k,(n:Int)=>k.has n
 | .bool,_=>True
 | .str,(s:List UInt8)=>s.length≤maxLen
 | .sl _,none=>True
 | .sl c,some l=>l.length≤maxLen ∧ ∀ x ∈ l,okE c x
 | .prod cs,x=>okEs cs x
def okEs:(cs:List EC)→EC.tys cs→Prop
 | [],_=>True
 | [c],x=>okE c x
 | c :: d :: cs,x=>okE c x.1∧okEs (d :: cs) x.2
end
def argV:(c:EC)→c.ty→V
 | .int k,n=>.int k n
 | .bool,b=>.bool b
 | .str,s=>.str s
 | .sl c,o=>.sl c (o.getD []) [] .may
 | .prod cs,x=>.agg (encs cs x)
def argVs:(cs:List EC)→EC.tys cs→List V
 | [],_=>[]
 | [c],x=>[argV c x]
 | c :: d :: cs,x=>argV c x.1 :: argVs (d :: cs) x.2
section
variable {H:Type} {en:TypeId × Value→H} {P:Program} {w:World} {base:Nat} {sp:Nat→Bool} {hd:Bool} {X:Nat→Nat→Prop}
theorem wf_has {k:IntKind} {n:Int} (h:(Lit.int k n).wf=true):k.has n:=by
 simpa [Lit.wf,IntKind.has] using h
theorem take_get {α:Type} {l:List α} {off n k:Nat} {z:α} (h:((l.drop off).take n)[k]? = some z):l[off+k]? = some z:=by
 rw [List.getElem?_take] at h
 split at h
 ·rwa [List.getElem?_drop] at h
 ·cases h
mutual
theorem trod_lay:∀ (d:Nat) (t:TypeId) (c:EC) (fuel:Nat) (cs:List Value) (y:DataW H × List MemPlace),lay P d t=some c→DataW.trod en P w base sp hd fuel t cs=some y →
  ∃ x:c.ty,okE c x ∧ ∀ (k:Nat) v,(enc c x)[k]? = some v → ∃ z,cs[k]? = some z∧R w X [] v z
 | 0,t,c,fuel,cs,y,hl,ht=>by simp [lay] at hl
 | d+1,t,c,fuel,cs,y,hl,ht=>by
  unfold lay at hl
  split at hl
  ·rename_i k hu
   simp only [Option.some.injEq] at hl
   subst hl
   obtain ⟨n,rfl,_,hw⟩:=DataW.trod_int hu ht
   refine ⟨(n:Int),wf_has hw,?_⟩
   intro k v hv
   match k,hv with
   | 0,hv =>
    simp only [enc,List.getElem?_cons_zero,Option.some.injEq] at hv
    subst hv
    exact ⟨_,rfl,.int _ _ _⟩
  ·rename_i hu
   simp only [Option.some.injEq] at hl
   subst hl
   obtain ⟨b,rfl,_⟩:=DataW.trod_bool hu ht
   refine ⟨(b:Bool),trivial,?_⟩
   intro k v hv
   match k,hv with
   | 0,hv =>
    simp only [enc,List.getElem?_cons_zero,Option.some.injEq] at hv
    subst hv
    exact ⟨_,rfl,.bool _ _⟩
  ·rename_i hu
   simp only [Option.some.injEq] at hl
   subst hl
   obtain ⟨s,rfl,_,hs⟩:=DataW.trod_string hu ht
   refine ⟨(s.data.toList:List UInt8),by simpa [okE] using hs,?_⟩
   intro k v hv
   match k,hv with
   | 0,hv =>
    simp only [enc,List.getElem?_cons_zero,Option.some.injEq] at hv
    subst hv
    refine ⟨_,rfl,?_⟩
    have:=R.str (w:=w) (X:=X) [] s.data.toList
    simpa using this
  ·rename_i fs hu
   split at hl
   rotate_left
   ·cases hl
   rename_i cs' hcs'
   split at hl
   rotate_left
   ·cases hl
   simp only [Option.some.injEq] at hl
   subst hl
   obtain ⟨xs,n,_,_,hlen,hxs,hf⟩:=DataW.trod_struct hu ht
   obtain ⟨x,h1,h2⟩:=trod_layF d 0 fs.toList cs' n cs hcs' (fun f hf' => by
    obtain ⟨i,hi,hfi⟩:=List.getElem_of_mem hf'
    have h1:=hf i f (by simp at hi; rw [Array.getElem?_eq_getElem hi]; simpa using hfi)
    rw [List.getElem?_eq_getElem (by simp at hi; omega)] at h1
    exact ⟨_,h1⟩)
   exact ⟨x,by simpa [okE] using h1,fun k v hv=>by simpa using h2 k v (by simpa [enc] using hv)⟩
  ·rename_i n e hu
   split at hl
   rotate_left
   ·cases hl
   rename_i cs' hcs'
   split at hl
   rotate_left
   ·cases hl
   simp only [Option.some.injEq] at hl
   subst hl
   obtain ⟨xs,m,_,_,hlen,hxs,hf⟩:=DataW.trod_array hu ht
   obtain ⟨x,h1,h2⟩:=trod_layF d 0 (arrFs P n e) cs' m cs hcs' (fun f hf' => by
    obtain ⟨i,hi,rfl⟩:=List.mem_map.1 hf'
    have hi:i<n:=List.mem_range.1 hi
    have h1:=hf i hi
    rw [List.getElem?_eq_getElem (by omega)] at h1
    exact ⟨_,h1⟩)
   exact ⟨x,by simpa [okE] using h1,fun k v hv=>by simpa using h2 k v (by simpa [enc] using hv)⟩
  ·cases hl
theorem trod_layF:∀ (d off:Nat) (fs:List Field) (cs' : List EC) (n:Nat) (cs:List Value),layF P d off fs=some cs' →
  (∀ f ∈ fs,∃ y,DataW.trod en P w base sp hd n f.type ((cs.drop f.offset).take (P.cellsOf f.type))=some y) →
  ∃ x:EC.tys cs',okEs cs' x ∧ ∀ (k:Nat) v,(encs cs' x)[k]? = some v → ∃ z,cs[off+k]? = some z∧R w X [] v z
 | 0,off,fs,cs',n,cs,hl,h=>by simp [layF] at hl
 | d+1,off,[],cs',n,cs,hl,h=>by
  simp only [layF,Option.some.injEq] at hl
  subst hl
  exact ⟨(),trivial,fun k v hv=>by simp [encs] at hv⟩
 | d+1,off,f :: r,cs',n,cs,hl,h=>by
  unfold layF at hl
  split at hl
  rotate_left
  ·cases hl
  rename_i c hc
  split at hl
  rotate_left
  ·cases hl
  rename_i ho
  obtain ⟨ho,hz⟩:=ho
  obtain ⟨ds,hds,rfl⟩:=Option.map_eq_some_iff.1 hl
  obtain ⟨y,hy⟩:=h f List.mem_cons_self
  obtain ⟨x1,a1,a2⟩:=trod_lay d f.type c n _ y hc hy
  obtain ⟨x2,b1,b2⟩:=trod_layF d (off+c.size) r ds n cs hds (fun g hg=>h g (List.mem_cons_of_mem _ hg))
  have hfirst:∀ (k:Nat) v,(enc c x1)[k]? = some v → ∃ z,cs[off+k]? = some z∧R w X [] v z:=fun k v hv=>by
   obtain ⟨z,hz,hr⟩:=a2 k v hv
   rw [ho] at hz
   exact ⟨z,take_get hz,hr⟩
  match ds,x2,b1,b2 with
  | [],_,_,_=>exact ⟨x1,by simpa [okEs] using a1,fun k v hv=>hfirst k v (by simpa [encs] using hv)⟩
  | e :: es,x2,b1,b2 =>
   refine ⟨(x1,x2),by simpa [okEs] using ⟨a1,b1⟩,fun k v hv=>?_⟩
   simp only [encs] at hv
   by_cases hk:k<(enc c x1).length
   ·rw [List.getElem?_append_left hk] at hv
    exact hfirst k v hv
   ·rw [List.getElem?_append_right (by omega)] at hv
    rw [enc_size] at hv hk
    obtain ⟨z,hz,hr⟩:=b2 (k - c.size) v hv
    rw [show off+c.size+(k - c.size)=off+k from by omega] at hz
    exact ⟨z,hz,hr⟩
end
theorem choose_lt' {α:Type} [Inhabited α] {p:Nat→α→Prop} {m:Nat} (h:∀ i,i<m → ∃ x,p i x):∃ f:Nat→α,∀ i,i<m→p i (f i):=by
 refine ⟨fun i=>if hi:i<m then Classical.choose (h i hi) else default,fun i hi=>?_⟩
 simp only [hi,dif_pos]
 exact Classical.choose_spec (h i hi)
instance (c:EC):Inhabited c.ty:=⟨c.dflt⟩
theorem flat_not_sl {d:Nat} {t:TypeId} {c:EC} (h:lay P d t=some (.sl c)):False:=by
 cases d with
 | zero=>simp [lay] at h
 | succ d =>
  unfold lay at h
  split at h
  all_goals first | (simp at h; done) | skip
  all_goals (repeat' (split at h))
  all_goals first | (cases h; done) | (simp at h; done)
theorem cells_one {t:TypeId} {c:EC} {v:Value} {r:Reach} (hl:lay P 80 t=some c) (hv:Value.okWide P w r base t v) (hc:∀ cs,c ≠ .prod cs):v.cells = #[v]:=by
 unfold lay at hl
 unfold Value.okWide at hv
 split at hl
 ·rename_i k hu
  simp only [hu] at hv
  simp only [Cell.okWide,hu,Cell.ok] at hv
  cases v <;> first | rfl | (simp at hv; done)
 ·rename_i hu
  simp only [hu] at hv
  simp only [Cell.okWide,hu,Cell.ok] at hv
  cases v <;> first | rfl | (simp at hv; done)
 ·rename_i hu
  simp only [hu] at hv
  simp only [Cell.okWide,hu,Cell.ok] at hv
  cases v <;> first | rfl | (simp at hv; done)
 ·split at hl
  rotate_left
  ·cases hl
  split at hl
  rotate_left
  ·cases hl
  simp only [Option.some.injEq] at hl
  exact absurd hl.symm (hc _)
 ·split at hl
  rotate_left
  ·cases hl
  split at hl
  rotate_left
  ·cases hl
  simp only [Option.some.injEq] at hl
  exact absurd hl.symm (hc _)
 ·cases hl
theorem cells_agg {t:TypeId} {cs:List EC} {v:Value} {r:Reach} (hl:lay P 80 t=some (.prod cs)) (hv:Value.okWide P w r base t v):∃ xs:Array Value,v = .agg xs∧xs.size=EC.sizes cs:=by
 unfold lay at hl
 unfold Value.okWide at hv
 split at hl
 ·simp at hl
 ·simp at hl
 ·simp at hl
 ·rename_i fs hu
  simp only [hu] at hv
  split at hl
  rotate_left
  ·cases hl
  split at hl
  rotate_left
  ·cases hl
  rename_i hsz
  simp only [Option.some.injEq,EC.prod.injEq] at hl
  subst hl
  obtain ⟨xs,rfl,h1,_⟩:=hv
  exact ⟨xs,rfl,by rw [h1,hsz]⟩
 ·rename_i n e hu
  simp only [hu] at hv
  split at hl
  rotate_left
  ·cases hl
  split at hl
  rotate_left
  ·cases hl
  rename_i hsz
  simp only [Option.some.injEq,EC.prod.injEq] at hl
  subst hl
  obtain ⟨xs,rfl,h1,_⟩:=hv
  exact ⟨xs,rfl,by rw [h1,hsz]⟩
 ·cases hl
theorem okWide_sl {t e:TypeId} {v:Value} {r:Reach} (hu:P.underlying t=some (.slice e)) (hv:Value.okWide P w r base t v) :
  v = .slice none 0 0 ∨ ∃ b o len cap,v = .slice (some ⟨b,o,none⟩) len cap:=by
 unfold Value.okWide at hv
 simp only [hu] at hv
 cases v
 case slice a len cap =>
  cases a with
  | none =>
   simp only [Cell.okWide,hu,Cell.ok] at hv
   split at hv
   all_goals first | (simp_all; done) | skip
  | some a =>
   simp only [Cell.okWide,hu,Cell.ok] at hv
   obtain ⟨_,_,_,hs,_⟩:=hv
   obtain ⟨b,o,s⟩:=a
   simp only at hs
   subst hs
   exact .inr ⟨b,o,len,cap,rfl⟩
 all_goals simp [Cell.okWide,hu,Cell.ok] at hv
theorem arg_R {t:TypeId} {c:EC} {v:Value} {d:DataW H} {ps:List MemPlace} {r:Reach} (hl:layP P t=some c) (hv:Value.okWide P w r base t v)
  (ht:DataW.Trod en P w 0 sp hd t v d ps):∃ x:c.ty,okE c x∧R w (fun _ _=>False) [] (argV c x) v:=by
 obtain ⟨fuel,ht⟩:=ht
 unfold layP at hl
 split at hl
 ·rename_i e hu
  split at hl
  rotate_left
  ·cases hl
  rename_i c' hc'
  split at hl
  rotate_left
  ·cases hl
  rename_i hsz
  simp only [Option.some.injEq] at hl
  subst hl
  rcases okWide_sl hu hv with rfl | ⟨b,o,len,cap,rfl⟩
  ·exact ⟨(none:Option (List c'.ty)),trivial,.nil _ _⟩
  ·rcases Go.Deep.open_slice hu ht with ⟨h0,_⟩ | ⟨a,len',cap',m,n,D,Pl,hcs,_,hle,hmax,hm,_,hx⟩
   ·simp [Value.cells] at h0
   simp only [Value.cells,List.cons.injEq,Value.slice.injEq,Option.some.injEq,and_true] at hcs
   obtain ⟨rfl,rfl,rfl⟩:=hcs
   have hlm:len≤m:=by rw [hm]; split <;> omega
   have hel:∀ i,i<len → ∃ x:c'.ty,okE c' x ∧ ∀ (k:Nat) v,(enc c' x)[k]? = some v → ∃ z,w.cell? ⟨b,o+i*c'.size+k,none⟩=some z∧R w (fun _ _=>False) [] v z:=by
    intro i hi
    obtain ⟨cs',h1,h2⟩:=hx i (by omega)
    obtain ⟨x,x1,x2⟩:=trod_lay (X:=fun _ _=>False) 80 e c' n cs' _ hc' h2
    obtain ⟨_,hlen,hcell⟩:=World.cells?_some h1
    refine ⟨x,x1,fun k v hv=>?_⟩
    obtain ⟨z,hz,hr⟩:=x2 k v hv
    refine ⟨z,?_,hr⟩
    have hk:k<P.cellsOf e:=by
     rw [← hlen]
     exact (List.getElem?_eq_some_iff.1 hz).1
    have:=hcell k hk
    rw [hz,add_plain,add_plain,hsz.1] at this
    exact this
   obtain ⟨f,hf⟩:=choose_lt' hel
   have hg:∀ i k,i<len→k<c'.size → ∃ z,w.cell? ⟨b,o+i*c'.size+k,none⟩=some z:=fun i k hi hk=>by
    obtain ⟨z,hz,_⟩:=(hf i hi).2 k _ (List.getElem?_eq_getElem (by rw [enc_size]; exact hk))
    exact ⟨z,hz⟩
   refine ⟨(some ((List.range len).map f):Option (List c'.ty)),⟨by simp; omega,fun x hx=>?_⟩,?_⟩
   ·obtain ⟨i,hi,rfl⟩:=List.mem_map.1 hx
    exact (hf i (List.mem_range.1 hi)).1
   ·have:=R.sl (w:=w) (X:=fun _ _=>False) [] c' ((List.range len).map f) [] .may b o cap (fun i k=>(w.cell? ⟨b,o+i*c'.size+k,none⟩).getD undef)
     (by simp; omega) (fun h=>by cases h) (fun h=>by cases h) (fun i k hi hk=>⟨fun h=>h,by
      obtain ⟨z,hz⟩:=hg i k (by simpa using hi) hk
      rw [hz]; rfl⟩) (fun i x k v h1 h2=>by
      simp only [List.append_nil,List.getElem?_map,Option.map_eq_some_iff] at h1
      obtain ⟨j,hj,rfl⟩:=h1
      obtain ⟨hj1,hj2⟩:=List.getElem?_eq_some_iff.1 hj
      simp only [List.length_range] at hj1
      simp only [List.getElem_range] at hj2
      subst hj2
      obtain ⟨z,hz,hr⟩:=(hf i hj1).2 k v h2
      rw [hz]; exact hr)
    simp only [List.length_map,List.length_range] at this
    exact this
 ·cases c with
  | prod cs =>
   obtain ⟨xs,rfl,hsz⟩:=cells_agg hl hv
   obtain ⟨x,x1,x2⟩:=trod_lay (X:=fun _ _=>False) 80 t _ fuel _ _ hl ht
   refine ⟨x,x1,?_⟩
   have:=R.agg (w:=w) (X:=fun _ _=>False) [] (encs cs x) xs.toList (by rw [show (encs cs x).length=EC.sizes cs from enc_size (.prod cs) x]; simpa using hsz) (fun k v y h1 h2=>by
    obtain ⟨z,hz,hr⟩:=x2 k v (by simpa [enc] using h1)
    simp only [Value.cells] at hz
    rw [hz] at h2
    simp only [Option.some.injEq] at h2
    subst h2
    exact hr)
   simpa [argV] using this
  | sl c=>exact (flat_not_sl hl).elim
  | int k =>
   have hc:=cells_one hl hv (by simp)
   obtain ⟨x,x1,x2⟩:=trod_lay (X:=fun _ _=>False) 80 t _ fuel _ _ hl ht
   obtain ⟨z,hz,hr⟩:=x2 0 _ rfl
   simp only [hc,List.getElem?_cons_zero,Option.some.injEq] at hz
   subst hz
   exact ⟨x,x1,hr⟩
  | bool =>
   have hc:=cells_one hl hv (by simp)
   obtain ⟨x,x1,x2⟩:=trod_lay (X:=fun _ _=>False) 80 t _ fuel _ _ hl ht
   obtain ⟨z,hz,hr⟩:=x2 0 _ rfl
   simp only [hc,List.getElem?_cons_zero,Option.some.injEq] at hz
   subst hz
   exact ⟨x,x1,hr⟩
  | str =>
   have hc:=cells_one hl hv (by simp)
   obtain ⟨x,x1,x2⟩:=trod_lay (X:=fun _ _=>False) 80 t _ fuel _ _ hl ht
   obtain ⟨z,hz,hr⟩:=x2 0 _ rfl
   simp only [hc,List.getElem?_cons_zero,Option.some.injEq] at hz
   subst hz
   exact ⟨x,x1,hr⟩
theorem okWide_of_get {ts:List TypeId} {vs:List Value} {t:TypeId} {v:Value} {r:Reach} (h:∀ (j:Nat) t' v',(t :: ts)[j]? = some t' → (v :: vs)[j]? = some v' → Value.okWide P w r base t' v') :
  Value.okWide P w r base t v ∧ ∀ (j:Nat) t' v',ts[j]? = some t' → vs[j]? = some v' → Value.okWide P w r base t' v' :=
 ⟨h 0 t v rfl rfl,fun j t' v' h1 h2=>h (j+1) t' v' (by simpa using h1) (by simpa using h2)⟩
def layPs (P:Program):List TypeId→Option (List EC)
 | []=>some []
 | t :: r=>match layP P t,layPs P r with
  | some c,some cs=>some (c :: cs)
  | _,_=>none
theorem args_R {r:Reach}:∀ {ts:List TypeId} {cs:List EC} {vs:List Value} {ds:List (DataW H)} {ps:List MemPlace},layPs P ts=some cs →
  (∀ (j:Nat) t v,ts[j]? = some t→vs[j]? = some v→Value.okWide P w r base t v)→DataW.TrodAll en P w 0 sp hd ts vs ds ps →
  ∃ x:EC.tys cs,okEs cs x∧vs.length=(argVs cs x).length∧ds.length=ts.length ∧ ∀ (k:Nat) v z,(argVs cs x)[k]? = some v→vs[k]? = some z→R w (fun _ _=>False) [] v z
 | [],cs,vs,ds,ps,hl,hv,ht=>by
  simp only [layPs,Option.some.injEq] at hl
  subst hl
  obtain ⟨rfl,rfl,rfl⟩:=trodAll_nil ht
  exact ⟨(),trivial,rfl,rfl,fun k v z h=>by simp [argVs] at h⟩
 | t :: ts,cs,vs,ds,ps,hl,hv,ht=>by
  unfold layPs at hl
  split at hl
  rotate_left
  ·cases hl
  rename_i c cs' hc hcs
  simp only [Option.some.injEq] at hl
  subst hl
  obtain ⟨v,vs',d,ds',p,q,rfl,rfl,rfl,h1,h2⟩:=trodAll_cons ht
  obtain ⟨g1,g2⟩:=okWide_of_get hv
  obtain ⟨x1,a1,a2⟩:=arg_R hc g1 h1
  obtain ⟨x2,b1,b2,b3,b4⟩:=args_R hcs g2 h2
  match cs',x2,b1,b2,b4 with
  | [],x2,b1,b2,b4 =>
   refine ⟨x1,by simpa [okEs] using a1,by simpa [argVs] using b2,by simp [b3],fun k u z hu hz=>?_⟩
   match k,hu,hz with
   | 0,hu,hz =>
    simp only [argVs,List.getElem?_cons_zero,Option.some.injEq] at hu hz
    subst hu; subst hz
    exact a2
  | e :: es,x2,b1,b2,b4 =>
   refine ⟨(x1,x2),by simpa [okEs] using ⟨a1,b1⟩,by simpa [argVs] using b2,by simp [b3],fun k u z hu hz=>?_⟩
   cases k with
   | zero =>
    simp only [argVs,List.getElem?_cons_zero,Option.some.injEq] at hu hz
    subst hu; subst hz
    exact a2
   | succ k=>exact b4 k u z (by simpa [argVs] using hu) (by simpa using hz)
def readable (P:Program) (ts:List TypeId):Bool:=ts.all fun t=>P.readableRec t && decide (t<P.types.size)
theorem args_stay {W W' : World} (hlaid:laidOutB P=true) (hb:Below W.heap.size W W'):∀ {ts:List TypeId} {vs:List Value} {ds:List (DataW H)} {ps:List MemPlace},readable P ts=true →
  DataW.TrodAll en P W 0 (fun _=>true) true ts vs ds ps→(∀ x ∈ ps,x.block<W.heap.size)→DataW.TrodAll en P W' 0 (fun b=>decide (b<W.heap.size)) true ts vs ds ps
 | [],vs,ds,ps,_,ht,_=>by
  obtain ⟨rfl,rfl,rfl⟩:=trodAll_nil ht
  rfl
 | t :: ts,vs,ds,ps,hr,ht,hlt=>by
  obtain ⟨v,vs',d,ds',p,q,rfl,rfl,rfl,h1,h2⟩:=trodAll_cons ht
  simp only [readable,List.all_cons,Bool.and_eq_true,decide_eq_true_eq] at hr
  exact ⟨p,q,Below.trod hlaid hr.1.1 hr.1.2 h1 hb (fun x hx=>hlt x (by simp [hx])),args_stay hlaid hb (by simpa [readable] using hr.2) h2 (fun x hx=>hlt x (by simp [hx])),rfl⟩
theorem below_step {W W' : World} (s:Step (fun _ _=>False) [] [] W [] [] W'):Below W.heap.size W W' :=
 ⟨s.os,s.tape,s.output,s.size,fun b hb=>by
  rcases s.pres b hb with h | ⟨⟨o,h⟩,_⟩ | ⟨⟨o,h⟩,_⟩
  ·exact h
  ·exact absurd h (own_nil b o)
  ·exact absurd h (own_nil b o)⟩
def resBool (P:Program) (ts:List TypeId):Bool:=
 match ts with
 | [t]=>match P.underlying t with
  | some .bool=>true
  | _=>false
 | _=>false
theorem resBool_some {ts:Array TypeId} (h:resBool P ts.toList=true):∃ t,ts = #[t]∧P.underlying t=some .bool:=by
 unfold resBool at h
 split at h
 ·rename_i t ht
  split at h
  ·rename_i hu
   exact ⟨t,by apply Array.ext'; simpa using ht,hu⟩
  ·cases h
 ·cases h
theorem law_contract {f:FuncId} {fn:Func} {s:ChangeSpec} {cs:List EC} {apart fresh handsOn:Bool} (hlaid:laidOutB P=true) (hts:layPs P fn.params.toList=some cs) (hrd:readable P fn.params.toList=true)
  (hrb:resBool P fn.resultTypes.toList=true) (hvars:s.vars=[])
  (hs:∀ ds:List (DataW H),ds.length=fn.params.toList.length→s.fn H ds = { results:=[.lit (.bool true)],args:=ds })
  (hpc:∀ x:EC.tys cs,okEs cs x→PCall P f (argVs cs x) (.bool true))
  (W:World) (base:Nat) (args:Array Value) (ds gs:List (DataW H)) (before:List MemPlace) (hG:Gs P W fun _ _=>False)
  (hval:∀ (j:Nat) t v,fn.params[j]? = some t→args[j]? = some v→Value.okWide P W .any base t v)
  (hW:DataW.Whole en P fn.params.toList s.vars apart W args.toList ds gs before) :
  Calls P f args W fun e W' => ∃ v,e = .returned v∧s.post en P fn apart fresh handsOn false W args v W' := by
 have hW0:=hW
 obtain ⟨tb,hres,htb⟩:=resBool_some hrb
 obtain ⟨p,q,hA,hV,rfl,hfz,hnd⟩:=hW
 rw [hvars] at hV
 obtain ⟨rfl,rfl⟩:gs=[]∧q=[]:=by
  cases gs with
  | nil=>exact ⟨rfl,hV⟩
  | cons g gs=>exact hV.elim
 obtain ⟨x,x1,x2,x3,x4⟩:=args_R hts (fun j t v h1 h2=>hval j t v (by simpa using h1) (by simpa using h2)) hA
 have hlt:=hW0.lt
 simp only [List.append_nil] at hlt hW0
 have:=(hpc x x1).2 W (fun _ _=>False) args.toList ⟨fun _ _ h=>h.elim,hG⟩ x2 x4
 simp only [Array.toArray_toList] at this
 refine this.mono ?_
 rintro e W' ⟨y,rfl,st,hr⟩
 have hb:=below_step st
 cases hr
 refine ⟨_,rfl,ds,[],p,[],p,[],hW0,?_,?_,?_,?_,fun h=>by cases h⟩
 ·rw [List.append_nil,hs ds x3,hres]
  exact trodAll_mk1 (shut_bool htb true)
 ·rw [List.append_nil,hs ds x3]
  exact args_stay hlaid hb hrd hA hlt
 ·rw [List.append_nil,hs ds x3,hvars]
  rfl
 ·exact hb.frame _
end
end Go.Ab

namespace Go.Cmp
open Go Go.Ab Go.Proofs
theorem cx0_ok {cx:Cx} (h1:cx.tab=[]) (h2:cx.mtab=[]) (h3:cx.rtab=[]:=by rfl) (h4:∀ p ∈ cx.globs,p ∈ globsOf cx.P:=by intro p h; cases h):CxOk cx:=by
 refine ⟨?_,?_,?_,h4⟩
 ·rw [h1]; exact .nil _
 ·rw [h2]; intro p h; cases h
 ·rw [h3]; exact .nil _
theorem cx1_ok {cx:Cx} {t:List (Nat × Ab.Spec)} {m:List (Nat × MSpec)} (ht:TabOk cx.P t) (hm:MTabOk cx.P m) (h1:cx.tab=t) (h2:cx.mtab=m) (h3:cx.rtab=[]:=by rfl) (h4:∀ p ∈ cx.globs,p ∈ globsOf cx.P:=by intro p h; cases h):CxOk cx:=by
 refine ⟨?_,?_,?_,h4⟩
 ·rw [h1]; exact ht
 ·rw [h2]; exact hm
 ·rw [h3]; exact .nil _
theorem ok1 {P:Program} {f:Nat} {s:Ab.Spec} (h:Sound P f s):TabOk P [(f,s)]:=.cons h (.nil _)
theorem tabs_ok {P:Program} {t:List (Nat × Ab.Spec)} {m:List (Nat × MSpec)} (ht:TabOk P t) (hm:MTabOk P m):Tabs.Ok P { tab:=t,mtab:=m }:=⟨ht,hm,.nil _,fun p h=>by cases h⟩
abbrev RowT:=List UInt8 × List UInt8 × Int × Int × Int × List UInt8 × List UInt8
abbrev rowE:EC:=.prod [.str,.str,.int .i64,.int .i64,.int .i64,.str,.str]
abbrev insE:EC:=.prod [.str,.int .i64,.int .i64,.int .i64,.int .i64,.int .i64]
abbrev InsT:=List UInt8 × Int × Int × Int × Int × Int
abbrev rowL (x:RowT):List V:=[.str x.1,.str x.2.1,.int .i64 x.2.2.1,.int .i64 x.2.2.2.1,.int .i64 x.2.2.2.2.1,.str x.2.2.2.2.2.1,.str x.2.2.2.2.2.2]
abbrev insL (i:InsT):List V:=[.str i.1,.int .i64 i.2.1,.int .i64 i.2.2.1,.int .i64 i.2.2.2.1,.int .i64 i.2.2.2.2.1,.int .i64 i.2.2.2.2.2]
abbrev insV (i:InsT):V:=.agg (insL i)
def rowsL:List RowT:=[
 ([99,46,97,100,100,105,52,115,112,110],[48,48,48,32,115,91,53,58,52,93,32,115,91,57,58,54,93,32,115,91,50,93,32,115,91,51,93,32,97,39,32,48,48],4,1020,4,[],[97,100,100,105,32,65,32,50,32,48,32,115]),
 ([99,46,108,119],[48,49,48,32,115,91,53,58,51,93,32,98,39,32,115,91,50,93,32,115,91,54,93,32,97,39,32,48,48],0,124,4,[],[108,119,32,65,32,66,32,48,32,115]),
 ([99,46,108,100],[48,49,49,32,115,91,53,58,51,93,32,98,39,32,115,91,55,58,54,93,32,97,39,32,48,48],0,248,8,[],[108,100,32,65,32,66,32,48,32,115]),
 ([99,46,115,119],[49,49,48,32,115,91,53,58,51,93,32,98,39,32,115,91,50,93,32,115,91,54,93,32,99,39,32,48,48],0,124,4,[],[115,119,32,48,32,66,32,67,32,115]),
 ([99,46,115,100],[49,49,49,32,115,91,53,58,51,93,32,98,39,32,115,91,55,58,54,93,32,99,39,32,48,48],0,248,8,[],[115,100,32,48,32,66,32,67,32,115]),
 ([99,46,110,111,112],[48,48,48,32,48,32,48,48,48,48,48,32,48,48,48,48,48,32,48,49],0,0,1,[],[97,100,100,105,32,48,32,48,32,48,32,48]),
 ([99,46,97,100,100,105],[48,48,48,32,115,91,53,93,32,97,32,115,91,52,58,48,93,32,48,49],-32,31,1,[115,65],[97,100,100,105,32,65,32,65,32,48,32,115]),
 ([99,46,97,100,100,105,119],[48,48,49,32,115,91,53,93,32,97,32,115,91,52,58,48,93,32,48,49],-32,31,1,[65],[97,100,100,105,119,32,65,32,65,32,48,32,115]),
 ([99,46,108,105],[48,49,48,32,115,91,53,93,32,97,32,115,91,52,58,48,93,32,48,49],-32,31,1,[65],[97,100,100,105,32,65,32,48,32,48,32,115]),
 ([99,46,97,100,100,105,49,54,115,112],[48,49,49,32,115,91,57,93,32,48,48,48,49,48,32,115,91,52,93,32,115,91,54,93,32,115,91,56,58,55,93,32,115,91,53,93,32,48,49],-512,496,16,[115],[97,100,100,105,32,50,32,50,32,48,32,115]),
 ([99,46,108,117,105],[48,49,49,32,115,91,53,93,32,97,32,115,91,52,58,48,93,32,48,49],-32,31,1,[115,65,50],[108,117,105,32,65,32,48,32,48,32,115]),
 ([99,46,115,114,108,105],[49,48,48,32,115,91,53,93,32,48,48,32,97,39,32,115,91,52,58,48,93,32,48,49],1,63,1,[],[115,114,108,105,32,65,32,65,32,48,32,115]),
 ([99,46,115,114,97,105],[49,48,48,32,115,91,53,93,32,48,49,32,97,39,32,115,91,52,58,48,93,32,48,49],1,63,1,[],[115,114,97,105,32,65,32,65,32,48,32,115]),
 ([99,46,97,110,100,105],[49,48,48,32,115,91,53,93,32,49,48,32,97,39,32,115,91,52,58,48,93,32,48,49],-32,31,1,[],[97,110,100,105,32,65,32,65,32,48,32,115]),
 ([99,46,115,117,98],[49,48,48,32,48,32,49,49,32,97,39,32,48,48,32,99,39,32,48,49],0,0,1,[],[115,117,98,32,65,32,65,32,67,32,48]),
 ([99,46,120,111,114],[49,48,48,32,48,32,49,49,32,97,39,32,48,49,32,99,39,32,48,49],0,0,1,[],[120,111,114,32,65,32,65,32,67,32,48]),
 ([99,46,111,114],[49,48,48,32,48,32,49,49,32,97,39,32,49,48,32,99,39,32,48,49],0,0,1,[],[111,114,32,65,32,65,32,67,32,48]),
 ([99,46,97,110,100],[49,48,48,32,48,32,49,49,32,97,39,32,49,49,32,99,39,32,48,49],0,0,1,[],[97,110,100,32,65,32,65,32,67,32,48]),
 ([99,46,115,117,98,119],[49,48,48,32,49,32,49,49,32,97,39,32,48,48,32,99,39,32,48,49],0,0,1,[],[115,117,98,119,32,65,32,65,32,67,32,48]),
 ([99,46,97,100,100,119],[49,48,48,32,49,32,49,49,32,97,39,32,48,49,32,99,39,32,48,49],0,0,1,[],[97,100,100,119,32,65,32,65,32,67,32,48]),
 ([99,46,106],[49,48,49,32,115,91,49,49,93,32,115,91,52,93,32,115,91,57,58,56,93,32,115,91,49,48,93,32,115,91,54,93,32,115,91,55,93,32,115,91,51,58,49,93,32,115,91,53,93,32,48,49],-2048,2046,2,[],[106,97,108,32,48,32,48,32,48,32,115]),
 ([99,46,98,101,113,122],[49,49,48,32,115,91,56,93,32,115,91,52,58,51,93,32,98,39,32,115,91,55,58,54,93,32,115,91,50,58,49,93,32,115,91,53,93,32,48,49],-256,254,2,[],[98,101,113,32,48,32,66,32,48,32,115]),
 ([99,46,98,110,101,122],[49,49,49,32,115,91,56,93,32,115,91,52,58,51,93,32,98,39,32,115,91,55,58,54,93,32,115,91,50,58,49,93,32,115,91,53,93,32,48,49],-256,254,2,[],[98,110,101,32,48,32,66,32,48,32,115]),
 ([99,46,115,108,108,105],[48,48,48,32,115,91,53,93,32,97,32,115,91,52,58,48,93,32,49,48],1,63,1,[65],[115,108,108,105,32,65,32,65,32,48,32,115]),
 ([99,46,108,119,115,112],[48,49,48,32,115,91,53,93,32,97,32,115,91,52,58,50,93,32,115,91,55,58,54,93,32,49,48],0,252,4,[65],[108,119,32,65,32,50,32,48,32,115]),
 ([99,46,108,100,115,112],[48,49,49,32,115,91,53,93,32,97,32,115,91,52,58,51,93,32,115,91,56,58,54,93,32,49,48],0,504,8,[65],[108,100,32,65,32,50,32,48,32,115]),
 ([99,46,106,114],[49,48,48,32,48,32,98,32,48,48,48,48,48,32,49,48],0,0,1,[66],[106,97,108,114,32,48,32,66,32,48,32,48]),
 ([99,46,106,97,108,114],[49,48,48,32,49,32,98,32,48,48,48,48,48,32,49,48],0,0,1,[66],[106,97,108,114,32,49,32,66,32,48,32,48]),
 ([99,46,109,118],[49,48,48,32,48,32,97,32,99,32,49,48],0,0,1,[65,67],[97,100,100,32,65,32,48,32,67,32,48]),
 ([99,46,97,100,100],[49,48,48,32,49,32,97,32,99,32,49,48],0,0,1,[65,67],[97,100,100,32,65,32,65,32,67,32,48]),
 ([99,46,101,98,114,101,97,107],[49,48,48,32,49,32,48,48,48,48,48,32,48,48,48,48,48,32,49,48],0,0,1,[],[101,98,114,101,97,107,32,48,32,48,32,48,32,48]),
 ([99,46,115,119,115,112],[49,49,48,32,115,91,53,58,50,93,32,115,91,55,58,54,93,32,99,32,49,48],0,252,4,[],[115,119,32,48,32,50,32,67,32,115]),
 ([99,46,115,100,115,112],[49,49,49,32,115,91,53,58,51,93,32,115,91,56,58,54,93,32,99,32,49,48],0,504,8,[],[115,100,32,48,32,50,32,67,32,115])]
noncomputable def cx142:Cx:={ P:=Tryz.prog,n:=35,tab:=[],mtab:=[],refs:=[],keeps:=[0] }
theorem rows_eq:(dfun cx142 Tryz.f142 []).run=some (.sl rowE rowsL [] .full):=by kernel_rfl
def rowsS:Ab.Spec:=fun args=>match args with
 | []=>.leaf (.sl rowE rowsL [] .full)
 | _=>.fail
theorem rowsS_ok:Sound Tryz.prog 142 rowsS:=by
 intro args out h
 unfold rowsS at h
 split at h
 rotate_left
 ·cases h
 cases h
 refine pcall_fun' (cx:=cx142) (fn:=Tryz.f142) (cx0_ok rfl rfl) (by kernel_rfl) (by kernel_rfl) (by kernel_rfl) rows_eq
def asciiT:List V:=[.int .u8 0,.int .u8 0,.int .u8 0,.int .u8 0,.int .u8 0,.int .u8 0,.int .u8 0,.int .u8 0,.int .u8 0,.int .u8 1,.int .u8 1,.int .u8 1,.int .u8 1,.int .u8 1,.int .u8 0,.int .u8 0,.int .u8 0,.int .u8 0,.int .u8 0,.int .u8 0,.int .u8 0,.int .u8 0,.int .u8 0,.int .u8 0,.int .u8 0,.int .u8 0,.int .u8 0,.int .u8 0,.int .u8 0,.int .u8 0,.int .u8 0,.int .u8 0,.int .u8 1,.int .u8 0,.int .u8 0,.int .u8 0,.int .u8 0,.int .u8 0,.int .u8 0,.int .u8 0,.int .u8 0,.int .u8 0,.int .u8 0,.int .u8 0,.int .u8 0,.int .u8 0,.int .u8 0,.int .u8 0,.int .u8 0,.int .u8 0,.int .u8 0,.int .u8 0,.int .u8 0,.int .u8 0,.int .u8 0,.int .u8 0,.int .u8 0,.int .u8 0,.int .u8 0,.int .u8 0,.int .u8 0,.int .u8 0,.int .u8 0,.int .u8 0,.int .u8 0,.int .u8 0,.int .u8 0,.int .u8 0,.int .u8 0,.int .u8 0,.int .u8 0,.int .u8 0,.int .u8 0,.int .u8 0,.int .u8 0,.int .u8 0,.int .u8 0,.int .u8 0,.int .u8 0,.int .u8 0,.int .u8 0,.int .u8 0,.int .u8 0,.int .u8 0,.int .u8 0,.int .u8 0,.int .u8 0,.int .u8 0,.int .u8 0,.int .u8 0,.int .u8 0,.int .u8 0,.int .u8 0,.int .u8 0,.int .u8 0,.int .u8 0,.int .u8 0,.int .u8 0,.int .u8 0,.int .u8 0,.int .u8 0,.int .u8 0,.int .u8 0,.int .u8 0,.int .u8 0,.int .u8 0,.int .u8 0,.int .u8 0,.int .u8 0,.int .u8 0,.int .u8 0,.int .u8 0,.int .u8 0,.int .u8 0,.int .u8 0,.int .u8 0,.int .u8 0,.int .u8 0,.int .u8 0,.int .u8 0,.int .u8 0,.int .u8 0,.int .u8 0,.int .u8 0,.int .u8 0,.int .u8 0,.int .u8 0,.int .u8 0,.int .u8 0,.int .u8 0,.int .u8 0,.int .u8 0,.int .u8 0,.int .u8 0,.int .u8 0,.int .u8 0,.int .u8 0,.int .u8 0,.int .u8 0,.int .u8 0,.int .u8 0,.int .u8 0,.int .u8 0,.int .u8 0,.int .u8 0,.int .u8 0,.int .u8 0,.int .u8 0,.int .u8 0,.int .u8 0,.int .u8 0,.int .u8 0,.int .u8 0,.int .u8 0,.int .u8 0,.int .u8 0,.int .u8 0,.int .u8 0,.int .u8 0,.int .u8 0,.int .u8 0,.int .u8 0,.int .u8 0,.int .u8 0,.int .u8 0,.int .u8 0,.int .u8 0,.int .u8 0,.int .u8 0,.int .u8 0,.int .u8 0,.int .u8 0,.int .u8 0,.int .u8 0,.int .u8 0,.int .u8 0,.int .u8 0,.int .u8 0,.int .u8 0,.int .u8 0,.int .u8 0,.int .u8 0,.int .u8 0,.int .u8 0,.int .u8 0,.int .u8 0,.int .u8 0,.int .u8 0,.int .u8 0,.int .u8 0,.int .u8 0,.int .u8 0,.int .u8 0,.int .u8 0,.int .u8 0,.int .u8 0,.int .u8 0,.int .u8 0,.int .u8 0,.int .u8 0,.int .u8 0,.int .u8 0,.int .u8 0,.int .u8 0,.int .u8 0,.int .u8 0,.int .u8 0,.int .u8 0,.int .u8 0,.int .u8 0,.int .u8 0,.int .u8 0,.int .u8 0,.int .u8 0,.int .u8 0,.int .u8 0,.int .u8 0,.int .u8 0,.int .u8 0,.int .u8 0,.int .u8 0,.int .u8 0,.int .u8 0,.int .u8 0,.int .u8 0,.int .u8 0,.int .u8 0,.int .u8 0,.int .u8 0,.int .u8 0,.int .u8 0,.int .u8 0,.int .u8 0,.int .u8 0,.int .u8 0,.int .u8 0,.int .u8 0,.int .u8 0,.int .u8 0,.int .u8 0,.int .u8 0,.int .u8 0,.int .u8 0,.int .u8 0,.int .u8 0,.int .u8 0,.int .u8 0,.int .u8 0,.int .u8 0,.int .u8 0,.int .u8 0,.int .u8 0,.int .u8 0,.int .u8 0,.int .u8 0,.int .u8 0]
def globsL:List (Nat × List V):=[(0,asciiT),(3,[.ifc 339 .any])]
theorem globs_eq:globsOf Tryz.prog=globsL:=by kernel_rfl
theorem globs_ok:∀ p ∈ globsL,p ∈ globsOf Tryz.prog:=fun p h=>by rw [globs_eq]; exact h
abbrev fldE:EC:=.prod [.int .i64,.int .u8,.int .u16,.int .i64,.bool]
abbrev FldT:=Int × Int × Int × Int × Bool
theorem idx_ok:XSound Tryz.prog 264 idxByteS:=idxByteS_ok (fn:=Tryz.f264) (by kernel_rfl) (by kernel_rfl) (by kernel_rfl) (by kernel_rfl) (by kernel_rfl)
noncomputable def libT_ps:List Fi:=[⟨88,Tryz.f88,[0,1,4,5,6],[],0,[]⟩,⟨150,Tryz.f150,[0,1,4,5,6,7,12],[],0,[]⟩,⟨207,Tryz.f207,[0,1,4,5,6,7,8,9,10,11,12,13,16,24,31,36,59,64,73,93,107,114,132,139],[],40,[]⟩,⟨246,Tryz.f246,[0,1,4],[],0,[]⟩,⟨89,Tryz.f89,[0,2,3,4,5,12],[],0,[]⟩,⟨151,Tryz.f151,[0,2,3,4,5,6,8,9,10,30,39,44,47,48,49,50,56,66],[],10,[]⟩,⟨90,Tryz.f90,[0,1,2,6,7,8,9,18],[],0,[]⟩,⟨153,Tryz.f153,[0,1,2,6,7,8,9,10,11,12,13,15,16,17,19,25,32,37,40,52,64,77,83,85,90,92,99,100,101,102,106,112,121,137,141,159,169],[],20,[]⟩,⟨147,Tryz.f147,[0,1,4],[],0,[]⟩,⟨205,Tryz.f205,[0,1,4],[],0,[]⟩,⟨152,Tryz.f152,[0,1,2,3,4,10,11,12,19,26,34],[],0,[]⟩,⟨209,Tryz.f209,[0,1,4],[],0,[]⟩,⟨250,Tryz.f250,[0,2,3,6],[],0,[]⟩,⟨213,Tryz.f213,[0,2],[],0,[]⟩,⟨208,Tryz.f208,[0,1,2,6,7,8,9,10,11,13,16,17,21,38,41,52,62,69],[],0,[]⟩]
theorem libT_ps_ok:FisOk Tryz.prog libT_ps:=⟨⟨by kernel_rfl,by kernel_rfl⟩,⟨by kernel_rfl,by kernel_rfl⟩,⟨by kernel_rfl,by kernel_rfl⟩,⟨by kernel_rfl,by kernel_rfl⟩,⟨by kernel_rfl,by kernel_rfl⟩,⟨by kernel_rfl,by kernel_rfl⟩,⟨by kernel_rfl,by kernel_rfl⟩,⟨by kernel_rfl,by kernel_rfl⟩,⟨by kernel_rfl,by kernel_rfl⟩,⟨by kernel_rfl,by kernel_rfl⟩,⟨by kernel_rfl,by kernel_rfl⟩,⟨by kernel_rfl,by kernel_rfl⟩,⟨by kernel_rfl,by kernel_rfl⟩,⟨by kernel_rfl,by kernel_rfl⟩,⟨by kernel_rfl,by kernel_rfl⟩,trivial⟩
noncomputable def libT_ms:List Fi:=[⟨87,Tryz.f87,[0,2,3,4,5,6,7,8,9,10,11,12,16,37,53,60,66,91,98],[41],64,[]⟩]
theorem libT_ms_ok:FisOk Tryz.prog libT_ms:=⟨⟨by kernel_rfl,by kernel_rfl⟩,trivial⟩
noncomputable def libT (d:Nat):Tabs:=deep Tryz.prog { tab:=[(264,idxByteS)],globs:=globsL } libT_ps libT_ms d
theorem libT_ok (d:Nat):(libT d).Ok Tryz.prog:=deep_ok ⟨.consX idx_ok (.nil _),(fun p h=>by cases h),.nil _,globs_ok⟩ libT_ps_ok libT_ms_ok d
end Go.Cmp

namespace Go.Cmp
open Go Go.Ab Go.Proofs
def wordsL:List (List UInt8 × List (List UInt8)):=[
 ([48,48,48,32,115,91,53,58,52,93,32,115,91,57,58,54,93,32,115,91,50,93,32,115,91,51,93,32,97,39,32,48,48],[[48,48,48],[115,91,53,58,52,93],[115,91,57,58,54,93],[115,91,50,93],[115,91,51,93],[97,39],[48,48]]),
 ([48,49,48,32,115,91,53,58,51,93,32,98,39,32,115,91,50,93,32,115,91,54,93,32,97,39,32,48,48],[[48,49,48],[115,91,53,58,51,93],[98,39],[115,91,50,93],[115,91,54,93],[97,39],[48,48]]),
 ([48,49,49,32,115,91,53,58,51,93,32,98,39,32,115,91,55,58,54,93,32,97,39,32,48,48],[[48,49,49],[115,91,53,58,51,93],[98,39],[115,91,55,58,54,93],[97,39],[48,48]]),
 ([49,49,48,32,115,91,53,58,51,93,32,98,39,32,115,91,50,93,32,115,91,54,93,32,99,39,32,48,48],[[49,49,48],[115,91,53,58,51,93],[98,39],[115,91,50,93],[115,91,54,93],[99,39],[48,48]]),
 ([49,49,49,32,115,91,53,58,51,93,32,98,39,32,115,91,55,58,54,93,32,99,39,32,48,48],[[49,49,49],[115,91,53,58,51,93],[98,39],[115,91,55,58,54,93],[99,39],[48,48]]),
 ([48,48,48,32,48,32,48,48,48,48,48,32,48,48,48,48,48,32,48,49],[[48,48,48],[48],[48,48,48,48,48],[48,48,48,48,48],[48,49]]),
 ([48,48,48,32,115,91,53,93,32,97,32,115,91,52,58,48,93,32,48,49],[[48,48,48],[115,91,53,93],[97],[115,91,52,58,48,93],[48,49]]),
 ([48,48,49,32,115,91,53,93,32,97,32,115,91,52,58,48,93,32,48,49],[[48,48,49],[115,91,53,93],[97],[115,91,52,58,48,93],[48,49]]),
 ([48,49,48,32,115,91,53,93,32,97,32,115,91,52,58,48,93,32,48,49],[[48,49,48],[115,91,53,93],[97],[115,91,52,58,48,93],[48,49]]),
 ([48,49,49,32,115,91,57,93,32,48,48,48,49,48,32,115,91,52,93,32,115,91,54,93,32,115,91,56,58,55,93,32,115,91,53,93,32,48,49],[[48,49,49],[115,91,57,93],[48,48,48,49,48],[115,91,52,93],[115,91,54,93],[115,91,56,58,55,93],[115,91,53,93],[48,49]]),
 ([48,49,49,32,115,91,53,93,32,97,32,115,91,52,58,48,93,32,48,49],[[48,49,49],[115,91,53,93],[97],[115,91,52,58,48,93],[48,49]]),
 ([49,48,48,32,115,91,53,93,32,48,48,32,97,39,32,115,91,52,58,48,93,32,48,49],[[49,48,48],[115,91,53,93],[48,48],[97,39],[115,91,52,58,48,93],[48,49]]),
 ([49,48,48,32,115,91,53,93,32,48,49,32,97,39,32,115,91,52,58,48,93,32,48,49],[[49,48,48],[115,91,53,93],[48,49],[97,39],[115,91,52,58,48,93],[48,49]]),
 ([49,48,48,32,115,91,53,93,32,49,48,32,97,39,32,115,91,52,58,48,93,32,48,49],[[49,48,48],[115,91,53,93],[49,48],[97,39],[115,91,52,58,48,93],[48,49]]),
 ([49,48,48,32,48,32,49,49,32,97,39,32,48,48,32,99,39,32,48,49],[[49,48,48],[48],[49,49],[97,39],[48,48],[99,39],[48,49]]),
 ([49,48,48,32,48,32,49,49,32,97,39,32,48,49,32,99,39,32,48,49],[[49,48,48],[48],[49,49],[97,39],[48,49],[99,39],[48,49]]),
 ([49,48,48,32,48,32,49,49,32,97,39,32,49,48,32,99,39,32,48,49],[[49,48,48],[48],[49,49],[97,39],[49,48],[99,39],[48,49]]),
 ([49,48,48,32,48,32,49,49,32,97,39,32,49,49,32,99,39,32,48,49],[[49,48,48],[48],[49,49],[97,39],[49,49],[99,39],[48,49]]),
 ([49,48,48,32,49,32,49,49,32,97,39,32,48,48,32,99,39,32,48,49],[[49,48,48],[49],[49,49],[97,39],[48,48],[99,39],[48,49]]),
 ([49,48,48,32,49,32,49,49,32,97,39,32,48,49,32,99,39,32,48,49],[[49,48,48],[49],[49,49],[97,39],[48,49],[99,39],[48,49]]),
 ([49,48,49,32,115,91,49,49,93,32,115,91,52,93,32,115,91,57,58,56,93,32,115,91,49,48,93,32,115,91,54,93,32,115,91,55,93,32,115,91,51,58,49,93,32,115,91,53,93,32,48,49],[[49,48,49],[115,91,49,49,93],[115,91,52,93],[115,91,57,58,56,93],[115,91,49,48,93],[115,91,54,93],[115,91,55,93],[115,91,51,58,49,93],[115,91,53,93],[48,49]]),
 ([49,49,48,32,115,91,56,93,32,115,91,52,58,51,93,32,98,39,32,115,91,55,58,54,93,32,115,91,50,58,49,93,32,115,91,53,93,32,48,49],[[49,49,48],[115,91,56,93],[115,91,52,58,51,93],[98,39],[115,91,55,58,54,93],[115,91,50,58,49,93],[115,91,53,93],[48,49]]),
 ([49,49,49,32,115,91,56,93,32,115,91,52,58,51,93,32,98,39,32,115,91,55,58,54,93,32,115,91,50,58,49,93,32,115,91,53,93,32,48,49],[[49,49,49],[115,91,56,93],[115,91,52,58,51,93],[98,39],[115,91,55,58,54,93],[115,91,50,58,49,93],[115,91,53,93],[48,49]]),
 ([48,48,48,32,115,91,53,93,32,97,32,115,91,52,58,48,93,32,49,48],[[48,48,48],[115,91,53,93],[97],[115,91,52,58,48,93],[49,48]]),
 ([48,49,48,32,115,91,53,93,32,97,32,115,91,52,58,50,93,32,115,91,55,58,54,93,32,49,48],[[48,49,48],[115,91,53,93],[97],[115,91,52,58,50,93],[115,91,55,58,54,93],[49,48]]),
 ([48,49,49,32,115,91,53,93,32,97,32,115,91,52,58,51,93,32,115,91,56,58,54,93,32,49,48],[[48,49,49],[115,91,53,93],[97],[115,91,52,58,51,93],[115,91,56,58,54,93],[49,48]]),
 ([49,48,48,32,48,32,98,32,48,48,48,48,48,32,49,48],[[49,48,48],[48],[98],[48,48,48,48,48],[49,48]]),
 ([49,48,48,32,49,32,98,32,48,48,48,48,48,32,49,48],[[49,48,48],[49],[98],[48,48,48,48,48],[49,48]]),
 ([49,48,48,32,48,32,97,32,99,32,49,48],[[49,48,48],[48],[97],[99],[49,48]]),
 ([49,48,48,32,49,32,97,32,99,32,49,48],[[49,48,48],[49],[97],[99],[49,48]]),
 ([49,48,48,32,49,32,48,48,48,48,48,32,48,48,48,48,48,32,49,48],[[49,48,48],[49],[48,48,48,48,48],[48,48,48,48,48],[49,48]]),
 ([49,49,48,32,115,91,53,58,50,93,32,115,91,55,58,54,93,32,99,32,49,48],[[49,49,48],[115,91,53,58,50,93],[115,91,55,58,54,93],[99],[49,48]]),
 ([49,49,49,32,115,91,53,58,51,93,32,115,91,56,58,54,93,32,99,32,49,48],[[49,49,49],[115,91,53,58,51,93],[115,91,56,58,54,93],[99],[49,48]]),
 ([97,100,100,105,32,65,32,50,32,48,32,115],[[97,100,100,105],[65],[50],[48],[115]]),
 ([108,119,32,65,32,66,32,48,32,115],[[108,119],[65],[66],[48],[115]]),
 ([108,100,32,65,32,66,32,48,32,115],[[108,100],[65],[66],[48],[115]]),
 ([115,119,32,48,32,66,32,67,32,115],[[115,119],[48],[66],[67],[115]]),
 ([115,100,32,48,32,66,32,67,32,115],[[115,100],[48],[66],[67],[115]]),
 ([97,100,100,105,32,48,32,48,32,48,32,48],[[97,100,100,105],[48],[48],[48],[48]]),
 ([97,100,100,105,32,65,32,65,32,48,32,115],[[97,100,100,105],[65],[65],[48],[115]]),
 ([97,100,100,105,119,32,65,32,65,32,48,32,115],[[97,100,100,105,119],[65],[65],[48],[115]]),
 ([97,100,100,105,32,65,32,48,32,48,32,115],[[97,100,100,105],[65],[48],[48],[115]]),
 ([97,100,100,105,32,50,32,50,32,48,32,115],[[97,100,100,105],[50],[50],[48],[115]]),
 ([108,117,105,32,65,32,48,32,48,32,115],[[108,117,105],[65],[48],[48],[115]]),
 ([115,114,108,105,32,65,32,65,32,48,32,115],[[115,114,108,105],[65],[65],[48],[115]]),
 ([115,114,97,105,32,65,32,65,32,48,32,115],[[115,114,97,105],[65],[65],[48],[115]]),
 ([97,110,100,105,32,65,32,65,32,48,32,115],[[97,110,100,105],[65],[65],[48],[115]]),
 ([115,117,98,32,65,32,65,32,67,32,48],[[115,117,98],[65],[65],[67],[48]]),
 ([120,111,114,32,65,32,65,32,67,32,48],[[120,111,114],[65],[65],[67],[48]]),
 ([111,114,32,65,32,65,32,67,32,48],[[111,114],[65],[65],[67],[48]]),
 ([97,110,100,32,65,32,65,32,67,32,48],[[97,110,100],[65],[65],[67],[48]]),
 ([115,117,98,119,32,65,32,65,32,67,32,48],[[115,117,98,119],[65],[65],[67],[48]]),
 ([97,100,100,119,32,65,32,65,32,67,32,48],[[97,100,100,119],[65],[65],[67],[48]]),
 ([106,97,108,32,48,32,48,32,48,32,115],[[106,97,108],[48],[48],[48],[115]]),
 ([98,101,113,32,48,32,66,32,48,32,115],[[98,101,113],[48],[66],[48],[115]]),
 ([98,110,101,32,48,32,66,32,48,32,115],[[98,110,101],[48],[66],[48],[115]]),
 ([115,108,108,105,32,65,32,65,32,48,32,115],[[115,108,108,105],[65],[65],[48],[115]]),
 ([108,119,32,65,32,50,32,48,32,115],[[108,119],[65],[50],[48],[115]]),
 ([108,100,32,65,32,50,32,48,32,115],[[108,100],[65],[50],[48],[115]]),
 ([106,97,108,114,32,48,32,66,32,48,32,48],[[106,97,108,114],[48],[66],[48],[48]]),
 ([106,97,108,114,32,49,32,66,32,48,32,48],[[106,97,108,114],[49],[66],[48],[48]]),
 ([97,100,100,32,65,32,48,32,67,32,48],[[97,100,100],[65],[48],[67],[48]]),
 ([97,100,100,32,65,32,65,32,67,32,48],[[97,100,100],[65],[65],[67],[48]]),
 ([101,98,114,101,97,107,32,48,32,48,32,48,32,48],[[101,98,114,101,97,107],[48],[48],[48],[48]]),
 ([115,119,32,48,32,50,32,67,32,115],[[115,119],[48],[50],[67],[115]]),
 ([115,100,32,48,32,50,32,67,32,115],[[115,100],[48],[50],[67],[115]])]
def partW (k:Nat):List (List UInt8 × List (List UInt8)):=(wordsL.drop (8*k)).take 8
noncomputable def cxW:Cx:={ P:=Tryz.prog,n:=106,tab:=[],mtab:=[],refs:=[41],keeps:=[0,2,3,4,5,6,7,8,9,10,11,12,16,37,53,60,66,91,98],fuel:=64,globs:=globsL }
noncomputable def wordsR (p:List UInt8 × List (List UInt8)):Option Res:=(mfun cxW Tryz.f87 [.str p.1] []).run
def wordsO (p:List UInt8 × List (List UInt8)):Option Res:=some (.ok (.ref 0 1 0 p.2.length) [.cells (p.2.map .str) 0])
end Go.Cmp
