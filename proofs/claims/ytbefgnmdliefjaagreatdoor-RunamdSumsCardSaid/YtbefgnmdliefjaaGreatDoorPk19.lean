/-
  The engine, part Z: from a function's contract to the given statement of a law. Conditions: arguments are numbers, bools, strings, structs of these, or slices of such.
-/
import Derived.Test.YtbefgnmdliefjaaGreatDoorPk15
import Derived.ProofKit
import Derived.Deep.Slices
import Derived.OpenShut
import Derived.Test.YtbefgnmdliefjaaGreatDoorPk16
import Derived.Test.YtbefgnmdliefjaaGreatDoorProg
import Derived.Test.YtbefgnmdliefjaaGreatDoorPk18
import Derived.Test.YtbefgnmdliefjaaGreatDoorPk17
set_option linter.unusedVariables false
set_option linter.unusedSimpArgs false
namespace Go.Ab
open Go.ChangeShapes Go.WideShapes Go.ChangeAt Go.RowKit
def arrFs (P : Program) (n : Nat) (e : TypeId) : List Field := (List.range n).map fun i => { name := "", type := e, offset := i * P.cellsOf e, embedded := false, tag := "", pkgPath := "", byteOffset := 0 }
mutual
def lay (P:Program):Nat→TypeId→Option EC
 | 0,_=>none
 | d+1,t=>match P.underlying t with
  | some (.int k)=>some (.int k)
  | some .bool=>some .bool
  | some .string=>some .str
  | some (.struct fs)=>match layF P d 0 fs.toList with
   | some cs=>if P.cellsOf t=EC.sizes cs then some (.prod cs) else none
   | none=>none
  | some (.array n e)=>match layF P d 0 (arrFs P n e) with
   | some cs=>if P.cellsOf t=EC.sizes cs then some (.prod cs) else none
   | none=>none
  | _=>none
def layF (P:Program):Nat→Nat→List Field→Option (List EC)
 | 0,_,_=>none
 | _+1,_,[]=>some []
 | d+1,off,f :: r=>match lay P d f.type with
  | some c=>if f.offset=off∧P.cellsOf f.type=c.size then (layF P d (off+c.size) r).map (c :: ·) else none
  | none=>none
end
def layP (P:Program) (t:TypeId):Option EC:=
 match P.underlying t with
 | some (.slice e)=>match lay P 80 e with
  | some c=>if P.cellsOf e=c.size∧0<c.size then some (.sl c) else none
  | none=>none
 | _=>lay P 80 t
mutual
def okE:(c:EC)→c.ty→Prop
 | .int k,(n:Int)=>k.has n
 | .bool,_=>True
 | .str,(s:List UInt8)=>s.length≤maxLen
 | .sl _,none=>True
 | .sl c,some l=>l.length≤maxLen ∧ ∀ x ∈ l,okE c x
 | .prod cs,x=>okEs cs x
def okEs:(cs:List EC)→EC.tys cs→Prop
 | [],_=>True
 | [c],x=>okE c x
 | c :: d :: cs,x=>okE c x.1∧okEs (d :: cs) x.2
end
def argV:(c:EC)→c.ty→V
 | .int k,n=>.int k n
 | .bool,b=>.bool b
 | .str,s=>.str s
 | .sl c,o=>.sl c (o.getD []) [] .may
 | .prod cs,x=>.agg (encs cs x)
def argVs:(cs:List EC)→EC.tys cs→List V
 | [],_=>[]
 | [c],x=>[argV c x]
 | c :: d :: cs,x=>argV c x.1 :: argVs (d :: cs) x.2
section
variable {H:Type} {en:TypeId × Value→H} {P:Program} {w:World} {base:Nat} {sp:Nat→Bool} {hd:Bool} {X:Nat→Nat→Prop}
theorem wf_has {k:IntKind} {n:Int} (h:(Lit.int k n).wf=true):k.has n:=by
 simpa [Lit.wf,IntKind.has] using h
theorem take_get {α:Type} {l:List α} {off n k:Nat} {z:α} (h:((l.drop off).take n)[k]? = some z):l[off+k]? = some z:=by
 rw [List.getElem?_take] at h
 split at h
 ·rwa [List.getElem?_drop] at h
 ·cases h
mutual
theorem trod_lay:∀ (d:Nat) (t:TypeId) (c:EC) (fuel:Nat) (cs:List Value) (y:DataW H × List MemPlace),lay P d t=some c→DataW.trod en P w base sp hd fuel t cs=some y →
  ∃ x:c.ty,okE c x ∧ ∀ (k:Nat) v,(enc c x)[k]? = some v → ∃ z,cs[k]? = some z∧R w X [] v z
 | 0,t,c,fuel,cs,y,hl,ht=>by simp [lay] at hl
 | d+1,t,c,fuel,cs,y,hl,ht=>by
  unfold lay at hl
  split at hl
  ·rename_i k hu
   simp only [Option.some.injEq] at hl
   subst hl
   obtain ⟨n,rfl,_,hw⟩:=DataW.trod_int hu ht
   refine ⟨(n:Int),wf_has hw,?_⟩
   intro k v hv
   match k,hv with
   | 0,hv =>
    simp only [enc,List.getElem?_cons_zero,Option.some.injEq] at hv
    subst hv
    exact ⟨_,rfl,.int _ _ _⟩
  ·rename_i hu
   simp only [Option.some.injEq] at hl
   subst hl
   obtain ⟨b,rfl,_⟩:=DataW.trod_bool hu ht
   refine ⟨(b:Bool),trivial,?_⟩
   intro k v hv
   match k,hv with
   | 0,hv =>
    simp only [enc,List.getElem?_cons_zero,Option.some.injEq] at hv
    subst hv
    exact ⟨_,rfl,.bool _ _⟩
  ·rename_i hu
   simp only [Option.some.injEq] at hl
   subst hl
   obtain ⟨s,rfl,_,hs⟩:=DataW.trod_string hu ht
   refine ⟨(s.data.toList:List UInt8),by simpa [okE] using hs,?_⟩
   intro k v hv
   match k,hv with
   | 0,hv =>
    simp only [enc,List.getElem?_cons_zero,Option.some.injEq] at hv
    subst hv
    refine ⟨_,rfl,?_⟩
    have:=R.str (w:=w) (X:=X) [] s.data.toList
    simpa using this
  ·rename_i fs hu
   split at hl
   rotate_left
   ·cases hl
   rename_i cs' hcs'
   split at hl
   rotate_left
   ·cases hl
   simp only [Option.some.injEq] at hl
   subst hl
   obtain ⟨xs,n,_,_,hlen,hxs,hf⟩:=DataW.trod_struct hu ht
   obtain ⟨x,h1,h2⟩:=trod_layF d 0 fs.toList cs' n cs hcs' (fun f hf' => by
    obtain ⟨i,hi,hfi⟩:=List.getElem_of_mem hf'
    have h1:=hf i f (by simp at hi; rw [Array.getElem?_eq_getElem hi]; simpa using hfi)
    rw [List.getElem?_eq_getElem (by simp at hi; omega)] at h1
    exact ⟨_,h1⟩)
   exact ⟨x,by simpa [okE] using h1,fun k v hv=>by simpa using h2 k v (by simpa [enc] using hv)⟩
  ·rename_i n e hu
   split at hl
   rotate_left
   ·cases hl
   rename_i cs' hcs'
   split at hl
   rotate_left
   ·cases hl
   simp only [Option.some.injEq] at hl
   subst hl
   obtain ⟨xs,m,_,_,hlen,hxs,hf⟩:=DataW.trod_array hu ht
   obtain ⟨x,h1,h2⟩:=trod_layF d 0 (arrFs P n e) cs' m cs hcs' (fun f hf' => by
    obtain ⟨i,hi,rfl⟩:=List.mem_map.1 hf'
    have hi:i<n:=List.mem_range.1 hi
    have h1:=hf i hi
    rw [List.getElem?_eq_getElem (by omega)] at h1
    exact ⟨_,h1⟩)
   exact ⟨x,by simpa [okE] using h1,fun k v hv=>by simpa using h2 k v (by simpa [enc] using hv)⟩
  ·cases hl
theorem trod_layF:∀ (d off:Nat) (fs:List Field) (cs' : List EC) (n:Nat) (cs:List Value),layF P d off fs=some cs' →
  (∀ f ∈ fs,∃ y,DataW.trod en P w base sp hd n f.type ((cs.drop f.offset).take (P.cellsOf f.type))=some y) →
  ∃ x:EC.tys cs',okEs cs' x ∧ ∀ (k:Nat) v,(encs cs' x)[k]? = some v → ∃ z,cs[off+k]? = some z∧R w X [] v z
 | 0,off,fs,cs',n,cs,hl,h=>by simp [layF] at hl
 | d+1,off,[],cs',n,cs,hl,h=>by
  simp only [layF,Option.some.injEq] at hl
  subst hl
  exact ⟨(),trivial,fun k v hv=>by simp [encs] at hv⟩
 | d+1,off,f :: r,cs',n,cs,hl,h=>by
  unfold layF at hl
  split at hl
  rotate_left
  ·cases hl
  rename_i c hc
  split at hl
  rotate_left
  ·cases hl
  rename_i ho
  obtain ⟨ho,hz⟩:=ho
  obtain ⟨ds,hds,rfl⟩:=Option.map_eq_some_iff.1 hl
  obtain ⟨y,hy⟩:=h f List.mem_cons_self
  obtain ⟨x1,a1,a2⟩:=trod_lay d f.type c n _ y hc hy
  obtain ⟨x2,b1,b2⟩:=trod_layF d (off+c.size) r ds n cs hds (fun g hg=>h g (List.mem_cons_of_mem _ hg))
  have hfirst:∀ (k:Nat) v,(enc c x1)[k]? = some v → ∃ z,cs[off+k]? = some z∧R w X [] v z:=fun k v hv=>by
   obtain ⟨z,hz,hr⟩:=a2 k v hv
   rw [ho] at hz
   exact ⟨z,take_get hz,hr⟩
  match ds,x2,b1,b2 with
  | [],_,_,_=>exact ⟨x1,by simpa [okEs] using a1,fun k v hv=>hfirst k v (by simpa [encs] using hv)⟩
  | e :: es,x2,b1,b2 =>
   refine ⟨(x1,x2),by simpa [okEs] using ⟨a1,b1⟩,fun k v hv=>?_⟩
   simp only [encs] at hv
   by_cases hk:k<(enc c x1).length
   ·rw [List.getElem?_append_left hk] at hv
    exact hfirst k v hv
   ·rw [List.getElem?_append_right (by omega)] at hv
    rw [enc_size] at hv hk
    obtain ⟨z,hz,hr⟩:=b2 (k - c.size) v hv
    rw [show off+c.size+(k - c.size)=off+k from by omega] at hz
    exact ⟨z,hz,hr⟩
end
theorem choose_lt' {α:Type} [Inhabited α] {p:Nat→α→Prop} {m:Nat} (h:∀ i,i<m → ∃ x,p i x):∃ f:Nat→α,∀ i,i<m→p i (f i):=by
 refine ⟨fun i=>if hi:i<m then Classical.choose (h i hi) else default,fun i hi=>?_⟩
 simp only [hi,dif_pos]
 exact Classical.choose_spec (h i hi)
instance (c:EC):Inhabited c.ty:=⟨c.dflt⟩
theorem flat_not_sl {d:Nat} {t:TypeId} {c:EC} (h:lay P d t=some (.sl c)):False:=by
 cases d with
 | zero=>simp [lay] at h
 | succ d =>
  unfold lay at h
  split at h
  all_goals first | (simp at h; done) | skip
  all_goals (repeat' (split at h))
  all_goals first | (cases h; done) | (simp at h; done)
theorem cells_one {t:TypeId} {c:EC} {v:Value} {r:Reach} (hl:lay P 80 t=some c) (hv:Value.okWide P w r base t v) (hc:∀ cs,c ≠ .prod cs):v.cells = #[v]:=by
 unfold lay at hl
 unfold Value.okWide at hv
 split at hl
 ·rename_i k hu
  simp only [hu] at hv
  simp only [Cell.okWide,hu,Cell.ok] at hv
  cases v <;> first | rfl | (simp at hv; done)
 ·rename_i hu
  simp only [hu] at hv
  simp only [Cell.okWide,hu,Cell.ok] at hv
  cases v <;> first | rfl | (simp at hv; done)
 ·rename_i hu
  simp only [hu] at hv
  simp only [Cell.okWide,hu,Cell.ok] at hv
  cases v <;> first | rfl | (simp at hv; done)
 ·split at hl
  rotate_left
  ·cases hl
  split at hl
  rotate_left
  ·cases hl
  simp only [Option.some.injEq] at hl
  exact absurd hl.symm (hc _)
 ·split at hl
  rotate_left
  ·cases hl
  split at hl
  rotate_left
  ·cases hl
  simp only [Option.some.injEq] at hl
  exact absurd hl.symm (hc _)
 ·cases hl
theorem cells_agg {t:TypeId} {cs:List EC} {v:Value} {r:Reach} (hl:lay P 80 t=some (.prod cs)) (hv:Value.okWide P w r base t v):∃ xs:Array Value,v = .agg xs∧xs.size=EC.sizes cs:=by
 unfold lay at hl
 unfold Value.okWide at hv
 split at hl
 ·simp at hl
 ·simp at hl
 ·simp at hl
 ·rename_i fs hu
  simp only [hu] at hv
  split at hl
  rotate_left
  ·cases hl
  split at hl
  rotate_left
  ·cases hl
  rename_i hsz
  simp only [Option.some.injEq,EC.prod.injEq] at hl
  subst hl
  obtain ⟨xs,rfl,h1,_⟩:=hv
  exact ⟨xs,rfl,by rw [h1,hsz]⟩
 ·rename_i n e hu
  simp only [hu] at hv
  split at hl
  rotate_left
  ·cases hl
  split at hl
  rotate_left
  ·cases hl
  rename_i hsz
  simp only [Option.some.injEq,EC.prod.injEq] at hl
  subst hl
  obtain ⟨xs,rfl,h1,_⟩:=hv
  exact ⟨xs,rfl,by rw [h1,hsz]⟩
 ·cases hl
theorem okWide_sl {t e:TypeId} {v:Value} {r:Reach} (hu:P.underlying t=some (.slice e)) (hv:Value.okWide P w r base t v) :
  v = .slice none 0 0 ∨ ∃ b o len cap,v = .slice (some ⟨b,o,none⟩) len cap:=by
 unfold Value.okWide at hv
 simp only [hu] at hv
 cases v
 case slice a len cap =>
  cases a with
  | none =>
   simp only [Cell.okWide,hu,Cell.ok] at hv
   split at hv
   all_goals first | (simp_all; done) | skip
  | some a =>
   simp only [Cell.okWide,hu,Cell.ok] at hv
   obtain ⟨_,_,_,hs,_⟩:=hv
   obtain ⟨b,o,s⟩:=a
   simp only at hs
   subst hs
   exact .inr ⟨b,o,len,cap,rfl⟩
 all_goals simp [Cell.okWide,hu,Cell.ok] at hv
theorem arg_R {t:TypeId} {c:EC} {v:Value} {d:DataW H} {ps:List MemPlace} {r:Reach} (hl:layP P t=some c) (hv:Value.okWide P w r base t v)
  (ht:DataW.Trod en P w 0 sp hd t v d ps):∃ x:c.ty,okE c x∧R w (fun _ _=>False) [] (argV c x) v:=by
 obtain ⟨fuel,ht⟩:=ht
 unfold layP at hl
 split at hl
 ·rename_i e hu
  split at hl
  rotate_left
  ·cases hl
  rename_i c' hc'
  split at hl
  rotate_left
  ·cases hl
  rename_i hsz
  simp only [Option.some.injEq] at hl
  subst hl
  rcases okWide_sl hu hv with rfl | ⟨b,o,len,cap,rfl⟩
  ·exact ⟨(none:Option (List c'.ty)),trivial,.nil _ _⟩
  ·rcases Go.Deep.open_slice hu ht with ⟨h0,_⟩ | ⟨a,len',cap',m,n,D,Pl,hcs,_,hle,hmax,hm,_,hx⟩
   ·simp [Value.cells] at h0
   simp only [Value.cells,List.cons.injEq,Value.slice.injEq,Option.some.injEq,and_true] at hcs
   obtain ⟨rfl,rfl,rfl⟩:=hcs
   have hlm:len≤m:=by rw [hm]; split <;> omega
   have hel:∀ i,i<len → ∃ x:c'.ty,okE c' x ∧ ∀ (k:Nat) v,(enc c' x)[k]? = some v → ∃ z,w.cell? ⟨b,o+i*c'.size+k,none⟩=some z∧R w (fun _ _=>False) [] v z:=by
    intro i hi
    obtain ⟨cs',h1,h2⟩:=hx i (by omega)
    obtain ⟨x,x1,x2⟩:=trod_lay (X:=fun _ _=>False) 80 e c' n cs' _ hc' h2
    obtain ⟨_,hlen,hcell⟩:=World.cells?_some h1
    refine ⟨x,x1,fun k v hv=>?_⟩
    obtain ⟨z,hz,hr⟩:=x2 k v hv
    refine ⟨z,?_,hr⟩
    have hk:k<P.cellsOf e:=by
     rw [← hlen]
     exact (List.getElem?_eq_some_iff.1 hz).1
    have:=hcell k hk
    rw [hz,add_plain,add_plain,hsz.1] at this
    exact this
   obtain ⟨f,hf⟩:=choose_lt' hel
   have hg:∀ i k,i<len→k<c'.size → ∃ z,w.cell? ⟨b,o+i*c'.size+k,none⟩=some z:=fun i k hi hk=>by
    obtain ⟨z,hz,_⟩:=(hf i hi).2 k _ (List.getElem?_eq_getElem (by rw [enc_size]; exact hk))
    exact ⟨z,hz⟩
   refine ⟨(some ((List.range len).map f):Option (List c'.ty)),⟨by simp; omega,fun x hx=>?_⟩,?_⟩
   ·obtain ⟨i,hi,rfl⟩:=List.mem_map.1 hx
    exact (hf i (List.mem_range.1 hi)).1
   ·have:=R.sl (w:=w) (X:=fun _ _=>False) [] c' ((List.range len).map f) [] .may b o cap (fun i k=>(w.cell? ⟨b,o+i*c'.size+k,none⟩).getD undef)
     (by simp; omega) (fun h=>by cases h) (fun h=>by cases h) (fun i k hi hk=>⟨fun h=>h,by
      obtain ⟨z,hz⟩:=hg i k (by simpa using hi) hk
      rw [hz]; rfl⟩) (fun i x k v h1 h2=>by
      simp only [List.append_nil,List.getElem?_map,Option.map_eq_some_iff] at h1
      obtain ⟨j,hj,rfl⟩:=h1
      obtain ⟨hj1,hj2⟩:=List.getElem?_eq_some_iff.1 hj
      simp only [List.length_range] at hj1
      simp only [List.getElem_range] at hj2
      subst hj2
      obtain ⟨z,hz,hr⟩:=(hf i hj1).2 k v h2
      rw [hz]; exact hr)
    simp only [List.length_map,List.length_range] at this
    exact this
 ·cases c with
  | prod cs =>
   obtain ⟨xs,rfl,hsz⟩:=cells_agg hl hv
   obtain ⟨x,x1,x2⟩:=trod_lay (X:=fun _ _=>False) 80 t _ fuel _ _ hl ht
   refine ⟨x,x1,?_⟩
   have:=R.agg (w:=w) (X:=fun _ _=>False) [] (encs cs x) xs.toList (by rw [show (encs cs x).length=EC.sizes cs from enc_size (.prod cs) x]; simpa using hsz) (fun k v y h1 h2=>by
    obtain ⟨z,hz,hr⟩:=x2 k v (by simpa [enc] using h1)
    simp only [Value.cells] at hz
    rw [hz] at h2
    simp only [Option.some.injEq] at h2
    subst h2
    exact hr)
   simpa [argV] using this
  | sl c=>exact (flat_not_sl hl).elim
  | int k =>
   have hc:=cells_one hl hv (by simp)
   obtain ⟨x,x1,x2⟩:=trod_lay (X:=fun _ _=>False) 80 t _ fuel _ _ hl ht
   obtain ⟨z,hz,hr⟩:=x2 0 _ rfl
   simp only [hc,List.getElem?_cons_zero,Option.some.injEq] at hz
   subst hz
   exact ⟨x,x1,hr⟩
  | bool =>
   have hc:=cells_one hl hv (by simp)
   obtain ⟨x,x1,x2⟩:=trod_lay (X:=fun _ _=>False) 80 t _ fuel _ _ hl ht
   obtain ⟨z,hz,hr⟩:=x2 0 _ rfl
   simp only [hc,List.getElem?_cons_zero,Option.some.injEq] at hz
   subst hz
   exact ⟨x,x1,hr⟩
  | str =>
   have hc:=cells_one hl hv (by simp)
   obtain ⟨x,x1,x2⟩:=trod_lay (X:=fun _ _=>False) 80 t _ fuel _ _ hl ht
   obtain ⟨z,hz,hr⟩:=x2 0 _ rfl
   simp only [hc,List.getElem?_cons_zero,Option.some.injEq] at hz
   subst hz
   exact ⟨x,x1,hr⟩
theorem okWide_of_get {ts:List TypeId} {vs:List Value} {t:TypeId} {v:Value} {r:Reach} (h:∀ (j:Nat) t' v',(t :: ts)[j]? = some t' → (v :: vs)[j]? = some v' → Value.okWide P w r base t' v') :
  Value.okWide P w r base t v ∧ ∀ (j:Nat) t' v',ts[j]? = some t' → vs[j]? = some v' → Value.okWide P w r base t' v' :=
 ⟨h 0 t v rfl rfl,fun j t' v' h1 h2=>h (j+1) t' v' (by simpa using h1) (by simpa using h2)⟩
def layPs (P:Program):List TypeId→Option (List EC)
 | []=>some []
 | t :: r=>match layP P t,layPs P r with
  | some c,some cs=>some (c :: cs)
  | _,_=>none
theorem args_R {r:Reach}:∀ {ts:List TypeId} {cs:List EC} {vs:List Value} {ds:List (DataW H)} {ps:List MemPlace},layPs P ts=some cs →
  (∀ (j:Nat) t v,ts[j]? = some t→vs[j]? = some v→Value.okWide P w r base t v)→DataW.TrodAll en P w 0 sp hd ts vs ds ps →
  ∃ x:EC.tys cs,okEs cs x∧vs.length=(argVs cs x).length∧ds.length=ts.length ∧ ∀ (k:Nat) v z,(argVs cs x)[k]? = some v→vs[k]? = some z→R w (fun _ _=>False) [] v z
 | [],cs,vs,ds,ps,hl,hv,ht=>by
  simp only [layPs,Option.some.injEq] at hl
  subst hl
  obtain ⟨rfl,rfl,rfl⟩:=trodAll_nil ht
  exact ⟨(),trivial,rfl,rfl,fun k v z h=>by simp [argVs] at h⟩
 | t :: ts,cs,vs,ds,ps,hl,hv,ht=>by
  unfold layPs at hl
  split at hl
  rotate_left
  ·cases hl
  rename_i c cs' hc hcs
  simp only [Option.some.injEq] at hl
  subst hl
  obtain ⟨v,vs',d,ds',p,q,rfl,rfl,rfl,h1,h2⟩:=trodAll_cons ht
  obtain ⟨g1,g2⟩:=okWide_of_get hv
  obtain ⟨x1,a1,a2⟩:=arg_R hc g1 h1
  obtain ⟨x2,b1,b2,b3,b4⟩:=args_R hcs g2 h2
  match cs',x2,b1,b2,b4 with
  | [],x2,b1,b2,b4 =>
   refine ⟨x1,by simpa [okEs] using a1,by simpa [argVs] using b2,by simp [b3],fun k u z hu hz=>?_⟩
   match k,hu,hz with
   | 0,hu,hz =>
    simp only [argVs,List.getElem?_cons_zero,Option.some.injEq] at hu hz
    subst hu; subst hz
    exact a2
  | e :: es,x2,b1,b2,b4 =>
   refine ⟨(x1,x2),by simpa [okEs] using ⟨a1,b1⟩,by simpa [argVs] using b2,by simp [b3],fun k u z hu hz=>?_⟩
   cases k with
   | zero =>
    simp only [argVs,List.getElem?_cons_zero,Option.some.injEq] at hu hz
    subst hu; subst hz
    exact a2
   | succ k=>exact b4 k u z (by simpa [argVs] using hu) (by simpa using hz)
def readable (P:Program) (ts:List TypeId):Bool:=ts.all fun t=>P.readableRec t && decide (t<P.types.size)
theorem args_stay {W W' : World} (hlaid:laidOutB P=true) (hb:Below W.heap.size W W'):∀ {ts:List TypeId} {vs:List Value} {ds:List (DataW H)} {ps:List MemPlace},readable P ts=true →
  DataW.TrodAll en P W 0 (fun _=>true) true ts vs ds ps→(∀ x ∈ ps,x.block<W.heap.size)→DataW.TrodAll en P W' 0 (fun b=>decide (b<W.heap.size)) true ts vs ds ps
 | [],vs,ds,ps,_,ht,_=>by
  obtain ⟨rfl,rfl,rfl⟩:=trodAll_nil ht
  rfl
 | t :: ts,vs,ds,ps,hr,ht,hlt=>by
  obtain ⟨v,vs',d,ds',p,q,rfl,rfl,rfl,h1,h2⟩:=trodAll_cons ht
  simp only [readable,List.all_cons,Bool.and_eq_true,decide_eq_true_eq] at hr
  exact ⟨p,q,Below.trod hlaid hr.1.1 hr.1.2 h1 hb (fun x hx=>hlt x (by simp [hx])),args_stay hlaid hb (by simpa [readable] using hr.2) h2 (fun x hx=>hlt x (by simp [hx])),rfl⟩
theorem below_step {W W' : World} (s:Step (fun _ _=>False) [] [] W [] [] W'):Below W.heap.size W W' :=
 ⟨s.os,s.tape,s.output,s.size,fun b hb=>by
  rcases s.pres b hb with h | ⟨⟨o,h⟩,_⟩ | ⟨⟨o,h⟩,_⟩
  ·exact h
  ·exact absurd h (own_nil b o)
  ·exact absurd h (own_nil b o)⟩
def resBool (P:Program) (ts:List TypeId):Bool:=
 match ts with
 | [t]=>match P.underlying t with
  | some .bool=>true
  | _=>false
 | _=>false
theorem resBool_some {ts:Array TypeId} (h:resBool P ts.toList=true):∃ t,ts = #[t]∧P.underlying t=some .bool:=by
 unfold resBool at h
 split at h
 ·rename_i t ht
  split at h
  ·rename_i hu
   exact ⟨t,by apply Array.ext'; simpa using ht,hu⟩
  ·cases h
 ·cases h
theorem law_contract {f:FuncId} {fn:Func} {s:ChangeSpec} {cs:List EC} {apart fresh handsOn:Bool} (hlaid:laidOutB P=true) (hts:layPs P fn.params.toList=some cs) (hrd:readable P fn.params.toList=true)
  (hrb:resBool P fn.resultTypes.toList=true) (hvars:s.vars=[])
  (hs:∀ ds:List (DataW H),ds.length=fn.params.toList.length→s.fn H ds = { results:=[.lit (.bool true)],args:=ds })
  (hpc:∀ x:EC.tys cs,okEs cs x→PCall P f (argVs cs x) (.bool true))
  (W:World) (base:Nat) (args:Array Value) (ds gs:List (DataW H)) (before:List MemPlace) (hG:Gs P W fun _ _=>False)
  (hval:∀ (j:Nat) t v,fn.params[j]? = some t→args[j]? = some v→Value.okWide P W .any base t v)
  (hW:DataW.Whole en P fn.params.toList s.vars apart W args.toList ds gs before) :
  Calls P f args W fun e W' => ∃ v,e = .returned v∧s.post en P fn apart fresh handsOn false W args v W' := by
 have hW0:=hW
 obtain ⟨tb,hres,htb⟩:=resBool_some hrb
 obtain ⟨p,q,hA,hV,rfl,hfz,hnd⟩:=hW
 rw [hvars] at hV
 obtain ⟨rfl,rfl⟩:gs=[]∧q=[]:=by
  cases gs with
  | nil=>exact ⟨rfl,hV⟩
  | cons g gs=>exact hV.elim
 obtain ⟨x,x1,x2,x3,x4⟩:=args_R hts (fun j t v h1 h2=>hval j t v (by simpa using h1) (by simpa using h2)) hA
 have hlt:=hW0.lt
 simp only [List.append_nil] at hlt hW0
 have:=(hpc x x1).2 W (fun _ _=>False) args.toList ⟨fun _ _ h=>h.elim,hG⟩ x2 x4
 simp only [Array.toArray_toList] at this
 refine this.mono ?_
 rintro e W' ⟨y,rfl,st,hr⟩
 have hb:=below_step st
 cases hr
 refine ⟨_,rfl,ds,[],p,[],p,[],hW0,?_,?_,?_,?_,fun h=>by cases h⟩
 ·rw [List.append_nil,hs ds x3,hres]
  exact trodAll_mk1 (shut_bool htb true)
 ·rw [List.append_nil,hs ds x3]
  exact args_stay hlaid hb hrd hA hlt
 ·rw [List.append_nil,hs ds x3,hvars]
  rfl
 ·exact hb.frame _
end
end Go.Ab

namespace Go.Ra
open Go Go.Ab Go.Proofs
theorem cx0_ok {cx:Cx} (h1:cx.tab=[]) (h2:cx.mtab=[]) (h3:cx.rtab=[]:=by rfl) (h4:∀ p ∈ cx.globs,p ∈ globsOf cx.P:=by intro p h; cases h):CxOk cx:=by
 refine ⟨?_,?_,?_,h4⟩
 ·rw [h1]; exact .nil _
 ·rw [h2]; intro p h; cases h
 ·rw [h3]; exact .nil _
theorem cx1_ok {cx:Cx} {t:List (Nat × Ab.Spec)} {m:List (Nat × MSpec)} (ht:TabOk cx.P t) (hm:MTabOk cx.P m) (h1:cx.tab=t) (h2:cx.mtab=m) (h3:cx.rtab=[]:=by rfl) (h4:∀ p ∈ cx.globs,p ∈ globsOf cx.P:=by intro p h; cases h):CxOk cx:=by
 refine ⟨?_,?_,?_,h4⟩
 ·rw [h1]; exact ht
 ·rw [h2]; exact hm
 ·rw [h3]; exact .nil _
theorem ok1 {P:Program} {f:Nat} {s:Ab.Spec} (h:Sound P f s):TabOk P [(f,s)]:=.cons h (.nil _)
end Go.Ra

namespace Go.Ra
open Go Go.Ab Go.Proofs
noncomputable def cx91:Cx:={ P:=Tryz.prog,n:=6,tab:=[],mtab:=[],refs:=[],keeps:=[0,2] }
noncomputable def bothS:Ab.Spec:=fun args=>.req (Nat.ble args.length Tryz.f91.ntmps) (dfun cx91 Tryz.f91 args)
theorem bothS_ok:Sound Tryz.prog 91 bothS:=sound_fun (cx:=cx91) (fn:=Tryz.f91) (cx0_ok rfl rfl) (by kernel_rfl) (by kernel_rfl)
noncomputable def cx46:Cx:={ P:=Tryz.prog,n:=46,tab:=[(91,bothS)],mtab:=[],refs:=[],keeps:=[0,1,2,3,8,9,10,11,18,20,31] }
theorem cxTh_ok:CxOk cx46:=cx1_ok (ok1 bothS_ok) (fun p h=>by cases h) rfl rfl
noncomputable abbrev Bth:Code:=bodyOf Tryz.f46
noncomputable def thX:Code:=c1 (tailN 1 Bth)
noncomputable def thBody:Code:=cin (cin (c2 thX))
noncomputable def thOps2:Array Oper:=regOps (c1 thX)
noncomputable def thOps3:Array Oper:=regOps (c1 thBody)
noncomputable def thBlk:Code:=cin (c2 (c2 thBody))
noncomputable def thOps4:Array Oper:=regOps (c1 thBlk)
noncomputable def thRest:Code:=c2 thBlk
theorem th_eq:tailN 1 Bth = .seq (.seq (.region 2 thOps2 false) (.block 0 (.loop (.seq (.region 3 thOps3 false) (.seq (.cond (.tmp 20) .skip (.exit 0)) (.block 1 (.seq (.region 4 thOps4 false) thRest))))))) (tailN 2 Bth):=by kernel_rfl
noncomputable def thO3a:Oper:=thOps3.getD 0 default
noncomputable def thO3b:Oper:=thOps3.getD 1 default
noncomputable def thO4:Oper:=thOps4.getD 0 default
theorem th_F:ForMap cx46 thOps3 thOps4 (thOps4.toList.drop 1) thO3a thO3b thO4 18 19 20 21 where
 ops3:=by kernel_rfl
 ops4:=by kernel_rfl
 next:=by kernel_rfl
 ok:=by kernel_rfl
 entry:=by kernel_rfl
 g3a:=by kernel_rfl
 g3b:=by kernel_rfl
 g4:=by kernel_rfl
 t3a:=by kernel_rfl
 t3b:=by kernel_rfl
 t4:=by kernel_rfl
 l19:=by kernel_rfl
 l20:=by kernel_rfl
 l21:=by kernel_rfl
 n1:=by kernel_rfl
 n2:=by kernel_rfl
def bothF (r:Int):Bool:=IntKind.wrap .i64 (((BitVec.ofInt 64 r &&& BitVec.ofInt 64 3).toNat:Nat):Int) == 3
def thL:List (Int × Int × List Int):=[(1,2,[]),(16,17,[1,2]),(32,32,[1,2,16,17])]
def thK:List (Int × Int × Int):=[(16,17,1),(16,17,2),(32,32,1),(32,32,2),(32,32,16),(32,32,17)]
theorem th_keys:∀ x ∈ thL,∀ k ∈ x.2.2,(x.1,x.2.1,k) ∈ thK:=by decide
def thT (a z r:Int) (cl:Bool) (it:V):T:=[(0,.ptr 0 0),(1,.int .u64 a),(2,.int .u64 z),(3,.int .i64 r),(8,.int .i64 0),(9,.bool cl),(18,it)]
noncomputable def thD (x:Int × Int × Int) (r:Int) (cl:Bool) (it v:V) (H:List O):Option St:=
 (druns cx46 thOps4 (thOps4.toList.drop 1) (put 21 (.tup [.int .u64 x.2.2,v]) (put 20 (.bool true) (put 19 .any (thT x.1 x.2.1 r cl it)))) H).fin
def thU (x:Int × Int × Int) (r:Int) (cl:Bool) (it v:V):T:=
 [(0,.ptr 0 0),(1,.int .u64 x.1),(2,.int .u64 x.2.1),(3,.int .i64 r),(8,.int .i64 0),(9,.bool cl),(10,.int .u64 x.2.2),(11,v),(18,it),(20,.bool true)]
theorem th_d:thK.map thD=thK.map fun x r cl it v H=>some (.normal,thU x r cl it v,H):=by kernel_rfl
noncomputable def thR (x:Int × Int × Int) (r:Int) (cl:Bool) (it v:V) (H:List O):Option St:=((dcode cx46 thRest (thU x r cl it v) H).bind fun s=>.leaf (s.1,keep [0,1,2,3,8,9,18] s.2.1,s.2.2)).fin
theorem th_r:thK.map thR=thK.map fun x r cl it v H=>some (.normal,thT x.1 x.2.1 r cl it,H):=by kernel_rfl
def isTh (a z:Int) (keys:List Int):Bool:=thL.any fun x=>x.1 == a && (x.2.1 == z && x.2.2 == keys)
theorem isTh_spec {a z:Int} {keys:List Int} (h:isTh a z keys=true):(a,z,keys) ∈ thL:=by
 obtain ⟨x,hx,h1⟩:=List.any_eq_true.1 h
 simp only [Bool.and_eq_true,beq_iff_eq] at h1
 obtain ⟨h1,h2,h3⟩:=h1
 obtain ⟨x1,x2,x3⟩:=x
 subst h1 h2 h3
 exact hx
def thereM:MSpec:=fun args H=>match args,H with
 | [.ptr 0 0,.int .u64 a,.int .u64 z,.int .i64 r],.cells [.bool true,.mp 1] t :: .obj (.map keys) vs :: rest =>
  .req (isTh a z keys && (Nat.beq vs.length keys.length && Nat.beq t 72)) (.leaf (.ok (.tup [.int .i64 0,.bool (bothF r)]) (.cells [.bool true,.mp 1] t :: .obj (.map keys) vs :: rest)))
 | _,_=>.fail
theorem th_head (a z r:Int) (H:List O):(dcode cx46 (headN 1 Bth) (initT 0 [.ptr 0 0,.int .u64 a,.int .u64 z,.int .i64 r]) H).run.map (fun s=>(s.1,keep [0,1,2,3,8,9] s.2.1,s.2.2)) =
  some (.normal,[(0,.ptr 0 0),(1,.int .u64 a),(2,.int .u64 z),(3,.int .i64 r),(8,.int .i64 0),(9,.bool (bothF r))],H):=by kernel_rfl
theorem th_pre (a z r:Int) (cl:Bool) (keys:List Int) (vs:List V) (rest:List O):(druns { cx46 with keeps:=[0,1,2,3,8,9,17] } thOps2 (thOps2.toList.take 4) [(0,.ptr 0 0),(1,.int .u64 a),(2,.int .u64 z),(3,.int .i64 r),(8,.int .i64 0),(9,.bool cl)]
   (.cells [.bool true,.mp 1] 72 :: .obj (.map keys) vs :: rest)).run =
  some (.normal,[(0,.ptr 0 0),(1,.int .u64 a),(2,.int .u64 z),(3,.int .i64 r),(8,.int .i64 0),(9,.bool cl),(17,.mp 1)],.cells [.bool true,.mp 1] 72 :: .obj (.map keys) vs :: rest):=by kernel_rfl
theorem th_tail (a z r:Int) (cl:Bool) (it:V) (H:List O):((dcode cx46 (tailN 2 Bth) (put 20 (.bool false) (put 19 .any (thT a z r cl it))) H).bind (answerM Tryz.prog Tryz.f46.results.toList)).run=some (.ok (.tup [.int .i64 0,.bool cl]) H):=by kernel_rfl
theorem thereM_ok:MSound Tryz.prog 46 thereM:=by
 intro args H out h
 unfold thereM at h
 split at h
 rotate_left
 ·cases h
 rename_i a z r t keys vs rest
 obtain ⟨g0,h⟩:=req_run h
 cases h
 obtain ⟨g1,g2⟩:=Bool.and_eq_true_iff.1 g0
 obtain ⟨g2,g3⟩:=Bool.and_eq_true_iff.1 g2
 have h2:=Nat.eq_of_beq_eq_true g2
 have h3:=Nat.eq_of_beq_eq_true g3
 clear g0 g2 g3
 subst h3
 have hx:=isTh_spec g1
 refine mcall_of' (c:=Bth) (fn:=Tryz.f46) (by kernel_rfl) (by kernel_rfl) (by kernel_rfl) (by kernel_rfl) ?_
 refine AWP_headK (cx:=cx46) rfl rfl cxTh_ok 1 [0,1,2,3,8,9] (by kernel_rfl) (th_head a z r _) ?_
 rw [th_eq]
 refine AWP_seq (AWP_forMapW (cx:=cx46) rfl rfl cxTh_ok th_F (pre:=thOps2.toList.take 4) (o2:=thOps2.getD 4 default) (mt:=70) (kt:=22) (et:=73) (mop:=.tmp 17) (by kernel_rfl) (by kernel_rfl) (by kernel_rfl) (by kernel_rfl) (by kernel_rfl) (by kernel_rfl)
  [0,1,2,3,8,9,17] (th_pre a z r (bothF r) keys vs rest) rfl (mid:=1) (keys:=keys) (vs:=vs) rfl h2
  (fun i left t H=>(∀ p ∈ left,(a,z,p.1) ∈ thK)∧t=thT a z r (bothF r) (itV i)∧H = .cells [.bool true,.mp 1] 72 :: .dead :: rest) (fun i=>?_) ?_ ?_ ?_ ?_)
 ·refine ⟨thT a z r (bothF r) (itV i),?_,?_,rfl,rfl⟩
  ·exact TLe.keep [0,1,2,3,8,9,18] (put 18 (itV i) [(0,.ptr 0 0),(1,.int .u64 a),(2,.int .u64 z),(3,.int .i64 r),(8,.int .i64 0),(9,.bool (bothF r)),(17,.mp 1)])
  ·intro p hp
   exact th_keys _ hx p.1 (List.of_mem_zip hp).1
 ·rintro i left t H ⟨_,_,rfl⟩
  rfl
 ·rintro i left t H ⟨_,rfl,_⟩
  rfl
 ·rintro i A p B t H ⟨hk,rfl,rfl⟩
  have hp:=hk p (by simp)
  have e1:=congrFun (congrFun (congrFun (congrFun (congrFun (List.map_inj_left.1 th_d _ hp) r) (bothF r)) (itV i)) p.2) (.cells [.bool true,.mp 1] 72 :: .dead :: rest)
  have e2:=congrFun (congrFun (congrFun (congrFun (congrFun (List.map_inj_left.1 th_r _ hp) r) (bothF r)) (itV i)) p.2) (.cells [.bool true,.mp 1] 72 :: .dead :: rest)
  unfold thD at e1
  unfold thR at e2
  rw [Tree.fin_run] at e1 e2
  obtain ⟨⟨e,t2,H2⟩,g1,g2⟩:=bind_run e2
  have g3:e = .normal:=congrArg Prod.fst (Option.some.inj g2)
  have g4:keep [0,1,2,3,8,9,18] t2=thT a z r (bothF r) (itV i):=congrArg (fun q=>q.2.1) (Option.some.inj g2)
  have g5:H2 = .cells [.bool true,.mp 1] 72 :: .dead :: rest:=congrArg (fun q=>q.2.2) (Option.some.inj g2)
  refine ⟨_,_,e1,AWP_run (cx:=cx46) rfl rfl cxTh_ok g1 ⟨.inl g3,_,TLe.keep [0,1,2,3,8,9,18] t2,fun q hq=>hk q ?_,g4,g5⟩⟩
  rcases List.mem_append.1 hq with hq | hq
  ·exact List.mem_append_left _ hq
  ·exact List.mem_append_right _ (List.mem_cons_of_mem _ hq)
 ·rintro i t H ⟨_,rfl,rfl⟩
  show AWP _ _ _ _ _ _
  obtain ⟨s,g1,g2⟩:=bind_run (th_tail a z r (bothF r) (itV i) ((.cells [.bool true,.mp 1] 72 :: .dead :: rest:List O).set 1 (.obj (.map keys) vs)))
  refine AWP_run (cx:=cx46) rfl rfl cxTh_ok g1 ?_
  exact answerM_post g2
end Go.Ra

namespace Go.Ra
open Go Go.Ab Go.Proofs
def zeros:List Int:=List.replicate 4096 0
def wRow (n r:Int) (id:Nat):List V:=[.int .u64 n,.int .i64 r,.ref id 1 0 4096]
theorem run_req {β:Type} {c:Bool} {x:Tree β} {b:β} (hc:c=true) (h:x.run=some b):(Tree.req c x).run=some b:=by
 subst hc
 exact h
end Go.Ra

namespace Go.Ra
open Go Go.Ab Go.Proofs
def mO (r:Int) (l:List Int):O:=.obj (.page 1 .u8 l) [.int .i64 r]
def memO (a b c d e:List Int):List O:=[.cells [.bool true,.mp 1] 72,.obj (.map [1,2,16,17,32]) [.ptr 2 0,.ptr 3 0,.ptr 4 0,.ptr 5 0,.ptr 6 0],mO 5 a,mO 5 b,mO 6 c,mO 6 d,mO 4 e]
noncomputable def cx33:Cx:={ P:=Tryz.prog,n:=18,tab:=[],mtab:=[],refs:=[],keeps:=[0,1,4],lz:=[16] }
noncomputable def cx32:Cx:={ P:=Tryz.prog,n:=19,tab:=[],mtab:=[],refs:=[],keeps:=[0,1,2],lz:=[18] }
noncomputable def cx45:Cx:={ P:=Tryz.prog,n:=15,tab:=[],mtab:=[],refs:=[],keeps:=[0,1,4,5,6] }
noncomputable def lastS:Ab.Spec:=fun args=>.req (Nat.ble args.length Tryz.f45.ntmps) (dfun cx45 Tryz.f45 args)
theorem lastS_ok:Sound Tryz.prog 45 lastS:=sound_fun (cx:=cx45) (fn:=Tryz.f45) (cx0_ok rfl rfl) (by kernel_rfl) (by kernel_rfl)
noncomputable def cx30:Cx:={ P:=Tryz.prog,n:=12,tab:=[],mtab:=[],refs:=[],keeps:=[0,2] }
noncomputable def noneM:MSpec:=fun args H=>.req (Nat.ble args.length Tryz.f30.ntmps) (mfun cx30 Tryz.f30 args H)
theorem noneM_ok:MSound Tryz.prog 30 noneM:=msound_fun (cx:=cx30) (fn:=Tryz.f30) (cx0_ok rfl rfl) (by kernel_rfl) (by kernel_rfl)
noncomputable def cx31:Cx:={ P:=Tryz.prog,n:=54,tab:=[(45,lastS)],mtab:=[(30,noneM)],refs:=[],keeps:=[0,1,2,3,8,9,10,11,12,14,27,33,53],fuel:=3 }
def badR (R r:Int):Bool:=!(IntKind.wrap .i64 (((BitVec.ofInt 64 R &&& BitVec.ofInt 64 r).toNat:Nat):Int) == r)
def pgR {α:Type} (k:Int) (f:Int→α) (z:α):α:=cond (k == 1) (f 5) (cond (k == 2) (f 5) (cond (k == 16) (f 6) (cond (k == 17) (f 6) (cond (k == 32) (f 4) z))))
def endF (x n:Int):Int:=IntKind.wrap .u64 (IntKind.wrap .u64 (x+IntKind.wrap .u64 n) - 1)
def pgF (x:Int):Int:=IntKind.wrap .u64 (Int.tdiv x 4096)
def mayGo (H:List O) (y r:Int):Nat→Int→Option Res
 | 0,_=>none
 | f+1,k=>cond (decide (k≤pgF y)) (pgR k (fun R=>cond (badR R r) (some (.ok (.bool false) H)) (mayGo H y r f (IntKind.wrap .u64 (k+1)))) (some (.ok (.bool false) H))) (some (.ok (.bool true) H))
def mayX (H:List O) (x n r:Int):Option Res:=cond (n == 0) (some (.ok (.bool true) H)) (cond (!decide (x≤endF x n)) (some (.ok (.bool false) H)) (mayGo H (endF x n) r 3 (pgF x)))
theorem may_eq (a b c d e:List Int) (x n r:Int):(mfun cx31 Tryz.f31 [.ptr 0 0,.int .u64 x,.int .i64 n,.int .i64 r] (memO a b c d e)).fin=mayX (memO a b c d e) x n r:=by kernel_rfl
def pgL {α:Type} (k:Int) (a b c d e:List Int) (f:List Int→(List Int→List O)→α) (z:α):α:=
 cond (k == 1) (f a (fun l=>memO l b c d e)) (cond (k == 2) (f b (fun l=>memO a l c d e)) (cond (k == 16) (f c (fun l=>memO a b l d e)) (cond (k == 17) (f d (fun l=>memO a b c l e)) (cond (k == 32) (f e (fun l=>memO a b c d l)) z))))
def offF (x:Int):Nat:=1+Int.toNat (Int.tmod x 4096)*1 - 1
def inF (x:Int) (l:List Int) (v:Option Res):Option Res:=cond (inside (Int.tmod x 4096) 4096) (cond (Nat.ble 1 (1+Int.toNat (Int.tmod x 4096)*1) && Nat.blt (offF x) l.length) v none) none
theorem get_eq (a b c d e:List Int) (x:Int):(mfun cx33 Tryz.f33 [.ptr 0 0,.int .u64 x] (memO a b c d e)).fin =
  pgL (pgF x) a b c d e (fun l H=>inF x l (some (.ok (.int .u8 (l.getD (offF x) 0)) (H l)))) none:=by kernel_rfl
theorem put_eq (a b c d e:List Int) (x v:Int):(mfun cx32 Tryz.f32 [.ptr 0 0,.int .u64 x,.int .u8 v] (memO a b c d e)).fin =
  pgL (pgF x) a b c d e (fun l H=>inF x l (some (.ok (.tup []) (H (l.set (offF x) v))))) none:=by kernel_rfl
end Go.Ra
