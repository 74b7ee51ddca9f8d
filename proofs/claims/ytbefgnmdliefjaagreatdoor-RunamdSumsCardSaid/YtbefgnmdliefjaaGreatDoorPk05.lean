/-
  The engine, part G: slices are made, grow and are cut. Conditions: none.
-/
import Derived.Test.YtbefgnmdliefjaaGreatDoorPk04
import Derived.Laws.Append
import Derived.Laws.MakeOwn
set_option linter.unusedVariables false
set_option linter.unusedSimpArgs false
namespace Go.Ab
section
variable {P:Program} {E:Nat→Nat→Prop} {H:List O} {β:List Loc} {w:World} {X:Nat→Nat→Prop}
theorem enc_get {c:EC} (x:c.ty) {k:Nat} (hk:k<c.size):∃ v,(enc c x)[k]? = some v:=
 ⟨(enc c x)[k]'(by rw [enc_size]; exact hk),by simp [enc_size,hk]⟩
theorem mk_sl {c:EC} {l spare:List c.ty} {fl:Fl} {b o len cap:Nat} (hlen:len=l.length) (hcap:l.length+spare.length≤cap)
  (hfull:fl = .full→cap=l.length+spare.length) (hrw:fl.fixed=false → ∃ (cs:Array Value) (e:TypeId),w.heap[b]? = some (.cells cs e (0,0)))
  (h:∀ (i:Nat) x (k:Nat) v,(l++spare)[i]? = some x→(enc c x)[k]? = some v→¬ X b (o+i*c.size+k) ∧ ∃ y,w.cell? ⟨b,o+i*c.size+k,none⟩=some y∧R w X [] v y) :
  R w X β (.sl c l spare fl) (.slice (some ⟨b,o,none⟩) len cap):=by
 subst hlen
 refine .sl β c l spare fl b o cap (fun i k=>(w.cell? ⟨b,o+i*c.size+k,none⟩).getD undef) hcap hfull hrw (fun i k hi hk=>?_) (fun i x k v h1 h2=>?_)
 ·have hi' : i<(l++spare).length:=by simpa using hi
  obtain ⟨v,hv⟩:=enc_get (l++spare)[i] hk
  obtain ⟨h1,y,h2,_⟩:=h i _ k v (by rw [List.getElem?_eq_getElem hi']) hv
  exact ⟨h1,by rw [h2]; rfl⟩
 ·obtain ⟨_,y,h3,h4⟩:=h i x k v h1 h2
  rw [h3]; exact h4
theorem sl_get {c:EC} {l spare:List c.ty} {fl:Fl} {y:Value} (h:R w X β (.sl c l spare fl) y) :
  (y = .slice none 0 0∧l=[]∧spare=[]∧fl = .may) ∨
  ∃ b o cap,y = .slice (some ⟨b,o,none⟩) l.length cap∧l.length+spare.length≤cap∧(fl = .full→cap=l.length+spare.length) ∧
   (fl.fixed=false → ∃ (cs:Array Value) (e:TypeId),w.heap[b]? = some (.cells cs e (0,0))) ∧
   ∀ (i:Nat) x (k:Nat) v,(l++spare)[i]? = some x→(enc c x)[k]? = some v→¬ X b (o+i*c.size+k) ∧ ∃ y,w.cell? ⟨b,o+i*c.size+k,none⟩=some y∧R w X [] v y:=by
 cases h with
 | sl _ _ _ _ _ b o cap f hcap hfull hrw hc hr =>
  refine .inr ⟨b,o,cap,rfl,hcap,hfull,hrw,fun i x k v h1 h2=>?_⟩
  have hk:k<c.size:=by have:=(List.getElem?_eq_some_iff.1 h2).1; rwa [enc_size] at this
  have hi:i<l.length+spare.length:=by have:=(List.getElem?_eq_some_iff.1 h1).1; simpa using this
  exact ⟨(hc i k hi hk).1,f i k,(hc i k hi hk).2,hr i x k v h1 h2⟩
 | nil=>exact .inl ⟨rfl,rfl,rfl,rfl⟩
theorem sl_get_may {c:EC} {l spare:List c.ty} {fl:Fl} {y:Value} (h:R w X β (.sl c l spare fl) y) (hf:fl.isMay=false) :
  ∃ b o cap,y = .slice (some ⟨b,o,none⟩) l.length cap∧l.length+spare.length≤cap∧(fl = .full→cap=l.length+spare.length) ∧
   (fl.fixed=false → ∃ (cs:Array Value) (e:TypeId),w.heap[b]? = some (.cells cs e (0,0))) ∧
   ∀ (i:Nat) x (k:Nat) v,(l++spare)[i]? = some x→(enc c x)[k]? = some v→¬ X b (o+i*c.size+k) ∧ ∃ y,w.cell? ⟨b,o+i*c.size+k,none⟩=some y∧R w X [] v y:=by
 rcases sl_get h with ⟨_,_,_,rfl⟩ | h
 ·cases hf
 ·exact h
theorem gro_get {id:Nat} {c:EC} {l:List c.ty} {y:Value} (h:R w X β (.gro id c l) y) :
  ∃ b o cap loc,y = .slice (some ⟨b,o,none⟩) l.length cap∧β[id]? = some loc∧loc.kind=true∧l.length≤loc.n ∧
   (loc.n=l.length→b=loc.block∧o=loc.base∧o+cap*c.size≤loc.size)∧l.length≤cap ∧
   ∀ (i:Nat) x (k:Nat) v,l[i]? = some x→(enc c x)[k]? = some v→¬ X b (o+i*c.size+k) ∧ ∃ y,w.cell? ⟨b,o+i*c.size+k,none⟩=some y∧R w X [] v y:=by
 cases h with
 | gro _ _ _ _ b o cap loc f hid hk hn hl hcap hc hr =>
  refine ⟨b,o,cap,loc,rfl,hid,hk,hn,hl,hcap,fun i x k v h1 h2=>?_⟩
  have hk:k<c.size:=by have:=(List.getElem?_eq_some_iff.1 h2).1; rwa [enc_size] at this
  have hi:i<l.length:=(List.getElem?_eq_some_iff.1 h1).1
  exact ⟨(hc i k hi hk).1,f i k,(hc i k hi hk).2,hr i x k v h1 h2⟩
theorem mk_gro {id:Nat} {c:EC} {l:List c.ty} {b o len cap:Nat} {loc:Loc} (hlen:len=l.length) (hid:β[id]? = some loc) (hk:loc.kind=true) (hn:l.length≤loc.n)
  (hl:loc.n=l.length→b=loc.block∧o=loc.base∧o+cap*c.size≤loc.size) (hcap:l.length≤cap)
  (h:∀ (i:Nat) x (k:Nat) v,l[i]? = some x→(enc c x)[k]? = some v→¬ X b (o+i*c.size+k) ∧ ∃ y,w.cell? ⟨b,o+i*c.size+k,none⟩=some y∧R w X [] v y) :
  R w X β (.gro id c l) (.slice (some ⟨b,o,none⟩) len cap):=by
 subst hlen
 refine .gro β id c l b o cap loc (fun i k=>(w.cell? ⟨b,o+i*c.size+k,none⟩).getD undef) hid hk hn hl hcap (fun i k hi hk=>?_) (fun i x k v h1 h2=>?_)
 ·obtain ⟨v,hv⟩:=enc_get l[i] hk
  obtain ⟨h1,y,h2,_⟩:=h i _ k v (by rw [List.getElem?_eq_getElem hi]) hv
  exact ⟨h1,by rw [h2]; rfl⟩
 ·obtain ⟨_,y,h3,h4⟩:=h i x k v h1 h2
  rw [h3]; exact h4
theorem gro_sl {id:Nat} {c:EC} {l:List c.ty} {y:Value} (h:R w X β (.gro id c l) y):R w X [] (.sl c l [] .ro) y:=by
 obtain ⟨b,o,cap,loc,rfl,_,_,_,_,hcap,hh⟩:=gro_get h
 exact mk_sl rfl (by simpa using hcap) (fun h=>by cases h) (fun h=>by cases h) (by simpa using hh)
theorem sl_weak {c:EC} {l spare:List c.ty} {fl:Fl} {y:Value} (h:R w X β (.sl c l spare fl) y) (hf:fl.isMay=false):R w X [] (.sl c l [] .ro) y:=by
 obtain ⟨b,o,cap,rfl,hcap,_,_,hh⟩:=sl_get_may h hf
 refine mk_sl rfl (by simp; omega) (fun h=>by cases h) (fun h=>by cases h) (fun i x k v h1 h2=>hh i x k v ?_ h2)
 have:i<l.length:=by have:=(List.getElem?_eq_some_iff.1 h1).1; simpa using this
 rw [List.getElem?_append_left this]
 simpa using h1
def DecOk (c:EC):Prop:=∀ (l:List V) (x:c.ty) (rest:List V),dec c l=some (x,rest)→rest=l.drop c.size∧c.size≤l.length ∧
 ∀ (k:Nat) v,(enc c x)[k]? = some v → ∃ u,l[k]? = some u∧u.one=true ∧ ∀ (w:World) (X:Nat→Nat→Prop) (β:List Loc) (y:Value),R w X β u y→R w X [] v y
def DecsOk (cs:List EC):Prop:=∀ (l:List V) (x:EC.tys cs) (rest:List V),decs cs l=some (x,rest)→rest=l.drop (EC.sizes cs)∧EC.sizes cs≤l.length ∧
 ∀ (k:Nat) v,(encs cs x)[k]? = some v → ∃ u,l[k]? = some u∧u.one=true ∧ ∀ (w:World) (X:Nat→Nat→Prop) (β:List Loc) (y:Value),R w X β u y→R w X [] v y
theorem one_cell {u v:V} {k:Nat} {r:List V} (h1:u.one=true) (h:∀ (w:World) (X:Nat→Nat→Prop) (β:List Loc) (y:Value),R w X β u y→R w X [] v y) (z:V) (hz:[v][k]? = some z) :
  ∃ u',(u :: r)[k]? = some u' ∧ u'.one=true ∧ ∀ (w:World) (X:Nat→Nat→Prop) (β:List Loc) (y:Value),R w X β u' y→R w X [] z y:=by
 cases k with
 | zero=>simp at hz; subst hz; exact ⟨u,rfl,h1,h⟩
 | succ k=>simp at hz
theorem sameL_spec {c d:EC} {l:List d.ty} {l' : List c.ty} (h:sameL c d l=some l'):∃ e:d=c,l' = castL e l:=by
 unfold sameL at h
 split at h
 ·rename_i e _
  simp only [Option.some.injEq] at h
  exact ⟨e,h.symm⟩
 ·cases h
theorem decInt_spec {k:IntKind} {l rest:List V} {x:Int} (h:decInt k l=some (x,rest)):l = .int k x :: rest:=by
 unfold decInt at h
 split at h
 ·rename_i k' n r
  cases hk:decide (k=k')
  ·simp [hk] at h
  ·simp only [hk,cond_true,Option.some.injEq,Prod.mk.injEq] at h
   obtain ⟨rfl,rfl⟩:=h
   rw [of_decide_eq_true hk]
 ·cases h
theorem decBool_spec {l rest:List V} {x:Bool} (h:decBool l=some (x,rest)):l = .bool x :: rest:=by
 unfold decBool at h
 split at h
 ·simp only [Option.some.injEq,Prod.mk.injEq] at h
  obtain ⟨rfl,rfl⟩:=h
  rfl
 ·cases h
theorem decStr_spec {l rest:List V} {x:List UInt8} (h:decStr l=some (x,rest)):l = .str x :: rest:=by
 unfold decStr at h
 split at h
 ·simp only [Option.some.injEq,Prod.mk.injEq] at h
  obtain ⟨rfl,rfl⟩:=h
  rfl
 ·cases h
theorem dec_ok (c:EC):DecOk c:=by
 refine EC.rec (motive_1:=DecOk) (motive_2:=DecsOk) ?_ ?_ ?_ ?_ ?_ ?_ ?_ c
 ·intro k l x rest h
  have e:=decInt_spec (k:=k) (x:=x) h
  subst e
  exact ⟨by simp [EC.size],by simp [EC.size],fun j v hv=>one_cell rfl (fun w X β y hy=>by cases hy; exact .int _ _ _) v hv⟩
 ·intro l x rest h
  have e:=decBool_spec (x:=x) h
  subst e
  exact ⟨by simp [EC.size],by simp [EC.size],fun j v hv=>one_cell rfl (fun w X β y hy=>by cases hy; exact .bool _ _) v hv⟩
 ·intro l x rest h
  have e:=decStr_spec (x:=x) h
  subst e
  exact ⟨by simp [EC.size],by simp [EC.size],fun j v hv=>one_cell rfl (fun w X β y hy=>by cases hy; exact .str _ _) v hv⟩
 ·intro c _ l x rest h
  change Option (List c.ty) at x
  change decSl c l=some (x,rest) at h
  show _∧_ ∧ ∀ (k:Nat) v,([match x with | none=>nilSl | some l=>V.sl c l [] .ro]:List V)[k]? = some v→_
  unfold decSl at h
  split at h
  ·simp only [Option.some.injEq,Prod.mk.injEq] at h
   obtain ⟨rfl,rfl⟩:=h
   exact ⟨by simp [EC.size],by simp [EC.size],fun j v hv=>one_cell rfl (fun w X β y hy=>by cases hy; exact .val _ _) v hv⟩
  ·rename_i _ d ll sp fl r
   cases hf:fl.isMay
   rotate_left
   ·rw [hf] at h; cases h
   rw [hf] at h
   obtain ⟨l',hl',e⟩:=Option.map_eq_some_iff.1 h
   simp only [Prod.mk.injEq] at e
   obtain ⟨rfl,rfl⟩:=e
   obtain ⟨e,rfl⟩:=sameL_spec hl'
   subst e
   exact ⟨by simp [EC.size],by simp [EC.size],fun j v hv=>one_cell rfl (fun w X β y hy=>sl_weak hy hf) v hv⟩
  ·obtain ⟨l',hl',e⟩:=Option.map_eq_some_iff.1 h
   simp only [Prod.mk.injEq] at e
   obtain ⟨rfl,rfl⟩:=e
   obtain ⟨e,rfl⟩:=sameL_spec hl'
   subst e
   exact ⟨by simp [EC.size],by simp [EC.size],fun j v hv=>one_cell rfl (fun w X β y hy=>gro_sl hy) v hv⟩
  ·cases h
 ·intro cs ih l x rest h
  exact ih l x rest h
 ·intro l x rest h
  change some ((),l)=some (x,rest) at h
  have:l=rest:=congrArg Prod.snd (Option.some.inj h)
  subst this
  exact ⟨by simp [EC.sizes],by simp [EC.sizes],fun k v hv=>by simp [encs] at hv⟩
 ·intro c cs ih ihs l x rest h
  cases cs with
  | nil=>exact ih l x rest h
  | cons d cs =>
   change c.ty × EC.tys (d :: cs) at x
   change (match dec c l with
    | some (x,r)=>match decs (d :: cs) r with
     | some (y,r)=>some ((x,y),r)
     | none=>none
    | none=>none)=some (x,rest) at h
   split at h
   ·rename_i x1 r1 h1
    split at h
    ·rename_i x2 r2 h2
     simp only [Option.some.injEq,Prod.mk.injEq] at h
     obtain ⟨rfl,rfl⟩:=h
     obtain ⟨a1,a2,a3⟩:=ih l x1 r1 h1
     obtain ⟨b1,b2,b3⟩:=ihs r1 x2 r2 h2
     subst a1
     refine ⟨?_,?_,?_⟩
     ·rw [b1,List.drop_drop]; rfl
     ·simp only [List.length_drop] at b2
      show c.size+EC.sizes (d :: cs)≤l.length
      omega
     ·intro k v hv
      have hv:(enc c x1++encs (d :: cs) x2)[k]? = some v:=hv
      by_cases hk:k<c.size
      ·rw [List.getElem?_append_left (by rw [enc_size]; exact hk)] at hv
       exact a3 k v hv
      ·rw [List.getElem?_append_right (by rw [enc_size]; omega),enc_size] at hv
       obtain ⟨u,hu,h1⟩:=b3 _ v hv
       rw [List.getElem?_drop] at hu
       exact ⟨u,by rw [← hu]; congr 1; omega,h1⟩
    ·cases h
   ·cases h
theorem dec1_spec {c:EC} {l:List V} {x:c.ty} (h:dec1 c l=some x):l.length=c.size ∧
  ∀ (k:Nat) v,(enc c x)[k]? = some v → ∃ u,l[k]? = some u∧u.one=true ∧ ∀ (w:World) (X:Nat→Nat→Prop) (β:List Loc) (y:Value),R w X β u y→R w X [] v y:=by
 unfold dec1 at h
 split at h
 ·rename_i y hy
  simp only [Option.some.injEq] at h
  subst h
  obtain ⟨h1,h2,h3⟩:=dec_ok c l _ _ hy
  have:(l.drop c.size).length=0:=by rw [← h1]; rfl
  simp at this
  exact ⟨by omega,h3⟩
 ·cases h
theorem decAll_spec {c:EC}:∀ {rows:List (List V)} {xs:List c.ty},decAll c rows=some xs→xs.length=rows.length ∧
  ∀ (i:Nat) x,xs[i]? = some x → ∃ row,rows[i]? = some row∧dec1 c row=some x
 | [],xs,h=>by
  simp only [decAll,Option.some.injEq] at h
  subst h
  exact ⟨rfl,fun i x h=>by simp at h⟩
 | row :: rows,xs,h=>by
  unfold decAll at h
  split at h
  ·rename_i y ys h1 h2
   simp only [Option.some.injEq] at h
   subst h
   obtain ⟨a,b⟩:=decAll_spec h2
   refine ⟨by simp [a],fun i x hx=>?_⟩
   cases i with
   | zero=>simp at hx; subst hx; exact ⟨row,rfl,h1⟩
   | succ i=>simp at hx; obtain ⟨r,hr,hr'⟩:=b i x hx; exact ⟨r,by simpa using hr,hr'⟩
  ·cases h
theorem chunks_spec (sz:Nat):∀ (n:Nat) (l:List V),(chunks sz n l).length=n ∧ ∀ (i:Nat) row,(chunks sz n l)[i]? = some row→row=(l.drop (i*sz)).take sz
 | 0,l=>⟨rfl,fun i row h=>by simp [chunks] at h⟩
 | n+1,l=>by
  obtain ⟨h1,h2⟩:=chunks_spec sz n (l.drop sz)
  refine ⟨by simp [chunks,h1],fun i row h=>?_⟩
  cases i with
  | zero=>simp [chunks] at h; simp [h]
  | succ i =>
   simp only [chunks,List.getElem?_cons_succ] at h
   rw [h2 i row h,List.drop_drop]
   congr 2
   rw [Nat.add_mul]; omega
theorem chunk_dec {c:EC} {n:Nat} {cells:List V} {xs:List c.ty} (h:decAll c (chunks c.size n cells)=some xs):xs.length=n ∧
  ∀ (i:Nat) x (k:Nat) v,xs[i]? = some x→(enc c x)[k]? = some v → ∃ u,cells[i*c.size+k]? = some u∧u.one=true ∧
   ∀ (w:World) (X:Nat→Nat→Prop) (β:List Loc) (y:Value),R w X β u y→R w X [] v y:=by
 obtain ⟨h1,h2⟩:=decAll_spec h
 obtain ⟨g1,g2⟩:=chunks_spec c.size n cells
 refine ⟨by rw [h1,g1],fun i x k v hx hv=>?_⟩
 obtain ⟨row,hr,hd⟩:=h2 i x hx
 have hrow:=g2 i row hr
 obtain ⟨hl,hh⟩:=dec1_spec hd
 obtain ⟨u,hu,hu'⟩:=hh k v hv
 refine ⟨u,?_,hu'⟩
 rw [hrow,List.getElem?_take] at hu
 split at hu
 ·rw [List.getElem?_drop] at hu; exact hu
 ·cases hu
end
end Go.Ab

namespace Go.Ab
section
variable {P:Program} {E:Nat→Nat→Prop} {H:List O} {β:List Loc} {w:World} {X:Nat→Nat→Prop}
def OneOk (c:EC):Prop:=∀ (x:c.ty) v,v ∈ enc c x→v.one=true
def OnesOk (cs:List EC):Prop:=∀ (x:EC.tys cs) v,v ∈ encs cs x→v.one=true
theorem enc_one (c:EC):OneOk c:=by
 refine EC.rec (motive_1:=OneOk) (motive_2:=OnesOk) ?_ ?_ ?_ ?_ ?_ ?_ ?_ c
 ·intro k x v hv; change v ∈ [V.int k x] at hv; simp at hv; subst hv; rfl
 ·intro x v hv; change v ∈ [V.bool x] at hv; simp at hv; subst hv; rfl
 ·intro x v hv; change v ∈ [V.str x] at hv; simp at hv; subst hv; rfl
 ·intro c _ x v hv
  change Option (List c.ty) at x
  cases x with
  | none=>change v ∈ [nilSl] at hv; simp at hv; subst hv; rfl
  | some l=>change v ∈ [V.sl c l [] .ro] at hv; simp at hv; subst hv; rfl
 ·intro cs ih x v hv; exact ih x v hv
 ·intro x v hv; change v ∈ [] at hv; simp at hv
 ·intro c cs ih ihs x v hv
  cases cs with
  | nil=>exact ih x v hv
  | cons d cs =>
   change c.ty × EC.tys (d :: cs) at x
   change v ∈ enc c x.1++encs (d :: cs) x.2 at hv
   rcases List.mem_append.1 hv with hv | hv
   ·exact ih _ v hv
   ·exact ihs _ v hv
theorem row_cells {c:EC} {l:List c.ty} {b o:Nat}
  (h:∀ (i:Nat) x (k:Nat) v,l[i]? = some x→(enc c x)[k]? = some v → ∃ y,w.cell? ⟨b,o+i*c.size+k,none⟩=some y∧R w X [] v y) :
  ∃ news:List Value,news.length=l.length*c.size∧(∀ z ∈ news,z.oneCell' = true) ∧
   (∀ (i:Nat) x (k:Nat) v,l[i]? = some x→(enc c x)[k]? = some v → ∃ z,news[i*c.size+k]? = some z∧R w X [] v z) ∧
   ∀ w' : World,w'.heap=w.heap→(loadCells ⟨b,o,none⟩ (l.length*c.size)).run P w' = .ok news.toArray w' := by
 let f:Nat→Value:=fun j=>(w.cell? ⟨b,o+j,none⟩).getD undef
 have split:∀ j,j<l.length*c.size → ∃ i k x v,j=i*c.size+k∧l[i]? = some x∧(enc c x)[k]? = some v:=by
  intro j hj
  have hpos:0<c.size:=by
   rcases Nat.eq_zero_or_pos c.size with h0 | h0
   ·simp [h0] at hj
   ·exact h0
  have hi:j / c.size<l.length:=(Nat.div_lt_iff_lt_mul hpos).2 hj
  obtain ⟨v,hv⟩:=enc_get l[j / c.size] (Nat.mod_lt j hpos)
  exact ⟨j / c.size,j % c.size,_,v,(Nat.div_add_mod' j c.size).symm,List.getElem?_eq_getElem hi,hv⟩
 have hf:∀ j,j<l.length*c.size→w.cell? ⟨b,o+j,none⟩=some (f j):=by
  intro j hj
  obtain ⟨i,k,x,v,rfl,h1,h2⟩:=split j hj
  obtain ⟨y,hy,_⟩:=h i x k v h1 h2
  rw [Nat.add_assoc] at hy
  simp [f,hy]
 refine ⟨(List.range (l.length*c.size)).map f,by simp,?_,?_,?_⟩
 ·intro z hz
  obtain ⟨j,hj,rfl⟩:=List.mem_map.1 hz
  obtain ⟨i,k,x,v,rfl,h1,h2⟩:=split j (List.mem_range.1 hj)
  obtain ⟨y,hy,hr⟩:=h i x k v h1 h2
  have:f (i*c.size+k)=y:=by rw [Nat.add_assoc] at hy; simp [f,hy]
  rw [this]
  exact one_spec hr (enc_one c x v (List.mem_of_getElem? h2))
 ·intro i x k v h1 h2
  obtain ⟨y,hy,hr⟩:=h i x k v h1 h2
  have hk:k<c.size:=by have:=(List.getElem?_eq_some_iff.1 h2).1; rwa [enc_size] at this
  have hi:i<l.length:=(List.getElem?_eq_some_iff.1 h1).1
  have hlt:i*c.size+k<l.length*c.size:=by
   have:(i+1)*c.size≤l.length*c.size:=Nat.mul_le_mul_right _ hi
   rw [Nat.add_mul] at this
   omega
  refine ⟨y,?_,hr⟩
  rw [Nat.add_assoc] at hy
  simp [List.getElem?_range hlt,f,hy]
 ·intro w' hw
  rw [run_loadCells (P:=P) w' ⟨b,o,none⟩ _ f]
  intro j hj
  rw [addr_add]
  exact (cell_heap (w:=w) (w' := w') (by rw [hw]) (o+j)).trans (hf j hj)
structure News (P:Program) (w:World) (X:Nat→Nat→Prop) (c:EC) (xs:List c.ty) (y:Value) (news:List Value):Prop where
 len:news.length=xs.length*c.size
 one:∀ z ∈ news,z.oneCell' = true
 get:∀ (i:Nat) x (k:Nat) v,xs[i]? = some x→(enc c x)[k]? = some v → ∃ z,news[i*c.size+k]? = some z∧R w X [] v z
 lenOf:∀ w' : World,(Builtin.lenOf y).run P w' = .ok xs.length w'
 first:∀ w' : World,w'.heap=w.heap→(Builtin.firstCells c.size xs.length y).run P w' = .ok news.toArray w'
theorem str_news (s:List UInt8) (xs:List Int) (h:xs=s.map fun b=>(b.toNat:Int)) :
  News P w X (.int .u8) xs (.string ⟨s.toArray⟩) (s.map fun b=>.int .u8 b.toNat):=by
 have hl:xs.length=s.length:=by rw [h]; simp
 refine ⟨?_,?_,?_,fun w' => ?_,fun w' hw=>?_⟩
 ·show (s.map _).length=xs.length*1
  simp [hl]
 ·intro z hz; obtain ⟨b,_,rfl⟩:=List.mem_map.1 hz; rfl
 ·intro i (x:Int) k v (h1:xs[i]? = some x) h2
  change ([V.int .u8 x]:List V)[k]? = some v at h2
  cases k with
  | zero =>
   simp at h2
   subst h2
   rw [h,List.getElem?_map] at h1
   obtain ⟨b,hb,rfl⟩:=Option.map_eq_some_iff.1 h1
   refine ⟨.int .u8 b.toNat,?_,.int _ _ _⟩
   show (s.map _)[i*1+0]? = _
   simp [hb]
  | succ k=>simp at h2
 ·show _=Result.ok xs.length w'
  rw [hl]; rfl
 ·show (Builtin.firstCells 1 xs.length _).run P w' = _
  rw [hl]
  simp [Builtin.firstCells]
theorem int_news {k:IntKind} {L:List (EC.int k).ty} {len b o cap:Nat} (hlen:L.length=len) (hc:∀ (i:Nat) (x:(EC.int k).ty),L[i]? = some x→w.cell? ⟨b,o+i,none⟩=some (.int k x)) :
  ∃ news,News P w X (.int k) L (.slice (some ⟨b,o,none⟩) len cap) news:=by
 obtain ⟨news,h1,h2,h3,h4⟩:=row_cells (P:=P) (w:=w) (X:=X) (c:=.int k) (l:=L) (b:=b) (o:=o) (fun i x q v q1 q2=>by
  have hq:q=0:=by
   have:=(List.getElem?_eq_some_iff.1 q2).1
   simp only [enc,List.length_cons,List.length_nil] at this
   omega
  subst hq
  simp only [enc,List.getElem?_cons_zero,Option.some.injEq] at q2
  subst q2
  have hsz:(EC.int k).size=1:=rfl
  rw [hsz,Nat.mul_one,Nat.add_zero]
  exact ⟨.int k x,hc i x q1,.int _ _ _⟩)
 subst hlen
 exact ⟨news,h1,h2,h3,fun w' => rfl,fun w' hw=>h4 w' hw⟩
theorem nil_news {c:EC} {b o cap:Nat}:News P w X c ([]:List c.ty) (.slice (some ⟨b,o,none⟩) 0 cap) []:=
 ⟨by simp,by simp,fun i x k v h=>by simp at h,fun w' => rfl,fun w' hw=>by simp [Builtin.firstCells,loadCells,loadCellsFrom]⟩
theorem drop_take_get {l:List Int} {m len i:Nat} {x:Int} (h:((l.drop m).take len)[i]? = some x):i<len∧l[m+i]? = some x:=by
 have hi:i<len:=by
  have:=(List.getElem?_eq_some_iff.1 h).1
  simp at this
  omega
 rw [List.getElem?_take,if_pos hi,List.getElem?_drop] at h
 exact ⟨hi,h⟩
theorem drop_take_len {l:List Int} {m len:Nat} (h:m+len≤l.length):((l.drop m).take len).length=len:=by simp; omega
theorem elems_R {c:EC} {x:V} {y:Value} {xs:List c.ty} (hR:Rel w X H β) (hx:R w X β x y) (h:elemsOf c H x=some xs):∃ news,News P w X c xs y news:=by
 unfold elemsOf at h
 split at h
 ·rename_i d l sp fl
  obtain ⟨e,rfl⟩:=sameL_spec h
  subst e
  rcases sl_get hx with ⟨rfl,rfl,rfl,rfl⟩ | ⟨b,o,cap,rfl,hcap,_,_,hh⟩
  ·exact ⟨[],by simp [castL],by simp,by simp [castL],fun w' => rfl,fun w' hw=>rfl⟩
  obtain ⟨news,h1,h2,h3,h4⟩:=row_cells (P:=P) (w:=w) (X:=X) (l:=l) (b:=b) (o:=o) (fun i x k v g1 g2=>(hh i x k v (by
   have:i<l.length:=(List.getElem?_eq_some_iff.1 g1).1
   rw [List.getElem?_append_left this]; exact g1) g2).2)
  exact ⟨news,h1,h2,h3,fun w' => rfl,fun w' hw=>h4 w' hw⟩
 ·rename_i id d l
  obtain ⟨e,rfl⟩:=sameL_spec h
  subst e
  obtain ⟨b,o,cap,loc,rfl,_,_,_,_,hcap,hh⟩:=gro_get hx
  obtain ⟨news,h1,h2,h3,h4⟩:=row_cells (P:=P) (w:=w) (X:=X) (l:=l) (b:=b) (o:=o) (fun i x k v g1 g2=>(hh i x k v g1 g2).2)
  exact ⟨news,h1,h2,h3,fun w' => rfl,fun w' hw=>h4 w' hw⟩
 ·rename_i id s off len
  split at h
  ·rename_i cs e hH
   cases hb:(Nat.beq s c.size && Nat.ble (off+len*s) cs.length)
   ·simp [hb] at h
   ·simp only [hb,cond_true] at h
    obtain ⟨b1,b2⟩:=Bool.and_eq_true_iff.1 hb
    have b1:=Nat.eq_of_beq_eq_true b1
    have b2:=Nat.le_of_ble_eq_true b2
    subst b1
    obtain ⟨g1,g2⟩:=chunk_dec h
    cases hx with
    | ref _ _ _ _ _ loc b o cap hid hk hlen ha hcap =>
     obtain ⟨_,arr,e',a1,a2,a3,a4⟩:=hR.cells id cs e loc hH hid
     by_cases h0:0<cap
     ·obtain ⟨rfl,rfl⟩:=ha h0
      obtain ⟨news,h1,h2,h3,h4⟩:=row_cells (P:=P) (w:=w) (X:=X) (l:=xs) (b:=loc.block) (o:=loc.base+off) (fun i x k v q1 q2=>by
       obtain ⟨u,hu,hone,hu'⟩:=g2 i x k v q1 q2
       rw [List.getElem?_drop] at hu
       obtain ⟨z,hz,hz'⟩:=a4 _ u hu
       refine ⟨z,?_,hu' w X β z hz'⟩
       rw [cell_of_row w _ _ arr e' (0,0) a1,← hz]
       congr 1; omega)
      refine ⟨news,h1,h2,h3,fun w' => ?_,fun w' hw=>?_⟩
      ·rw [g1]; rfl
      ·rw [g1] at h4 ⊢; exact h4 w' hw
     ·have hl0:len=0:=by omega
      subst hl0
      have hx0:xs=[]:=List.length_eq_zero_iff.1 g1
      subst hx0
      exact ⟨[],by simp,by simp,by simp,fun w' => rfl,fun w' hw=>by simp [Builtin.firstCells,loadCells,loadCellsFrom]⟩
  ·rename_i n k l hd hH
   cases hb:(Nat.beq s 1 && (Nat.ble n off && Nat.ble (off - n+len) l.length))
   ·rw [hb] at h; cases h
   rw [hb,cond_true] at h
   obtain ⟨b1,hb⟩:=Bool.and_eq_true_iff.1 hb
   obtain ⟨b2,b3⟩:=Bool.and_eq_true_iff.1 hb
   have b1:=Nat.eq_of_beq_eq_true b1
   have b2:=Nat.le_of_ble_eq_true b2
   have b3:=Nat.le_of_ble_eq_true b3
   subst b1
   unfold pageElems at h
   split at h
   rotate_left
   ·cases h
   rename_i k'
   cases hk:decide (k' = k)
   ·rw [hk] at h; cases h
   rw [hk,cond_true] at h
   have:=of_decide_eq_true hk
   subst this
   cases h
   cases hx with
   | ref _ _ _ _ _ loc b o cap hid hkd hlen' ha hcap =>
    obtain ⟨_,hb0,ob,ys,a1,⟨hn,e',rfl⟩,_⟩:=hR.objs id _ _ loc hH hid
    by_cases h0:0<cap
    ·obtain ⟨rfl,rfl⟩:=ha h0
     exact int_news (drop_take_len b3) fun i x hx=>by
      obtain ⟨hi,hx⟩:=drop_take_get hx
      rw [cell_of_row w _ _ _ e' (0,0) a1,hb0,Nat.zero_add,List.getElem?_toArray,List.getElem?_append_right (by omega),hn,List.getElem?_map,show off+i - n=(off - n)+i by omega,hx]
      rfl
    ·have hl0:len=0:=by omega
     subst hl0
     have e0:((l.drop (off - n)).take 0:List Int)=[]:=List.take_zero
     have e1:(((l.drop (off - n)).take 0:List Int):List (EC.int k').ty)=[]:=e0
     rw [e1]
     exact ⟨[],nil_news⟩
  ·cases h
 ·simp only [Option.some.injEq] at h
  subst h
  cases hx
  exact ⟨[],by simp,by simp,by simp,fun w' => rfl,fun w' hw=>rfl⟩
 ·rename_i s
  unfold strElems at h
  split at h <;> first | (cases h; done) | skip
  cases hx
  exact ⟨_,str_news s xs (Option.some.inj h).symm⟩
 ·cases h
end
end Go.Ab

namespace Go.Ab
section
variable {P:Program} {E:Nat→Nat→Prop} {H:List O} {β:List Loc} {w:World} {X:Nat→Nat→Prop}
structure AppT (P:Program) (argTypes:Array TypeId) (e:TypeId) (j:TI):Prop where
 st:∃ st,argTypes[0]? = some st∧P.underlying st=some (.slice e)
 el:ti P e=some j
 xt:∃ t d,argTypes[1]? = some t∧P.underlying t=some d∧((∃ e,d = .slice e)∨d = .string)
 bytes:0<j.bytes
 zero:j.zero.length=j.size
theorem roomy_spec {n b:Nat} (h:roomy n b=true):n*b≤140737488355328:=of_decide_eq_true h
theorem run_append_in {argTypes:Array TypeId} {e ty:TypeId} {j:TI} (t:AppT P argTypes e j) {n:Nat} {news:List Value} {y:Value} {base:Option Addr} {sLen sCap:Nat}
  (hlen:(Builtin.lenOf y).run P w = .ok n w) (hfirst:(Builtin.firstCells j.size n y).run P w = .ok news.toArray w) (hneed:sLen+n≤sCap) {w' : World}
  (hst:∀ a,base=some a→(storeCells (a.add (sLen*j.size)) news).run P w = .ok () w') (hnone:base=none→w' = w) :
  (Builtin.append_ argTypes ty #[.slice base sLen sCap,y]).run P w = .ok (.slice base (sLen+n) sCap) w' := by
 obtain ⟨st,h0,h1⟩:=t.st
 obtain ⟨xt,d,h2,h3,h4⟩:=t.xt
 cases base with
 | none =>
  rw [hnone rfl]
  rcases h4 with ⟨e',rfl⟩ | rfl <;> simp [Builtin.append_,h0,h2,run_und w h1,run_und w h3,ti_size w t.el,hlen,hfirst,hneed]
 | some a =>
  rcases h4 with ⟨e',rfl⟩ | rfl <;> simp [Builtin.append_,h0,h2,run_und w h1,run_und w h3,ti_size w t.el,hlen,hfirst,hneed,hst a rfl]
theorem run_append_out {argTypes:Array TypeId} {e ty:TypeId} {j:TI} (t:AppT P argTypes e j) {n:Nat} {olds news:List Value} {y:Value} {base:Option Addr} {sLen sCap:Nat}
  (hlen:(Builtin.lenOf y).run P w = .ok n w) (hfirst:(Builtin.firstCells j.size n y).run P w.drew = .ok news.toArray w.drew)
  (hold:(Builtin.firstCells j.size sLen (.slice base sLen sCap)).run P w.drew = .ok olds.toArray w.drew) (hneed:sCap<sLen+n) (hb:(sLen+n)*j.bytes≤140737488355328) :
  ∃ rest:List Value,rest.length=(grownCap w (sLen+n) sCap e - (sLen+n))*j.size ∧
  (Builtin.append_ argTypes ty #[.slice base sLen sCap,y]).run P w = .ok (.slice (some ⟨w.heap.size,0,none⟩) (sLen+n) (grownCap w (sLen+n) sCap e))
   (w.drew.alloc (.cells (olds++news++rest).toArray e)):=by
 obtain ⟨st,h0,h1⟩:=t.st
 obtain ⟨xt,d,h2,h3,h4⟩:=t.xt
 obtain ⟨ti1,d1,i1,i2,i3,i4,⟨z,z1,z2⟩,_⟩:=(ti_spec t.el).info
 have hz:z.cells.size=j.size:=by have:=t.zero; rw [z2] at this; simpa using this
 have hfit:=growslice_fits hneed hb
 rw [← i4] at hfit
 refine ⟨(Builtin.zeroCells z.cells (grownCap w (sLen+n) sCap e - (sLen+n))).toList,by simp [size_zeroCells,hz],?_⟩
 have hnb:¬ (ti1.bytes=0):=by rw [i4]; have:=t.bytes; omega
 have hn:¬ (sLen+n≤sCap):=by omega
 have hfit' : ¬ (281474976710656<Builtin.nextslicecap (sLen+n) sCap*ti1.bytes):=by omega
 have hcat:∀ Z:Array Value,w.drew.alloc (Obj.cells (olds.toArray++(news.toArray++Z)) e)=w.drew.alloc (Obj.cells (olds++(news++Z.toList)).toArray e):=by
  intro Z
  congr 2
  apply Array.ext'
  simp
 rcases h4 with ⟨e',rfl⟩ | rfl <;>
  simp [Builtin.append_,h0,h2,run_und w h1,run_und w h3,ti_size w t.el,hlen,hn,hcat,run_typeInfo' w i1,run_typeInfo' w.drew i1,hnb,hfit',Question.forced,grownCap,hfirst,hold,zeroValue,z1,newRow]
end
end Go.Ab

namespace Go.Ab
section
variable {P:Program} {E:Nat→Nat→Prop} {H:List O} {β:List Loc} {w:World} {X:Nat→Nat→Prop}
theorem Step.drew (hR:Rel w (Xs E H β) H β):Step E H β w H β w.drew:=Step.heap_same hR rfl rfl rfl rfl
theorem idx_lt {c:EC} {n i k:Nat} {x:c.ty} {v:V} (hi:i<n) (hv:(enc c x)[k]? = some v):i*c.size+k<n*c.size:=by
 have hk:k<c.size:=by have:=(List.getElem?_eq_some_iff.1 hv).1; rwa [enc_size] at this
 have:(i+1)*c.size≤n*c.size:=Nat.mul_le_mul_right _ hi
 rw [Nat.add_mul] at this
 omega
theorem join_cells {c:EC} {l xs:List c.ty} {olds news:List Value} (ho:olds.length=l.length*c.size)
  (h1:∀ (i:Nat) x (k:Nat) v,l[i]? = some x→(enc c x)[k]? = some v → ∃ z,olds[i*c.size+k]? = some z∧R w X [] v z)
  (h2:∀ (i:Nat) x (k:Nat) v,xs[i]? = some x→(enc c x)[k]? = some v → ∃ z,news[i*c.size+k]? = some z∧R w X [] v z) :
  ∀ (i:Nat) x (k:Nat) v,(l++xs)[i]? = some x→(enc c x)[k]? = some v → ∃ z,(olds++news)[i*c.size+k]? = some z∧R w X [] v z:=by
 intro i x k v hx hv
 by_cases hi:i<l.length
 ·rw [List.getElem?_append_left hi] at hx
  rw [List.getElem?_append_left (by rw [ho]; exact idx_lt hi hv)]
  exact h1 i x k v hx hv
 ·rw [List.getElem?_append_right (by omega)] at hx
  have hle:l.length*c.size≤i*c.size:=Nat.mul_le_mul_right _ (by omega)
  rw [List.getElem?_append_right (by omega),ho]
  have e:i*c.size+k - l.length*c.size=(i - l.length)*c.size+k:=by
   rw [Nat.sub_mul]; omega
  rw [e]
  exact h2 _ x k v hx hv
theorem new_gro {c:EC} {ll:List c.ty} {row rest:List Value} {e:TypeId} {cap:Nat} (hE:∀ b o,E b o→b<w.heap.size∧¬ Own H β b o) (hR:Rel w (Xs E H β) H β)
  (hrow:row.length=ll.length*c.size) (hcap:ll.length≤cap) (hrest:rest.length=(cap - ll.length)*c.size)
  (h:∀ (i:Nat) x (k:Nat) v,ll[i]? = some x→(enc c x)[k]? = some v → ∃ z,row[i*c.size+k]? = some z∧R w (Xs E H β) [] v z) :
  ∃ β',Step E H β w (H++[.tok ll.length c.size]) β' (w.drew.alloc (.cells (row++rest).toArray e)) ∧
   R (w.drew.alloc (.cells (row++rest).toArray e)) (Xs E (H++[.tok ll.length c.size]) β') β' (.gro H.length c ll) (.slice (some ⟨w.heap.size,0,none⟩) ll.length cap):=by
 have hd:=Step.drew hR
 have hs:=Step.push hd.rel (row++rest).toArray e (.tok ll.length c.size) { kind:=true,block:=w.heap.size,base:=0,n:=ll.length,size:=row.length+rest.length } rfl (by simp)
  (fun cs e h=>by cases h) (fun n sz h=>by cases h; exact ⟨rfl,rfl⟩)
 have st:=hd.trans hs
 refine ⟨_,st,mk_gro (loc:={ kind:=true,block:=w.heap.size,base:=0,n:=ll.length,size:=row.length+rest.length }) rfl (by rw [hR.len]; simp) rfl (Nat.le_refl _) ?_ hcap ?_⟩
 ·intro _
  refine ⟨rfl,rfl,?_⟩
  simp only [hrow,hrest,← Nat.add_mul]
  rw [show ll.length+(cap - ll.length)=cap from by omega]; omega
 ·intro i x k v hx hv
  have hi:i<ll.length:=(List.getElem?_eq_some_iff.1 hx).1
  have hlt:=idx_lt hi hv
  obtain ⟨z,hz,hr⟩:=h i x k v hx hv
  refine ⟨?_,z,?_,hr.stab st.stab _ (.nil _)⟩
  ·rintro (g | ⟨id,l,g1,g2,g3⟩)
   ·exact absurd (hE _ _ g).1 (Nat.lt_irrefl _)
   ·rw [getElem?_concat] at g1
    by_cases hid:id<β.length
    ·simp only [hid,if_true] at g1
     have hid' : id<H.length:=by rw [hR.len]; exact hid
     rcases g3 with ⟨cs,e,g3⟩ | ⟨n,sz,g3,g4⟩ | ⟨sh,vs,g3⟩
     ·rw [List.getElem?_append_left hid'] at g3
      have:=live_lt hR (live_cells g3) g1
      omega
     ·rw [List.getElem?_append_left hid'] at g3
      have:=live_lt hR (live_tok g3) g1
      omega
     ·rw [List.getElem?_append_left hid'] at g3
      have:=live_lt hR (live_obj g3) g1
      omega
    ·simp only [hid,if_false] at g1
     split at g1
     ·rename_i hid2
      rcases g3 with ⟨cs,e,g3⟩ | ⟨n,sz,g3,g4⟩ | ⟨sh,vs,g3⟩
      ·rw [hid2,← hR.len] at g3; simp at g3
      ·rw [hid2,← hR.len] at g3
       simp at g3
       obtain ⟨rfl,rfl⟩:=g3
       simp only [Option.some.injEq] at g1
       subst g1
       simp at g4
       omega
      ·rw [hid2,← hR.len] at g3; simp at g3
     ·cases g1
  ·have hc:=World.cell?_alloc_new w.drew (row++rest).toArray e (0+i*c.size+k)
   rw [show w.drew.heap.size=w.heap.size from rfl] at hc
   rw [hc]
   simp only [Nat.zero_add,List.getElem?_toArray]
   rw [List.getElem?_append_left (by omega)]
   exact hz
theorem move_gro {c:EC} {ll:List c.ty} {row rest:List Value} {e:TypeId} {cap id n:Nat} {loc:Loc} (hE:∀ b o,E b o→b<w.heap.size∧¬ Own H β b o) (hR:Rel w (Xs E H β) H β)
  (hid:H[id]? = some (.tok n c.size)) (hloc:β[id]? = some loc) (hn:n<ll.length)
  (hrow:row.length=ll.length*c.size) (hcap:ll.length≤cap) (hrest:rest.length=(cap - ll.length)*c.size)
  (h:∀ (i:Nat) x (k:Nat) v,ll[i]? = some x→(enc c x)[k]? = some v → ∃ z,row[i*c.size+k]? = some z∧R w (Xs E H β) [] v z) :
  ∃ β',Step E H β w (H.set id (.tok ll.length c.size)) β' (w.drew.alloc (.cells (row++rest).toArray e)) ∧
   R (w.drew.alloc (.cells (row++rest).toArray e)) (Xs E (H.set id (.tok ll.length c.size)) β') β' (.gro id c ll) (.slice (some ⟨w.heap.size,0,none⟩) ll.length cap):=by
 have hd:=Step.drew hR
 have hs:=Step.moveTok (e' := e) (c:=(row++rest).toArray) hd.rel hid hloc hn
 have st:=hd.trans hs
 have hilt:id<β.length:=(List.getElem?_eq_some_iff.1 hloc).1
 have hsz:(row++rest).toArray.size=row.length+rest.length:=by simp
 rw [hsz] at st
 refine ⟨_,st,mk_gro (loc:={ kind:=true,block:=w.heap.size,base:=0,n:=ll.length,size:=row.length+rest.length }) rfl
  (by rw [get_set]; simp [hilt]) rfl (Nat.le_refl _) ?_ hcap ?_⟩
 ·intro _
  refine ⟨rfl,rfl,?_⟩
  simp only [hrow,hrest,← Nat.add_mul]
  rw [show ll.length+(cap - ll.length)=cap from by omega]; omega
 ·intro i x k v hx hv
  have hi:i<ll.length:=(List.getElem?_eq_some_iff.1 hx).1
  have hlt:=idx_lt hi hv
  obtain ⟨z,hz,hr⟩:=h i x k v hx hv
  refine ⟨?_,z,?_,hr.stab st.stab _ (.nil _)⟩
  ·rintro (g | ⟨j,l,g1,g2,g3⟩)
   ·exact absurd (hE _ _ g).1 (Nat.lt_irrefl _)
   ·rw [get_set] at g1
    rw [get_set] at g3
    by_cases hj:id=j
    ·subst hj
     have hilt' : id<H.length:=by rw [hR.len]; exact hilt
     simp only [if_true,hilt,hilt'] at g1 g3
     simp only [Option.some.injEq] at g1
     subst g1
     rcases g3 with ⟨cs,e,g3⟩ | ⟨m,sz,g3,g4⟩ | ⟨sh,vs,g3⟩
     ·cases g3
     ·simp only [Option.some.injEq,O.tok.injEq] at g3
      obtain ⟨rfl,rfl⟩:=g3
      simp at g4
      omega
     ·cases g3
    ·simp only [hj,if_false] at g1 g3
     rcases g3 with ⟨cs,e,g3⟩ | ⟨m,sz,g3,g4⟩ | ⟨sh,vs,g3⟩
     ·have:=live_lt hR (live_cells g3) g1
      omega
     ·have:=live_lt hR (live_tok g3) g1
      omega
     ·have:=live_lt hR (live_obj g3) g1
      omega
  ·have hc:=World.cell?_alloc_new w.drew (row++rest).toArray e (0+i*c.size+k)
   rw [show w.drew.heap.size=w.heap.size from rfl] at hc
   rw [hc]
   simp only [Nat.zero_add,List.getElem?_toArray]
   rw [List.getElem?_append_left (by omega)]
   exact hz
theorem in_gro {c:EC} {l xs:List c.ty} {news:List Value} {cap id:Nat} {y0:Addr} (hE:∀ b o,E b o→b<w.heap.size∧¬ Own H β b o) (hR:Rel w (Xs E H β) H β)
  (hy:R w (Xs E H β) β (.gro id c l) (.slice (some y0) l.length cap)) (hid:H[id]? = some (.tok l.length c.size)) (hx:0<xs.length) (hcap:l.length+xs.length≤cap)
  (hlen:news.length=xs.length*c.size) (hone:∀ z ∈ news,z.oneCell' = true)
  (h:∀ (i:Nat) x (k:Nat) v,xs[i]? = some x→(enc c x)[k]? = some v → ∃ z,news[i*c.size+k]? = some z∧R w (Xs E H β) [] v z) :
  ∃ w' β',(storeCells (y0.add (l.length*c.size)) news).run P w = .ok () w' ∧ Step E H β w (H.set id (.tok (l++xs).length c.size)) β' w' ∧
   R w' (Xs E (H.set id (.tok (l++xs).length c.size)) β') β' (.gro id c (l++xs)) (.slice (some y0) (l.length+xs.length) cap):=by
 obtain ⟨b,o,cap',loc,he,hloc,hk,hn,hl,hcap',hh⟩:=gro_get hy
 simp only [Value.slice.injEq,Option.some.injEq,true_and] at he
 obtain ⟨rfl,rfl⟩:=he
 obtain ⟨_,hlocn,arr,e',a1,a2⟩:=hR.tok id _ _ loc hid hloc
 obtain ⟨rfl,rfl,hfit⟩:=hl hlocn
 have hmul:(l.length+xs.length)*c.size≤cap*c.size:=Nat.mul_le_mul_right _ hcap
 rw [Nat.add_mul] at hmul
 have hroom:loc.base+l.length*c.size+news.length≤arr.size:=by omega
 have hrun:=run_storeCells_at P loc.block (loc.base+l.length*c.size) e' news 0 arr w a1 (by simpa using hroom) hone
 simp only [Nat.add_zero] at hrun
 have hgetnew:∀ j,(arr.toList.take (loc.base+l.length*c.size)++news++arr.toList.drop (loc.base+l.length*c.size+news.length))[j]? =
   if loc.base+l.length*c.size≤j∧j<loc.base+l.length*c.size+news.length then news[j - (loc.base+l.length*c.size)]? else arr.toList[j]? := splice_get _ _ _ (by simpa using hroom)
 have st:=Step.setTok (n' := (l++xs).length) (c' := (arr.toList.take (loc.base+l.length*c.size)++news++arr.toList.drop (loc.base+l.length*c.size+news.length)).toArray) hR hid hloc a1
  (by simp; omega) (by simp; omega) (by
   intro j hj
   rw [List.getElem?_toArray,hgetnew,if_neg (by omega)]
   simp)
 have hilt:id<β.length:=(List.getElem?_eq_some_iff.1 hloc).1
 have hilt' : id<H.length:=by rw [hR.len]; exact hilt
 refine ⟨_,_,by rw [addr_add]; exact hrun,st,mk_gro (loc:={ loc with n:=(l++xs).length }) (by simp) (by rw [get_set]; simp [hilt]) hk (Nat.le_refl _) (fun _=>⟨rfl,rfl,hfit⟩) (by simpa using hcap) ?_⟩
 intro i x k v hx hv
 have hi:i<(l++xs).length:=(List.getElem?_eq_some_iff.1 hx).1
 have hlt:=idx_lt hi hv
 have hheap:=setRow_heap w loc.block arr ((arr.toList.take (loc.base+l.length*c.size)++news++arr.toList.drop (loc.base+l.length*c.size+news.length)).toArray) e' (0,0) a1
 have hmul2:(l++xs).length*c.size=l.length*c.size+xs.length*c.size:=by simp [Nat.add_mul]
 by_cases hil:i<l.length
 ·rw [List.getElem?_append_left hil] at hx
  obtain ⟨hx1,z,hz,hr⟩:=hh i x k v hx hv
  obtain ⟨s1,s2⟩:=st.stab.cell _ _ _ hx1 hz
  exact ⟨s1,z,s2,hr.stab st.stab _ (.nil _)⟩
 ·rw [List.getElem?_append_right (by omega)] at hx
  obtain ⟨z,hz,hr⟩:=h (i - l.length) x k v hx hv
  have hle:l.length*c.size≤i*c.size:=Nat.mul_le_mul_right _ (by omega)
  have e1:loc.base+i*c.size+k - (loc.base+l.length*c.size)=(i - l.length)*c.size+k:=by rw [Nat.sub_mul]; omega
  refine ⟨?_,z,?_,hr.stab st.stab _ (.nil _)⟩
  ·rintro (g | ⟨j,lo,g1,g2,g3⟩)
   ·exact (hE _ _ g).2 ⟨id,loc,hloc,rfl,.inr (.inl ⟨_,_,hid,by omega⟩)⟩
   ·rw [get_set] at g1
    rw [get_set] at g3
    by_cases hj:id=j
    ·subst hj
     simp only [if_true,hilt,hilt'] at g1 g3
     simp only [Option.some.injEq] at g1
     subst g1
     rcases g3 with ⟨cs,e,g3⟩ | ⟨m,sz,g3,g4⟩ | ⟨sh,vs,g3⟩
     ·cases g3
     ·simp only [Option.some.injEq,O.tok.injEq] at g3
      obtain ⟨rfl,rfl⟩:=g3
      simp only at g4
      omega
     ·cases g3
    ·simp only [hj,if_false] at g1 g3
     rcases g3 with ⟨cs,e,g3⟩ | ⟨m,sz,g3,g4⟩ | ⟨sh,vs,g3⟩
     ·exact hj (hR.disj id j loc lo (live_tok hid) (live_cells g3) hloc g1 g2.symm)
     ·exact hj (hR.disj id j loc lo (live_tok hid) (live_tok g3) hloc g1 g2.symm)
     ·exact hj (hR.disj id j loc lo (live_tok hid) (live_obj g3) hloc g1 g2.symm)
  ·rw [cell_of_row _ _ _ _ e' (0,0) hheap,List.getElem?_toArray,hgetnew,if_pos (by omega),e1]
   exact hz
end
end Go.Ab
