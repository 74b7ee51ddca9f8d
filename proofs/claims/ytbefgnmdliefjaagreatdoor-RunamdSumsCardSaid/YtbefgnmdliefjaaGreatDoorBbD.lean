/-
  The engine, part D: the steps that the heap makes. Conditions: none.
-/
import Derived.Test.YtbefgnmdliefjaaGreatDoorPk02
set_option linter.unusedVariables false
set_option linter.unusedSimpArgs false
namespace Go.Ab
section
variable {E:Nat→Nat→Prop} {H:List O} {β:List Loc} {w:World}
theorem heap_lt {w:World} {b:Nat} {o:Obj} (h:w.heap[b]? = some o):b<w.heap.size:=by
 rcases Nat.lt_or_ge b w.heap.size with h' | h'
 ·exact h'
 ·simp [Array.getElem?_eq_none h'] at h
theorem cell_heap {w w' : World} {b:Nat} (h:w'.heap[b]? = w.heap[b]?) (o:Nat):w'.cell? ⟨b,o,none⟩=w.cell? ⟨b,o,none⟩:=by
 unfold World.cell?; rw [h]
theorem Step.heap_same {w' : World} (hR:Rel w (Xs E H β) H β) (hh:w'.heap=w.heap) (h1:w'.os=w.os) (h2:w'.tape=w.tape) (h3:w'.output=w.output):Step E H β w H β w' := by
 have st:Stab w (Xs E H β) w' (Xs E H β):=⟨fun b o v hx hv=>⟨hx,(cell_heap (w:=w) (w' := w') (by rw [hh]) o).trans hv⟩,fun b cs e h=>⟨cs,e,by rw [hh]; exact h⟩⟩
 refine ⟨⟨hR.len,fun id cs e loc g1 g2=>?_,fun id n sz loc g1 g2=>?_,fun id sh vs loc g1 g2=>?_,hR.disj⟩,h1,h2,h3,by rw [hh]; exact Nat.le_refl _,fun b _=>.inl (by rw [hh]),fun b o h=>.inl h,.refl _⟩
 ·obtain ⟨k,c,e',a1,a2,a3,a4⟩:=hR.cells id cs e loc g1 g2
  exact ⟨k,c,e',by rw [hh]; exact a1,a2,a3,fun k v hv=>let ⟨x,hx,hr⟩:=a4 k v hv; ⟨x,hx,hr.stab st _ (.refl _)⟩⟩
 ·obtain ⟨k,m,c,e',a1,a2⟩:=hR.tok id n sz loc g1 g2
  exact ⟨k,m,c,e',by rw [hh]; exact a1,a2⟩
 ·obtain ⟨k,kb,ob,xs,a1,a2,a3⟩:=hR.objs id sh vs loc g1 g2
  exact ⟨k,kb,ob,xs,by rw [hh]; exact a1,a2,fun k v hv=>let ⟨x,hx,hr⟩:=a3 k v hv; ⟨x,hx,hr.stab st _ (.refl _)⟩⟩
theorem own_lt (hR:Rel w (Xs E H β) H β) {b o:Nat} (h:Own H β b o):b<w.heap.size:=by
 obtain ⟨id,loc,h1,rfl,h2⟩:=h
 rcases h2 with ⟨cs,e,h2⟩ | ⟨n,sz,h2,_⟩ | ⟨sh,vs,h2⟩
 ·obtain ⟨_,c,e',h3,_⟩:=hR.cells id cs e loc h2 h1
  exact heap_lt h3
 ·obtain ⟨_,_,c,e',h3,_⟩:=hR.tok id n sz loc h2 h1
  exact heap_lt h3
 ·obtain ⟨_,_,ob,xs,h3,_⟩:=hR.objs id sh vs loc h2 h1
  exact heap_lt h3
theorem live_lt (hR:Rel w (Xs E H β) H β) {id:Nat} {loc:Loc} (hl:live H id) (h1:β[id]? = some loc):loc.block<w.heap.size:=by
 obtain ⟨o,h2,h3⟩:=hl
 cases o with
 | cells cs e=>obtain ⟨_,c,e',h3,_⟩:=hR.cells id cs e loc h2 h1; exact heap_lt h3
 | tok n sz=>obtain ⟨_,_,c,e',h3,_⟩:=hR.tok id n sz loc h2 h1; exact heap_lt h3
 | obj sh vs=>obtain ⟨_,_,ob,xs,h3,_⟩:=hR.objs id sh vs loc h2 h1; exact heap_lt h3
 | dead=>exact absurd rfl h3
theorem live_cells {id:Nat} {cs e} (h:H[id]? = some (.cells cs e)):live H id:=⟨_,h,by simp⟩
theorem live_obj {id:Nat} {sh vs} (h:H[id]? = some (.obj sh vs)):live H id:=⟨_,h,by simp⟩
theorem live_tok {id n sz:Nat} (h:H[id]? = some (.tok n sz)):live H id:=⟨_,h,by simp⟩
theorem Step.alloc (hR:Rel w (Xs E H β) H β) (ob:Obj):Step E H β w H β (w.alloc ob):=by
 have hold:∀ b,b<w.heap.size→(w.alloc ob).heap[b]? = w.heap[b]? := fun b hb=>heap_alloc_old w ob b hb
 have st:Stab w (Xs E H β) (w.alloc ob) (Xs E H β):=
  ⟨fun b o v hx hv=>⟨hx,by rw [cell_heap (hold b (cell_lt hv))]; exact hv⟩,fun b cs e h=>⟨cs,e,by rw [hold b (heap_lt h)]; exact h⟩⟩
 refine ⟨⟨hR.len,fun id cs e loc g1 g2=>?_,fun id n sz loc g1 g2=>?_,fun id sh vs loc g1 g2=>?_,hR.disj⟩,rfl,rfl,rfl,by simp,fun b hb=>.inl (hold b hb),fun b o h=>.inl h,.refl _⟩
 ·obtain ⟨k,c,e',a1,a2,a3,a4⟩:=hR.cells id cs e loc g1 g2
  exact ⟨k,c,e',by rw [hold _ (heap_lt a1)]; exact a1,a2,a3,fun k v hv=>let ⟨x,hx,hr⟩:=a4 k v hv; ⟨x,hx,hr.stab st _ (.refl _)⟩⟩
 ·obtain ⟨k,m,c,e',a1,a2⟩:=hR.tok id n sz loc g1 g2
  exact ⟨k,m,c,e',by rw [hold _ (heap_lt a1)]; exact a1,a2⟩
 ·obtain ⟨k,kb,ob,xs,a1,a2,a3⟩:=hR.objs id sh vs loc g1 g2
  exact ⟨k,kb,ob,xs,by rw [hold _ (heap_lt a1)]; exact a1,a2,fun k v hv=>let ⟨x,hx,hr⟩:=a3 k v hv; ⟨x,hx,hr.stab st _ (.refl _)⟩⟩
theorem getElem?_concat {α:Type} (l:List α) (x:α) (i:Nat):(l++[x])[i]? = if i<l.length then l[i]? else if i=l.length then some x else none:=by
 rw [List.getElem?_append]
 split
 ·rfl
 ·split
  ·subst i; simp
  ·rw [List.getElem?_eq_none]; simp; omega
theorem Step.push (hR:Rel w (Xs E H β) H β) (c:Array Value) (e' : TypeId) (ob:O) (loc:Loc)
  (hloc:loc.block=w.heap.size) (hsize:c.size=loc.size)
  (hcells:∀ cs e,ob = .cells cs e→loc.kind=false∧(loc.base+cs.length≤loc.size∧(4294967296≤e→loc.size=loc.base+cs.length)) ∧ ∀ (k:Nat) v,cs[k]? = some v → ∃ x,c[loc.base+k]? = some x∧R w (Xs E H β) β v x)
  (htok:∀ n sz,ob = .tok n sz→loc.kind=true∧loc.n=n) (hobj:∀ sh vs,ob ≠ .obj sh vs:=by intro _ _ h; cases h) :
  Step E H β w (H++[ob]) (β++[loc]) (w.alloc (.cells c e')):=by
 have hold:∀ b,b<w.heap.size→(w.alloc (.cells c e')).heap[b]? = w.heap[b]? := fun b hb=>heap_alloc_old w _ b hb
 have hnew:(w.alloc (.cells c e')).heap[w.heap.size]? = some (.cells c e' (0,0)):=heap_alloc_new w _
 have hH:∀ id,(H++[ob])[id]? = if id<H.length then H[id]? else if id=H.length then some ob else none:=getElem?_concat H ob
 have hB:∀ id,(β++[loc])[id]? = if id<H.length then β[id]? else if id=H.length then some loc else none:=fun id=>by rw [hR.len]; exact getElem?_concat β loc id
 have hown:∀ b o,Own (H++[ob]) (β++[loc]) b o→Own H β b o∨w.heap.size≤b:=by
  rintro b o ⟨id,l,h1,rfl,h2⟩
  rw [hB] at h1
  rw [hH] at h2
  by_cases hlt:id<H.length
  ·simp only [hlt,if_true] at h1 h2
   exact .inl ⟨id,l,h1,rfl,h2⟩
  ·simp only [hlt,if_false] at h1
   split at h1
   ·simp only [Option.some.injEq] at h1
    subst h1
    exact .inr (by omega)
   ·cases h1
 have hle:LocLe β (β++[loc]):=fun id l h=>⟨l,by
  have:id<β.length:=(List.getElem?_eq_some_iff.1 h).1
  rw [List.getElem?_append_left this]; exact h,.inl rfl⟩
 have st:Stab w (Xs E H β) (w.alloc (.cells c e')) (Xs E (H++[ob]) (β++[loc])):=by
  refine ⟨fun b o v hx hv=>⟨fun h=>?_,by rw [cell_heap (hold b (cell_lt hv))]; exact hv⟩,fun b cs e h=>⟨cs,e,by rw [hold b (heap_lt h)]; exact h⟩⟩
  have:=cell_lt hv
  rcases h with h | h
  ·exact hx (.inl h)
  ·rcases hown b o h with h | h
   ·exact hx (.inr h)
   ·omega
 refine ⟨⟨by simp [hR.len],fun id cs e l g1 g2=>?_,fun id n sz l g1 g2=>?_,fun id sh vs l g1 g2=>?_,fun i j l l' hi hj g1 g2 hb=>?_⟩,rfl,rfl,rfl,by simp,fun b hb=>.inl (hold b hb),hown,hle⟩
 ·rw [hH] at g1
  rw [hB] at g2
  by_cases hlt:id<H.length
  ·simp only [hlt,if_true] at g1 g2
   obtain ⟨k,c,e',a1,a2,a3,a4⟩:=hR.cells id cs e l g1 g2
   exact ⟨k,c,e',by rw [hold _ (heap_lt a1)]; exact a1,a2,a3,fun k v hv=>let ⟨x,hx,hr⟩:=a4 k v hv; ⟨x,hx,hr.stab st _ hle⟩⟩
  ·simp only [hlt,if_false] at g1 g2
   split at g1
   ·simp only [Option.some.injEq, *] at g1 g2
    simp only [if_true,Option.some.injEq] at g2
    subst g2
    obtain ⟨h1,h2,h3⟩:=hcells cs e (by simpa using g1)
    exact ⟨h1,c,e',by rw [hloc]; exact hnew,hsize,h2,fun k v hv=>let ⟨x,hx,hr⟩:=h3 k v hv; ⟨x,hx,hr.stab st _ hle⟩⟩
   ·cases g1
 ·rw [hH] at g1
  rw [hB] at g2
  by_cases hlt:id<H.length
  ·simp only [hlt,if_true] at g1 g2
   obtain ⟨k,m,c,e',a1,a2⟩:=hR.tok id n sz l g1 g2
   exact ⟨k,m,c,e',by rw [hold _ (heap_lt a1)]; exact a1,a2⟩
  ·simp only [hlt,if_false] at g1 g2
   split at g1
   ·simp only [Option.some.injEq, *] at g1 g2
    simp only [if_true,Option.some.injEq] at g2
    subst g2
    obtain ⟨h1,h2⟩:=htok n sz (by simpa using g1)
    exact ⟨h1,h2,c,e',by rw [hloc]; exact hnew,hsize⟩
   ·cases g1
 ·rw [hH] at g1
  rw [hB] at g2
  by_cases hlt:id<H.length
  ·simp only [hlt,if_true] at g1 g2
   obtain ⟨k,kb,ob,xs,a1,a2,a3⟩:=hR.objs id sh vs l g1 g2
   exact ⟨k,kb,ob,xs,by rw [hold _ (heap_lt a1)]; exact a1,a2,fun k v hv=>let ⟨x,hx,hr⟩:=a3 k v hv; ⟨x,hx,hr.stab st _ hle⟩⟩
  ·simp only [hlt,if_false] at g1
   split at g1
   ·exact absurd (Option.some.inj g1) (hobj sh vs)
   ·cases g1
 ·have hl:∀ i l,live (H++[ob]) i→(β++[loc])[i]? = some l→(i<H.length∧live H i∧β[i]? = some l∧l.block<w.heap.size)∨(i=H.length∧l.block=w.heap.size):=by
   rintro i l ⟨o,h1,h2⟩ h3
   rw [hH] at h1
   rw [hB] at h3
   by_cases hlt:i<H.length
   ·simp only [hlt,if_true] at h1 h3
    exact .inl ⟨hlt,⟨o,h1,h2⟩,h3,live_lt hR ⟨o,h1,h2⟩ h3⟩
   ·simp only [hlt,if_false] at h1 h3
    split at h3
    ·simp only [Option.some.injEq] at h3
     subst h3
     exact .inr ⟨by assumption,hloc⟩
    ·cases h3
  rcases hl i l hi g1 with ⟨_,a1,a2,a3⟩ | ⟨a1,a2⟩ <;> rcases hl j l' hj g2 with ⟨_,b1,b2,b3⟩ | ⟨b1,b2⟩
  ·exact hR.disj i j l l' a1 b1 a2 b2 hb
  ·omega
  ·omega
  ·omega
theorem get_set {α:Type} (l:List α) (i:Nat) (x:α) (j:Nat):(l.set i x)[j]? = if i=j then (if i<l.length then some x else none) else l[j]? := by
 rw [List.getElem?_set]
theorem Step.setCells (hR:Rel w (Xs E H β) H β) {id:Nat} {cs cs' : List V} {e e0:TypeId} {loc:Loc} {c c' : Array Value}
  (hid:H[id]? = some (.cells cs e)) (hloc:β[id]? = some loc) (hb:w.heap[loc.block]? = some (.cells c e0 (0,0))) (hsz:c'.size=c.size)
  (hl:cs'.length=cs.length) (hv:∀ (k:Nat) v,cs'[k]? = some v → ∃ x,c'[loc.base+k]? = some x∧R w (Xs E H β) β v x) :
  Step E H β w (H.set id (.cells cs' e)) β (w.setRow loc.block c'):=by
 have hne:∀ b,b ≠ loc.block→(w.setRow loc.block c').heap[b]? = w.heap[b]? := fun b h=>setRow_other w _ _ _ h
 have hsame:(w.setRow loc.block c').heap[loc.block]? = some (.cells c' e0 (0,0)):=setRow_heap w _ c c' e0 (0,0) hb
 have hilt:id<H.length:=(List.getElem?_eq_some_iff.1 hid).1
 have hH:∀ j,(H.set id (.cells cs' e))[j]? = if id=j then some (.cells cs' e) else H[j]? := fun j=>by rw [get_set]; simp [hilt]
 have hown:∀ b o,Own (H.set id (.cells cs' e)) β b o ↔ Own H β b o:=by
  intro b o
  constructor
  ·rintro ⟨j,l,h1,rfl,h2⟩
   rw [hH] at h2
   by_cases hj:id=j
   ·subst hj; exact ⟨id,l,h1,rfl,.inl ⟨cs,e,hid⟩⟩
   ·simp only [hj,if_false] at h2; exact ⟨j,l,h1,rfl,h2⟩
  ·rintro ⟨j,l,h1,rfl,h2⟩
   refine ⟨j,l,h1,rfl,?_⟩
   rw [hH]
   by_cases hj:id=j
   ·subst hj; exact .inl ⟨cs',e,by simp⟩
   ·simpa only [hj,if_false] using h2
 have hself:∀ o,Own H β loc.block o:=fun o=>⟨id,loc,hloc,rfl,.inl ⟨cs,e,hid⟩⟩
 have hblk:∀ (b:Nat) (cs:Array Value) (e:TypeId),w.heap[b]? = some (Obj.cells cs e (0,0)) → ∃ (cs' : Array Value) (e' : TypeId),(w.setRow loc.block c').heap[b]? = some (Obj.cells cs' e' (0,0)):=by
  intro b cs e h
  by_cases hbb:b=loc.block
  ·subst hbb; exact ⟨c',e0,hsame⟩
  ·exact ⟨cs,e,by rw [hne b hbb]; exact h⟩
 have st:Stab w (Xs E H β) (w.setRow loc.block c') (Xs E (H.set id (.cells cs' e)) β):=by
  refine ⟨fun b o v hx hv=>?_,hblk⟩
  have hbb:b ≠ loc.block:=fun h=>hx (.inr (h ▸ hself o))
  refine ⟨fun h=>hx ?_,by rw [cell_heap (hne b hbb)]; exact hv⟩
  rcases h with h | h
  ·exact .inl h
  ·exact .inr ((hown b o).1 h)
 have hlive:∀ j,live (H.set id (.cells cs' e)) j→live H j:=by
  rintro j ⟨o,h1,h2⟩
  rw [hH] at h1
  by_cases hj:id=j
  ·subst hj; exact live_cells hid
  ·simp only [hj,if_false] at h1; exact ⟨o,h1,h2⟩
 refine ⟨⟨by simp [hR.len],fun j cs1 e1 l g1 g2=>?_,fun j n sz l g1 g2=>?_,fun j sh vs l g1 g2=>?_,fun i j l l' hi hj g1 g2 hb=>hR.disj i j l l' (hlive i hi) (hlive j hj) g1 g2 hb⟩,
  rfl,rfl,rfl,by simp,fun b hb' => ?_,fun b o h=>.inl ((hown b o).1 h),.refl _⟩
 ·rw [hH] at g1
  by_cases hj:id=j
  ·subst hj
   simp only [if_true,Option.some.injEq,O.cells.injEq] at g1
   obtain ⟨rfl,rfl⟩:=g1
   rw [hloc] at g2
   simp only [Option.some.injEq] at g2
   subst g2
   obtain ⟨h1,c2,e2,h2,h3,h4,_⟩:=hR.cells id cs e loc hid hloc
   rw [hb] at h2
   simp only [Option.some.injEq,Obj.cells.injEq,and_true] at h2
   obtain ⟨rfl,rfl⟩:=h2
   exact ⟨h1,c',e0,hsame,by omega,⟨by have:=h4.1; omega,fun he=>by have:=h4.2 he; omega⟩,fun k v hk=>let ⟨x,hx,hr⟩:=hv k v hk; ⟨x,hx,hr.stab st _ (.refl _)⟩⟩
  ·simp only [hj,if_false] at g1
   obtain ⟨k,c2,e2,a1,a2,a3,a4⟩:=hR.cells j cs1 e1 l g1 g2
   have:l.block ≠ loc.block:=fun h=>hj (hR.disj id j loc l (live_cells hid) (live_cells g1) hloc g2 h.symm)
   exact ⟨k,c2,e2,by rw [hne _ this]; exact a1,a2,a3,fun k v hv=>let ⟨x,hx,hr⟩:=a4 k v hv; ⟨x,hx,hr.stab st _ (.refl _)⟩⟩
 ·rw [hH] at g1
  by_cases hj:id=j
  ·subst hj; simp at g1
  ·simp only [hj,if_false] at g1
   obtain ⟨k,m,c2,e2,a1,a2⟩:=hR.tok j n sz l g1 g2
   have:l.block ≠ loc.block:=fun h=>hj (hR.disj id j loc l (live_cells hid) (live_tok g1) hloc g2 h.symm)
   exact ⟨k,m,c2,e2,by rw [hne _ this]; exact a1,a2⟩
 ·rw [hH] at g1
  by_cases hj:id=j
  ·subst hj; simp at g1
  ·simp only [hj,if_false] at g1
   obtain ⟨k,kb,ob,xs,a1,a2,a3⟩:=hR.objs j sh vs l g1 g2
   have:l.block ≠ loc.block:=fun h=>hj (hR.disj id j loc l (live_cells hid) (live_obj g1) hloc g2 h.symm)
   exact ⟨k,kb,ob,xs,by rw [hne _ this]; exact a1,a2,fun k v hv=>let ⟨x,hx,hr⟩:=a3 k v hv; ⟨x,hx,hr.stab st _ (.refl _)⟩⟩
 ·by_cases hbb:b=loc.block
  ·subst hbb
   exact .inr (.inl ⟨⟨0,hself 0⟩,c,c',e0,hb,hsame,hsz,fun o ho=>absurd (hself o) ho⟩)
  ·exact .inl (hne b hbb)
theorem Step.setTok (hR:Rel w (Xs E H β) H β) {id n n' sz:Nat} {e0:TypeId} {loc:Loc} {c c' : Array Value}
  (hid:H[id]? = some (.tok n sz)) (hloc:β[id]? = some loc) (hb:w.heap[loc.block]? = some (.cells c e0 (0,0))) (hsz:c'.size=c.size)
  (hn:n<n') (hc:∀ o,o<loc.base+n*sz→c'[o]? = c[o]?) :
  Step E H β w (H.set id (.tok n' sz)) (β.set id { loc with n:=n' }) (w.setRow loc.block c'):=by
 have hne:∀ b,b ≠ loc.block→(w.setRow loc.block c').heap[b]? = w.heap[b]? := fun b h=>setRow_other w _ _ _ h
 have hsame:(w.setRow loc.block c').heap[loc.block]? = some (.cells c' e0 (0,0)):=setRow_heap w _ c c' e0 (0,0) hb
 have hilt:id<H.length:=(List.getElem?_eq_some_iff.1 hid).1
 have hilt' : id<β.length:=by rw [← hR.len]; exact hilt
 have hH:∀ j,(H.set id (.tok n' sz))[j]? = if id=j then some (.tok n' sz) else H[j]? := fun j=>by rw [get_set]; simp [hilt]
 have hB:∀ j,(β.set id { loc with n:=n' })[j]? = if id=j then some { loc with n:=n' } else β[j]? := fun j=>by rw [get_set]; simp [hilt']
 obtain ⟨hkind,hlocn,c0,e1,hb0,hsize⟩:=hR.tok id n sz loc hid hloc
 rw [hb] at hb0
 simp only [Option.some.injEq,Obj.cells.injEq,and_true] at hb0
 obtain ⟨rfl,rfl⟩:=hb0
 have hown:∀ b o,Own (H.set id (.tok n' sz)) (β.set id { loc with n:=n' }) b o→Own H β b o:=by
  rintro b o ⟨j,l,h1,rfl,h2⟩
  rw [hH] at h2
  rw [hB] at h1
  by_cases hj:id=j
  ·subst hj
   simp only [if_true,Option.some.injEq] at h1
   subst h1
   refine ⟨id,loc,hloc,rfl,.inr (.inl ⟨n,sz,hid,?_⟩)⟩
   rcases h2 with ⟨_,_,h2⟩ | ⟨m,s,h2,h3⟩ | ⟨_,_,h2⟩
   ·simp at h2
   rotate_left
   ·simp at h2
   ·simp only [if_true,Option.some.injEq,O.tok.injEq] at h2
    obtain ⟨rfl,rfl⟩:=h2
    have:n*sz≤n' * sz:=Nat.mul_le_mul_right sz (Nat.le_of_lt hn)
    simp only at h3
    omega
  ·simp only [hj,if_false] at h1 h2; exact ⟨j,l,h1,rfl,h2⟩
 have hself:∀ o,¬ Own H β loc.block o→o<loc.base+n*sz:=fun o h=>by
  rcases Nat.lt_or_ge o (loc.base+n*sz) with h' | h'
  ·exact h'
  ·exact absurd ⟨id,loc,hloc,rfl,.inr (.inl ⟨n,sz,hid,h'⟩)⟩ h
 have hle:LocLe β (β.set id { loc with n:=n' }):=fun j l h=>by
  rw [hB]
  by_cases hj:id=j
  ·subst hj
   rw [hloc] at h
   simp only [Option.some.injEq] at h
   subst h
   exact ⟨{ loc with n:=n' },by simp,.inr ⟨hkind,hkind,by rw [hlocn]; exact hn⟩⟩
  ·exact ⟨l,by simp [hj,h],.inl rfl⟩
 have hblk:∀ (b:Nat) (cs:Array Value) (e:TypeId),w.heap[b]? = some (Obj.cells cs e (0,0)) → ∃ (cs' : Array Value) (e' : TypeId),(w.setRow loc.block c').heap[b]? = some (Obj.cells cs' e' (0,0)):=by
  intro b cs e h
  by_cases hbb:b=loc.block
  ·subst hbb; exact ⟨c',e0,hsame⟩
  ·exact ⟨cs,e,by rw [hne b hbb]; exact h⟩
 have st:Stab w (Xs E H β) (w.setRow loc.block c') (Xs E (H.set id (.tok n' sz)) (β.set id { loc with n:=n' })):=by
  refine ⟨fun b o v hx hv=>⟨fun h=>hx ?_,?_⟩,hblk⟩
  ·rcases h with h | h
   ·exact .inl h
   ·exact .inr (hown b o h)
  ·by_cases hbb:b=loc.block
   ·subst hbb
    rw [cell_of_row w _ _ c e0 (0,0) hb] at hv
    rw [cell_of_row _ _ _ c' e0 (0,0) hsame,hc o (hself o (fun h=>hx (.inr h))),hv]
   ·rw [cell_heap (hne b hbb)]; exact hv
 have hlive:∀ j,live (H.set id (.tok n' sz)) j→live H j:=by
  rintro j ⟨o,h1,h2⟩
  rw [hH] at h1
  by_cases hj:id=j
  ·subst hj; exact live_tok hid
  ·simp only [hj,if_false] at h1; exact ⟨o,h1,h2⟩
 have hblock:∀ (j:Nat) l,(β.set id { loc with n:=n' })[j]? = some l → ∃ l',β[j]? = some l' ∧ l'.block=l.block:=by
  intro j l h
  rw [hB] at h
  by_cases hj:id=j
  ·subst hj
   simp only [if_true,Option.some.injEq] at h
   subst h
   exact ⟨loc,hloc,rfl⟩
  ·simp only [hj,if_false] at h; exact ⟨l,h,rfl⟩
 refine ⟨⟨by simp [hR.len],fun j cs1 e1 l g1 g2=>?_,fun j m s l g1 g2=>?_,fun j sh vs l g1 g2=>?_,fun i j l l' hi hj g1 g2 hbk=>?_⟩,
  rfl,rfl,rfl,by simp,fun b hb' => ?_,fun b o h=>.inl (hown b o h),hle⟩
 ·rw [hH] at g1
  rw [hB] at g2
  by_cases hj:id=j
  ·subst hj; simp at g1
  ·simp only [hj,if_false] at g1 g2
   obtain ⟨k,c2,e2,a1,a2,a3,a4⟩:=hR.cells j cs1 e1 l g1 g2
   have:l.block ≠ loc.block:=fun h=>hj (hR.disj id j loc l (live_tok hid) (live_cells g1) hloc g2 h.symm)
   exact ⟨k,c2,e2,by rw [hne _ this]; exact a1,a2,a3,fun k v hv=>let ⟨x,hx,hr⟩:=a4 k v hv; ⟨x,hx,hr.stab st _ hle⟩⟩
 ·rw [hH] at g1
  rw [hB] at g2
  by_cases hj:id=j
  ·subst hj
   simp only [if_true,Option.some.injEq,O.tok.injEq] at g1 g2
   obtain ⟨rfl,rfl⟩:=g1
   subst g2
   exact ⟨hkind,rfl,c',e0,hsame,by simp only; omega⟩
  ·simp only [hj,if_false] at g1 g2
   obtain ⟨k,m,c2,e2,a1,a2⟩:=hR.tok j m s l g1 g2
   have:l.block ≠ loc.block:=fun h=>hj (hR.disj id j loc l (live_tok hid) (live_tok g1) hloc g2 h.symm)
   exact ⟨k,m,c2,e2,by rw [hne _ this]; exact a1,a2⟩
 ·rw [hH] at g1
  rw [hB] at g2
  by_cases hj:id=j
  ·subst hj; simp at g1
  ·simp only [hj,if_false] at g1 g2
   obtain ⟨k,kb,ob,xs,a1,a2,a3⟩:=hR.objs j sh vs l g1 g2
   have:l.block ≠ loc.block:=fun h=>hj (hR.disj id j loc l (live_tok hid) (live_obj g1) hloc g2 h.symm)
   exact ⟨k,kb,ob,xs,by rw [hne _ this]; exact a1,a2,fun k v hv=>let ⟨x,hx,hr⟩:=a3 k v hv; ⟨x,hx,hr.stab st _ hle⟩⟩
 ·obtain ⟨m,h1,h2⟩:=hblock i l g1
  obtain ⟨m',h1',h2'⟩:=hblock j l' g2
  exact hR.disj i j m m' (hlive i hi) (hlive j hj) h1 h1' (by omega)
 ·by_cases hbb:b=loc.block
  ·subst hbb
   by_cases hex:∃ o,Own H β loc.block o
   ·exact .inr (.inl ⟨hex,c,c',e0,hb,hsame,hsz,fun o ho=>hc o (hself o ho)⟩)
   ·exact absurd ⟨loc.base+n*sz,id,loc,hloc,rfl,.inr (.inl ⟨n,sz,hid,Nat.le_refl _⟩)⟩ hex
  ·exact .inl (hne b hbb)
theorem Step.moveTok (hR:Rel w (Xs E H β) H β) {id n n' sz:Nat} {e' : TypeId} {loc:Loc} {c:Array Value}
  (hid:H[id]? = some (.tok n sz)) (hloc:β[id]? = some loc) (hn:n<n') :
  Step E H β w (H.set id (.tok n' sz)) (β.set id { kind:=true,block:=w.heap.size,base:=0,n:=n',size:=c.size }) (w.alloc (.cells c e')):=by
 have hold:∀ b,b<w.heap.size→(w.alloc (.cells c e')).heap[b]? = w.heap[b]? := fun b hb=>heap_alloc_old w _ b hb
 have hnew:(w.alloc (.cells c e')).heap[w.heap.size]? = some (.cells c e' (0,0)):=heap_alloc_new w _
 have hilt:id<H.length:=(List.getElem?_eq_some_iff.1 hid).1
 have hilt' : id<β.length:=by rw [← hR.len]; exact hilt
 generalize hL:({ kind:=true,block:=w.heap.size,base:=0,n:=n',size:=c.size }:Loc)=L
 have hH:∀ j,(H.set id (.tok n' sz))[j]? = if id=j then some (.tok n' sz) else H[j]? := fun j=>by rw [get_set]; simp [hilt]
 have hB:∀ j,(β.set id L)[j]? = if id=j then some L else β[j]? := fun j=>by rw [get_set]; simp [hilt']
 obtain ⟨hkind,hlocn,_⟩:=hR.tok id n sz loc hid hloc
 have hown:∀ b o,Own (H.set id (.tok n' sz)) (β.set id L) b o→Own H β b o∨w.heap.size≤b:=by
  rintro b o ⟨j,l,h1,rfl,h2⟩
  rw [hH] at h2
  rw [hB] at h1
  by_cases hj:id=j
  ·subst hj
   simp only [if_true,Option.some.injEq] at h1
   subst h1
   exact .inr (by simp [← hL])
  ·simp only [hj,if_false] at h1 h2; exact .inl ⟨j,l,h1,rfl,h2⟩
 have hle:LocLe β (β.set id L):=fun j l h=>by
  rw [hB]
  by_cases hj:id=j
  ·subst hj
   rw [hloc] at h
   simp only [Option.some.injEq] at h
   subst h
   exact ⟨L,by simp,.inr ⟨hkind,by simp [← hL],by rw [hlocn,← hL]; exact hn⟩⟩
  ·exact ⟨l,by simp [hj,h],.inl rfl⟩
 have st:Stab w (Xs E H β) (w.alloc (.cells c e')) (Xs E (H.set id (.tok n' sz)) (β.set id L)):=by
  refine ⟨fun b o v hx hv=>⟨fun h=>?_,by rw [cell_heap (hold b (cell_lt hv))]; exact hv⟩,fun b cs e h=>⟨cs,e,by rw [hold b (heap_lt h)]; exact h⟩⟩
  have:=cell_lt hv
  rcases h with h | h
  ·exact hx (.inl h)
  ·rcases hown b o h with h | h
   ·exact hx (.inr h)
   ·omega
 refine ⟨⟨by simp [hR.len],fun j cs1 e1 l g1 g2=>?_,fun j m s l g1 g2=>?_,fun j sh vs l g1 g2=>?_,fun i j l l' hi hj g1 g2 hbk=>?_⟩,
  rfl,rfl,rfl,by simp,fun b hb' => .inl (hold b hb'),hown,hle⟩
 ·rw [hH] at g1
  rw [hB] at g2
  by_cases hj:id=j
  ·subst hj; simp at g1
  ·simp only [hj,if_false] at g1 g2
   obtain ⟨k,c2,e2,a1,a2,a3,a4⟩:=hR.cells j cs1 e1 l g1 g2
   exact ⟨k,c2,e2,by rw [hold _ (heap_lt a1)]; exact a1,a2,a3,fun k v hv=>let ⟨x,hx,hr⟩:=a4 k v hv; ⟨x,hx,hr.stab st _ hle⟩⟩
 ·rw [hH] at g1
  rw [hB] at g2
  by_cases hj:id=j
  ·subst hj
   simp only [if_true,Option.some.injEq,O.tok.injEq] at g1 g2
   obtain ⟨rfl,rfl⟩:=g1
   subst g2
   exact ⟨by simp [← hL],by simp [← hL],c,e',by simpa [← hL] using hnew,by simp [← hL]⟩
  ·simp only [hj,if_false] at g1 g2
   obtain ⟨k,m,c2,e2,a1,a2⟩:=hR.tok j m s l g1 g2
   exact ⟨k,m,c2,e2,by rw [hold _ (heap_lt a1)]; exact a1,a2⟩
 ·rw [hH] at g1
  rw [hB] at g2
  by_cases hj:id=j
  ·subst hj; simp at g1
  ·simp only [hj,if_false] at g1 g2
   obtain ⟨k,kb,ob,xs,a1,a2,a3⟩:=hR.objs j sh vs l g1 g2
   exact ⟨k,kb,ob,xs,by rw [hold _ (heap_lt a1)]; exact a1,a2,fun k v hv=>let ⟨x,hx,hr⟩:=a3 k v hv; ⟨x,hx,hr.stab st _ hle⟩⟩
 ·have hl:∀ i l,live (H.set id (.tok n' sz)) i→(β.set id L)[i]? = some l→(live H i∧β[i]? = some l∧l.block<w.heap.size)∨(i=id∧l.block=w.heap.size):=by
   rintro i l ⟨o,h1,h2⟩ h3
   rw [hH] at h1
   rw [hB] at h3
   by_cases hlt:id=i
   ·subst hlt
    simp only [if_true,Option.some.injEq] at h3
    subst h3
    exact .inr ⟨rfl,by simp [← hL]⟩
   ·simp only [hlt,if_false] at h1 h3
    exact .inl ⟨⟨o,h1,h2⟩,h3,live_lt hR ⟨o,h1,h2⟩ h3⟩
  rcases hl i l hi g1 with ⟨a1,a2,a3⟩ | ⟨a1,a2⟩ <;> rcases hl j l' hj g2 with ⟨b1,b2,b3⟩ | ⟨b1,b2⟩
  ·exact hR.disj i j l l' a1 b1 a2 b2 hbk
  ·omega
  ·omega
  ·omega
theorem Step.setObjG (hR:Rel w (Xs E H β) H β) {id:Nat} {sh sh' : Shape} {vs vs' : List V} {loc:Loc} {ob' : Obj} {xs' : List Value}
  (hid:H[id]? = some (.obj sh vs)) (hloc:β[id]? = some loc) (hsh:Shp sh' ob' xs') (hv:∀ (k:Nat) v,vs'[k]? = some v → ∃ x,xs'[k]? = some x∧R w (Xs E H β) β v x)
  (hkind:∀ ob xs,w.heap[loc.block]? = some ob→Shp sh ob xs→(special ob=true∧special ob' = true) ∨ ∃ c c' e,ob = .cells c e (0,0)∧ob' = .cells c' e (0,0)∧c'.size=c.size) :
  Step E H β w (H.set id (.obj sh' vs')) β { w with heap:=w.heap.setIfInBounds loc.block ob' }:=by
 obtain ⟨hk0,hb0,ob,xs,hob,hsh0,_⟩:=hR.objs id sh vs loc hid hloc
 obtain ⟨hsame,hne⟩:=Go.MapKept.heap_set (o' := ob') hob
 have hilt:id<H.length:=(List.getElem?_eq_some_iff.1 hid).1
 have hH:∀ j,(H.set id (.obj sh' vs'))[j]? = if id=j then some (.obj sh' vs') else H[j]? := fun j=>by rw [get_set]; simp [hilt]
 have hown:∀ b o,Own (H.set id (.obj sh' vs')) β b o ↔ Own H β b o:=by
  intro b o
  constructor
  ·rintro ⟨j,l,h1,rfl,h2⟩
   rw [hH] at h2
   by_cases hj:id=j
   ·subst hj; exact ⟨id,l,h1,rfl,.inr (.inr ⟨sh,vs,hid⟩)⟩
   ·simp only [hj,if_false] at h2; exact ⟨j,l,h1,rfl,h2⟩
  ·rintro ⟨j,l,h1,rfl,h2⟩
   refine ⟨j,l,h1,rfl,?_⟩
   rw [hH]
   by_cases hj:id=j
   ·subst hj; exact .inr (.inr ⟨sh',vs',by simp⟩)
   ·simpa only [hj,if_false] using h2
 have hself:∀ o,Own H β loc.block o:=fun o=>⟨id,loc,hloc,rfl,.inr (.inr ⟨sh,vs,hid⟩)⟩
 have st:Stab w (Xs E H β) { w with heap:=w.heap.setIfInBounds loc.block ob' } (Xs E (H.set id (.obj sh' vs')) β):=by
  refine ⟨fun b o v hx hv=>?_,fun b cs e h=>?_⟩
  ·have hbb:b ≠ loc.block:=fun h=>hx (.inr (h ▸ hself o))
   refine ⟨fun h=>hx ?_,by rw [cell_heap (hne b hbb)]; exact hv⟩
   rcases h with h | h
   ·exact .inl h
   ·exact .inr ((hown b o).1 h)
  ·by_cases hbb:b=loc.block
   ·subst hbb
    rcases hkind ob xs hob hsh0 with ⟨g,_⟩ | ⟨c,c',e2,_,g,_⟩
    ·rw [hob] at h
     cases h
     cases g
    ·subst g
     exact ⟨c',e2,hsame⟩
   ·exact ⟨cs,e,by rw [hne b hbb]; exact h⟩
 have hlive:∀ j,live (H.set id (.obj sh' vs')) j→live H j:=by
  rintro j ⟨o,h1,h2⟩
  rw [hH] at h1
  by_cases hj:id=j
  ·subst hj; exact live_obj hid
  ·simp only [hj,if_false] at h1; exact ⟨o,h1,h2⟩
 refine ⟨⟨by simp [hR.len],fun j cs1 e1 l g1 g2=>?_,fun j n sz l g1 g2=>?_,fun j sh1 vs1 l g1 g2=>?_,fun i j l l' hi hj g1 g2 hb=>hR.disj i j l l' (hlive i hi) (hlive j hj) g1 g2 hb⟩,
  rfl,rfl,rfl,by simp,fun b hb' => ?_,fun b o h=>.inl ((hown b o).1 h),.refl _⟩
 ·rw [hH] at g1
  by_cases hj:id=j
  ·subst hj; simp at g1
  ·simp only [hj,if_false] at g1
   obtain ⟨k,c2,e2,a1,a2,a3,a4⟩:=hR.cells j cs1 e1 l g1 g2
   have:l.block ≠ loc.block:=fun h=>hj (hR.disj id j loc l (live_obj hid) (live_cells g1) hloc g2 h.symm)
   exact ⟨k,c2,e2,by rw [hne _ this]; exact a1,a2,a3,fun k v hv=>let ⟨x,hx,hr⟩:=a4 k v hv; ⟨x,hx,hr.stab st _ (.refl _)⟩⟩
 ·rw [hH] at g1
  by_cases hj:id=j
  ·subst hj; simp at g1
  ·simp only [hj,if_false] at g1
   obtain ⟨k,m,c2,e2,a1,a2⟩:=hR.tok j n sz l g1 g2
   have:l.block ≠ loc.block:=fun h=>hj (hR.disj id j loc l (live_obj hid) (live_tok g1) hloc g2 h.symm)
   exact ⟨k,m,c2,e2,by rw [hne _ this]; exact a1,a2⟩
 ·rw [hH] at g1
  by_cases hj:id=j
  ·subst hj
   simp only [if_true,Option.some.injEq,O.obj.injEq] at g1
   obtain ⟨rfl,rfl⟩:=g1
   rw [hloc] at g2
   simp only [Option.some.injEq] at g2
   subst g2
   exact ⟨hk0,hb0,ob',xs',hsame,hsh,fun k v hv' => let ⟨x,hx,hr⟩:=hv k v hv'; ⟨x,hx,hr.stab st _ (.refl _)⟩⟩
  ·simp only [hj,if_false] at g1
   obtain ⟨k,kb,ob1,xs1,a1,a2,a3⟩:=hR.objs j sh1 vs1 l g1 g2
   have:l.block ≠ loc.block:=fun h=>hj (hR.disj id j loc l (live_obj hid) (live_obj g1) hloc g2 h.symm)
   exact ⟨k,kb,ob1,xs1,by rw [hne _ this]; exact a1,a2,fun k v hv=>let ⟨x,hx,hr⟩:=a3 k v hv; ⟨x,hx,hr.stab st _ (.refl _)⟩⟩
 ·by_cases hbb:b=loc.block
  ·subst hbb
   rcases hkind ob xs hob hsh0 with ⟨g1,g2⟩ | ⟨c,c',e2,g1,g2,g3⟩
   ·exact .inr (.inr ⟨⟨0,hself 0⟩,ob,ob',hob,hsame,g1,g2⟩)
   ·subst g1
    subst g2
    exact .inr (.inl ⟨⟨0,hself 0⟩,c,c',e2,hob,hsame,g3,fun o ho=>absurd (hself o) ho⟩)
  ·exact .inl (hne b hbb)
theorem Step.setPage (hR:Rel w (Xs E H β) H β) {id n:Nat} {k:IntKind} {l l' : List Int} {hd hd' : List V} {loc:Loc} {arr' : Array Value} {e:TypeId} {xs xs' : List Value}
  (hid:H[id]? = some (.obj (.page n k l) hd)) (hloc:β[id]? = some loc) (hob:w.heap[loc.block]? = some (.cells (xs++l.map (Value.int k)).toArray e (0,0)))
  (hn:xs'.length=n) (hxs:xs.length=n) (harr:arr' = (xs' ++ l'.map (Value.int k)).toArray) (hl:l'.length=l.length) (hv:∀ (k:Nat) v,hd'[k]? = some v → ∃ x,xs'[k]? = some x∧R w (Xs E H β) β v x) :
  Step E H β w (H.set id (.obj (.page n k l') hd')) β (w.setRow loc.block arr'):=by
 have hw:w.setRow loc.block arr' = { w with heap:=w.heap.setIfInBounds loc.block (.cells arr' e (0,0)) }:=by
  unfold World.setRow
  congr 1
  apply Array.ext_getElem?
  intro i
  rw [Array.getElem?_modify,Array.getElem?_setIfInBounds]
  by_cases hi:loc.block=i
  ·subst hi
   have hlt:loc.block<w.heap.size:=heap_lt hob
   rw [if_pos rfl,if_pos rfl,hob,if_pos hlt]
   rfl
  ·rw [if_neg hi,if_neg hi]
 rw [hw]
 refine Step.setObjG hR hid hloc (xs' := xs') ⟨hn,e,by rw [harr]⟩ hv fun ob ys h1 h2=>.inr ?_
 rw [hob] at h1
 cases h1
 refine ⟨_,arr',e,rfl,rfl,?_⟩
 rw [harr]
 simp [hn,hxs,hl]
theorem Step.pushObjD (hR:Rel w (Xs E H β) H β) (ob:Obj) {sh:Shape} {xs:List Value} {vs:List V} {loc:Loc} (hsh:Shp sh ob xs)
  (hv:∀ (k:Nat) v,vs[k]? = some v → ∃ x,xs[k]? = some x∧R w (Xs E H β) β v x) (hloc:loc.block=w.heap.size) (hk:loc.kind=false) (hb:loc.base=0) :
  Step E H β w (H++[.obj sh vs]) (β++[loc]) (w.alloc ob):=by
 have hold:∀ b,b<w.heap.size→(w.alloc ob).heap[b]? = w.heap[b]? := fun b hb=>heap_alloc_old w _ b hb
 have hnew:(w.alloc ob).heap[w.heap.size]? = some ob:=heap_alloc_new w _
 have hH:∀ id,(H++[O.obj sh vs])[id]? = if id<H.length then H[id]? else if id=H.length then some (.obj sh vs) else none:=getElem?_concat H _
 have hB:∀ id,(β++[loc])[id]? = if id<H.length then β[id]? else if id=H.length then some loc else none:=fun id=>by rw [hR.len]; exact getElem?_concat β loc id
 have hown:∀ b o,Own (H++[.obj sh vs]) (β++[loc]) b o→Own H β b o∨w.heap.size≤b:=by
  rintro b o ⟨id,l,h1,rfl,h2⟩
  rw [hB] at h1
  rw [hH] at h2
  by_cases hlt:id<H.length
  ·simp only [hlt,if_true] at h1 h2
   exact .inl ⟨id,l,h1,rfl,h2⟩
  ·simp only [hlt,if_false] at h1
   split at h1
   ·simp only [Option.some.injEq] at h1
    subst h1
    exact .inr (by omega)
   ·cases h1
 have hle:LocLe β (β++[loc]):=fun id l h=>⟨l,by
  have:id<β.length:=(List.getElem?_eq_some_iff.1 h).1
  rw [List.getElem?_append_left this]; exact h,.inl rfl⟩
 have st:Stab w (Xs E H β) (w.alloc ob) (Xs E (H++[.obj sh vs]) (β++[loc])):=by
  refine ⟨fun b o v hx hv=>⟨fun h=>?_,by rw [cell_heap (hold b (cell_lt hv))]; exact hv⟩,fun b cs e h=>⟨cs,e,by rw [hold b (heap_lt h)]; exact h⟩⟩
  have:=cell_lt hv
  rcases h with h | h
  ·exact hx (.inl h)
  ·rcases hown b o h with h | h
   ·exact hx (.inr h)
   ·omega
 refine ⟨⟨by simp [hR.len],fun id cs e l g1 g2=>?_,fun id n sz l g1 g2=>?_,fun id sh' vs' l g1 g2=>?_,fun i j l l' hi hj g1 g2 hb=>?_⟩,rfl,rfl,rfl,by simp,fun b hb=>.inl (hold b hb),hown,hle⟩
 ·rw [hH] at g1
  rw [hB] at g2
  by_cases hlt:id<H.length
  ·simp only [hlt,if_true] at g1 g2
   obtain ⟨k,c,e',a1,a2,a3,a4⟩:=hR.cells id cs e l g1 g2
   exact ⟨k,c,e',by rw [hold _ (heap_lt a1)]; exact a1,a2,a3,fun k v hv=>let ⟨x,hx,hr⟩:=a4 k v hv; ⟨x,hx,hr.stab st _ hle⟩⟩
  ·simp only [hlt,if_false] at g1
   split at g1 <;> cases g1
 ·rw [hH] at g1
  rw [hB] at g2
  by_cases hlt:id<H.length
  ·simp only [hlt,if_true] at g1 g2
   obtain ⟨k,m,c,e',a1,a2⟩:=hR.tok id n sz l g1 g2
   exact ⟨k,m,c,e',by rw [hold _ (heap_lt a1)]; exact a1,a2⟩
  ·simp only [hlt,if_false] at g1
   split at g1 <;> cases g1
 ·rw [hH] at g1
  rw [hB] at g2
  by_cases hlt:id<H.length
  ·simp only [hlt,if_true] at g1 g2
   obtain ⟨k,kb,ob',xs',a1,a2,a3⟩:=hR.objs id sh' vs' l g1 g2
   exact ⟨k,kb,ob',xs',by rw [hold _ (heap_lt a1)]; exact a1,a2,fun k v hv=>let ⟨x,hx,hr⟩:=a3 k v hv; ⟨x,hx,hr.stab st _ hle⟩⟩
  ·simp only [hlt,if_false] at g1 g2
   split at g1
   ·rename_i hid
    simp only [hid,if_true,Option.some.injEq] at g2
    simp only [Option.some.injEq,O.obj.injEq] at g1
    obtain ⟨rfl,rfl⟩:=g1
    subst g2
    exact ⟨hk,hb,ob,xs,by rw [hloc]; exact hnew,hsh,fun k v hv' => let ⟨x,hx,hr⟩:=hv k v hv'; ⟨x,hx,hr.stab st _ hle⟩⟩
   ·cases g1
 ·have hl:∀ i l,live (H++[.obj sh vs]) i→(β++[loc])[i]? = some l→(i<H.length∧live H i∧β[i]? = some l∧l.block<w.heap.size)∨(i=H.length∧l.block=w.heap.size):=by
   rintro i l ⟨o,h1,h2⟩ h3
   rw [hH] at h1
   rw [hB] at h3
   by_cases hlt:i<H.length
   ·simp only [hlt,if_true] at h1 h3
    exact .inl ⟨hlt,⟨o,h1,h2⟩,h3,live_lt hR ⟨o,h1,h2⟩ h3⟩
   ·simp only [hlt,if_false] at h1 h3
    split at h3
    ·simp only [Option.some.injEq] at h3
     subst h3
     exact .inr ⟨by assumption,hloc⟩
    ·cases h3
  rcases hl i l hi g1 with ⟨_,a1,a2,a3⟩ | ⟨a1,a2⟩ <;> rcases hl j l' hj g2 with ⟨_,b1,b2,b3⟩ | ⟨b1,b2⟩
  ·exact hR.disj i j l l' a1 b1 a2 b2 hb
  ·omega
  ·omega
  ·omega
end
end Go.Ab
