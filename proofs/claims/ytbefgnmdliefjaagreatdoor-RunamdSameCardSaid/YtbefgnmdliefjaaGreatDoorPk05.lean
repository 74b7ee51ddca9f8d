/-
  The engine, part M: slice expressions, numbers, texts, comparisons. Conditions: none.
-/
import Derived.Test.YtbefgnmdliefjaaGreatDoorPk04
import Derived.Laws.BytesArg
import Derived.Laws.IdiomStrings
import Derived.Laws.Runes
import Derived.ChangeKeysEq
set_option linter.unusedVariables false
set_option linter.unusedSimpArgs false
namespace Go.Ab
section
variable {P:Program} {E:Nat→Nat→Prop} {H:List O} {β:List Loc} {w:World} {X:Nat→Nat→Prop}
def optR (w:World) (X:Nat→Nat→Prop) (β:List Loc):Option V→Option Value→Prop
 | none,none=>True
 | some v,some y=>R w X β v y
 | _,_=>False
theorem run_bounds {isS:Bool} {len cap:Nat} {lo hi:Option V} {loy hiy:Option Value} {l h:Int} (hlo:optR w X β lo loy) (hhi:optR w X β hi hiy)
  (bl:bound? lo 0=some l) (bh:bound? hi len=some h) (h0:0≤l) (h1:l≤h) (h2:h≤cap) (_h3:len≤cap) :
  (Instr.sliceBounds isS len cap loy hiy none).run P w = .ok (l.toNat,h.toNat,cap) w:=by
 have e1:((h.toNat:Nat):Int)=h:=by omega
 unfold Instr.sliceBounds
 cases hi with
 | none =>
  cases hiy with
  | some _=>cases hhi
  | none =>
   simp only [bound?,Option.some.injEq] at bh
   subst bh
   cases lo with
   | none =>
    cases loy with
    | some _=>cases hlo
    | none=>simp only [bound?,Option.some.injEq] at bl; subst bl; simp
   | some v =>
    cases loy with
    | none=>cases hlo
    | some y =>
     cases v <;> simp only [bound?,reduceCtorEq,Option.some.injEq] at bl
     subst bl
     cases hlo
     simp [Instr.sliceBound,asIntOf,h0,h1]
 | some hv =>
  cases hiy with
  | none=>cases hhi
  | some hy =>
   cases hv <;> simp only [bound?,reduceCtorEq,Option.some.injEq] at bh
   rename_i kh nh
   subst bh
   cases hhi
   have h00:0≤nh:=by omega
   cases lo with
   | none =>
    cases loy with
    | some _=>cases hlo
    | none=>simp only [bound?,Option.some.injEq] at bl; subst bl; simp [Instr.sliceBound,asIntOf,h00,h2]
   | some v =>
    cases loy with
    | none=>cases hlo
    | some y =>
     cases v <;> simp only [bound?,reduceCtorEq,Option.some.injEq] at bl
     subst bl
     cases hlo
     simp [Instr.sliceBound,asIntOf,h0,h1,h00,h2,e1]
theorem sub_get {α:Type} (l:List α) (lo hi i:Nat):(sub l lo hi)[i]? = if lo+i<hi then l[lo+i]? else none:=by
 unfold sub
 rw [List.getElem?_drop,List.getElem?_take]
theorem sub_length {α:Type} (l:List α) (lo hi:Nat) (h:hi≤l.length):(sub l lo hi).length=hi - lo:=by
 unfold sub; simp; omega
theorem sl_piece {c:EC} {all:List c.ty} {b o cap l h:Nat} {fl:Fl} (hl:l≤h) (hh:h≤all.length) (hcap:all.length≤cap) (hfull:fl = .full→cap=all.length)
  (hrw:fl.fixed=false → ∃ (cs:Array Value) (e:TypeId),w.heap[b]? = some (.cells cs e (0,0)))
  (hc:∀ (i:Nat) x (k:Nat) v,all[i]? = some x→(enc c x)[k]? = some v→¬ X b (o+i*c.size+k) ∧ ∃ y,w.cell? ⟨b,o+i*c.size+k,none⟩=some y∧R w X [] v y) :
  R w X β (.sl c (sub all l h) (all.drop h) fl) (.slice (if cap=l then some ⟨b,o,none⟩ else (some (⟨b,o,none⟩:Addr)).map (·.add (l*c.size))) (h - l) (cap - l)):=by
 have hlen:=sub_length all l h hh
 have hshift:∀ (i:Nat) x (k:Nat) v,(sub all l h++all.drop h)[i]? = some x→(enc c x)[k]? = some v →
   ¬ X b (o+l*c.size+i*c.size+k) ∧ ∃ y,w.cell? ⟨b,o+l*c.size+i*c.size+k,none⟩=some y∧R w X [] v y:=by
  intro i x k v hx hv
  have hx' : all[l+i]? = some x:=by
   by_cases hi:i<h - l
   ·rw [List.getElem?_append_left (by rw [hlen]; exact hi),sub_get,if_pos (by omega)] at hx
    exact hx
   ·rw [List.getElem?_append_right (by rw [hlen]; omega),hlen,List.getElem?_drop] at hx
    rw [← hx]; congr 1; omega
  have:=hc (l+i) x k v hx' hv
  rwa [Nat.add_mul,show o+(l*c.size+i*c.size)+k=o+l*c.size+i*c.size+k from by omega] at this
 split
 ·rename_i hcl
  have h1:sub all l h=[]:=List.length_eq_zero_iff.1 (by rw [hlen]; omega)
  have h2:all.drop h=[]:=List.length_eq_zero_iff.1 (by simp; omega)
  rw [h1,h2]
  exact mk_sl (by simp; omega) (by simp) (fun e=>by have:=hfull e; simp; omega) hrw (by simp)
 ·simp only [Option.map_some,addr_add]
  exact mk_sl hlen.symm (by rw [hlen]; simp; omega) (fun e=>by have:=hfull e; rw [hlen]; simp; omega) hrw hshift
theorem run_slice_sl {t e:TypeId} {a:Option Addr} {len cap size:Nat} {loy hiy:Option Value} {l h:Nat} (hu:P.underlying t=some (.slice e)) (hs:(sizeOf e).run P w = .ok size w)
  (hb:(Instr.sliceBounds true len cap loy hiy none).run P w = .ok (l,h,cap) w) :
  (Instr.sliceAt t (.slice a len cap) loy hiy none).run P w = .ok (.slice (if cap=l then a else a.map (·.add (l*size))) (h - l) (cap - l)) w:=by
 simp [Instr.sliceAt,Instr.slice,run_und w hu,hb,hs]
theorem run_slice_str {t:TypeId} {s:ByteArray} {loy hiy:Option Value} {l h:Nat} (hu:P.underlying t=some .string)
  (hb:(Instr.sliceBounds false s.size s.size loy hiy none).run P w = .ok (l,h,s.size) w) :
  (Instr.sliceAt t (.string s) loy hiy none).run P w = .ok (.string (s.extract l h)) w:=by
 simp [Instr.sliceAt,Instr.slice,run_und w hu,hb]
theorem extract_sub (s:List UInt8) (l h:Nat):(ByteArray.mk s.toArray).extract l h=⟨(sub s l h).toArray⟩:=by
 apply ByteArray.ext
 apply Array.ext'
 simp [sub,List.extract_eq_take_drop,List.drop_take]
theorem sound_slice {t:TypeId} {x v:V} {y:Value} {lo hi:Option V} {loy hiy:Option Value} (_hR:Rel w X H β) (hx:R w X β x y) (hlo:optR w X β lo loy) (hhi:optR w X β hi hiy)
  (h:(oSlice P H t x lo hi).run=some v):∃ z,(Instr.sliceAt t y loy hiy none).run P w = .ok z w∧R w X β v z:=by
 unfold oSlice at h
 split at h
 ·rename_i s
  split at h
  rotate_left
  ·cases h
  rename_i h1 l1 hu bh bl
  obtain ⟨hreq,h⟩:=req_run h
  simp only [Tree.run,Option.some.injEq] at h
  subst h
  simp only [Bool.and_eq_true,decide_eq_true_eq] at hreq
  obtain ⟨⟨r1,r2⟩,r3⟩:=hreq
  cases hx
  have hsz:(ByteArray.mk s.toArray).size=s.length:=by simp [ByteArray.size]
  have hb:=run_bounds (P:=P) (isS:=false) (len:=s.length) (cap:=s.length) hlo hhi bl bh r1 r2 r3 (Nat.le_refl _)
  refine ⟨_,run_slice_str hu (by rw [hsz]; exact hb),?_⟩
  rw [extract_sub]
  exact .str _ _
 ·split at h
  rotate_left
  ·cases h
  rename_i i hi'
  split at h
  rotate_left
  ·cases h
  rename_i e hk
  have hu:=slice_spec hi' hk
  split at h
  rotate_left
  ·cases h
  rename_i j hj
  split at h
  ·rename_i c ls spare fl _
   rcases sl_get hx with ⟨rfl,rfl,rfl,rfl⟩ | ⟨b,o,cap,rfl,hcap,hfull,hrw,hh⟩
   ·split at h
    ·rename_i h1 l1 bl bh
     obtain ⟨hreq,g⟩:=req_run h
     simp only [Bool.and_eq_true,decide_eq_true_eq] at hreq
     obtain ⟨r1,r2⟩:=hreq
     have bh' : h1=0:=by simpa [bound?] using bh.symm
     subst bh'
     cases hcs:Nat.beq c.size j.size
     ·rw [hcs] at g; simp [Tree.run] at g
     rw [hcs] at g
     simp only [cond_true,Tree.run,Option.some.injEq] at g
     subst g
     have l0:l1=0:=by omega
     subst l0
     have hb:=run_bounds (P:=P) (isS:=true) (len:=0) (cap:=0) hlo hhi bl bh (by omega) (by omega) (by omega) (by omega)
     exact ⟨_,run_slice_sl hu (ti_size w hj) hb,.nil _ _⟩
    ·rename_i h1 l1 bl _ bh
     obtain ⟨hreq,h⟩:=req_run h
     simp only [Bool.and_eq_true,decide_eq_true_eq] at hreq
     obtain ⟨⟨r1,r2⟩,r3⟩:=hreq
     cases hcs:Nat.beq c.size j.size
     ·simp [hcs,Tree.run] at h
     simp only [hcs,cond_true,Tree.run,Option.some.injEq] at h
     subst h
     have r3' : h1≤0:=by simpa using r3
     have h0:h1=0:=by omega
     have l0:l1=0:=by omega
     subst h0
     subst l0
     have hb:=run_bounds (P:=P) (isS:=true) (len:=0) (cap:=0) hlo hhi bl bh (by omega) (by omega) (by omega) (by omega)
     exact ⟨_,run_slice_sl hu (ti_size w hj) hb,.nil _ _⟩
    ·cases h
   split at h
   ·rename_i h1 l1 bl bh
    obtain ⟨hreq,g⟩:=req_run h
    simp only [Bool.and_eq_true,decide_eq_true_eq] at hreq
    obtain ⟨r1,r2⟩:=hreq
    have bh' : h1=ls.length:=by simpa [bound?] using bh.symm
    subst bh'
    cases hcs:Nat.beq c.size j.size
    ·rw [hcs] at g; simp [Tree.run] at g
    rw [hcs] at g
    simp only [cond_true,Tree.run,Option.some.injEq] at g
    subst g
    have hcs:=Nat.eq_of_beq_eq_true hcs
    have hb:=run_bounds (P:=P) (isS:=true) (len:=ls.length) (cap:=cap) hlo hhi bl bh r1 r2 (by omega) (by omega)
    refine ⟨_,run_slice_sl hu (ti_size w hj) hb,?_⟩
    have:=sl_piece (w:=w) (X:=X) (β:=β) (all:=ls++spare) (b:=b) (o:=o) (cap:=cap) (l:=l1.toNat) (h:=ls.length) (fl:=fl) (by omega) (by simp) (by simpa using hcap) (by simpa using hfull) hrw hh
    rw [hcs] at this
    simpa [sub] using this
   ·rename_i h1 l1 bl _ bh
    obtain ⟨hreq,h⟩:=req_run h
    simp only [Bool.and_eq_true,decide_eq_true_eq] at hreq
    obtain ⟨⟨r1,r2⟩,r3⟩:=hreq
    cases hcs:Nat.beq c.size j.size
    ·simp [hcs,Tree.run] at h
    simp only [hcs,cond_true,Tree.run,Option.some.injEq] at h
    subst h
    have hcs:=Nat.eq_of_beq_eq_true hcs
    have hb:=run_bounds (P:=P) (isS:=true) (len:=ls.length) (cap:=cap) hlo hhi bl bh r1 r2 (by omega) (by omega)
    refine ⟨_,run_slice_sl hu (ti_size w hj) hb,?_⟩
    have:=sl_piece (w:=w) (X:=X) (β:=β) (all:=ls++spare) (b:=b) (o:=o) (cap:=cap) (l:=l1.toNat) (h:=h1.toNat) (fl:=fl) (by omega) (by simp; omega) (by simpa using hcap) (by simpa using hfull) hrw hh
    rw [hcs] at this
    exact this
   ·cases h
  ·rename_i id c ls _
   obtain ⟨b,o,cap,loc,rfl,_,_,_,_,hcap,hh⟩:=gro_get hx
   split at h
   ·rename_i h1 l1 bh bl
    obtain ⟨hreq,h⟩:=req_run h
    simp only [Bool.and_eq_true,decide_eq_true_eq] at hreq
    obtain ⟨⟨r1,r2⟩,r3⟩:=hreq
    cases hcs:Nat.beq c.size j.size
    ·simp [hcs,Tree.run] at h
    simp only [hcs,cond_true,Tree.run,Option.some.injEq] at h
    subst h
    have hcs:=Nat.eq_of_beq_eq_true hcs
    have hb:=run_bounds (P:=P) (isS:=true) (len:=ls.length) (cap:=cap) hlo hhi bl bh r1 r2 (by omega) (by omega)
    refine ⟨_,run_slice_sl hu (ti_size w hj) hb,?_⟩
    have:=sl_piece (w:=w) (X:=X) (β:=β) (all:=ls) (b:=b) (o:=o) (cap:=cap) (l:=l1.toNat) (h:=h1.toNat) (fl:=.ro) (by omega) (by omega) hcap (fun h=>by cases h) (fun h=>by cases h) hh
    rw [hcs] at this
    exact this
   ·cases h
  ·rename_i id sz off len _
   split at h
   rotate_left
   ·cases h
   rename_i cs e' hH
   split at h
   rotate_left
   ·cases h
   rename_i h1 l1 bh bl
   obtain ⟨hreq,h⟩:=req_run h
   simp only [Bool.and_eq_true,decide_eq_true_eq] at hreq
   obtain ⟨⟨r1,r2⟩,r3⟩:=hreq
   cases hcs:Nat.beq sz j.size
   ·simp [hcs,Tree.run] at h
   simp only [hcs,cond_true,Tree.run,Option.some.injEq] at h
   subst h
   have hcs:=Nat.eq_of_beq_eq_true hcs
   subst hcs
   cases hx with
   | ref _ _ _ _ _ loc b o cap hid hkd hlen ha hcap =>
    have hb:=run_bounds (P:=P) (isS:=true) (len:=len) (cap:=cap) hlo hhi bl bh r1 r2 (by omega) hlen
    refine ⟨_,run_slice_sl hu (ti_size w hj) hb,?_⟩
    have hm:l1.toNat*j.size+(cap - l1.toNat)*j.size=cap*j.size:=by rw [← Nat.add_mul]; congr 1; omega
    split
    ·rename_i hcl
     exact .ref β id j.size _ _ loc b o _ hid hkd (by omega) (fun h=>by omega) (by omega)
    ·obtain ⟨rfl,rfl⟩:=ha (by omega)
     simp only [Option.map_some,addr_add]
     exact .ref β id j.size _ _ loc _ _ _ hid hkd (by omega) (fun _=>⟨rfl,by omega⟩) (by omega)
  ·split at h
   rotate_left
   ·cases h
   rename_i h1 l1 bh bl
   obtain ⟨hreq,h⟩:=req_run h
   simp only [Tree.run,Option.some.injEq] at h
   subst h
   simp only [Bool.and_eq_true,decide_eq_true_eq] at hreq
   obtain ⟨rfl,rfl⟩:=hreq
   cases hx
   have hb:=run_bounds (P:=P) (isS:=true) (len:=0) (cap:=0) hlo hhi bl bh (by omega) (by omega) (by omega) (by omega)
   refine ⟨_,run_slice_sl hu (ti_size w hj) hb,?_⟩
   exact .val _ _
  ·cases h
end
end Go.Ab

namespace Go.Ab
section
variable {P:Program} {E:Nat→Nat→Prop} {H:List O} {β:List Loc} {w:World} {X:Nat→Nat→Prop}
theorem nums_of (c:List Int):∀ (news:List Value),news.length=c.length→(∀ (i:Nat) n,c[i]? = some n→news[i]? = some (Value.int .u8 n))→news=c.map (Value.int .u8):=by
 intro news hl h
 apply List.ext_getElem?
 intro i
 by_cases hi:i<c.length
 ·rw [h i c[i] (by simp [hi])]
  simp [hi]
 ·rw [List.getElem?_eq_none (by omega),List.getElem?_eq_none (by simp; omega)]
theorem News.nums {xs:List Int} {y:Value} {news:List Value} (N:News P w X (.int .u8) xs y news):news=xs.map (Value.int .u8):=by
 refine nums_of xs news (by have:news.length=xs.length*1:=N.len; omega) ?_
 intro i n hn
 obtain ⟨z,hz,hr⟩:=N.get i n 0 (.int .u8 n) hn rfl
 have hz:news[i*1+0]? = some z:=hz
 simp only [Nat.mul_one,Nat.add_zero] at hz
 rw [hz]
 cases hr
 rfl
theorem foldl_bytes (ns:List Int):ns.foldl (fun (r:ByteArray) n=>r.push (UInt8.ofNat n.toNat)) ByteArray.empty=⟨(ns.map fun n=>UInt8.ofNat n.toNat).toArray⟩:=by
 rw [foldl_push_bytes]
 congr 1
 show (#[]:Array UInt8)++_=_
 simp
theorem Step.allocAny (hR:Rel w (Xs E H β) H β) {w' : World} {ob:Obj} (hh:w'.heap=w.heap.push ob) (h1:w'.os=w.os) (h2:w'.tape=w.tape) (h3:w'.output=w.output):Step E H β w H β w' := by
 have s1:=Step.alloc hR ob
 exact s1.trans (Step.heap_same s1.rel hh h1 h2 h3)
theorem sound_strBytes {src dst:TypeId} {x v:V} {y:Value} (hE:∀ b o,E b o→b<w.heap.size∧¬ Own H β b o) (hR:Rel w (Xs E H β) H β) (hx:R w (Xs E H β) β x y)
  (ht:isStrSl P src dst=true) (h:strBytes x=some v):∃ z w',(convert src dst y).run P w = .ok z w' ∧ Step E H β w H β w' ∧ R w' (Xs E H β) β v z:=by
 unfold isStrSl at ht
 split at ht
 rotate_left
 ·cases ht
 rename_i e hs hd
 split at ht
 rotate_left
 ·cases ht
 rename_i he
 unfold strBytes at h
 split at h
 rotate_left
 ·cases h
 rename_i s
 simp only [Option.some.injEq] at h
 subst h
 cases hx
 have hrun:=run_bytes_of_string (P:=P) w src dst e ⟨s.toArray⟩ hs hd he
 have hge:s.length≤grownCap w s.length 0 e:=grownCap_ge w s.length 0 e
 refine ⟨_,_,hrun,Step.allocAny hR (w' := w.drew.alloc _) rfl rfl rfl rfl,?_⟩
 have hl:List.length (α:=Int) (s.map fun b=>(b.toNat:Int))=s.length:=List.length_map _
 refine mk_sl (l:=(s.map fun b=>(b.toNat:Int):List Int)) (spare:=[]) (c:=.int .u8) (fl:=.ro) hl.symm (show List.length (α:=Int) (s.map fun b=>(b.toNat:Int))+0≤_ by rw [hl]; exact hge) (fun h=>by cases h) (fun h=>by cases h) ?_
 intro i n k v hi hv
 have hi:((s.map fun b=>(b.toNat:Int))++([]:List Int))[i]? = some n:=hi
 rw [List.append_nil] at hi
 have hk:k=0:=by
  cases k with
  | zero=>rfl
  | succ k=>cases hv
 subst hk
 cases hv
 rw [List.getElem?_map] at hi
 obtain ⟨b,hb,rfl⟩:=Option.map_eq_some_iff.1 hi
 have hil:i<s.length:=(List.getElem?_eq_some_iff.1 hb).1
 refine ⟨?_,.int .u8 (b.toNat:Int),?_,.int _ _ _⟩
 ·rintro (g | g)
  ·exact absurd (hE _ _ g).1 (Nat.lt_irrefl _)
  ·exact absurd (own_lt hR g) (Nat.lt_irrefl _)
 ·have h1:(EC.int .u8).size=1:=rfl
  refine (cell_of_row _ _ _ _ _ _ (heap_alloc_new w.drew _)).trans ?_
  show (bytesRow ⟨s.toArray⟩ (grownCap w s.length 0 e))[0+i*(EC.int .u8).size+0]? = _
  rw [h1,show 0+i*1+0=i by omega]
  unfold bytesRow
  rw [Array.getElem?_append_left (by simpa using hil)]
  simp [hb]
theorem elemsOf_val {c:EC} {y:Value} {l:List c.ty} (h:elemsOf c H (.val y)=some l):y = .slice none 0 0∧l=[]:=by
 unfold elemsOf at h
 split at h <;> first | (rename_i e; cases e; done) | skip
 all_goals first
  | (rename_i e; cases e; simp only [Option.some.injEq] at h; exact ⟨rfl,h.symm⟩)
  | (cases h; done)
  | skip
 all_goals simp_all
theorem sound_convert {src dst:TypeId} {x v:V} {y:Value} (hR:Rel w X H β)
  (hx:R w X β x y) (h:oConvert P H src dst x=some v) :
  ∃ z,(convert src dst y).run P w = .ok z w∧R w X β v z:=by
 unfold oConvert at h
 split at h
 ·rename_i e hs hd
  split at h
  rotate_left
  ·cases h
  rename_i he
  split at h
  ·cases h
  rename_i hnot
  obtain ⟨l,hl,rfl⟩:=Option.map_eq_some_iff.1 h
  obtain ⟨news,N⟩:=elems_R (P:=P) hR hx hl
  change List Int at l
  have hnums:=News.nums (xs:=l) N
  have key:∀ a len cap,y = .slice (some a) len cap → ∃ z,(convert src dst y).run P w = .ok z w ∧
    R w X β (.str (l.map fun (n:Int)=>UInt8.ofNat n.toNat)) z:=by
   intro a len cap hy
   subst hy
   have h1:=N.first w rfl
   have hlen:(Result.ok len w:Result Nat) = .ok (List.length (α:=Int) l) w:=N.lenOf w
   have hlen:len=List.length (α:=Int) l:=by simpa using hlen
   subst hlen
   have h2:(loadCells a (List.length (α:=Int) l)).run P w = .ok (l.map (Value.int .u8)).toArray w:=by
    rw [← hnums]
    have:(Builtin.firstCells 1 (List.length (α:=Int) l) (.slice (some a) (List.length (α:=Int) l) cap)).run P w = .ok news.toArray w:=h1
    simpa [Builtin.firstCells] using this
   refine ⟨_,by rw [run_convert_bytes_string w src dst e _ _ _ hs he hd,run_bytesToString w a _ cap l h2],?_⟩
   rw [foldl_bytes]
   exact .str _ _
  cases hx with
  | sl _ _ _ _ _ b o cap f=>exact key _ _ _ rfl
  | nil _ c0 =>
   have hl0:l=[]:=by
    have hl2:sameL (.int .u8) c0 ([]:List c0.ty)=some (show List (EC.ty (.int .u8)) from l):=hl
    obtain ⟨e1,e2⟩:=sameL_spec hl2
    subst e1
    exact e2
   subst hl0
   exact ⟨_,run_convert_bytes_nil (P:=P) w src e hs he 0 0 dst hd,.str _ []⟩
  | gro _ _ _ _ b o cap=>exact key _ _ _ rfl
  | ref _ _ _ _ _ _ b o cap=>exact key _ _ _ rfl
  | str=>exact absurd rfl (hnot _)
  | val _ =>
   obtain ⟨rfl,rfl⟩:=elemsOf_val hl
   exact ⟨_,run_convert_bytes_nil (P:=P) w src e hs he 0 0 dst hd,.str _ []⟩
  | _=>simp [elemsOf] at hl
 ·rename_i hs hd
  split at h
  ·simp only [Option.some.injEq] at h
   subst h
   cases hx
   exact ⟨_,by simp [convert,run_und w hs,run_und w hd],.str _ _⟩
  ·cases h
 ·rename_i k1 k hs hd
  split at h
  ·simp only [Option.some.injEq] at h
   subst h
   cases hx
   exact ⟨_,by simp [convert,run_und w hs,run_und w hd,Conv.intToInt],.int _ _ _⟩
  ·cases h
 ·rename_i k1 hs hd
  split at h
  ·rename_i k n
   cases hb:(decide (0≤n) && decide (n<128))
   ·rw [hb] at h; cases h
   ·rw [hb,cond_true] at h
    simp only [Option.some.injEq] at h
    subst h
    cases hx
    obtain ⟨h1,h2⟩:=Bool.and_eq_true_iff.1 hb
    have h1:=of_decide_eq_true h1
    have h2:=of_decide_eq_true h2
    refine ⟨_,run_convert_int_string w src dst k n (by rw [hs]; rfl) hd,?_⟩
    have e:Utf8.encode n=⟨([UInt8.ofNat n.toNat]:List UInt8).toArray⟩:=by
     have hv:Utf8.valid n=true:=by
      unfold Utf8.valid
      simp only [Bool.and_eq_true,Bool.or_eq_true,decide_eq_true_eq]
      omega
     unfold Utf8.encode
     rw [if_pos hv,if_pos (by omega)]
    rw [e]
    exact .str _ _
  ·cases h
 ·cases h
theorem guard_int (op:BinOp) (t:TypeId) (x y:Operand) (k l:IntKind) (a b:Int):(eqGuard op t x y (.int k a) (.int l b)).run P w = .ok () w:=by
 cases op <;> simp [eqGuard]
theorem guard_str (op:BinOp) (t:TypeId) (x y:Operand) (a b:ByteArray):(eqGuard op t x y (.string a) (.string b)).run P w = .ok () w:=by
 cases op <;> simp [eqGuard]
theorem guard_bool (op:BinOp) (t:TypeId) (x y:Operand) (a b:Bool):(eqGuard op t x y (.bool a) (.bool b)).run P w = .ok () w:=by
 cases op <;> simp [eqGuard]
def bin (op:BinOp) (t:TypeId) (xo yo:Operand) (x y:Value):Sem Value:=do eqGuard op t xo yo x y; binOp op t x y
theorem sound_int {op:BinOp} {t:TypeId} {xo yo:Operand} {k l:IntKind} {a b:Int} {v:V} (hop:op ≠ .shl∧op ≠ .shr) (hk:k=l) (h:(intBin op k a b).run=some v) :
  ∃ z,(bin op t xo yo (.int k a) (.int l b)).run P w = .ok z w∧R w X β v z:=by
 subst hk
 unfold intBin at h
 cases op <;> first | (exact absurd rfl hop.1) | (exact absurd rfl hop.2) | skip
 case quo =>
  obtain ⟨h0,h⟩:=req_run h
  simp only [Tree.run,Option.some.injEq] at h
  subst h
  have h0:¬ b=0:=by simpa using h0
  exact ⟨_,by simp [bin,guard_int,binOp,Op.intDiv,h0],.int _ _ _⟩
 case rem =>
  obtain ⟨h0,h⟩:=req_run h
  simp only [Tree.run,Option.some.injEq] at h
  subst h
  have h0:¬ b=0:=by simpa using h0
  exact ⟨_,by simp [bin,guard_int,binOp,Op.intDiv,h0],.int _ _ _⟩
 all_goals
  simp only [Tree.run,Option.some.injEq] at h
  subst h
  first
   | exact ⟨_,by simp only [bin,Sem.run_bind,guard_int,Result.andThen_ok,binOp,ne_eq,not_true_eq_false,if_false]; rfl,.int _ _ _⟩
   | exact ⟨_,by simp only [bin,Sem.run_bind,guard_int,Result.andThen_ok,binOp,ne_eq,not_true_eq_false,if_false]; rfl,.bool _ _⟩
theorem sound_shift {op:BinOp} {t:TypeId} {xo yo:Operand} {k l:IntKind} {a b:Int} {v:V} (h:(intShift op k a b).run=some v) :
  ∃ z,(bin op t xo yo (.int k a) (.int l b)).run P w = .ok z w∧R w X β v z:=by
 unfold intShift at h
 cases op <;> first | (cases h; done) | skip
 all_goals
  obtain ⟨h0,h⟩:=req_run h
  simp only [Tree.run,Option.some.injEq] at h
  subst h
  have h0:¬ b<0:=by have:=of_decide_eq_true h0; omega
  exact ⟨_,by simp [bin,guard_int,binOp,Op.shift,h0] <;> rfl,.int _ _ _⟩
theorem str_append (a b:List UInt8):(ByteArray.mk a.toArray)++(ByteArray.mk b.toArray)=⟨(a++b).toArray⟩:=by
 apply ByteArray.ext
 apply Array.ext'
 simp
theorem sound_str {op:BinOp} {t:TypeId} {xo yo:Operand} {a b:List UInt8} {v:V} (h:(strBin op a b).run=some v) :
  ∃ z,(bin op t xo yo (.string ⟨a.toArray⟩) (.string ⟨b.toArray⟩)).run P w = .ok z w∧R w X β v z:=by
 unfold strBin at h
 cases op <;> first | (cases h; done) | skip
 case add =>
  obtain ⟨h0,h⟩:=req_run h
  simp only [Tree.run,Option.some.injEq] at h
  subst h
  have h0:=of_decide_eq_true h0
  have e1:(ByteArray.mk a.toArray).size=a.length:=by simp [ByteArray.size]
  have e2:(ByteArray.mk b.toArray).size=b.length:=by simp [ByteArray.size]
  have hmax:IntKind.i64.max=9223372036854775807:=by decide
  have h1:¬ (9223372036854775807<(a.length:Int)+(b.length:Int)):=by simp at h0; omega
  refine ⟨.string ⟨(a++b).toArray⟩,?_,.str _ _⟩
  simp [bin,guard_str,binOp,Op.stringOp,e1,e2,hmax,h1,str_append]
 all_goals
  simp only [Tree.run,Option.some.injEq] at h
  subst h
  exact ⟨_,by simp [bin,guard_str,binOp,Op.stringOp] <;> rfl,.bool _ _⟩
theorem cellEq_spec {a b:V} {x y:Value} {r:Bool} {t:TypeId} (d:Nat) (hx:R w X β a x) (hy:R w X β b y) (h:cellEq a b=some r)
  (hfit:(∃ k n,a = .int k n ∧ ∃ k',P.underlying t=some (.int k'))∨(∃ c,a = .bool c∧P.underlying t=some .bool)∨(∃ s,a = .str s∧P.underlying t=some .string)) :
  (Op.equalIn (d+1) t x y).run P w = .ok r w:=by
 unfold cellEq at h
 split at h
 ·rename_i k n l m
  cases hk:decide (k=l)
  ·simp [hk] at h
  simp only [hk,cond_true,Option.some.injEq] at h
  subst h
  have:=of_decide_eq_true hk
  subst this
  cases hx
  cases hy
  rcases hfit with ⟨_,_,_,k',hu⟩ | ⟨_,e,_⟩ | ⟨_,e,_⟩
  ·exact run_equalIn_int w d t k k' n m hu
  ·cases e
  ·cases e
 ·simp only [Option.some.injEq] at h
  subst h
  cases hx
  cases hy
  rcases hfit with ⟨_,_,e,_⟩ | ⟨_,_,hu⟩ | ⟨_,e,_⟩
  ·cases e
  ·exact run_equalIn_bool w d t _ _ hu
  ·cases e
 ·simp only [Option.some.injEq] at h
  subst h
  cases hx
  cases hy
  rcases hfit with ⟨_,_,e,_⟩ | ⟨_,e,_⟩ | ⟨_,_,hu⟩
  ·cases e
  ·cases e
  ·rw [run_equalIn_string w d t _ _ hu]; simp
 ·cases h
end
end Go.Ab

namespace Go.Ab
section
variable {P:Program} {E:Nat→Nat→Prop} {H:List O} {β:List Loc} {w:World} {X:Nat→Nat→Prop}
theorem run_part_scal {ft:TypeId} {xs:List Value} {off:Nat} {d:TypeDesc} {z:Value} (hu:P.underlying ft=some d) (hd:isAggB P ft=false) (hz:xs[off]? = some z) :
  (part ft xs.toArray off).run P w = .ok z w:=by
 have h1:=run_isAgg' w hu
 rw [hd] at h1
 simp [part,h1,hz]
theorem fit_spec {t:TypeId} {a:V} (h:fitT P t a=true) :
  (∃ k n,a = .int k n ∧ ∃ k',P.underlying t=some (.int k'))∨(∃ c,a = .bool c∧P.underlying t=some .bool)∨(∃ s,a = .str s∧P.underlying t=some .string):=by
 unfold fitT at h
 split at h
 ·rename_i k' k n hu; exact .inl ⟨k,n,rfl,_,hu⟩
 ·rename_i c hu; exact .inr (.inl ⟨c,rfl,hu⟩)
 ·rename_i s hu; exact .inr (.inr ⟨s,rfl,hu⟩)
 ·cases h
theorem fit_und {t:TypeId} {a:V} (h:fitT P t a=true):∃ dd,P.underlying t=some dd∧isAggB P t=false:=by
 rcases fit_spec h with ⟨_,_,_,k',hu⟩ | ⟨_,_,hu⟩ | ⟨_,_,hu⟩ <;> exact ⟨_,hu,by simp [isAggB,hu]⟩
theorem eqItems_spec (d:Nat) {e:TypeId} {xs ys:List Value}:∀ (cx cy:List V) (k:Nat) (r:Bool),eqCells P e cx cy=some r →
  (∀ (j:Nat) (v:V),cx[j]? = some v → ∃ x,xs[k+j]? = some x∧R w X β v x)→(∀ (j:Nat) (v:V),cy[j]? = some v → ∃ x,ys[k+j]? = some x∧R w X β v x) →
  (Op.eqItems (d+1) e 1 xs.toArray ys.toArray (List.range' k cx.length)).run P w = .ok r w
 | [],[],k,r,h,_,_=>by
  simp only [eqCells,Option.some.injEq] at h
  subst h
  simp [Op.eqItems]
 | a :: cx,b :: cy,k,r,h,hx,hy=>by
  have h:(match eqCells P e cx cy with | some d=>cond (fitT P e a) ((cellEq a b).map (· && d)) none | none=>none)=some r:=h
  split at h
  rotate_left
  ·cases h
  rename_i q hq
  cases hf:fitT P e a
  ·simp [hf] at h
  simp only [hf,cond_true] at h
  obtain ⟨c,hc,rfl⟩:=Option.map_eq_some_iff.1 h
  obtain ⟨dd,hu,hag⟩:=fit_und hf
  obtain ⟨x,hx0,rx⟩:=hx 0 a rfl
  obtain ⟨y,hy0,ry⟩:=hy 0 b rfl
  have p1:=run_part_scal (w:=w) hu hag (show xs[k]? = some x by simpa using hx0)
  have p2:=run_part_scal (w:=w) hu hag (show ys[k]? = some y by simpa using hy0)
  have heq:=cellEq_spec (P:=P) d rx ry hc (fit_spec hf)
  have ih:=eqItems_spec d cx cy (k+1) q hq (fun j v hv=>by
   obtain ⟨x,h1,h2⟩:=hx (j+1) v hv
   exact ⟨x,by rw [show k+1+j=k+(j+1) by omega]; exact h1,h2⟩) (fun j v hv=>by
   obtain ⟨x,h1,h2⟩:=hy (j+1) v hv
   exact ⟨x,by rw [show k+1+j=k+(j+1) by omega]; exact h1,h2⟩)
  simp only [List.length_cons,List.range'_succ,Op.eqItems,Nat.mul_one,Sem.run_bind,p1,p2,heq,Result.andThen_ok]
  cases c
  ·simp
  ·simpa using ih
 | [],_ :: _,_,_,h,_,_=>by cases h
 | _ :: _,[],_,_,h,_,_=>by cases h
theorem eqF_spec {cx cy:List V} {xs ys:List Value} (d:Nat) (hlx:xs.length=cx.length) (hly:ys.length=cy.length)
  (hx:∀ (k:Nat) (v:V) (x:Value),cx[k]? = some v→xs[k]? = some x→R w X β v x) (hy:∀ (k:Nat) (v:V) (x:Value),cy[k]? = some v→ys[k]? = some x→R w X β v x)
  {f:Field} {r:Bool} (h:eqF P f cx cy=some r) :
  ∃ a b,(part f.type xs.toArray f.offset).run P w = .ok a w∧(part f.type ys.toArray f.offset).run P w = .ok b w∧(Op.equalIn (d+2) f.type a b).run P w = .ok r w:=by
 unfold eqF at h
 split at h
 ·rename_i n e hu
  generalize hc:(Nat.beq (P.cellsOf e) 1 && (Nat.beq (P.cellsOf f.type) n && (Nat.ble (f.offset+n) cx.length && (Nat.ble (f.offset+n) cy.length && (!isAggB P e && ((P.info? e).isSome && (P.info? f.type).isSome))))))=c at h
  cases c
  ·cases h
  rw [cond_true] at h
  simp only [Bool.and_eq_true] at hc
  obtain ⟨c1,c2,c3,c4,_,c6,c7⟩:=hc
  have c1:=Nat.eq_of_beq_eq_true c1
  have c2:=Nat.eq_of_beq_eq_true c2
  have c3:=Nat.le_of_ble_eq_true c3
  have c4:=Nat.le_of_ble_eq_true c4
  obtain ⟨i,hi⟩:=Option.isSome_iff_exists.1 c6
  obtain ⟨j,hj⟩:=Option.isSome_iff_exists.1 c7
  have hagg:(isAgg f.type).run P w = .ok true w:=by rw [run_isAgg' w hu]; simp [isAggB,hu]
  have hsz:(sizeOf f.type).run P w = .ok n w:=by rw [run_sizeOf' w hj,← c2]; simp [Program.cellsOf,hj]
  refine ⟨_,_,by simp [part,hagg,hsz]; rfl,by simp [part,hagg,hsz]; rfl,?_⟩
  rw [run_equalIn_array w (d+1) _ _ hu hi,c1,List.range_eq_range']
  have look:∀ {cs:List V} {zs:List Value},zs.length=cs.length→(∀ (k:Nat) (v:V) (x:Value),cs[k]? = some v→zs[k]? = some x→R w X β v x) →
    ∀ (j:Nat) (v:V),((cs.drop f.offset).take n)[j]? = some v → ∃ x,((zs.drop f.offset).take n)[0+j]? = some x∧R w X β v x:=by
   intro cs zs hl hr j v hv
   rw [Nat.zero_add]
   rw [List.getElem?_take] at hv ⊢
   split at hv
   ·rename_i hlt
    rw [if_pos hlt,List.getElem?_drop]
    rw [List.getElem?_drop] at hv
    have:f.offset+j<zs.length:=by rw [hl]; exact (List.getElem?_eq_some_iff.1 hv).1
    exact ⟨zs[f.offset+j],by simp [this],hr _ _ _ hv (by simp [this])⟩
   ·cases hv
  have:=eqItems_spec (P:=P) (w:=w) d (xs:=(xs.drop f.offset).take n) (ys:=(ys.drop f.offset).take n) _ _ 0 r h (look hlx hx) (look hly hy)
  have hlen:((cx.drop f.offset).take n).length=n:=by simp; omega
  rw [hlen] at this
  exact this
 ·split at h
  rotate_left
  ·cases h
  rename_i a b ha hb
  cases hf:fitT P f.type a
  ·simp [hf] at h
  simp only [hf,cond_true] at h
  obtain ⟨dd,hu,hag⟩:=fit_und hf
  have hkx:f.offset<xs.length:=by rw [hlx]; exact (List.getElem?_eq_some_iff.1 ha).1
  have hky:f.offset<ys.length:=by rw [hly]; exact (List.getElem?_eq_some_iff.1 hb).1
  have rx:=hx _ a xs[f.offset] ha (by simp [hkx])
  have ry:=hy _ b ys[f.offset] hb (by simp [hky])
  exact ⟨_,_,run_part_scal (w:=w) hu hag (show xs[f.offset]? = some xs[f.offset] by simp [hkx]),run_part_scal (w:=w) hu hag (show ys[f.offset]? = some ys[f.offset] by simp [hky]),
   cellEq_spec (P:=P) (d+1) rx ry h (fit_spec hf)⟩
theorem eqBy_spec {cx cy:List V} {xs ys:List Value} (d:Nat) (hlx:xs.length=cx.length) (hly:ys.length=cy.length)
  (hx:∀ (k:Nat) (v:V) (x:Value),cx[k]? = some v→xs[k]? = some x→R w X β v x) (hy:∀ (k:Nat) (v:V) (x:Value),cy[k]? = some v→ys[k]? = some x→R w X β v x) :
  ∀ (fs:List Field) (r:Bool),eqBy P cx cy fs=some r→(Op.eqFields (d+2) xs.toArray ys.toArray fs).run P w = .ok r w
 | [],r,h=>by
  simp only [eqBy,Option.some.injEq] at h
  subst h
  simp [Op.eqFields]
 | f :: fs,r,h=>by
  unfold eqBy at h
  split at h
  rotate_left
  ·cases h
  rename_i a q ha hq
  cases hc : (!(f.name == "_"))
  ·simp [hc] at h
  simp only [hc,cond_true,Option.some.injEq] at h
  subst h
  have ih:=eqBy_spec d hlx hly hx hy fs q hq
  have hname : f.name ≠ "_" := by simpa using hc
  obtain ⟨x,y,p1,p2,heq⟩:=eqF_spec d hlx hly hx hy ha
  cases a <;> simp [Op.eqFields,hname,p1,p2,heq,ih]
theorem nil_in (d:Nat) {t:TypeId} {e:TypeId} (h:P.underlying t=some (.slice e)) (b:Option Addr) (n m n' m' : Nat) :
  (Op.equalIn (d+1) t (.slice b n m) (.slice none n' m')).run P w = .ok b.isNone w:=by
 cases b <;> simp [Op.equalIn,run_und w h]
theorem und_nil {t:TypeId} {e:TypeId} (h:P.underlying t=some (.slice e)) (b:Option Addr) (n m n' m' : Nat) :
  (Op.equal t (.slice b n m) (.slice none n' m')).run P w = .ok b.isNone w:=nil_in 9999 h b n m n' m'
theorem nilp_in (d:Nat) {t:TypeId} {e:TypeId} (h:P.underlying t=some (.pointer e)) (b:Option Addr) :
  (Op.equalIn (d+1) t (.pointer b) (.pointer none)).run P w = .ok b.isNone w:=by
 cases b <;> simp [Op.equalIn,run_und w h]
theorem und_nilp {t:TypeId} {e:TypeId} (h:P.underlying t=some (.pointer e)) (b:Option Addr) :
  (Op.equal t (.pointer b) (.pointer none)).run P w = .ok b.isNone w:=nilp_in 9999 h b
theorem iface_in (d:Nat) {t:TypeId} {ms:Array (String × TypeId)} (h:P.underlying t=some (.interface ms)) (tx:TypeId) (vx:Value) :
  (Op.equalIn (d+1) t (.iface tx vx) .nilIface).run P w = .ok false w:=by
 simp [Op.equalIn,run_und w h]
theorem iface_nil {t:TypeId} {ms:Array (String × TypeId)} (h:P.underlying t=some (.interface ms)) (tx:TypeId) (vx:Value) :
  (Op.equal t (.iface tx vx) .nilIface).run P w = .ok false w:=iface_in 9999 h tx vx
theorem nil_nil_in (d:Nat) {t:TypeId} {ms:Array (String × TypeId)} (h:P.underlying t=some (.interface ms)) :
  (Op.equalIn (d+1) t .nilIface .nilIface).run P w = .ok true w:=by
 simp [Op.equalIn,run_und w h]
theorem nil_nil {t:TypeId} {ms:Array (String × TypeId)} (h:P.underlying t=some (.interface ms)) :
  (Op.equal t .nilIface .nilIface).run P w = .ok true w:=nil_nil_in 9999 h
theorem iface_guard {op:BinOp} {t:TypeId} {xo yo:Operand} {tx:TypeId} {vx:Value}:(eqGuard op t xo yo (.iface tx vx) .nilIface).run P w = .ok () w:=by
 cases op <;> simp [eqGuard]
theorem nil_guard_in (d:Nat) {t:TypeId} {ms:Array (String × TypeId)} (h:P.underlying t=some (.interface ms)) (hm:ms.isEmpty=true) :
  (Op.eqGuardIn (d+1) t .nilIface .nilIface).run P w = .ok false w:=by
 simp [Op.eqGuardIn,run_und w h,hm]
theorem nil_guard {op:BinOp} {t:TypeId} {xo yo:Operand} {ms:Array (String × TypeId)} (h:P.underlying t=some (.interface ms)) (hm:ms.isEmpty=true) :
  (eqGuard op t xo yo .nilIface .nilIface).run P w = .ok () w:=by
 have hg:(Op.eqGuardIn Op.maxDepth t .nilIface .nilIface).run P w = .ok false w:=nil_guard_in 9999 h hm
 unfold eqGuard
 cases op <;> simp [hg] <;> (split <;> rfl)
theorem sound_ifc {op:BinOp} {t tx ty:TypeId} {k l:IntKind} {a b:Int} {xo yo:Operand} {v:V} {X:Nat→Nat→Prop} {β:List Loc} (h:(oIfc P op t tx k a ty l b).run=some v) :
  ∃ z,(bin op t xo yo (.iface tx (.int k a)) (.iface ty (.int l b))).run P w = .ok z w∧R w X β v z:=by
 unfold oIfc at h
 split at h
 rotate_left
 ·cases h
 rename_i ms k0 i hi hn hinfo
 cases hb:(Nat.beq tx ty && (i.comparable && decide (k=l)))
 ·rw [hb] at h; cases h
 rw [hb,cond_true] at h
 obtain ⟨q1,q2⟩:=Bool.and_eq_true_iff.1 hb
 obtain ⟨hcmp,q3⟩:=Bool.and_eq_true_iff.1 q2
 have q1:=Nat.eq_of_beq_eq_true q1
 have q3:=of_decide_eq_true q3
 clear hb q2
 subst q1
 subst q3
 have hg:∀ op,(eqGuard op t xo yo (.iface tx (.int k a)) (.iface tx (.int k b))).run P w = .ok () w:=by intro op; cases op <;> simp [eqGuard]
 have he:(Op.equal t (.iface tx (.int k a)) (.iface tx (.int k b))).run P w = .ok (a == b) w:=by
  have:∀ d,(Op.equalIn (d+2) t (.iface tx (.int k a)) (.iface tx (.int k b))).run P w = .ok (a == b) w:=by
   intro d
   simp [Op.equalIn,run_und w hi,run_und w hn,typeInfo,hinfo,hcmp]
  exact this 9998
 split at h
 ·simp only [Tree.run,Option.some.injEq] at h
  subst h
  exact ⟨_,by simp only [bin,Sem.run_bind,hg,Result.andThen_ok,binOp]; simp [he],.bool _ _⟩
 ·simp only [Tree.run,Option.some.injEq] at h
  subst h
  exact ⟨_,by simp only [bin,Sem.run_bind,hg,Result.andThen_ok,binOp]; simp [he],.bool _ _⟩
 ·cases h
theorem sound_nil {op:BinOp} {t:TypeId} {xo:Operand} {x v:V} {sx:Value} (hx:R w X β x sx) (h:(oNil P op t x).run=some v) :
  ∃ z,(bin op t xo (.const .nilIface) sx .nilIface).run P w = .ok z w∧R w X β v z:=by
 unfold oNil at h
 have ng:∀ op,(eqGuard op t xo (.const .nilIface) .nilIface .nilIface).run P w = .ok () w:=by intro op; cases op <;> simp [eqGuard]
 split at h
 ·rename_i ms _ _ hu
  simp only [Tree.run,Option.some.injEq] at h
  subst h
  cases hx
  exact ⟨_,by simp only [bin,Sem.run_bind,iface_guard,Result.andThen_ok,binOp]; simp [iface_nil hu],.bool _ _⟩
 ·rename_i ms _ _ hu
  simp only [Tree.run,Option.some.injEq] at h
  subst h
  cases hx
  exact ⟨_,by simp only [bin,Sem.run_bind,iface_guard,Result.andThen_ok,binOp]; simp [iface_nil hu],.bool _ _⟩
 ·rename_i ms hu
  simp only [Tree.run,Option.some.injEq] at h
  subst h
  cases hx
  exact ⟨_,by simp only [bin,Sem.run_bind,ng,Result.andThen_ok,binOp]; simp [nil_nil hu],.bool _ _⟩
 ·rename_i ms hu
  simp only [Tree.run,Option.some.injEq] at h
  subst h
  cases hx
  exact ⟨_,by simp only [bin,Sem.run_bind,ng,Result.andThen_ok,binOp]; simp [nil_nil hu],.bool _ _⟩
 ·cases h
theorem sound_bin {op:BinOp} {t:TypeId} {xo yo:Operand} {x y v:V} {sx sy:Value} (hx:R w X β x sx) (hy:R w X β y sy) (h:(oBin P op t x y).run=some v) :
  ∃ z,(bin op t xo yo sx sy).run P w = .ok z w∧R w X β v z:=by
 unfold oBin at h
 split at h
 ·cases hx
  cases hy
  split at h
  ·exact sound_shift h
  ·exact sound_shift h
  ·rename_i k a l b _ h1 h2
   cases hk:decide (k=l)
   ·simp [hk,Tree.run] at h
   ·simp only [hk,cond_true] at h
    exact sound_int ⟨h1,h2⟩ (of_decide_eq_true hk) h
 ·cases hx
  cases hy
  exact sound_str h
 ·cases hx
  cases hy
  split at h
  ·rename_i hu
   simp only [Tree.run,Option.some.injEq] at h
   subst h
   exact ⟨_,by simp only [bin,Sem.run_bind,guard_bool,Result.andThen_ok]; exact run_eql_bool w t _ _ hu,.bool _ _⟩
  ·rename_i hu
   simp only [Tree.run,Option.some.injEq] at h
   subst h
   exact ⟨_,by simp only [bin,Sem.run_bind,guard_bool,Result.andThen_ok]; exact run_neq_bool w t _ _ hu,.bool _ _⟩
  ·cases h
 ·rename_i a b
  cases hx with
  | agg _ _ xs hlx hrx =>
  cases hy with
  | agg _ _ ys hly hry =>
  have key:∀ c,aggEq P t a b=some c→P.eqGuardType P.depth t=false∧(Op.equalIn 10000 t (.agg xs.toArray) (.agg ys.toArray)).run P w = .ok c w:=by
   intro c hc
   unfold aggEq at hc
   split at hc
   ·rename_i fs hu
    cases hg:(!P.stoodInHeld t && !P.eqGuardType P.depth t)
    ·simp [hg] at hc
    simp only [hg,cond_true] at hc
    obtain ⟨g1,g2⟩:=Bool.and_eq_true_iff.1 hg
    have hf:P.fieldsOf t=fs:=by simp [Program.fieldsOf,hu]
    refine ⟨by simpa using g2,?_⟩
    rw [run_equalIn_struct w 9999 t _ _ (by rw [hf]; exact hu) (by simpa using g1),hf]
    exact eqBy_spec 9997 hlx hly hrx hry _ c hc
   ·rename_i n e hu
    generalize hg:(!P.eqGuardType P.depth t && (Nat.beq (P.cellsOf e) 1 && (Nat.beq a.length n && (Nat.beq b.length n && (P.info? e).isSome))))=g at hc
    cases g
    ·cases hc
    rw [cond_true] at hc
    simp only [Bool.and_eq_true] at hg
    obtain ⟨g1,g2,g3,g4,g5⟩:=hg
    have g2:=Nat.eq_of_beq_eq_true g2
    have g3:=Nat.eq_of_beq_eq_true g3
    obtain ⟨i,hi⟩:=Option.isSome_iff_exists.1 g5
    refine ⟨by simpa using g1,?_⟩
    rw [run_equalIn_array w 9999 _ _ hu hi,g2,List.range_eq_range']
    have look:∀ {cs:List V} {zs:List Value},zs.length=cs.length→(∀ (k:Nat) (v:V) (x:Value),cs[k]? = some v→zs[k]? = some x→R w X β v x) →
      ∀ (j:Nat) (v:V),cs[j]? = some v → ∃ x,zs[0+j]? = some x∧R w X β v x:=by
     intro cs zs hl hr j v hv
     rw [Nat.zero_add]
     have:j<zs.length:=by rw [hl]; exact (List.getElem?_eq_some_iff.1 hv).1
     exact ⟨zs[j],by simp [this],hr _ _ _ hv (by simp [this])⟩
    have:=eqItems_spec (P:=P) (w:=w) 9998 (xs:=xs) (ys:=ys) _ _ 0 c hc (look hlx hrx) (look hly hry)
    rw [g3] at this
    exact this
   ·cases hc
  split at h
  ·rename_i c hc
   simp only [Tree.run,Option.some.injEq] at h
   subst h
   obtain ⟨k1,k2⟩:=key c hc
   exact ⟨_,by simp only [bin,Sem.run_bind,run_eqGuard_agg w _ t _ _ _ _ k1,Result.andThen_ok,run_eql_struct,k2],.bool _ _⟩
  ·rename_i c hc
   simp only [Tree.run,Option.some.injEq] at h
   subst h
   obtain ⟨k1,k2⟩:=key c hc
   exact ⟨_,by simp only [bin,Sem.run_bind,run_eqGuard_agg w _ t _ _ _ _ k1,Result.andThen_ok,run_neq_struct,k2],.bool _ _⟩
  ·cases h
 ·cases hy
  split at h
  rotate_left
  ·cases h
  rename_i e hu
  have hg:∀ op a n m n' m',(eqGuard op t xo yo (.slice a n m) (.slice none n' m')).run P w = .ok () w:=by intro op a n m n' m'; cases op <;> simp [eqGuard]
  have h1:∀ a n m n' m',(bin .eql t xo yo (.slice a n m) (.slice none n' m')).run P w = .ok (.bool a.isNone) w:=by
   intro a n m n' m'; simp only [bin,Sem.run_bind,hg,Result.andThen_ok,binOp]; simp [und_nil hu]
  have h2:∀ a n m n' m',(bin .neq t xo yo (.slice a n m) (.slice none n' m')).run P w = .ok (.bool (!a.isNone)) w:=by
   intro a n m n' m'; simp only [bin,Sem.run_bind,hg,Result.andThen_ok,binOp]; simp [und_nil hu]
  split at h <;> first | (cases h; done) | skip
  all_goals
   simp only [Tree.run,Option.some.injEq] at h
   subst h
   cases hx <;> first | exact ⟨_,h1 _ _ _ _ _,.bool _ _⟩ | exact ⟨_,h2 _ _ _ _ _,.bool _ _⟩ | (rename_i hm; exact (hm rfl).elim)
 ·cases hy
  split at h
  rotate_left
  ·cases h
  rename_i e hu
  have hg:∀ op a,(eqGuard op t xo yo (.pointer a) (.pointer none)).run P w = .ok () w:=by intro op a; cases op <;> simp [eqGuard]
  have h1:∀ a,(bin .eql t xo yo (.pointer a) (.pointer none)).run P w = .ok (.bool a.isNone) w:=by
   intro a; simp only [bin,Sem.run_bind,hg,Result.andThen_ok,binOp]; simp [und_nilp hu]
  have h2:∀ a,(bin .neq t xo yo (.pointer a) (.pointer none)).run P w = .ok (.bool (!a.isNone)) w:=by
   intro a; simp only [bin,Sem.run_bind,hg,Result.andThen_ok,binOp]; simp [und_nilp hu]
  split at h <;> first | (cases h; done) | skip
  all_goals
   simp only [Tree.run,Option.some.injEq] at h
   subst h
   cases hx
   first | exact ⟨_,h1 _,.bool _ _⟩ | exact ⟨_,h2 _,.bool _ _⟩
 ·cases hy
  split at h
  rotate_left
  ·cases h
  rename_i ms hu
  cases hms:ms.isEmpty
  ·rw [hms] at h; cases h
  rw [hms,cond_true] at h
  split at h
  ·simp only [Tree.run,Option.some.injEq] at h
   subst h
   cases hx
   exact ⟨_,by simp only [bin,Sem.run_bind,iface_guard,Result.andThen_ok,binOp]; simp [iface_nil hu],.bool _ _⟩
  ·simp only [Tree.run,Option.some.injEq] at h
   subst h
   cases hx
   exact ⟨_,by simp only [bin,Sem.run_bind,iface_guard,Result.andThen_ok,binOp]; simp [iface_nil hu],.bool _ _⟩
  ·simp only [Tree.run,Option.some.injEq] at h
   subst h
   cases hx
   exact ⟨_,by simp only [bin,Sem.run_bind,nil_guard hu hms,Result.andThen_ok,binOp]; simp [nil_nil hu],.bool _ _⟩
  ·simp only [Tree.run,Option.some.injEq] at h
   subst h
   cases hx
   exact ⟨_,by simp only [bin,Sem.run_bind,nil_guard hu hms,Result.andThen_ok,binOp]; simp [nil_nil hu],.bool _ _⟩
  ·cases h
 ·cases hx with
  | ifc _ _ _ _ hx=>cases hy with
   | ifc _ _ _ _ hy =>
    cases hx
    cases hy
    exact sound_ifc h
 ·cases h
theorem sound_un {op:UnOp} {x v:V} {y:Value} (hx:R w X β x y) (h:oUn op x=some v):∃ z,(Op.unary op y).run P w = .ok z w∧R w X β v z:=by
 unfold oUn at h
 split at h
 ·simp only [Option.some.injEq] at h
  subst h
  cases hx
  exact ⟨_,rfl,.int _ _ _⟩
 ·simp only [Option.some.injEq] at h
  subst h
  cases hx
  exact ⟨_,rfl,.int _ _ _⟩
 ·simp only [Option.some.injEq] at h
  subst h
  cases hx
  exact ⟨_,rfl,.bool _ _⟩
 ·cases h
theorem sound_index {t:TypeId} {x ix v:V} {y iy:Value} (hx:R w X β x y) (hi:R w X β ix iy) (h:(oIndex P t x ix).run=some v) :
  ∃ z,(Instr.index t y iy).run P w = .ok z w∧R w X β v z:=by
 unfold oIndex at h
 split at h
 ·rename_i s k n
  split at h
  rotate_left
  ·cases h
  rename_i hu
  obtain ⟨hin,h⟩:=req_run h
  simp only [Tree.run,Option.some.injEq] at h
  subst h
  obtain ⟨i0,i1,i2⟩:=inside_spec hin
  cases hx
  cases hi
  have hsz:(ByteArray.mk s.toArray).size=s.length:=by simp [ByteArray.size]
  refine ⟨.int .u8 (s.getD n.toNat 0).toNat,?_,.int _ _ _⟩
  rw [run_index_string w t _ k n hu,dif_pos ⟨i0,by rw [hsz]; exact i1⟩]
  have:(ByteArray.mk s.toArray)[n.toNat]'(by rw [hsz]; exact i2)=s.getD n.toNat 0:=by
   rw [List.getD_eq_getElem?_getD,List.getElem?_eq_getElem i2,Option.getD_some]
   rfl
  rw [this]
 ·rename_i cells k n
  split at h
  rotate_left
  ·cases h
  rename_i i hti
  split at h
  rotate_left
  ·cases h
  rename_i len e hk
  have hu:=arr_spec hti hk
  split at h
  rotate_left
  ·cases h
  rename_i j hj
  obtain ⟨hin,h⟩:=req_run h
  obtain ⟨i0,i1,i2⟩:=inside_spec hin
  split at h
  rotate_left
  ·cases h
  rename_i u hu'
  simp only [Tree.run,Option.some.injEq] at h
  subst h
  cases hi
  cases hx with
  | agg _ _ xs hl hr =>
   obtain ⟨z,hz,hz'⟩:=sound_part (P:=P) (ft:=e) hl hr (ti_isAgg w hj) (ti_size w hj) hu'
   exact ⟨z,by simp [Instr.index,asIntOf,run_und w hu,i0,i1,ti_size w hj,hz],hz'⟩
 ·cases h
theorem sound_len {argTypes:Array TypeId} {ty:TypeId} {x v:V} {y:Value} (hx:R w X β x y) (h:oLen P argTypes x=some v) :
  ∃ z,(Builtin.len_ argTypes ty #[y]).run P w = .ok z w∧R w X β v z:=by
 unfold oLen at h
 split at h
 rotate_left
 ·cases h
 rename_i t ht
 split at h
 ·rename_i s hu
  simp only [Option.some.injEq] at h
  subst h
  cases hx
  have hsz:(ByteArray.mk s.toArray).size=s.length:=by simp [ByteArray.size]
  exact ⟨_,by simp [Builtin.len_,ht,run_und w hu,hsz,goInt],.int _ _ _⟩
 ·cases h
 ·rename_i e hu hnot
  split at h
  rotate_left
  ·cases h
  rename_i n hn
  simp only [Option.some.injEq] at h
  subst h
  have key:∀ a cap,y = .slice a n cap → ∃ z,(Builtin.len_ argTypes ty #[y]).run P w = .ok z w∧R w X β (.int .i64 n) z:=by
   intro a cap hy
   subst hy
   exact ⟨.int .i64 n,by simp [Builtin.len_,ht,run_und w hu,goInt],.int _ _ _⟩
  unfold lenOf? at hn
  split at hn <;> first | (cases hn; done) | skip
  ·cases hn; cases hx <;> exact key _ _ rfl
  ·cases hn; cases hx; exact key _ _ rfl
  ·cases hn; cases hx; exact key _ _ rfl
  ·cases hn; cases hx; exact key _ _ rfl
  ·exact absurd rfl (hnot _)
 ·rename_i n e hu
  simp only [Option.some.injEq] at h
  subst h
  refine ⟨.int .i64 n,?_,.int _ _ _⟩
  simp [Builtin.len_,ht,run_und w hu,goInt]
 ·cases h
theorem sound_cap {H:List O} {argTypes:Array TypeId} {ty:TypeId} {x v:V} {y:Value} (hR:Rel w X H β) (hx:R w X β x y) (h:oCap P H argTypes x=some v) :
  ∃ z,(Builtin.cap_ argTypes ty #[y]).run P w = .ok z w∧R w X β v z:=by
 unfold oCap at h
 split at h
 rotate_left
 ·cases h
 rename_i t ht
 split at h
 rotate_left
 ·cases h
 rename_i e hu
 split at h
 ·rename_i id sz off len
  split at h
  rotate_left
  ·cases h
  rename_i cs e' hH
  cases hb:(Nat.ble 4294967296 e' && (Nat.beq off 0 && (Nat.beq (len*sz) cs.length && Nat.blt 0 sz)))
  ·rw [hb] at h; cases h
  rw [hb] at h
  simp only [cond_true,Option.some.injEq] at h
  subst h
  simp only [Bool.and_eq_true] at hb
  obtain ⟨b1,b2,b3,b4⟩:=hb
  have b1:=Nat.le_of_ble_eq_true b1
  have b2:=Nat.eq_of_beq_eq_true b2
  have b3:=Nat.eq_of_beq_eq_true b3
  have b4:1≤sz:=by simpa [Nat.blt] using b4
  cases hx with
  | ref _ _ _ _ _ loc b o cap hid hk hlen ha hcap =>
   obtain ⟨_,arr,e2,a1,a2,a3,a4⟩:=hR.cells id cs e' loc hH hid
   have hs:=a3.2 b1
   have hle:cap*sz≤len*sz:=by omega
   have hc:cap=len:=Nat.le_antisymm (Nat.le_of_mul_le_mul_right hle b4) hlen
   subst hc
   exact ⟨.int .i64 cap,by simp [Builtin.cap_,ht,run_und w hu,goInt],.int _ _ _⟩
 ·simp only [Option.some.injEq] at h
  subst h
  cases hx
  exact ⟨.int .i64 0,by simp [Builtin.cap_,ht,run_und w hu,goInt],.int _ _ _⟩
 ·cases h
theorem sound_max {argTypes:Array TypeId} {ty:TypeId} {x y v:V} {sx sy:Value} (hx:R w X β x sx) (hy:R w X β y sy) (h:vmax x y=some v) :
  ∃ z,(Builtin.max_ argTypes ty #[sx,sy]).run P w = .ok z w∧R w X β v z:=by
 unfold vmax at h
 split at h
 rotate_left
 ·cases h
 rename_i k a l b
 cases hk:decide (k=l)
 ·simp [hk] at h
 simp only [hk,cond_true,Option.some.injEq] at h
 subst h
 cases hx
 cases hy
 exact ⟨_,run_max_int2 w argTypes ty k l a b,.int _ _ _⟩
theorem sound_min {argTypes:Array TypeId} {ty:TypeId} {x y v:V} {sx sy:Value} (hx:R w X β x sx) (hy:R w X β y sy) (h:vmin x y=some v) :
  ∃ z,(Builtin.min_ argTypes ty #[sx,sy]).run P w = .ok z w∧R w X β v z:=by
 unfold vmin at h
 split at h
 rotate_left
 ·cases h
 rename_i k a l b
 cases hk:decide (k=l)
 ·simp [hk] at h
 simp only [hk,cond_true,Option.some.injEq] at h
 subst h
 cases hx
 cases hy
 exact ⟨_,run_min_int2 w argTypes ty k l a b,.int _ _ _⟩
theorem pures_get:∀ {cs ds:List V},V.pures? cs=some ds→ds.length=cs.length ∧ ∀ (k:Nat) v,ds[k]? = some v → ∃ u,cs[k]? = some u∧V.pure? u=some v
 | [],ds,h=>by
  simp only [V.pures?,Option.some.injEq] at h
  subst h
  exact ⟨rfl,fun k v h=>by simp at h⟩
 | c :: cs,ds,h=>by
  unfold V.pures? at h
  split at h
  ·rename_i v r h1 h2
   simp only [Option.some.injEq] at h
   subst h
   obtain ⟨a,b⟩:=pures_get h2
   refine ⟨by simp [a],fun k u hu=>?_⟩
   cases k with
   | zero=>simp at hu; subst hu; exact ⟨c,rfl,h1⟩
   | succ k=>simp at hu; obtain ⟨z,hz,hz'⟩:=b k u hu; exact ⟨z,by simpa using hz,hz'⟩
  ·cases h
theorem pure_R {β:List Loc} {v:V} {y:Value} (h:R w X β v y):∀ v',V.pure? v=some v' → R w X [] v' y:=by
 induction h with
 | int=>intro v' h; simp only [V.pure?,Option.some.injEq] at h; subst h; exact .int _ _ _
 | bool=>intro v' h; simp only [V.pure?,Option.some.injEq] at h; subst h; exact .bool _ _
 | str=>intro v' h; simp only [V.pure?,Option.some.injEq] at h; subst h; exact .str _ _
 | val=>intro v' h; simp only [V.pure?,Option.some.injEq] at h; subst h; exact .val _ _
 | any=>intro v' h; simp only [V.pure?,Option.some.injEq] at h; subst h; exact .any _ _
 | rng β k lo hi n hr=>intro v' h; simp only [V.pure?,Option.some.injEq] at h; subst h; exact .any _ _
 | pin β cells b o f hc hr ih=>intro v' h; simp only [V.pure?,Option.some.injEq] at h; subst h; exact .pin [] cells b o f hc hr
 | sl β c l spare fl b o cap f hcap hfull hrw hc hr ih =>
  intro v' h; simp only [V.pure?,Option.some.injEq] at h; subst h; exact .sl [] c l spare fl b o cap f hcap hfull hrw hc hr
 | nil β c=>intro v' h; simp only [V.pure?,Option.some.injEq] at h; subst h; exact .nil [] c
 | gro β id c l b o cap loc f hid hk hn hl hcap hc hr ih =>
  intro v' h; simp only [V.pure?,Option.some.injEq] at h; subst h
  exact gro_sl (.gro β id c l b o cap loc f hid hk hn hl hcap hc hr)
 | ptr=>intro v' h; simp only [V.pure?,Option.some.injEq] at h; subst h; exact .any _ _
 | ref=>intro v' h; simp only [V.pure?,Option.some.injEq] at h; subst h; exact .any _ _
 | mp=>intro v' h; simp only [V.pure?,Option.some.injEq] at h; subst h; exact .any _ _
 | agg β cells xs hl h ih =>
  intro v' h
  simp only [V.pure?] at h
  obtain ⟨ds,hd,rfl⟩:=Option.map_eq_some_iff.1 h
  obtain ⟨a,b⟩:=pures_get hd
  exact .agg [] ds xs (by omega) (fun k v x h1 h2=>let ⟨u,hu,hp⟩:=b k v h1; ih k u x hu h2 v hp)
 | tup β cells xs hl h ih =>
  intro v' h
  simp only [V.pure?] at h
  obtain ⟨ds,hd,rfl⟩:=Option.map_eq_some_iff.1 h
  obtain ⟨a,b⟩:=pures_get hd
  exact .tup [] ds xs (by omega) (fun k v x h1 h2=>let ⟨u,hu,hp⟩:=b k v h1; ih k u x hu h2 v hp)
 | ifc β t v x h ih =>
  intro v' h
  simp only [V.pure?] at h
  obtain ⟨d,hd,rfl⟩:=Option.map_eq_some_iff.1 h
  exact .ifc [] t d x (ih d hd)
 | clo β fn as bs xs ys hl hm h h' ih ih' =>
  intro v' h
  simp only [V.pure?] at h
  split at h
  ·rename_i a b ha hb
   simp only [Option.some.injEq] at h
   subst h
   obtain ⟨a1,a2⟩:=pures_get ha
   obtain ⟨b1,b2⟩:=pures_get hb
   exact .clo [] fn a b xs ys (by omega) (by omega) (fun k v x h1 h2=>let ⟨u,hu,hp⟩:=a2 k v h1; ih k u x hu h2 v hp)
    (fun k v x h1 h2=>let ⟨u,hu,hp⟩:=b2 k v h1; ih' k u x hu h2 v hp)
  ·cases h
end
end Go.Ab

namespace Go.Ab
def Normal (P : Program) (f : Nat) : Prop := ∃ fn, P.funcs[f]? = some fn ∧ fn.name ≠ "runtime.NumGoroutine" ∧ fn.body.isSome = true
def PCall (P:Program) (f:Nat) (args:List V) (out:V):Prop:=
 Normal P f ∧ ∀ (w:World) (E:Nat→Nat→Prop) (rargs:List Value),((∀ b o,E b o→b<w.heap.size)∧Gs P w E)→rargs.length=args.length →
  (∀ (k:Nat) (v:V) (x:Value),args[k]? = some v→rargs[k]? = some x→R w E [] v x) →
  Calls P f rargs.toArray w fun e w' => ∃ y,e = .returned y∧Step E [] [] w [] [] w' ∧ R w' E [] out y
def Outcome (E:Nat→Nat→Prop) (H:List O) (β:List Loc) (w:World) (r:Res) (e:Ending) (w' : World):Prop:=
 match r with
 | .ok v H' => ∃ y β',e = .returned y∧Step E H β w H' β' w' ∧ R w' (Xs E H' β') β' v y
 | .pan v H' => ∃ y β',e = .panicked [{ v:=y,recovered:=false }]∧Step E H β w H' β' w' ∧ R w' (Xs E H' β') β' v y
def StartOk (P:Program) (E:Nat→Nat→Prop) (H0:List O) (β0:List Loc) (w0:World):Prop:=(∀ b o,E b o→b<w0.heap.size∧¬ Own H0 β0 b o)∧Gs P w0 (Xs E H0 β0)
def MCall (P:Program) (f:Nat) (args:List V) (H:List O) (r:Res):Prop:=
 Normal P f ∧ ∀ (w:World) (E:Nat→Nat→Prop) (β:List Loc) (rargs:List Value),StartOk P E H β w→Rel w (Xs E H β) H β →
  rargs.length=args.length→(∀ (k:Nat) (v:V) (x:Value),args[k]? = some v→rargs[k]? = some x→R w (Xs E H β) β v x) →
  Calls P f rargs.toArray w (Outcome E H β w r)
def MSound (P:Program) (f:Nat) (s:MSpec):Prop:=∀ args H r,(s args H).run=some r→MCall P f args H r
def MTabOk (P:Program) (tab:List (Nat × MSpec)):Prop:=∀ p ∈ tab,MSound P p.1 p.2
def RSound (P:Program) (f:Nat) (s:RSpec):Prop:=∀ args H v,(s args H).run=some v→MCall P f args H (.ok v H)
def RTabOk (P:Program) (tab:List (Nat × RSpec)):Prop:=∀ p ∈ tab,RSound P p.1 p.2
theorem RTabOk.nil (P:Program):RTabOk P []:=fun p h=>by cases h
theorem RTabOk.cons {P:Program} {f:Nat} {s:RSpec} {tab:List (Nat × RSpec)} (h:RSound P f s) (ht:RTabOk P tab):RTabOk P ((f,s) :: tab):=by
 intro p hp
 rcases List.mem_cons.1 hp with rfl | hp
 ·exact h
 ·exact ht p hp
theorem lookR_spec {f:Nat} {args:List V} {H:List O} {r:V}:∀ {tab:List (Nat × RSpec)},(lookR f tab args H).run=some r → ∃ s,(f,s) ∈ tab∧(s args H).run=some r
 | [],h=>by cases h
 | (g,s) :: r,h=>by
  unfold lookR at h
  cases hb:Nat.beq f g
  ·simp only [hb,cond_false] at h
   obtain ⟨s',h1,h2⟩:=lookR_spec h
   exact ⟨s',List.mem_cons_of_mem _ h1,h2⟩
  ·simp only [hb,cond_true] at h
   have:=Nat.eq_of_beq_eq_true hb
   subst this
   exact ⟨s,List.mem_cons_self,h⟩
theorem MTabOk.nil (P:Program):MTabOk P []:=fun p h=>by cases h
theorem MTabOk.cons {P:Program} {f:Nat} {s:MSpec} {tab:List (Nat × MSpec)} (h:MSound P f s) (ht:MTabOk P tab):MTabOk P ((f,s) :: tab):=by
 intro p hp
 rcases List.mem_cons.1 hp with rfl | hp
 ·exact h
 ·exact ht p hp
theorem lookM_spec {f:Nat} {args:List V} {H:List O} {r:Res}:∀ {tab:List (Nat × MSpec)},(lookM f tab args H).run=some r → ∃ s,(f,s) ∈ tab∧(s args H).run=some r
 | [],h=>by cases h
 | (g,s) :: r,h=>by
  unfold lookM at h
  cases hb:Nat.beq f g
  ·simp only [hb,cond_false] at h
   obtain ⟨s',h1,h2⟩:=lookM_spec h
   exact ⟨s',List.mem_cons_of_mem _ h1,h2⟩
  ·simp only [hb,cond_true] at h
   have:=Nat.eq_of_beq_eq_true hb
   subst this
   exact ⟨s,List.mem_cons_self,h⟩
theorem rens_get {ρ:Nat→Option Nat}:∀ {cs ds:List V},V.rens? ρ cs=some ds→ds.length=cs.length ∧ ∀ (k:Nat) v,ds[k]? = some v → ∃ u,cs[k]? = some u∧V.ren? ρ u=some v
 | [],ds,h=>by
  simp only [V.rens?,Option.some.injEq] at h
  subst h
  exact ⟨rfl,by simp⟩
 | c :: cs,ds,h=>by
  unfold V.rens? at h
  split at h
  rotate_left
  ·cases h
  rename_i u us h1 h2
  simp only [Option.some.injEq] at h
  subst h
  obtain ⟨g1,g2⟩:=rens_get h2
  refine ⟨by simp [g1],fun k v hv=>?_⟩
  cases k with
  | zero=>simp only [List.getElem?_cons_zero,Option.some.injEq] at hv; subst hv; exact ⟨c,rfl,h1⟩
  | succ k=>exact g2 k v (by simpa using hv)
theorem rensO_get {ρ:Nat→Option Nat}:∀ {cs ds:List O},rensO ρ cs=some ds→ds.length=cs.length ∧ ∀ (k:Nat) v,ds[k]? = some v → ∃ u,cs[k]? = some u∧O.ren? ρ u=some v
 | [],ds,h=>by
  simp only [rensO,Option.some.injEq] at h
  subst h
  exact ⟨rfl,by simp⟩
 | c :: cs,ds,h=>by
  unfold rensO at h
  split at h
  rotate_left
  ·cases h
  rename_i u us h1 h2
  simp only [Option.some.injEq] at h
  subst h
  obtain ⟨g1,g2⟩:=rensO_get h2
  refine ⟨by simp [g1],fun k v hv=>?_⟩
  cases k with
  | zero=>simp only [List.getElem?_cons_zero,Option.some.injEq] at hv; subst hv; exact ⟨c,rfl,h1⟩
  | succ k=>exact g2 k v (by simpa using hv)
def Turned (ρ:Nat→Option Nat) (β β' : List Loc):Prop:=∀ i j loc,ρ i=some j→β[i]? = some loc→β'[j]? = some loc
theorem ren_R {w:World} {X:Nat→Nat→Prop} {ρ:Nat→Option Nat} {β β' : List Loc} (hρ:Turned ρ β β') {v:V} {x:Value} (h:R w X β v x) :
  ∀ v',V.ren? ρ v=some v' → R w X β' v' x:=by
 induction h generalizing β' with
 | int=>intro v' h; simp only [V.ren?,Option.some.injEq] at h; subst h; exact .int β' _ _
 | bool=>intro v' h; simp only [V.ren?,Option.some.injEq] at h; subst h; exact .bool β' _
 | str=>intro v' h; simp only [V.ren?,Option.some.injEq] at h; subst h; exact .str β' _
 | val=>intro v' h; simp only [V.ren?,Option.some.injEq] at h; subst h; exact .val β' _
 | any=>intro v' h; simp only [V.ren?,Option.some.injEq] at h; subst h; exact .any β' _
 | rng β k lo hi n hr=>intro v' h; simp only [V.ren?,Option.some.injEq] at h; subst h; exact .rng β' k lo hi n hr
 | pin β cells b o f hc hr ih=>intro v' h; simp only [V.ren?,Option.some.injEq] at h; subst h; exact .pin β' cells b o f hc hr
 | sl β c l spare fl b o cap f hcap hfull hrw hc hr ih =>
  intro v' h; simp only [V.ren?,Option.some.injEq] at h; subst h; exact .sl β' c l spare fl b o cap f hcap hfull hrw hc hr
 | nil β c=>intro v' h; simp only [V.ren?,Option.some.injEq] at h; subst h; exact .nil β' c
 | gro β id c l b o cap loc f hid hk hn hl hcap hc hr ih =>
  intro v' h
  unfold V.ren? at h
  split at h
  rotate_left
  ·cases h
  rename_i j hj
  simp only [Option.some.injEq] at h
  subst h
  exact .gro β' j c l b o cap loc f (hρ _ _ _ hj hid) hk hn hl hcap hc hr
 | ptr β id off loc hid hk =>
  intro v' h
  unfold V.ren? at h
  split at h
  rotate_left
  ·cases h
  rename_i j hj
  simp only [Option.some.injEq] at h
  subst h
  exact .ptr β' j off loc (hρ _ _ _ hj hid) hk
 | ref β id sz off len loc b o cap hid hk hlen ha hcap =>
  intro v' h
  unfold V.ren? at h
  split at h
  rotate_left
  ·cases h
  rename_i j hj
  simp only [Option.some.injEq] at h
  subst h
  exact .ref β' j sz off len loc b o cap (hρ _ _ _ hj hid) hk hlen ha hcap
 | mp β id loc hid hk =>
  intro v' h
  unfold V.ren? at h
  split at h
  rotate_left
  ·cases h
  rename_i j hj
  simp only [Option.some.injEq] at h
  subst h
  exact .mp β' j loc (hρ _ _ _ hj hid) hk
 | agg β cells xs hl h ih =>
  intro v' h
  unfold V.ren? at h
  split at h
  rotate_left
  ·cases h
  rename_i cs hcs
  simp only [Option.some.injEq] at h
  subst h
  obtain ⟨g1,g2⟩:=rens_get hcs
  refine .agg β' cs xs (by omega) (fun k v x hv hx=>?_)
  obtain ⟨u,hu,hu'⟩:=g2 k v hv
  exact ih k u x hu hx hρ v hu'
 | tup β cells xs hl h ih =>
  intro v' h
  unfold V.ren? at h
  split at h
  rotate_left
  ·cases h
  rename_i cs hcs
  simp only [Option.some.injEq] at h
  subst h
  obtain ⟨g1,g2⟩:=rens_get hcs
  refine .tup β' cs xs (by omega) (fun k v x hv hx=>?_)
  obtain ⟨u,hu,hu'⟩:=g2 k v hv
  exact ih k u x hu hx hρ v hu'
 | ifc β t v x h ih =>
  intro v' h
  unfold V.ren? at h
  split at h
  rotate_left
  ·cases h
  rename_i u hu
  simp only [Option.some.injEq] at h
  subst h
  exact .ifc β' t u x (ih hρ u hu)
 | clo β fn as bs xs ys hl hm h h' ih ih' =>
  intro v' h
  unfold V.ren? at h
  split at h
  rotate_left
  ·cases h
  rename_i cs ds hcs hds
  simp only [Option.some.injEq] at h
  subst h
  obtain ⟨g1,g2⟩:=rens_get hcs
  obtain ⟨g3,g4⟩:=rens_get hds
  refine .clo β' fn cs ds xs ys (by omega) (by omega) (fun k v x hv hx=>?_) (fun k v x hv hx=>?_)
  ·obtain ⟨u,hu,hu'⟩:=g2 k v hv
   exact ih k u x hu hx hρ v hu'
  ·obtain ⟨u,hu,hu'⟩:=g4 k v hv
   exact ih' k u x hu hx hρ v hu'
theorem R.weak {w:World} {X X' : Nat→Nat→Prop} {β:List Loc} {v:V} {x:Value} (h:R w X β v x) (hX:∀ b o,X' b o→X b o):R w X' β v x:=
 h.stab ⟨fun b o _ h1 h2=>⟨fun h=>h1 (hX b o h),h2⟩,fun _ cs e h=>⟨cs,e,h⟩⟩ β (.refl _)
theorem hasN_iff {i:Nat}:∀ {l:List Nat},hasN i l=true ↔ i ∈ l
 | []=>by simp [hasN]
 | j :: l=>by
  unfold hasN
  cases hb:Nat.beq i j
  ·have:i ≠ j:=fun e=>by subst e; simp at hb
   simp [hasN_iff,this]
  ·have:=Nat.eq_of_beq_eq_true hb
   simp [this]
theorem place_some {i k:Nat}:∀ {σ:List Nat},place i σ=some k→σ[k]? = some i
 | [],h=>by cases h
 | j :: σ,h=>by
  unfold place at h
  cases hb:Nat.beq i j
  ·simp only [hb,cond_false] at h
   split at h
   rotate_left
   ·cases h
   rename_i m hm
   simp only [Option.some.injEq] at h
   subst h
   simpa using place_some hm
  ·simp only [hb,cond_true,Option.some.injEq] at h
   subst h
   simp [Nat.eq_of_beq_eq_true hb]
theorem noDup_cons {i:Nat} {σ:List Nat} (h:noDup (i :: σ)=true):i ∉ σ∧noDup σ=true:=by
 unfold noDup at h
 cases hb:hasN i σ
 ·simp only [hb,cond_false] at h
  exact ⟨fun hm=>(by rw [hasN_iff.2 hm] at hb; cases hb),h⟩
 ·simp [hb] at h
theorem noDup_inj:∀ {σ:List Nat} {i j k:Nat},noDup σ=true→σ[i]? = some k→σ[j]? = some k→i=j
 | [],i,j,k,_,h,_=>by simp at h
 | s :: σ,i,j,k,hd,hi,hj=>by
  obtain ⟨h1,h2⟩:=noDup_cons hd
  cases i with
  | zero =>
   cases j with
   | zero=>rfl
   | succ j =>
    simp only [List.getElem?_cons_zero,Option.some.injEq,List.getElem?_cons_succ] at hi hj
    subst hi
    exact absurd (List.mem_of_getElem? hj) h1
  | succ i =>
   cases j with
   | zero =>
    simp only [List.getElem?_cons_zero,Option.some.injEq,List.getElem?_cons_succ] at hi hj
    subst hj
    exact absurd (List.mem_of_getElem? hi) h1
   | succ j =>
    simp only [List.getElem?_cons_succ] at hi hj
    rw [noDup_inj h2 hi hj]
theorem setAll_len {α:Type}:∀ (H:List α) (σ:List Nat) (os:List α),σ.length≤os.length→(setAll H σ os).length=H.length+(os.length - σ.length)
 | H,[],os,_=>by cases os <;> simp [setAll]
 | H,s :: σ,[],h=>by simp at h
 | H,s :: σ,o :: os,h=>by
  simp only [setAll]
  rw [setAll_len _ σ os (by simpa using h)]
  simp
theorem setAll_old {α:Type}:∀ (H:List α) (σ:List Nat) (os:List α) (i:Nat),i<H.length→i ∉ σ→σ.length≤os.length→(setAll H σ os)[i]? = H[i]?
 | H,[],os,i,hi,_,_=>by cases os <;> simp [setAll,List.getElem?_append_left,hi]
 | H,s :: σ,[],i,_,_,h=>by simp at h
 | H,s :: σ,o :: os,i,hi,hn,h=>by
  simp only [setAll]
  rw [setAll_old _ σ os i (by simpa using hi) (fun h=>hn (List.mem_cons_of_mem _ h)) (by simpa using h)]
  have:s ≠ i:=fun e=>hn (by simp [e])
  simp [this]
theorem backTo_succ (s:Nat) (σ:List Nat) (n k:Nat):backTo (s :: σ) n (k+1)=backTo σ n k:=by
 simp [backTo,Nat.succ_sub_succ]
theorem setAll_new {α:Type}:∀ (H:List α) (σ:List Nat) (os:List α) (i j:Nat),noDup σ=true→(∀ s ∈ σ,s<H.length)→σ.length≤os.length→backTo σ H.length j=some i→(setAll H σ os)[i]? = os[j]?
 | H,[],os,i,j,_,_,_,h=>by
  simp only [backTo,List.getElem?_nil,List.length_nil,Nat.sub_zero,Option.some.injEq] at h
  subst h
  have:setAll H [] os=H++os:=by cases os <;> rfl
  rw [this,List.getElem?_append_right (by omega)]
  simp
 | H,s :: σ,[],_,_,_,_,h,_=>by simp at h
 | H,s :: σ,o :: os,i,j,hd,hs,hl,h=>by
  obtain ⟨h1,h2⟩:=noDup_cons hd
  simp only [setAll]
  cases j with
  | zero =>
   simp only [backTo,List.getElem?_cons_zero,Option.some.injEq] at h
   subst h
   rw [setAll_old _ σ os s (by simpa using hs s (by simp)) h1 (by simpa using hl)]
   simp [hs s (by simp)]
  | succ j =>
   rw [backTo_succ] at h
   rw [setAll_new (H.set s o) σ os i j h2 (fun s' h' => by simpa using hs s' (by simp [h'])) (by simpa using hl) (by simpa using h)]
   simp
theorem backTo_all {σ:List Nat} {n i:Nat} (h:¬ (i<n∧i ∉ σ)):∃ j,backTo σ n j=some i:=by
 by_cases hi:i ∈ σ
 ·obtain ⟨j,hj,he⟩:=List.getElem_of_mem hi
  exact ⟨j,by simp [backTo,hj,he]⟩
 ·refine ⟨σ.length+(i - n),?_⟩
  have:n≤i:=by
   rcases Nat.lt_or_ge i n with h' | h'
   ·exact absurd ⟨h',hi⟩ h
   ·exact h'
  simp only [backTo]
  rw [List.getElem?_eq_none (by omega)]
  simp
  omega
theorem pickO_get {H:List O}:∀ {σ:List Nat} {os:List O},pickO H σ=some os→os.length=σ.length ∧ ∀ (k i:Nat),σ[k]? = some i→i<H.length∧os[k]? = H[i]?
 | [],os,h=>by
  simp only [pickO,Option.some.injEq] at h
  subst h
  exact ⟨rfl,by simp⟩
 | s :: σ,os,h=>by
  unfold pickO at h
  split at h
  rotate_left
  ·cases h
  rename_i o os' h1 h2
  simp only [Option.some.injEq] at h
  subst h
  obtain ⟨g1,g2⟩:=pickO_get h2
  refine ⟨by simp [g1],fun k i hk=>?_⟩
  cases k with
  | zero =>
   simp only [List.getElem?_cons_zero,Option.some.injEq] at hk
   subst hk
   exact ⟨(List.getElem?_eq_some_iff.1 h1).1,by simp [h1]⟩
  | succ k=>simpa using g2 k i (by simpa using hk)
end Go.Ab
