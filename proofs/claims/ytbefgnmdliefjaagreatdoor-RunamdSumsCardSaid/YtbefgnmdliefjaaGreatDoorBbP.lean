/-
  The engine, part P: one operation is sound. Conditions: none.
-/
import Derived.Test.YtbefgnmdliefjaaGreatDoorPk09
set_option linter.unusedVariables false
set_option linter.unusedSimpArgs false
namespace Go.Ab
def Sound (P:Program) (f:Nat) (s:Spec):Prop:=∀ args out,(s args).run=some out→PCall P f args out
def XCall (P:Program) (f:Nat) (args:List V) (out:V):Prop:=
 ∀ (w:World) (X:Nat→Nat→Prop) (β:List Loc) (rargs:List Value),rargs.length=args.length →
  (∀ (k:Nat) (v:V) (x:Value),args[k]? = some v→rargs[k]? = some x→R w X β v x) → ∃ y,(callFunc f rargs.toArray).run P w = .ok (.value y) w∧R w X β out y
def XSound (P:Program) (f:Nat) (s:Spec):Prop:=∀ args out,(s args).run=some out→XCall P f args out
def TabOk (P:Program) (tab:List (Nat × Spec)):Prop:=∀ p ∈ tab,Sound P p.1 p.2∨XSound P p.1 p.2
theorem TabOk.nil (P:Program):TabOk P []:=fun p h=>by cases h
theorem TabOk.cons {P:Program} {f:Nat} {s:Spec} {tab:List (Nat × Spec)} (h:Sound P f s) (ht:TabOk P tab):TabOk P ((f,s) :: tab):=by
 intro p hp
 rcases List.mem_cons.1 hp with rfl | hp
 ·exact .inl h
 ·exact ht p hp
theorem TabOk.consX {P:Program} {f:Nat} {s:Spec} {tab:List (Nat × Spec)} (h:XSound P f s) (ht:TabOk P tab):TabOk P ((f,s) :: tab):=by
 intro p hp
 rcases List.mem_cons.1 hp with rfl | hp
 ·exact .inr h
 ·exact ht p hp
def CxOk (cx:Cx):Prop:=TabOk cx.P cx.tab∧MTabOk cx.P cx.mtab∧RTabOk cx.P cx.rtab ∧ ∀ p ∈ cx.globs,p ∈ globsOf cx.P
theorem look_spec {f:Nat} {args:List V} {out:V}:∀ {tab:List (Nat × Spec)},(look f tab args).run=some out → ∃ s,(f,s) ∈ tab∧(s args).run=some out
 | [],h=>by cases h
 | (g,s) :: r,h=>by
  unfold look at h
  cases hb:Nat.beq f g
  ·simp only [hb,cond_false] at h
   obtain ⟨s',h1,h2⟩:=look_spec h
   exact ⟨s',List.mem_cons_of_mem _ h1,h2⟩
  ·simp only [hb,cond_true] at h
   have:=Nat.eq_of_beq_eq_true hb
   subst this
   exact ⟨s,List.mem_cons_self,h⟩
section
variable {E:Nat→Nat→Prop} {H:List O} {β:List Loc} {w:World}
theorem own_nil (b o:Nat):¬ Own [] [] b o:=by
 rintro ⟨id,l,h,_⟩
 simp at h
theorem rel_nil (w:World) (X:Nat→Nat→Prop):Rel w X [] []:=
 ⟨rfl,fun id cs e loc h=>by simp at h,fun id n sz loc h=>by simp at h,fun id sh vs loc h=>by simp at h,fun i j l l' hi=>by obtain ⟨o,h,_⟩:=hi; simp at h⟩
theorem Step.of_pure {w' : World} (hR:Rel w (Xs E H β) H β) (s:Step (Xs E H β) [] [] w [] [] w'):Step E H β w H β w' ∧ ∀ v y,R w' (Xs E H β) [] v y→R w' (Xs E H β) β v y:=by
 have hold:∀ b,b<w.heap.size→w'.heap[b]? = w.heap[b]? := fun b hb=>by
  rcases s.pres b hb with h | ⟨⟨o,h⟩,_⟩ | ⟨⟨o,h⟩,_⟩
  ·exact h
  ·exact absurd h (own_nil b o)
  ·exact absurd h (own_nil b o)
 have st:Stab w (Xs E H β) w' (Xs E H β):=
  ⟨fun b o v hx hv=>⟨hx,(cell_heap (hold b (cell_lt hv)) o).trans hv⟩,fun b cs e h=>⟨cs,e,by rw [hold b (heap_lt h)]; exact h⟩⟩
 refine ⟨⟨⟨hR.len,fun id cs e loc g1 g2=>?_,fun id n sz loc g1 g2=>?_,fun id sh vs loc g1 g2=>?_,hR.disj⟩,s.os,s.tape,s.output,s.size,fun b hb=>.inl (hold b hb),fun b o h=>.inl h,.refl _⟩,fun v y h=>h.up β⟩
 ·obtain ⟨k,c,e',a1,a2,a3,a4⟩:=hR.cells id cs e loc g1 g2
  exact ⟨k,c,e',by rw [hold _ (heap_lt a1)]; exact a1,a2,a3,fun k v hv=>let ⟨x,hx,hr⟩:=a4 k v hv; ⟨x,hx,hr.stab st _ (.refl _)⟩⟩
 ·obtain ⟨k,m,c,e',a1,a2⟩:=hR.tok id n sz loc g1 g2
  exact ⟨k,m,c,e',by rw [hold _ (heap_lt a1)]; exact a1,a2⟩
 ·obtain ⟨k,kb,ob,xs,a1,a2,a3⟩:=hR.objs id sh vs loc g1 g2
  exact ⟨k,kb,ob,xs,by rw [hold _ (heap_lt a1)]; exact a1,a2,fun k v hv=>let ⟨x,hx,hr⟩:=a3 k v hv; ⟨x,hx,hr.stab st _ (.refl _)⟩⟩
variable {n:Nat} {t:T} {a:Act} {o:Oper} {cx:Cx} {K:Act→World→Prop} {Q:Exit→Act→World→Prop}
def Then (E:Nat→Nat→Prop) (H:List O) (β:List Loc) (w:World) (a:Act) (o:Oper) (K:Act→World→Prop) (Q:Exit→Act→World→Prop):Res→Prop
 | .ok v H' => ∀ x w' β',Step E H β w H' β' w' → R w' (Xs E H' β') β' v x→K (a.put o.dst x) w'
 | .pan v H' => ∀ x w' β',Step E H β w H' β' w' → R w' (Xs E H' β') β' v x→Q (.panic [{ v:=x,recovered:=false }]) a w'
theorem wp_sem {P:Program} {s:Sem Value} {x:Value} {w' : World} (he:execOp a.eval o=(do pure (Next.value (← s)))) (hrun:s.run P w = .ok x w') (hk:K (a.put o.dst x) w'):o.wp P a w K Q:=by
 unfold Oper.wp
 rw [he]
 simp only [Sem.run_bind,hrun,Result.andThen_ok]
 exact hk
theorem wp_unit {P:Program} {s:Sem Unit} {w' : World} (he:execOp a.eval o=(do s; pure Next.skip)) (hrun:s.run P w = .ok () w') (hk:K (a.put o.dst undef) w'):o.wp P a w K Q:=by
 unfold Oper.wp
 rw [he]
 simp only [Sem.run_bind,hrun,Result.andThen_ok]
 exact hk
theorem pieces_get {X:Nat→Nat→Prop} {l:List (Nat × Operand)} (h:∀ x:Operand,R w X β (rd t x) (a.eval x)) :
  ∀ (k:Nat) p q,(l.map fun p=>(p.1,rd t p.2))[k]? = some p→(l.map fun p=>(p.1,a.eval p.2))[k]? = some q→p.1=q.1∧R w X β p.2 q.2:=by
 intro k p q hp hq
 simp only [List.getElem?_map,Option.map_eq_some_iff] at hp hq
 obtain ⟨u,hu,rfl⟩:=hp
 obtain ⟨v,hv,rfl⟩:=hq
 rw [hu] at hv
 simp only [Option.some.injEq] at hv
 subst hv
 exact ⟨rfl,h u.2⟩
theorem holdO_run {H:List O} {v:Option V} {r:Res} (h:(holdO H v).run=some r):∃ u,v=some u∧r = .ok u H:=by
 cases v with
 | none=>cases h
 | some u=>simp only [holdO,Tree.run,Option.some.injEq] at h; exact ⟨u,rfl,h.symm⟩
theorem bind_hold {H:List O} {x:Tree V} {r:Res} (h:(x.bind (hold H)).run=some r):∃ u,x.run=some u∧r = .ok u H:=by
 obtain ⟨u,h1,h2⟩:=bind_run h
 simp only [hold,Tree.run,Option.some.injEq] at h2
 exact ⟨u,h1,h2.symm⟩
theorem bind_both {x:Tree (V × List O)} {r:Res} (h:(x.bind both).run=some r):∃ u H',x.run=some (u,H')∧r = .ok u H' := by
 obtain ⟨⟨u,H'⟩,h1,h2⟩:=bind_run h
 simp only [both,Tree.run,Option.some.injEq] at h2
 exact ⟨u,H',h1,h2.symm⟩
theorem convT_run {P:Program} {H:List O} {src dst:TypeId} {x v:V} (h:(oConvertT P H src dst x).run=some v):oConvert P H src dst x=some v:=by
 unfold oConvertT at h
 split at h
 ·rename_i k l b hp
  split at h
  rotate_left
  ·cases h
  rename_i e hs hd
  split at h
  rotate_left
  ·cases h
  rename_i he
  cases hk:decide (k=IntKind.u8)
  ·rw [hk] at h; cases h
  rw [hk,cond_true] at h
  have hk:=of_decide_eq_true hk
  subst hk
  unfold pageRef at hp
  split at hp
  rotate_left
  ·cases hp
  rename_i id s off len
  split at hp
  rotate_left
  ·cases hp
  rename_i n k2 l2 vs hH
  simp only [Option.some.injEq,Prod.mk.injEq] at hp
  obtain ⟨rfl,rfl,rfl⟩:=hp
  have hb:(Nat.beq s 1 && (Nat.ble n off && Nat.ble (off - n+len) l2.length))=true:=by
   cases hb:(Nat.beq s 1 && (Nat.ble n off && Nat.ble (off - n+len) l2.length))
   ·rw [hb] at h; cases h
   ·rfl
  rw [hb] at h
  simp only [Tree.req,Tree.run,cond_true,Option.some.injEq] at h
  subst h
  have e1:elemsOf (.int .u8) H (.ref id s off len)=some ((l2.drop (off - n)).take len):=by
   simp only [elemsOf,hH,hb,cond_true]
   rfl
  unfold oConvert
  rw [hs,hd]
  simp only [he]
  exact congrArg (Option.map fun l=>V.str (List.map (fun (n:Int)=>UInt8.ofNat n.toNat) l)) e1
 ·cases hc:oConvert P H src dst x with
  | none=>rw [hc] at h; cases h
  | some u=>rw [hc] at h; exact h
theorem optR_map {X:Nat→Nat→Prop} (h:∀ x:Operand,R w X β (rd t x) (a.eval x)) (lo:Option Operand):optR w X β (lo.map (rd t)) (lo.map a.eval):=by
 cases lo with
 | none=>trivial
 | some x=>exact h x
theorem sound_callM0 {P:Program} {cx:Cx} {f:Nat} {vs:List V} {xs:List Value} {res:Res} (hM:MTabOk P cx.mtab) (hE:StartOk P E H β w)
  (hR:Rel w (Xs E H β) H β) (hl:xs.length=vs.length) (hv:∀ (k:Nat) (v:V) (x:Value),vs[k]? = some v→xs[k]? = some x→R w (Xs E H β) β v x)
  (h:(callM0 cx H f vs).run=some res):Normal P f∧Calls P f xs.toArray w (Outcome E H β w res):=by
 unfold callM0 at h
 generalize reach H 64 (V.idss vs) []=σ at h
 simp only at h
 split at h
 rotate_left
 ·cases h
 rename_i os hos
 split at h
 rotate_left
 ·cases h
 rename_i as Hs has hHs
 cases hd:noDup σ
 ·simp [hd,Tree.run] at h
 simp only [hd,cond_true] at h
 obtain ⟨r,h1,h2⟩:=bind_run h
 obtain ⟨s,hs,hs'⟩:=lookM_spec h1
 obtain ⟨hnorm,hcalls⟩:=hM _ hs as Hs r hs'
 obtain ⟨hi,hturn⟩:=into hE.1 hR hd hos hHs
 obtain ⟨q1,q2⟩:=rens_get has
 refine ⟨hnorm,?_⟩
 have:=hcalls w (Shut E H β Hs (pickL β σ)) (pickL β σ) xs ⟨hi.old,by rw [hi.same]; exact hE.2⟩ hi.rel (by omega) (fun k v x h1 h2=>by
  obtain ⟨u,hu,hu'⟩:=q2 k v h1
  rw [hi.same]
  exact ren_R hturn (hv k u x hu h2) v hu')
 refine this.mono ?_
 intro e w' ho
 have back:∀ v H2 k,(backRes H σ v H2 k).run=some res → ∃ v' H2',V.ren? (backTo σ H.length) v=some v' ∧ rensO (backTo σ H.length) H2=some H2' ∧ σ.length≤H2.length∧res=k v' (setAll H σ H2'):=by
  intro v H2 k hb
  unfold backRes at hb
  split at hb
  rotate_left
  ·cases hb
  rename_i v' H2' e1 e2
  cases hle:Nat.ble σ.length H2'.length
  ·simp [hle,Tree.run] at hb
  simp only [hle,cond_true,Tree.run,Option.some.injEq] at hb
  exact ⟨v',H2',e1,e2,by rw [← (rensO_get e2).1]; exact Nat.le_of_ble_eq_true hle,hb.symm⟩
 cases r with
 | ok v H2 =>
  obtain ⟨v',H2',e1,e2,e3,rfl⟩:=back v H2 _ h2
  obtain ⟨y,β2,he,st,hr⟩:=ho
  obtain ⟨s1,s2⟩:=back_out hE.1 hR hd hi st e3 e2
  exact ⟨y,_,he,s1,s2 v v' y hr e1⟩
 | pan v H2 =>
  obtain ⟨v',H2',e1,e2,e3,rfl⟩:=back v H2 _ h2
  obtain ⟨y,β2,he,st,hr⟩:=ho
  obtain ⟨s1,s2⟩:=back_out hE.1 hR hd hi st e3 e2
  exact ⟨y,_,he,s1,s2 v v' y hr e1⟩
mutual
theorem ren_back {ρ τ:Nat→Option Nat} (h:∀ i j,ρ i=some j→τ j=some i):∀ (v u:V),V.ren? ρ v=some u→V.ren? τ u=some v
 | .int _ _,u,e=>by simp only [V.ren?,Option.some.injEq] at e; subst e; rfl
 | .bool _,u,e=>by simp only [V.ren?,Option.some.injEq] at e; subst e; rfl
 | .str _,u,e=>by simp only [V.ren?,Option.some.injEq] at e; subst e; rfl
 | .val _,u,e=>by simp only [V.ren?,Option.some.injEq] at e; subst e; rfl
 | .pin _,u,e=>by simp only [V.ren?,Option.some.injEq] at e; subst e; rfl
 | .sl _ _ _ _,u,e=>by simp only [V.ren?,Option.some.injEq] at e; subst e; rfl
 | .any,u,e=>by simp only [V.ren?,Option.some.injEq] at e; subst e; rfl
 | .rng _ _ _,u,e=>by simp only [V.ren?,Option.some.injEq] at e; subst e; rfl
 | .gro id c l,u,e=>by
  unfold V.ren? at e
  split at e
  ·rename_i j hj; simp only [Option.some.injEq] at e; subst e; unfold V.ren?; rw [h _ _ hj]
  ·cases e
 | .ptr id off,u,e=>by
  unfold V.ren? at e
  split at e
  ·rename_i j hj; simp only [Option.some.injEq] at e; subst e; unfold V.ren?; rw [h _ _ hj]
  ·cases e
 | .ref id sz off len,u,e=>by
  unfold V.ren? at e
  split at e
  ·rename_i j hj; simp only [Option.some.injEq] at e; subst e; unfold V.ren?; rw [h _ _ hj]
  ·cases e
 | .mp id,u,e=>by
  unfold V.ren? at e
  split at e
  ·rename_i j hj; simp only [Option.some.injEq] at e; subst e; unfold V.ren?; rw [h _ _ hj]
  ·cases e
 | .agg cs,u,e=>by
  unfold V.ren? at e
  split at e
  ·rename_i ds hd; simp only [Option.some.injEq] at e; subst e; unfold V.ren?; rw [rens_back h cs ds hd]
  ·cases e
 | .tup cs,u,e=>by
  unfold V.ren? at e
  split at e
  ·rename_i ds hd; simp only [Option.some.injEq] at e; subst e; unfold V.ren?; rw [rens_back h cs ds hd]
  ·cases e
 | .ifc t v,u,e=>by
  unfold V.ren? at e
  split at e
  ·rename_i d hd; simp only [Option.some.injEq] at e; subst e; unfold V.ren?; rw [ren_back h v d hd]
  ·cases e
 | .clo g a b,u,e=>by
  unfold V.ren? at e
  split at e
  ·rename_i d f hd hf; simp only [Option.some.injEq] at e; subst e; unfold V.ren?; rw [rens_back h a d hd,rens_back h b f hf]
  ·cases e
theorem rens_back {ρ τ:Nat→Option Nat} (h:∀ i j,ρ i=some j→τ j=some i):∀ (l m:List V),V.rens? ρ l=some m→V.rens? τ m=some l
 | [],m,e=>by simp only [V.rens?,Option.some.injEq] at e; subst e; rfl
 | v :: r,m,e=>by
  unfold V.rens? at e
  split at e
  ·rename_i d f hd hf; simp only [Option.some.injEq] at e; subst e; unfold V.rens?; rw [ren_back h v d hd,rens_back h r f hf]
  ·cases e
end
mutual
theorem ren_le {ρ τ:Nat→Option Nat} (h:∀ i j,ρ i=some j→τ i=some j):∀ (v u:V),V.ren? ρ v=some u→V.ren? τ v=some u
 | .int _ _,u,e=>by simp only [V.ren?,Option.some.injEq] at e; subst e; rfl
 | .bool _,u,e=>by simp only [V.ren?,Option.some.injEq] at e; subst e; rfl
 | .str _,u,e=>by simp only [V.ren?,Option.some.injEq] at e; subst e; rfl
 | .val _,u,e=>by simp only [V.ren?,Option.some.injEq] at e; subst e; rfl
 | .pin _,u,e=>by simp only [V.ren?,Option.some.injEq] at e; subst e; rfl
 | .sl _ _ _ _,u,e=>by simp only [V.ren?,Option.some.injEq] at e; subst e; rfl
 | .any,u,e=>by simp only [V.ren?,Option.some.injEq] at e; subst e; rfl
 | .rng _ _ _,u,e=>by simp only [V.ren?,Option.some.injEq] at e; subst e; rfl
 | .gro id c l,u,e=>by
  unfold V.ren? at e
  split at e
  ·rename_i j hj; simp only [Option.some.injEq] at e; subst e; unfold V.ren?; rw [h _ _ hj]
  ·cases e
 | .ptr id off,u,e=>by
  unfold V.ren? at e
  split at e
  ·rename_i j hj; simp only [Option.some.injEq] at e; subst e; unfold V.ren?; rw [h _ _ hj]
  ·cases e
 | .ref id sz off len,u,e=>by
  unfold V.ren? at e
  split at e
  ·rename_i j hj; simp only [Option.some.injEq] at e; subst e; unfold V.ren?; rw [h _ _ hj]
  ·cases e
 | .mp id,u,e=>by
  unfold V.ren? at e
  split at e
  ·rename_i j hj; simp only [Option.some.injEq] at e; subst e; unfold V.ren?; rw [h _ _ hj]
  ·cases e
 | .agg cs,u,e=>by
  unfold V.ren? at e
  split at e
  ·rename_i ds hd; simp only [Option.some.injEq] at e; subst e; unfold V.ren?; rw [rens_le h cs ds hd]
  ·cases e
 | .tup cs,u,e=>by
  unfold V.ren? at e
  split at e
  ·rename_i ds hd; simp only [Option.some.injEq] at e; subst e; unfold V.ren?; rw [rens_le h cs ds hd]
  ·cases e
 | .ifc t v,u,e=>by
  unfold V.ren? at e
  split at e
  ·rename_i d hd; simp only [Option.some.injEq] at e; subst e; unfold V.ren?; rw [ren_le h v d hd]
  ·cases e
 | .clo g a b,u,e=>by
  unfold V.ren? at e
  split at e
  ·rename_i d f hd hf; simp only [Option.some.injEq] at e; subst e; unfold V.ren?; rw [rens_le h a d hd,rens_le h b f hf]
  ·cases e
theorem rens_le {ρ τ:Nat→Option Nat} (h:∀ i j,ρ i=some j→τ i=some j):∀ (l m:List V),V.rens? ρ l=some m→V.rens? τ l=some m
 | [],m,e=>by simp only [V.rens?,Option.some.injEq] at e; subst e; rfl
 | v :: r,m,e=>by
  unfold V.rens? at e
  split at e
  ·rename_i d f hd hf; simp only [Option.some.injEq] at e; subst e; unfold V.rens?; rw [ren_le h v d hd,rens_le h r f hf]
  ·cases e
end
theorem oren_le {ρ τ:Nat→Option Nat} (h:∀ i j,ρ i=some j→τ i=some j) (o u:O) (e:O.ren? ρ o=some u):O.ren? τ o=some u:=by
 cases o with
 | cells cs t =>
  simp only [O.ren?] at e ⊢
  cases hc:V.rens? ρ cs with
  | none=>rw [hc] at e; cases e
  | some ds =>
   rw [hc] at e
   rw [rens_le h _ _ hc]
   exact e
 | tok n sz=>exact e
 | obj sh vs =>
  simp only [O.ren?] at e ⊢
  cases hc:V.rens? ρ vs with
  | none=>rw [hc] at e; cases e
  | some ds =>
   rw [hc] at e
   rw [rens_le h _ _ hc]
   exact e
 | dead=>exact e
theorem rensO_le {ρ τ:Nat→Option Nat} (h:∀ i j,ρ i=some j→τ i=some j):∀ (l m:List O),rensO ρ l=some m→rensO τ l=some m
 | [],_,e=>e
 | o :: r,m,e=>by
  unfold rensO at e ⊢
  cases h1:O.ren? ρ o with
  | none=>rw [h1] at e; cases e
  | some u =>
   cases h2:rensO ρ r with
   | none=>rw [h1,h2] at e; cases e
   | some us =>
    rw [h1,h2] at e
    rw [oren_le h _ _ h1,rensO_le h _ _ h2]
    exact e
theorem bind_again {α γ:Type} {x:Tree α} {f g:α→Tree γ} {c:γ} (h:(x.bind f).run=some c) (hfg:∀ a,(f a).run=some c→(g a).run=some c):(x.bind g).run=some c:=by
 induction x with
 | leaf b=>exact hfg b h
 | fail=>cases h
 | br cd x y ihx ihy =>
  cases cd
  ·exact ihy h
  ·exact ihx h
theorem backS_spec {H:List O} {σ:List Nat} {u r:Res} (h:(backS H σ u).run=some r):∃ (v:V) (H2:List O) (v1:V) (H3:List O),u = .ok v H2∧V.ren? (fun j=>σ[j]?) v=some v1∧rensO (fun j=>σ[j]?) H2=some H3∧σ.length=H3.length∧r = .ok v1 (setAll H σ H3):=by
 cases u with
 | pan v H2=>cases h
 | ok v H2 =>
  simp only [backS] at h
  cases e1:V.ren? (fun j=>σ[j]?) v with
  | none=>rw [e1] at h; cases h
  | some v1 =>
  cases e2:rensO (fun j=>σ[j]?) H2 with
  | none=>rw [e1,e2] at h; cases h
  | some H3 =>
  rw [e1,e2] at h
  simp only at h
  cases hb:Nat.beq σ.length H3.length
  ·rw [hb] at h; cases h
  rw [hb] at h
  simp only [cond_true,Tree.run,Option.some.injEq] at h
  exact ⟨v,H2,v1,H3,rfl,e1,e2,Nat.eq_of_beq_eq_true hb,h.symm⟩
theorem callM_0 {cx:Cx} {H:List O} {f:Nat} {vs:List V} {res:Res} (h:(callM cx H f vs).run=some res):(callM0 cx H f vs).run=some res:=by
 unfold callM at h
 cases hs:hasN f cx.still
 ·rw [hs] at h; exact h
 rw [hs,cond_true] at h
 unfold callS at h
 unfold callM0
 simp only at h ⊢
 split at h
 rotate_left
 ·cases h
 split at h
 rotate_left
 ·cases h
 cases hd:noDup (reach H 64 (V.idss vs) [])
 ·rw [hd] at h; cases h
 rw [hd,cond_true] at h
 rw [cond_true]
 refine bind_again h fun u hu=>?_
 obtain ⟨v,H2,v',H2',rfl,e1,e2,e3,rfl⟩:=backS_spec hu
 have le:∀ i j,(reach H 64 (V.idss vs) [])[i]? = some j→backTo (reach H 64 (V.idss vs) []) H.length i=some j:=fun i j hij=>by
  unfold backTo
  rw [hij]
 show (backRes H (reach H 64 (V.idss vs) []) v H2 .ok).run=_
 unfold backRes
 rw [ren_le le _ _ e1,rensO_le le _ _ e2]
 simp only
 rw [e3,Nat.ble_eq_true_of_le (Nat.le_refl _)]
 rfl
theorem sound_callM {P:Program} {cx:Cx} {f:Nat} {vs:List V} {xs:List Value} {res:Res} (hM:MTabOk P cx.mtab) (hE:StartOk P E H β w)
  (hR:Rel w (Xs E H β) H β) (hl:xs.length=vs.length) (hv:∀ (k:Nat) (v:V) (x:Value),vs[k]? = some v→xs[k]? = some x→R w (Xs E H β) β v x)
  (h:(callM cx H f vs).run=some res):Normal P f∧Calls P f xs.toArray w (Outcome E H β w res):=sound_callM0 hM hE hR hl hv (callM_0 h)
theorem oren_back {ρ τ:Nat→Option Nat} (h:∀ i j,ρ i=some j→τ j=some i) (o u:O) (e:O.ren? ρ o=some u):O.ren? τ u=some o:=by
 cases o with
 | cells cs t =>
  unfold O.ren? at e
  simp only at e
  split at e
  ·rename_i ds hd; simp only [Option.some.injEq] at e; subst e; unfold O.ren?; simp only; rw [rens_back h cs ds hd]
  ·cases e
 | tok n sz=>simp only [O.ren?,Option.some.injEq] at e; subst e; rfl
 | obj sh vs =>
  unfold O.ren? at e
  simp only at e
  split at e
  ·rename_i ds hd; simp only [Option.some.injEq] at e; subst e; unfold O.ren?; simp only; rw [rens_back h vs ds hd]
  ·cases e
 | dead=>simp only [O.ren?,Option.some.injEq] at e; subst e; rfl
theorem rensO_back {ρ τ:Nat→Option Nat} (h:∀ i j,ρ i=some j→τ j=some i):∀ (l m:List O),rensO ρ l=some m→rensO τ m=some l
 | [],m,e=>by simp only [rensO,Option.some.injEq] at e; subst e; rfl
 | v :: r,m,e=>by
  unfold rensO at e
  split at e
  ·rename_i d f hd hf; simp only [Option.some.injEq] at e; subst e; unfold rensO; rw [oren_back h v d hd,rensO_back h r f hf]
  ·cases e
theorem setAll_same:∀ (σ:List Nat) (H os:List O),pickO H σ=some os→setAll H σ os=H
 | [],H,os,e=>by simp only [pickO,Option.some.injEq] at e; subst e; simp [setAll]
 | i :: σ,H,os,e=>by
  unfold pickO at e
  split at e
  ·rename_i o r h1 h2
   simp only [Option.some.injEq] at e
   subst e
   have hset:H.set i o=H:=by
    apply List.ext_getElem?
    intro j
    rw [List.getElem?_set]
    split
    ·rename_i hj; subst hj; split
     ·exact h1.symm
     ·rename_i hlt; rw [List.getElem?_eq_none (by omega)]
    ·rfl
   unfold setAll
   rw [hset]
   exact setAll_same σ H r h2
  ·cases e
theorem numO_run {cx:Cx} {f:Nat} {v:V} {H:List O} {r:Res} (h:(numO cx f v H).run=some r):r = .ok v H ∧ ∀ H',(numO cx f v H').run=some (.ok v H'):=by
 unfold numO at h ⊢
 cases hc:(hasN f cx.nums && !V.isInt v)
 ·rw [hc] at h
  cases h
  exact ⟨rfl,fun _=>rfl⟩
 ·rw [hc] at h
  cases h
theorem numO_ids {cx:Cx} {f:Nat} {v:V} {H:List O} {r:Res} (h:(numO cx f v H).run=some r) (hf:hasN f cx.nums=true):V.ids v=[]:=by
 unfold numO at h
 rw [hf,Bool.true_and] at h
 cases v with
 | int k n=>rfl
 | _=>cases h
theorem sound_callR {P:Program} {cx:Cx} {f:Nat} {vs:List V} {xs:List Value} {res:Res} (hM:RTabOk P cx.rtab) (hE:StartOk P E H β w)
  (hR:Rel w (Xs E H β) H β) (hl:xs.length=vs.length) (hv:∀ (k:Nat) (v:V) (x:Value),vs[k]? = some v→xs[k]? = some x→R w (Xs E H β) β v x)
  (h:(callR cx H f vs).run=some res):Normal P f∧Calls P f xs.toArray w (Outcome E H β w res):=by
 unfold callR at h
 generalize reach H 64 (V.idss vs) []=σ at h
 simp only at h
 split at h
 rotate_left
 ·cases h
 rename_i os hos
 split at h
 rotate_left
 ·cases h
 rename_i as Hs has hHs
 cases hd:noDup σ
 ·simp [hd,Tree.run] at h
 simp only [hd,cond_true] at h
 obtain ⟨v,h1,h2⟩:=bind_run h
 obtain ⟨s,hs,hs'⟩:=lookR_spec h1
 obtain ⟨hnorm,hcalls⟩:=hM _ hs as Hs v hs'
 obtain ⟨hi,hturn⟩:=into hE.1 hR hd hos hHs
 obtain ⟨q1,q2⟩:=rens_get has
 refine ⟨hnorm,?_⟩
 have:=hcalls w (Shut E H β Hs (pickL β σ)) (pickL β σ) xs ⟨hi.old,by rw [hi.same]; exact hE.2⟩ hi.rel (by omega) (fun k v x h1 h2=>by
  obtain ⟨u,hu,hu'⟩:=q2 k v h1
  rw [hi.same]
  exact ren_R hturn (hv k u x hu h2) v hu')
 refine this.mono ?_
 intro e w' ho
 split at h2
 rotate_left
 ·cases h2
 rename_i v' e1
 obtain ⟨rfl,_⟩:=numO_run h2
 obtain ⟨y,β2,he,st,hr⟩:=ho
 have hτ:∀ i j,(fun i=>place i σ) i=some j→backTo σ H.length j=some i:=fun i j hij=>by
  unfold backTo
  rw [place_some hij]
 have e2:=rensO_back (τ:=backTo σ H.length) hτ os Hs hHs
 have e3:σ.length≤Hs.length:=by rw [hi.lens.2]; exact Nat.le_refl _
 obtain ⟨s1,s2⟩:=back_out hE.1 hR hd hi st e3 e2
 have hset:=setAll_same σ H os hos
 rw [hset] at s1 s2
 exact ⟨y,_,he,s1,s2 v v' y hr (ren_le (fun a b hab=>by unfold backTo; rw [hab]) v v' e1)⟩
theorem sound_call {P:Program} {c:Call} {fo:Operand} {res:Res} (_hP:P=cx.P) (hT:TabOk P cx.tab) (hM:MTabOk P cx.mtab) (hRt:RTabOk P cx.rtab) (hE:StartOk P E H β w) (hR:Rel w (Xs E H β) H β)
  (hF:FR w (Xs E H β) β n t a) (ho:o.op = .call c) (hc:c.callee = .value fo) (h:(oCall cx H (rd t fo) (c.args.toList.map (rd t))).run=some res) (hk:Then E H β w a o K Q res):o.wp P a w K Q:=by
 have hrd:=fun x=>rd_R hF x
 have enter:∀ (f:Nat) (xs:List Value),Normal P f→(callFunc f xs.toArray).run P w = .ok (.enter f xs.toArray) w:=by
  rintro f xs ⟨fn,h1,h2,h3⟩
  obtain ⟨b,hb⟩:=Option.isSome_iff_exists.1 h3
  simp [callFunc,h1,h2,hb]
 have key:∀ (f:Nat) (vs:List V) (xs:List Value),xs.length=vs.length→(∀ (k:Nat) (v:V) (x:Value),vs[k]? = some v→xs[k]? = some x→R w (Xs E H β) β v x) →
   (callF cx H f vs).run=some res → ∃ q:Result Next,(callFunc f xs.toArray).run P w=q∧o.upon P a K Q q:=by
  intro f vs xs hl hv hcall
  unfold callF at hcall
  cases hkey:hasKey f cx.mtab
  rotate_left
  ·simp only [hkey,cond_true] at hcall
   obtain ⟨m1,m2⟩:=sound_callM hM hE hR hl hv hcall
   refine ⟨_,enter f xs m1,?_⟩
   rw [Oper.upon_enter]
   refine m2.mono ?_
   intro e w' ho
   cases res with
   | ok v H' =>
    obtain ⟨y,β',rfl,st,hr⟩:=ho
    exact hk y w' β' st hr
   | pan v H' =>
    obtain ⟨y,β',rfl,st,hr⟩:=ho
    exact hk y w' β' st hr
  simp only [hkey,cond_false] at hcall
  cases hkr:hasKey f cx.rtab
  rotate_left
  ·simp only [hkr,cond_true] at hcall
   obtain ⟨m1,m2⟩:=sound_callR hRt hE hR hl hv hcall
   refine ⟨_,enter f xs m1,?_⟩
   rw [Oper.upon_enter]
   refine m2.mono ?_
   intro e w' ho
   cases res with
   | ok v H' =>
    obtain ⟨y,β',rfl,st,hr⟩:=ho
    exact hk y w' β' st hr
   | pan v H' =>
    obtain ⟨y,β',rfl,st,hr⟩:=ho
    exact hk y w' β' st hr
  simp only [hkr,cond_false] at hcall
  unfold callP at hcall
  split at hcall
  rotate_left
  ·cases hcall
  rename_i as has
  obtain ⟨out,h1,h2⟩:=bind_run hcall
  simp only [Tree.run,Option.some.injEq] at h2
  subst h2
  obtain ⟨s,hs,hs'⟩:=look_spec h1
  obtain ⟨p1,p2⟩:=pures_get has
  rcases hT _ hs with hsnd | hsnd
  rotate_left
  ·obtain ⟨y,hy,hr⟩:=hsnd as out hs' w (Xs E H β) [] xs (by omega) (fun k v x h1 h2=>by
    obtain ⟨u,hu,hp⟩:=p2 k v h1
    exact pure_R (hv k u x hu h2) v hp)
   refine ⟨_,hy,?_⟩
   rw [Oper.upon_value]
   exact hk y w β (Step.refl hR) (hr.up β)
  obtain ⟨hnorm,hcalls⟩:=hsnd as out hs'
  refine ⟨_,enter f xs hnorm,?_⟩
  rw [Oper.upon_enter]
  have hEX:∀ b o,Xs E H β b o→b<w.heap.size:=fun b o h=>by
   rcases h with h | h
   ·exact (hE.1 b o h).1
   ·exact own_lt hR h
  have:=hcalls w (Xs E H β) xs ⟨hEX,hE.2⟩ (by omega) (fun k v x h1 h2=>by
   obtain ⟨u,hu,hp⟩:=p2 k v h1
   exact pure_R (hv k u x hu h2) v hp)
  intro cs
  obtain ⟨e,w',fr,⟨y,he,st,hr⟩,rest⟩:=this cs
  obtain ⟨s1,s2⟩:=Step.of_pure hR st
  refine ⟨e,w',fr,?_,rest⟩
  subst he
  exact hk y w' β s1 (s2 _ _ hr)
 have hargs:∀ (k:Nat) (v:V) (x:Value),(c.args.toList.map (rd t))[k]? = some v→(c.args.toList.map a.eval)[k]? = some x→R w (Xs E H β) β v x:=by
  intro k v x h1 h2
  simp only [List.getElem?_map,Option.map_eq_some_iff] at h1 h2
  obtain ⟨u,hu,rfl⟩:=h1
  obtain ⟨u',hu',rfl⟩:=h2
  rw [hu] at hu'
  simp only [Option.some.injEq] at hu'
  subst hu'
  exact hrd u
 have hmap:c.args.map a.eval=(c.args.toList.map a.eval).toArray:=by apply Array.ext'; simp
 unfold oCall at h
 split at h
 ·rename_i g first captured heq
  have hfo:=hrd fo
  rw [heq] at hfo
  generalize hev:a.eval fo=fv at hfo
  cases hfo
  cases hb:(Nat.beq first.size 0 && Nat.beq captured.size 0)
  ·simp [hb,Tree.run] at h
  simp only [hb,cond_true] at h
  obtain ⟨b1,b2⟩:=Bool.and_eq_true_iff.1 hb
  have b1:first = #[]:=Array.eq_empty_of_size_eq_zero (Nat.eq_of_beq_eq_true b1)
  have b2:captured = #[]:=Array.eq_empty_of_size_eq_zero (Nat.eq_of_beq_eq_true b2)
  subst b1
  subst b2
  obtain ⟨q,k1,k2⟩:=key g _ (c.args.toList.map a.eval) (by simp) hargs h
  unfold Oper.wp
  rw [← hmap] at k1
  simp only [execOp,ho,resolve,hc,hev,Deferred.ofValue,invoke,Sem.run_bind,Sem.run_pure,Result.andThen_ok,Array.empty_append,Array.append_empty]
  rw [k1]
  exact k2
 ·rename_i g first captured heq
  have hfo:=hrd fo
  rw [heq] at hfo
  generalize hev:a.eval fo=fv at hfo
  cases hfo with
  | clo _ _ _ _ xs ys hl hm h1 h2 =>
   obtain ⟨q,k1,k2⟩:=key g _ (xs++c.args.toList.map a.eval++ys) (by simp [hl,hm]) (by
    intro k v x hv hx
    by_cases hk1:k<first.length
    ·rw [List.append_assoc,List.getElem?_append_left hk1] at hv
     rw [List.append_assoc,List.getElem?_append_left (by omega)] at hx
     exact h1 k v x hv hx
    ·rw [List.append_assoc,List.getElem?_append_right (by omega)] at hv
     rw [List.append_assoc,List.getElem?_append_right (by omega),hl] at hx
     by_cases hk2:k - first.length<c.args.toList.length
     ·rw [List.getElem?_append_left (by simpa using hk2)] at hv hx
      exact hargs _ v x hv hx
     ·rw [List.getElem?_append_right (by simpa using hk2)] at hv hx
      simp only [List.length_map] at hv hx
      exact h2 _ v x hv hx) h
   unfold Oper.wp
   have e:(xs++c.args.toList.map a.eval++ys).toArray=xs.toArray++c.args.map a.eval++ys.toArray:=by rw [hmap]; simp
   rw [e] at k1
   simp only [execOp,ho,resolve,hc,hev,Deferred.ofValue,invoke,Sem.run_bind,Sem.run_pure,Result.andThen_ok]
   rw [k1]
   exact k2
 ·cases h
end
end Go.Ab
