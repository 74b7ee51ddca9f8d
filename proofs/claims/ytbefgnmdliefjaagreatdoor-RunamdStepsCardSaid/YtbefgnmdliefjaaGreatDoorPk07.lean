/-
  The engine, part P: one operation is sound. Conditions: none.
-/
import Derived.Test.YtbefgnmdliefjaaGreatDoorPk06
open List renaming getElem?_append_left→ZB0,getElem?_append_right→ZB1,getElem?_map→ZC0,getElem?_cons_zero→ZC3,mem_cons→ZE3
open Nat renaming eq_of_beq_eq_true→ZG1
open Option renaming map_eq_some_iff→ZH0,bind_some→ZH1
open Option.some renaming injEq→ZH3
open Array renaming getD_eq_getD_getElem?→ZI0
set_option linter.unusedVariables false
set_option linter.unusedSimpArgs false
namespace Go.Ab
def Sound (P:Program) (f:Nat) (s:Spec):Prop:=∀ args out,(s args).run=some out->jS P f args out
def aMM (P:Program) (f:Nat) (args:List V) (out:V):Prop:=
 ∀ (w:World) (X:Nat->Nat->Prop) (β:List Loc) (b:List Value),b.length=args.length ->
  (∀ (k:Nat) (v:V) (x:Value),args[k]? = some v->b[k]? = some x->R w X β v x) -> ∃ y,(callFunc f b.toArray).run P w = .ok (.value y) w/\R w X β out y
def vU (P:Program) (f:Nat) (s:Spec):Prop:=∀ args out,(s args).run=some out->aMM P f args out
def lA (P:Program) (tab:List (Nat × Spec)):Prop:=∀ p ∈ tab,Sound P p.1 p.2\/vU P p.1 p.2
theorem lA.nil (P:Program):lA P []:=fun p h=>by cases h
theorem lA.cons {P:Program} {f:Nat} {s:Spec} {tab:List (Nat × Spec)} (h:Sound P f s) (c:lA P tab):lA P ((f,s) :: tab):=by
 intro p b
 rcases ZE3.1 b with rfl | b
 ·exact .inl h
 ·exact c p b
theorem lA.consX {P:Program} {f:Nat} {s:Spec} {tab:List (Nat × Spec)} (h:vU P f s) (c:lA P tab):lA P ((f,s) :: tab):=by
 intro p b
 rcases ZE3.1 b with rfl | b
 ·exact .inr h
 ·exact c p b
def aW (cx:Cx):Prop:=lA cx.P cx.tab/\oI cx.P cx.mtab/\rU cx.P cx.rtab /\ ∀ p ∈ cx.globs,p ∈ rN cx.P
theorem aEM {f:Nat} {args:List V} {out:V}:∀ {tab:List (Nat × Spec)},(look f tab args).run=some out -> ∃ s,(f,s) ∈ tab/\(s args).run=some out
 | [],h=>by cases h
 | (g,s) :: r,h=>by
  unfold look at h;cases hb:Nat.beq f g
  ·simp only [hb,cond_false] at h
   obtain ⟨s',h1,h2⟩:=aEM h;exact ⟨s',List.mem_cons_of_mem _ h1,h2⟩
  ·simp only [hb,cond_true] at h
   have:=ZG1 hb;subst this;exact ⟨s,List.mem_cons_self,h⟩
section
variable {E:Nat->Nat->Prop} {H:List O} {β:List Loc} {w:World}
theorem mG (b o:Nat):¬ Own [] [] b o:=by
 rintro ⟨id,l,h,_⟩;simp at h
theorem K1 (w:World) (X:Nat->Nat->Prop):Rel w X [] []:=
 ⟨rfl,fun id cs e loc h=>by simp at h,fun id n b loc h=>by simp at h,fun id sh vs loc h=>by simp at h,fun i j l l' hi=>by obtain ⟨o,h,_⟩:=hi; simp at h⟩
theorem Step.of_pure {w' : World} (i:Rel w (Xs E H β) H β) (s:Step (Xs E H β) [] [] w [] [] w'):Step E H β w H β w' /\ ∀ v y,R w' (Xs E H β) [] v y->R w' (Xs E H β) β v y:=by
 have hold:∀ b,b<w.heap.size->w'.heap[b]? = w.heap[b]? := fun b hb=>by
  rcases s.pres b hb with h | ⟨⟨o,h⟩,_⟩ | ⟨⟨o,h⟩,_⟩
  ·exact h
  ·exact absurd h (mG b o)
  ·exact absurd h (mG b o)
 have st:Stab w (Xs E H β) w' (Xs E H β):=
  ⟨fun b o v j d=>⟨j,(o9 (hold b (rP d)) o).trans d⟩,fun b cs e h=>⟨cs,e,by rw [hold b (dS h)]; exact h⟩⟩
 refine ⟨⟨⟨i.len,fun id cs e loc f g=>?_,fun id n p loc f g=>?_,fun id sh vs loc f g=>?_,i.disj⟩,s.os,s.tape,s.output,s.size,fun b hb=>.inl (hold b hb),fun b o h=>.inl h,.refl _⟩,fun v y h=>h.up β⟩
 ·obtain ⟨k,c,e',a1,a2,a3,a4⟩:=i.cells id cs e loc f g
  exact ⟨k,c,e',by rw [hold _ (dS a1)]; exact a1,a2,a3,fun k v d=>let ⟨x,j,l⟩:=a4 k v d; ⟨x,j,l.stab st _ (.refl _)⟩⟩
 ·obtain ⟨k,m,c,e',a1,a2⟩:=i.tok id n p loc f g
  exact ⟨k,m,c,e',by rw [hold _ (dS a1)]; exact a1,a2⟩
 ·obtain ⟨k,kb,ob,xs,a1,a2,a3⟩:=i.objs id sh vs loc f g
  exact ⟨k,kb,ob,xs,by rw [hold _ (dS a1)]; exact a1,a2,fun k v d=>let ⟨x,j,l⟩:=a3 k v d; ⟨x,j,l.stab st _ (.refl _)⟩⟩
variable {n:Nat} {t:T} {a:Act} {o:Oper} {cx:Cx} {K:Act->World->Prop} {Q:Exit->Act->World->Prop}
def aPA (E:Nat->Nat->Prop) (H:List O) (β:List Loc) (w:World) (a:Act) (o:Oper) (K:Act->World->Prop) (Q:Exit->Act->World->Prop):Res->Prop
 | .ok v H' => ∀ x w' b,Step E H β w H' b w' -> R w' (Xs E H' b) b v x->K (a.put o.dst x) w'
 | .pan v H' => ∀ x w' b,Step E H β w H' b w' -> R w' (Xs E H' b) b v x->Q (.panic [{ v:=x,recovered:=false }]) a w'
theorem CB {P:Program} {s:Sem Value} {x:Value} {w' : World} (c:execOp a.eval o=(do pure (Next.value (<- s)))) (b:s.run P w = .ok x w') (d:K (a.put o.dst x) w'):o.wp P a w K Q:=by
 unfold Oper.wp;rw [c];simp only [Sem.run_bind,b,Result.andThen_ok];exact d
theorem aJO {P:Program} {s:Sem Unit} {w' : World} (c:execOp a.eval o=(do s; pure Next.skip)) (b:s.run P w = .ok () w') (d:K (a.put o.dst undef) w'):o.wp P a w K Q:=by
 unfold Oper.wp;rw [c];simp only [Sem.run_bind,b,Result.andThen_ok];exact d
theorem aDI {X:Nat->Nat->Prop} {l:List (Nat × Operand)} (h:∀ x:Operand,R w X β (rd t x) (a.eval x)) :
  ∀ (k:Nat) p q,(l.map fun p=>(p.1,rd t p.2))[k]? = some p->(l.map fun p=>(p.1,a.eval p.2))[k]? = some q->p.1=q.1/\R w X β p.2 q.2:=by
 intro k p q b c;simp only [ZC0,ZH0] at b c;obtain ⟨u,hu,rfl⟩:=b;obtain ⟨v,hv,rfl⟩:=c;rw [hu] at hv;simp only [ZH3] at hv;subst hv;exact ⟨rfl,h u.2⟩
theorem kW {H:List O} {v:Option V} {r:Res} (h:(kJ H v).run=some r):∃ u,v=some u/\r = .ok u H:=by
 cases v with
 | none=>cases h
 | some u=>simp only [kJ,Tree.run,ZH3] at h; exact ⟨u,rfl,h.symm⟩
theorem pB {H:List O} {x:Tree V} {r:Res} (h:(x.bind (hold H)).run=some r):∃ u,x.run=some u/\r = .ok u H:=by
 obtain ⟨u,h1,h2⟩:=bD h;simp only [hold,Tree.run,ZH3] at h2;exact ⟨u,h1,h2.symm⟩
theorem BB {x:Tree (V × List O)} {r:Res} (h:(x.bind both).run=some r):∃ u H',x.run=some (u,H')/\r = .ok u H' := by
 obtain ⟨⟨u,H'⟩,h1,h2⟩:=bD h;simp only [both,Tree.run,ZH3] at h2;exact ⟨u,H',h1,h2.symm⟩
theorem aWR {P:Program} {H:List O} {src dst:TypeId} {x v:V} (h:(QS P H src dst x).run=some v):BF P H src dst x=some v:=by
 unfold QS at h;split at h
 ·rename_i k l b c
  split at h;rotate_left
  ·cases h
  rename_i e p j;split at h;rotate_left
  ·cases h
  rename_i m;cases d:decide (k=IntKind.u8)
  ·rw [d] at h; cases h
  rw [d,cond_true] at h;have d:=of_decide_eq_true d;subst d;unfold aJ9 at c;split at c;rotate_left
  ·cases c
  rename_i id s off len;split at c;rotate_left
  ·cases c
  rename_i n k2 l2 vs i;simp only [ZH3,Prod.mk.injEq] at c;obtain ⟨rfl,rfl,rfl⟩:=c
  have hb:(Nat.beq s 1&&(Nat.ble n off&&Nat.ble (off - n+len) l2.length))=true:=by
   cases hb:(Nat.beq s 1&&(Nat.ble n off&&Nat.ble (off - n+len) l2.length))
   ·rw [hb] at h; cases h
   ·rfl
  rw [hb] at h;simp only [Tree.aF,Tree.run,cond_true,ZH3] at h;subst h
  have g:qQ (.int .u8) H (.ref id s off len)=some ((l2.drop (off - n)).take len):=by
   simp only [qQ,i,hb,cond_true];rfl
  unfold BF;rw [p,j];simp only [m];exact congrArg (Option.map fun l=>V.str (List.map (fun (n:Int)=>UInt8.ofNat n.toNat) l)) g
 ·cases f:BF P H src dst x with
  | none=>rw [f] at h; cases h
  | some u=>rw [f] at h; exact h
theorem aFJ {X:Nat->Nat->Prop} (h:∀ x:Operand,R w X β (rd t x) (a.eval x)) (lo:Option Operand):HZ w X β (lo.map (rd t)) (lo.map a.eval):=by
 cases lo with
 | none=>trivial
 | some x=>exact h x
theorem aRN {P:Program} {cx:Cx} {f:Nat} {vs:List V} {xs:List Value} {res:Res} (G:oI P cx.mtab) (p:gJ P E H β w)
  (A:Rel w (Xs E H β) H β) (J:xs.length=vs.length) (I:∀ (k:Nat) (v:V) (x:Value),vs[k]? = some v->xs[k]? = some x->R w (Xs E H β) β v x)
  (h:(zA cx H f vs).run=some res):B5 P f/\Calls P f xs.toArray w (Outcome E H β w res):=by
 unfold zA at h;generalize reach H 64 (V.idss vs) []=σ at h;simp only at h;split at h;rotate_left
 ·cases h
 rename_i os B;split at h;rotate_left
 ·cases h
 rename_i as D has z;cases l:fU σ
 ·simp [l,Tree.run] at h
 simp only [l,cond_true] at h;obtain ⟨r,q,m⟩:=bD h;obtain ⟨s,hs,hs'⟩:=aD0 q;obtain ⟨g,hcalls⟩:=G _ hs as D r hs';obtain ⟨hi,hturn⟩:=into p.1 A l B z;obtain ⟨L,q2⟩:=nY has;refine ⟨g,?_⟩
 have:=hcalls w (Shut E H β D (fM β σ)) (fM β σ) xs ⟨hi.old,by rw [hi.same]; exact p.2⟩ hi.rel (by omega) (fun k v x q m=>by
  obtain ⟨u,hu,hu'⟩:=q2 k v q;rw [hi.same]
  exact wI hturn (I k u x hu m) v hu')
 refine this.mono ?_;intro e w' F
 have back:∀ v c k,(vO H σ v c k).run=some res -> ∃ d b,V.ren? (eJ σ H.length) v=some d /\ eA (eJ σ H.length) c=some b /\ σ.length<=c.length/\res=k d (bQ H σ b):=by
  intro v c k hb;unfold vO at hb;split at hb;rotate_left
  ·cases hb
  rename_i d b j i;cases hle:Nat.ble σ.length b.length
  ·simp [hle,Tree.run] at hb
  simp only [hle,cond_true,Tree.run,ZH3] at hb;exact ⟨d,b,j,i,by rw [<- (E6 i).1]; exact Nat.le_of_ble_eq_true hle,hb.symm⟩
 cases r with
 | ok v c =>
  obtain ⟨d,b,j,i,e3,rfl⟩:=back v c _ m;obtain ⟨y,β2,he,st,hr⟩:=F;obtain ⟨C,s2⟩:=R4 p.1 A l hi st e3 i;exact ⟨y,_,he,C,s2 v d y hr j⟩
 | pan v c =>
  obtain ⟨d,b,j,i,e3,rfl⟩:=back v c _ m;obtain ⟨y,β2,he,st,hr⟩:=F;obtain ⟨C,s2⟩:=R4 p.1 A l hi st e3 i;exact ⟨y,_,he,C,s2 v d y hr j⟩
mutual
theorem ren_back {ρ τ:Nat->Option Nat} (h:∀ i j,ρ i=some j->τ j=some i):∀ (v u:V),V.ren? ρ v=some u->V.ren? τ u=some v
 | .int _ _,u,e=>by simp only [V.ren?,ZH3] at e; subst e; rfl
 | .bool _,u,e=>by simp only [V.ren?,ZH3] at e; subst e; rfl
 | .str _,u,e=>by simp only [V.ren?,ZH3] at e; subst e; rfl
 | .val _,u,e=>by simp only [V.ren?,ZH3] at e; subst e; rfl
 | .pin _,u,e=>by simp only [V.ren?,ZH3] at e; subst e; rfl
 | .sl _ _ _ _,u,e=>by simp only [V.ren?,ZH3] at e; subst e; rfl
 | .any,u,e=>by simp only [V.ren?,ZH3] at e; subst e; rfl
 | .rng _ _ _,u,e=>by simp only [V.ren?,ZH3] at e; subst e; rfl
 | .gro id c l,u,e=>by
  unfold V.ren? at e;split at e
  ·rename_i j m; simp only [ZH3] at e; subst e; unfold V.ren?; rw [h _ _ m]
  ·cases e
 | .ptr id off,u,e=>by
  unfold V.ren? at e;split at e
  ·rename_i j m; simp only [ZH3] at e; subst e; unfold V.ren?; rw [h _ _ m]
  ·cases e
 | .ref id r off len,u,e=>by
  unfold V.ren? at e;split at e
  ·rename_i j m; simp only [ZH3] at e; subst e; unfold V.ren?; rw [h _ _ m]
  ·cases e
 | .mp id,u,e=>by
  unfold V.ren? at e;split at e
  ·rename_i j m; simp only [ZH3] at e; subst e; unfold V.ren?; rw [h _ _ m]
  ·cases e
 | .agg cs,u,e=>by
  unfold V.ren? at e;split at e
  ·rename_i p k; simp only [ZH3] at e; subst e; unfold V.ren?; rw [rens_back h cs p k]
  ·cases e
 | .tup cs,u,e=>by
  unfold V.ren? at e;split at e
  ·rename_i p k; simp only [ZH3] at e; subst e; unfold V.ren?; rw [rens_back h cs p k]
  ·cases e
 | .ifc t v,u,e=>by
  unfold V.ren? at e;split at e
  ·rename_i d k; simp only [ZH3] at e; subst e; unfold V.ren?; rw [ren_back h v d k]
  ·cases e
 | .clo g a b,u,e=>by
  unfold V.ren? at e;split at e
  ·rename_i d f k q; simp only [ZH3] at e; subst e; unfold V.ren?; rw [rens_back h a d k,rens_back h b f q]
  ·cases e
theorem rens_back {ρ τ:Nat->Option Nat} (h:∀ i j,ρ i=some j->τ j=some i):∀ (l m:List V),V.rens? ρ l=some m->V.rens? τ m=some l
 | [],m,e=>by simp only [V.rens?,ZH3] at e; subst e; rfl
 | v :: r,m,e=>by
  unfold V.rens? at e;split at e
  ·rename_i d f b c; simp only [ZH3] at e; subst e; unfold V.rens?; rw [ren_back h v d b,rens_back h r f c]
  ·cases e
end
mutual
theorem ren_le {ρ τ:Nat->Option Nat} (h:∀ i j,ρ i=some j->τ i=some j):∀ (v u:V),V.ren? ρ v=some u->V.ren? τ v=some u
 | .int _ _,u,e=>by simp only [V.ren?,ZH3] at e; subst e; rfl
 | .bool _,u,e=>by simp only [V.ren?,ZH3] at e; subst e; rfl
 | .str _,u,e=>by simp only [V.ren?,ZH3] at e; subst e; rfl
 | .val _,u,e=>by simp only [V.ren?,ZH3] at e; subst e; rfl
 | .pin _,u,e=>by simp only [V.ren?,ZH3] at e; subst e; rfl
 | .sl _ _ _ _,u,e=>by simp only [V.ren?,ZH3] at e; subst e; rfl
 | .any,u,e=>by simp only [V.ren?,ZH3] at e; subst e; rfl
 | .rng _ _ _,u,e=>by simp only [V.ren?,ZH3] at e; subst e; rfl
 | .gro id c l,u,e=>by
  unfold V.ren? at e;split at e
  ·rename_i j m; simp only [ZH3] at e; subst e; unfold V.ren?; rw [h _ _ m]
  ·cases e
 | .ptr id off,u,e=>by
  unfold V.ren? at e;split at e
  ·rename_i j m; simp only [ZH3] at e; subst e; unfold V.ren?; rw [h _ _ m]
  ·cases e
 | .ref id r off len,u,e=>by
  unfold V.ren? at e;split at e
  ·rename_i j m; simp only [ZH3] at e; subst e; unfold V.ren?; rw [h _ _ m]
  ·cases e
 | .mp id,u,e=>by
  unfold V.ren? at e;split at e
  ·rename_i j m; simp only [ZH3] at e; subst e; unfold V.ren?; rw [h _ _ m]
  ·cases e
 | .agg cs,u,e=>by
  unfold V.ren? at e;split at e
  ·rename_i p k; simp only [ZH3] at e; subst e; unfold V.ren?; rw [rens_le h cs p k]
  ·cases e
 | .tup cs,u,e=>by
  unfold V.ren? at e;split at e
  ·rename_i p k; simp only [ZH3] at e; subst e; unfold V.ren?; rw [rens_le h cs p k]
  ·cases e
 | .ifc t v,u,e=>by
  unfold V.ren? at e;split at e
  ·rename_i d k; simp only [ZH3] at e; subst e; unfold V.ren?; rw [ren_le h v d k]
  ·cases e
 | .clo g a b,u,e=>by
  unfold V.ren? at e;split at e
  ·rename_i d f k q; simp only [ZH3] at e; subst e; unfold V.ren?; rw [rens_le h a d k,rens_le h b f q]
  ·cases e
theorem rens_le {ρ τ:Nat->Option Nat} (h:∀ i j,ρ i=some j->τ i=some j):∀ (l m:List V),V.rens? ρ l=some m->V.rens? τ l=some m
 | [],m,e=>by simp only [V.rens?,ZH3] at e; subst e; rfl
 | v :: r,m,e=>by
  unfold V.rens? at e;split at e
  ·rename_i d f b c; simp only [ZH3] at e; subst e; unfold V.rens?; rw [ren_le h v d b,rens_le h r f c]
  ·cases e
end
theorem a7Z {ρ τ:Nat->Option Nat} (h:∀ i j,ρ i=some j->τ i=some j) (o u:O) (e:O.ren? ρ o=some u):O.ren? τ o=some u:=by
 cases o with
 | cells cs t =>
  simp only [O.ren?] at e ⊢
  cases b:V.rens? ρ cs with
  | none=>rw [b] at e; cases e
  | some c =>
   rw [b] at e;rw [rens_le h _ _ b];exact e
 | tok n d=>exact e
 | obj sh vs =>
  simp only [O.ren?] at e ⊢
  cases b:V.rens? ρ vs with
  | none=>rw [b] at e; cases e
  | some c =>
   rw [b] at e;rw [rens_le h _ _ b];exact e
 | dead=>exact e
theorem aH4 {ρ τ:Nat->Option Nat} (h:∀ i j,ρ i=some j->τ i=some j):∀ (l m:List O),eA ρ l=some m->eA τ l=some m
 | [],_,e=>e
 | o :: r,m,e=>by
  unfold eA at e ⊢
  cases b:O.ren? ρ o with
  | none=>rw [b] at e; cases e
  | some u =>
   cases c:eA ρ r with
   | none=>rw [b,c] at e; cases e
   | some d =>
    rw [b,c] at e;rw [a7Z h _ _ b,aH4 h _ _ c];exact e
theorem aUK {α j:Type} {x:Tree α} {f g:α->Tree j} {c:j} (h:(x.bind f).run=some c) (d:∀ a,(f a).run=some c->(g a).run=some c):(x.bind g).run=some c:=by
 induction x with
 | leaf b=>exact d b h
 | fail=>cases h
 | br k x y e i =>
  cases k
  ·exact i h
  ·exact e h
theorem aCR {H:List O} {σ:List Nat} {u r:Res} (h:(NS H σ u).run=some r):∃ (v:V) (b:List O) (v1:V) (H3:List O),u = .ok v b/\V.ren? (fun j=>σ[j]?) v=some v1/\eA (fun j=>σ[j]?) b=some H3/\σ.length=H3.length/\r = .ok v1 (bQ H σ H3):=by
 cases u with
 | pan v b=>cases h
 | ok v b =>
  simp only [NS] at h
  cases c:V.ren? (fun j=>σ[j]?) v with
  | none=>rw [c] at h; cases h
  | some v1 =>
  cases d:eA (fun j=>σ[j]?) b with
  | none=>rw [c,d] at h; cases h
  | some H3 =>
  rw [c,d] at h;simp only at h;cases hb:Nat.beq σ.length H3.length
  ·rw [hb] at h; cases h
  rw [hb] at h;simp only [cond_true,Tree.run,ZH3] at h;exact ⟨v,b,v1,H3,rfl,c,d,ZG1 hb,h.symm⟩
theorem aIK {cx:Cx} {H:List O} {f:Nat} {vs:List V} {res:Res} (h:(zR cx H f vs).run=some res):(zA cx H f vs).run=some res:=by
 unfold zR at h;cases d:cG f cx.still
 ·rw [d] at h; exact h
 rw [d,cond_true] at h;unfold G8 at h;unfold zA;simp only at h ⊢;split at h;rotate_left
 ·cases h
 split at h;rotate_left
 ·cases h
 cases c:fU (reach H 64 (V.idss vs) [])
 ·rw [c] at h; cases h
 rw [c,cond_true] at h;rw [cond_true];refine aUK h fun u e=>?_;obtain ⟨v,H2,v',H2',rfl,e1,e2,e3,rfl⟩:=aCR e
 have le:∀ i j,(reach H 64 (V.idss vs) [])[i]? = some j->eJ (reach H 64 (V.idss vs) []) H.length i=some j:=fun i j b=>by
  unfold eJ;rw [b]
 show (vO H (reach H 64 (V.idss vs) []) v H2 .ok).run=_;unfold vO;rw [ren_le le _ _ e1,aH4 le _ _ e2];simp only;rw [e3,Nat.ble_eq_true_of_le (Nat.le_refl _)];rfl
theorem aTB {P:Program} {cx:Cx} {f:Nat} {vs:List V} {xs:List Value} {res:Res} (c:oI P cx.mtab) (b:gJ P E H β w)
  (d:Rel w (Xs E H β) H β) (e:xs.length=vs.length) (g:∀ (k:Nat) (v:V) (x:Value),vs[k]? = some v->xs[k]? = some x->R w (Xs E H β) β v x)
  (h:(zR cx H f vs).run=some res):B5 P f/\Calls P f xs.toArray w (Outcome E H β w res):=aRN c b d e g (aIK h)
theorem aZN {ρ τ:Nat->Option Nat} (h:∀ i j,ρ i=some j->τ j=some i) (o u:O) (e:O.ren? ρ o=some u):O.ren? τ u=some o:=by
 cases o with
 | cells cs t =>
  unfold O.ren? at e;simp only at e;split at e
  ·rename_i b c; simp only [ZH3] at e; subst e; unfold O.ren?; simp only; rw [rens_back h cs b c]
  ·cases e
 | tok n d=>simp only [O.ren?,ZH3] at e; subst e; rfl
 | obj sh vs =>
  unfold O.ren? at e;simp only at e;split at e
  ·rename_i b c; simp only [ZH3] at e; subst e; unfold O.ren?; simp only; rw [rens_back h vs b c]
  ·cases e
 | dead=>simp only [O.ren?,ZH3] at e; subst e; rfl
theorem aCM {ρ τ:Nat->Option Nat} (h:∀ i j,ρ i=some j->τ j=some i):∀ (l m:List O),eA ρ l=some m->eA τ m=some l
 | [],m,e=>by simp only [eA,ZH3] at e; subst e; rfl
 | v :: r,m,e=>by
  unfold eA at e;split at e
  ·rename_i d f b c; simp only [ZH3] at e; subst e; unfold eA; rw [aZN h v d b,aCM h r f c]
  ·cases e
theorem aCC:∀ (σ:List Nat) (H os:List O),gQ H σ=some os->bQ H σ os=H
 | [],H,os,e=>by simp only [gQ,ZH3] at e; subst e; simp [bQ]
 | i :: σ,H,os,e=>by
  unfold gQ at e;split at e
  ·rename_i o r c d
   simp only [ZH3] at e;subst e
   have b:H.set i o=H:=by
    apply List.ext_getElem?;intro j;rw [List.getElem?_set];split
    ·rename_i f; subst f; split
     ·exact c.symm
     ·rename_i g; rw [List.getElem?_eq_none (by omega)]
    ·rfl
   unfold bQ;rw [b];exact aCC σ H r d
  ·cases e
theorem J8 {cx:Cx} {f:Nat} {v:V} {H:List O} {r:Res} (h:(AA cx f v H).run=some r):r = .ok v H /\ ∀ H',(AA cx f v H').run=some (.ok v H'):=by
 unfold AA at h ⊢;cases b:(cG f cx.nums&&!V.isInt v)
 ·rw [b] at h
  cases h;exact ⟨rfl,fun _=>rfl⟩
 ·rw [b] at h
  cases h
theorem a17 {cx:Cx} {f:Nat} {v:V} {H:List O} {r:Res} (h:(AA cx f v H).run=some r) (b:cG f cx.nums=true):V.ids v=[]:=by
 unfold AA at h;rw [b,Bool.true_and] at h
 cases v with
 | int k n=>rfl
 | _=>cases h
theorem aSX {P:Program} {cx:Cx} {f:Nat} {vs:List V} {xs:List Value} {res:Res} (L:rU P cx.rtab) (z:gJ P E H β w)
  (D:Rel w (Xs E H β) H β) (S:xs.length=vs.length) (N:∀ (k:Nat) (v:V) (x:Value),vs[k]? = some v->xs[k]? = some x->R w (Xs E H β) β v x)
  (h:(lO cx H f vs).run=some res):B5 P f/\Calls P f xs.toArray w (Outcome E H β w res):=by
 unfold lO at h;generalize reach H 64 (V.idss vs) []=σ at h;simp only at h;split at h;rotate_left
 ·cases h
 rename_i os l;split at h;rotate_left
 ·cases h
 rename_i as p has g;cases q:fU σ
 ·simp [q,Tree.run] at h
 simp only [q,cond_true] at h;obtain ⟨v,r,d⟩:=bD h;obtain ⟨s,hs,hs'⟩:=aD6 r;obtain ⟨c,hcalls⟩:=L _ hs as p v hs';obtain ⟨hi,hturn⟩:=into z.1 D q l g;obtain ⟨U,q2⟩:=nY has;refine ⟨c,?_⟩
 have:=hcalls w (Shut E H β p (fM β σ)) (fM β σ) xs ⟨hi.old,by rw [hi.same]; exact z.2⟩ hi.rel (by omega) (fun k v x r d=>by
  obtain ⟨u,hu,hu'⟩:=q2 k v r;rw [hi.same]
  exact wI hturn (N k u x hu d) v hu')
 refine this.mono ?_;intro e w' M;split at d;rotate_left
 ·cases d
 rename_i G I;obtain ⟨rfl,_⟩:=J8 d;obtain ⟨y,β2,he,st,hr⟩:=M
 have C:∀ i j,(fun i=>place i σ) i=some j->eJ σ H.length j=some i:=fun i j B=>by
  unfold eJ;rw [JD B]
 have J:=aCM (τ:=eJ σ H.length) C os p g
 have e3:σ.length<=p.length:=by rw [hi.lens.2]; exact Nat.le_refl _
 obtain ⟨F,s2⟩:=R4 z.1 D q hi st e3 J;have m:=aCC σ H os l;rw [m] at F s2;exact ⟨y,_,he,F,s2 v G y hr (ren_le (fun a b A=>by unfold eJ; rw [A]) v G I)⟩
theorem aV3 {P:Program} {c:Call} {J:Operand} {res:Res} (_hP:P=cx.P) (hT:lA P cx.tab) (hM:oI P cx.mtab) (Z:rU P cx.rtab) (U:gJ P E H β w) (M:Rel w (Xs E H β) H β)
  (hF:FR w (Xs E H β) β n t a) (B:o.op = .call c) (hc:c.callee = .value J) (h:(oN cx H (rd t J) (c.args.toList.map (rd t))).run=some res) (L:aPA E H β w a o K Q res):o.wp P a w K Q:=by
 have I:=fun x=>q5 hF x
 have enter:∀ (f:Nat) (xs:List Value),B5 P f->(callFunc f xs.toArray).run P w = .ok (.enter f xs.toArray) w:=by
  rintro f xs ⟨fn,m,j,h3⟩;obtain ⟨b,hb⟩:=Option.isSome_iff_exists.1 h3;simp [callFunc,m,j,hb]
 have key:∀ (f:Nat) (vs:List V) (xs:List Value),xs.length=vs.length->(∀ (k:Nat) (v:V) (x:Value),vs[k]? = some v->xs[k]? = some x->R w (Xs E H β) β v x) ->
   (lM cx H f vs).run=some res -> ∃ q:Result Next,(callFunc f xs.toArray).run P w=q/\o.upon P a K Q q:=by
  intro f vs xs S l d;unfold lM at d;cases z:fR f cx.mtab;rotate_left
  ·simp only [z,cond_true] at d
   obtain ⟨m1,m2⟩:=aTB hM U M S l d;refine ⟨_,enter f xs m1,?_⟩;rw [Oper.upon_enter];refine m2.mono ?_;intro e w' B
   cases res with
   | ok v H' =>
    obtain ⟨y,β',rfl,st,hr⟩:=B;exact L y w' β' st hr
   | pan v H' =>
    obtain ⟨y,β',rfl,st,hr⟩:=B;exact L y w' β' st hr
  simp only [z,cond_false] at d;cases N:fR f cx.rtab;rotate_left
  ·simp only [N,cond_true] at d
   obtain ⟨m1,m2⟩:=aSX Z U M S l d;refine ⟨_,enter f xs m1,?_⟩;rw [Oper.upon_enter];refine m2.mono ?_;intro e w' B
   cases res with
   | ok v H' =>
    obtain ⟨y,β',rfl,st,hr⟩:=B;exact L y w' β' st hr
   | pan v H' =>
    obtain ⟨y,β',rfl,st,hr⟩:=B;exact L y w' β' st hr
  simp only [N,cond_false] at d;unfold zP at d;split at d;rotate_left
  ·cases d
  rename_i as has;obtain ⟨out,m,j⟩:=bD d;simp only [Tree.run,ZH3] at j;subst j;obtain ⟨s,hs,hs'⟩:=aEM m;obtain ⟨p1,p2⟩:=yH has
  rcases hT _ hs with r | r
  rotate_left
  ·obtain ⟨y,hy,hr⟩:=r as out hs' w (Xs E H β) [] xs (by omega) (fun k v x m j=>by
    obtain ⟨u,hu,hp⟩:=p2 k v m
    exact LR (l k u x hu j) v hp)
   refine ⟨_,hy,?_⟩;rw [Oper.upon_value];exact L y w β (Step.refl M) (hr.up β)
  obtain ⟨G,hcalls⟩:=r as out hs';refine ⟨_,enter f xs G,?_⟩;rw [Oper.upon_enter]
  have Y:∀ b o,Xs E H β b o->b<w.heap.size:=fun b o h=>by
   rcases h with h | h
   ·exact (U.1 b o h).1
   ·exact GO M h
  have:=hcalls w (Xs E H β) xs ⟨Y,U.2⟩ (by omega) (fun k v x m j=>by
   obtain ⟨u,hu,hp⟩:=p2 k v m
   exact LR (l k u x hu j) v hp)
  intro cs;obtain ⟨e,w',fr,⟨y,he,st,hr⟩,rest⟩:=this cs;obtain ⟨s1,s2⟩:=Step.of_pure M st;refine ⟨e,w',fr,?_,rest⟩;subst he;exact L y w' β s1 (s2 _ _ hr)
 have p:∀ (k:Nat) (v:V) (x:Value),(c.args.toList.map (rd t))[k]? = some v->(c.args.toList.map a.eval)[k]? = some x->R w (Xs E H β) β v x:=by
  intro k v x m j;simp only [ZC0,ZH0] at m j;obtain ⟨u,hu,rfl⟩:=m;obtain ⟨u',hu',rfl⟩:=j;rw [hu] at hu';simp only [ZH3] at hu';subst hu';exact I u
 have A:c.args.map a.eval=(c.args.toList.map a.eval).toArray:=by apply Array.ext'; simp
 unfold oN at h;split at h
 ·rename_i g first captured D
  have i:=I J;rw [D] at i;generalize F:a.eval J=fv at i;cases i;cases hb:(Nat.beq first.size 0&&Nat.beq captured.size 0)
  ·simp [hb,Tree.run] at h
  simp only [hb,cond_true] at h;obtain ⟨W,X⟩:=Bool.and_eq_true_iff.1 hb
  have W:first = #[]:=Array.eq_empty_of_size_eq_zero (ZG1 W)
  have X:captured = #[]:=Array.eq_empty_of_size_eq_zero (ZG1 X);subst W;subst X;obtain ⟨q,k1,k2⟩:=key g _ (c.args.toList.map a.eval) (by simp) p h;unfold Oper.wp;rw [<- A] at k1;simp only [execOp,B,resolve,hc,F,Deferred.ofValue,invoke,Sem.run_bind,Sem.run_pure,Result.andThen_ok,Array.empty_append,Array.append_empty];rw [k1];exact k2
 ·rename_i g first captured D
  have i:=I J;rw [D] at i;generalize F:a.eval J=fv at i
  cases i with
  | clo _ _ _ _ xs ys S hm m j =>
   obtain ⟨q,k1,k2⟩:=key g _ (xs++c.args.toList.map a.eval++ys) (by simp [S,hm]) (by
    intro k v x l C
    by_cases hk1:k<first.length
    ·rw [List.append_assoc,ZB0 hk1] at l
     rw [List.append_assoc,ZB0 (by omega)] at C;exact m k v x l C
    ·rw [List.append_assoc,ZB1 (by omega)] at l
     rw [List.append_assoc,ZB1 (by omega),S] at C
     by_cases hk2:k - first.length<c.args.toList.length
     ·rw [ZB0 (by simpa using hk2)] at l C
      exact p _ v x l C
     ·rw [ZB1 (by simpa using hk2)] at l C
      simp only [List.length_map] at l C
      exact j _ v x l C) h
   unfold Oper.wp
   have e:(xs++c.args.toList.map a.eval++ys).toArray=xs.toArray++c.args.map a.eval++ys.toArray:=by rw [A]; simp
   rw [e] at k1;simp only [execOp,B,resolve,hc,F,Deferred.ofValue,invoke,Sem.run_bind,Sem.run_pure,Result.andThen_ok];rw [k1];exact k2
 ·cases h
end
end Go.Ab

namespace Go.Ab
section
variable {E:Nat->Nat->Prop} {H:List O} {β:List Loc} {w:World} {n:Nat} {t:T} {a:Act} {o:Oper} {cx:Cx} {K:Act->World->Prop} {Q:Exit->Act->World->Prop}
theorem JG (hT:aW cx) (hE:gJ cx.P E H β w) (hR:Rel w (Xs E H β) H β) (hF:FR w (Xs E H β) β n t a) {res:Res}
  (h:(aP cx t H o).run=some res) (hk:aPA E H β w a o K Q res):o.wp cx.P a w K Q:=by
 have hrd:=fun x=>q5 hF x;have hrg:=fun x=>ahS hE.2 hT.2.2.2 hF x
 have same:∀ {s:Sem Value} {u:V},execOp a.eval o=(do pure (Next.value (<- s)))->(∃ z,s.run cx.P w = .ok z w/\R w (Xs E H β) β u z)->res = .ok u H->o.wp cx.P a w K Q:=by
  rintro s u he ⟨z,h1,h2⟩ rfl;exact CB he h1 (hk z w β (Step.refl hR) h2)
 have some' : ∀ {s:Sem Value} {u:V} {H' : List O},execOp a.eval o=(do pure (Next.value (<- s))) ->
   (∃ z w' β',s.run cx.P w = .ok z w' /\ Step E H β w H' β' w' /\ R w' (Xs E H' β') β' u z)->res = .ok u H' -> o.wp cx.P a w K Q:=by
  rintro s u H' he ⟨z,w',β',h1,h2,h3⟩ rfl;exact CB he h1 (hk z w' β' h2 h3)
 unfold aP at h;split at h
 ·-- move
  rename_i x ho;simp only [hold,Tree.run,ZH3] at h;subst h;unfold Oper.wp;simp only [execOp,ho];exact hk _ w β (Step.refl hR) (hrd x)
 ·-- assign
  rename_i x ho;simp only [hold,Tree.run,ZH3] at h;subst h;unfold Oper.wp;simp only [execOp,ho];exact hk _ w β (Step.refl hR) (hrd x)
 ·-- pick
  rename_i c x y ho;split at h;rotate_left
  ·cases h
  rename_i b hb;have hc:=hrd c;rw [hb] at hc;generalize hev:a.eval c=cv at hc;cases hc
  have run:∀ u,R w (Xs E H β) β u (if b=true then a.eval x else a.eval y)->res = .ok u H->o.wp cx.P a w K Q:=by
   intro u hu hr;subst hr;unfold Oper.wp;simp only [execOp,ho,hev,asBool,Sem.run_bind,Sem.run_pure,Result.andThen_ok];exact hk _ w β (Step.refl hR) hu
  obtain ⟨u,hu,rfl⟩:=pB h;refine run u ?_ rfl;unfold aN9 at hu;split at hu
  ·rename_i p q hp hq
   simp only [Tree.run,ZH3] at hu;subst hu;have h1:=hrd x;have h2:=hrd y;rw [hp] at h1;rw [hq] at h2;cases b
   ·simpa using h2
   ·simpa using h1
  ·cases b
   ·simp only [Tree.run,cond_false,ZH3] at hu
    subst hu;simpa using hrd y
   ·simp only [Tree.run,cond_true,ZH3] at hu
    subst hu;simpa using hrd x
 ·-- alloc
  rename_i e ho;split at h;rotate_left
  ·cases h
  rename_i i hi;simp only [Tree.run,ZH3] at h;obtain ⟨w',β',h1,h2,h3⟩:=aSQ (P:=cx.P) hR hi;exact some' (s:=Instr.alloc e true (.tuple #[])) (by simp only [execOp,ho]) ⟨_,w',β',h1,h2,h3⟩ h.symm
 ·-- box
  rename_i e x ho;split at h;rotate_left
  ·cases h
  rename_i cs hcs;simp only [Tree.run,ZH3] at h;obtain ⟨w',β',h1,h2,h3⟩:=aYH (P:=cx.P) (e:=e) hR (hrd x) hcs;exact some' (s:=Instr.box e (a.eval x)) (by simp only [execOp,ho]) ⟨_,w',β',h1,h2,h3⟩ h.symm
 ·-- build
  rename_i ty parts ho;obtain ⟨u,hu,rfl⟩:=kW h;refine same (s:=Instr.build ty (parts.map fun (i,x)=>(i,a.eval x))) (by simp only [execOp,ho]) (aTY (by simp) ?_ hu) rfl;have:=aDI (a:=a) (l:=parts.toList) hrd;simpa using this
 ·-- buildSlice
  rename_i ty len parts ho;unfold sB at h;split at h;rotate_left
  ·cases h
  rename_i p hp;obtain ⟨u,H'⟩:=p;simp only [Tree.run,ZH3] at h;refine some' (s:=Instr.buildSlice ty len (parts.map fun (i,x)=>(i,a.eval x))) (by simp only [execOp,ho]) (aQO hE.1 hR (by simp) ?_ hp) h.symm;have:=aDI (a:=a) (l:=parts.toList) hrd;simpa using this
 ·-- load
  rename_i ty x ho;cases hz:oU cx.lz x
  ·rw [hz,cond_false] at h
   obtain ⟨u,hu,rfl⟩:=kW h;exact same (s:=Instr.loadAt ty (a.eval x)) (by simp only [execOp,ho]) (aDO hR (hrg x) hu) rfl
  ·rw [hz,cond_true] at h
   obtain ⟨u,hu,rfl⟩:=pB h;exact same (s:=Instr.loadAt ty (a.eval x)) (by simp only [execOp,ho]) (aU1 hR (hrd x) hu) rfl
 ·-- store
  rename_i ty x v ho
  have hs:∃ H',res = .ok .any H' /\ ∃ w',(Instr.storeAt ty (a.eval x) (a.eval v)).run cx.P w = .ok () w' /\ Step E H β w H' β w' := by
   cases hz:oU cx.lz x
   ·rw [hz,cond_false] at h
    split at h;rotate_left
    ·cases h
    rename_i H' hH;simp only [Tree.run,ZH3] at h;exact ⟨H',h.symm,aCA (P:=cx.P) hR (hrd x) (hrd v) hH⟩
   ·rw [hz,cond_true] at h
    obtain ⟨H',hH,h⟩:=bD h;simp only [Tree.run,ZH3] at h;exact ⟨H',h.symm,aRT (P:=cx.P) hR (hrd x) (hrd v) hH⟩
  obtain ⟨H',rfl,w',h1,h2⟩:=hs;exact aJO (s:=Instr.storeAt ty (a.eval x) (a.eval v)) (by simp only [execOp,ho]) h1 (hk undef w' β h2 (.any _ _))
 ·-- nilCheck
  rename_i x ho
  have run:∀ u b o',a.eval x = .pointer (some ⟨b,o',none⟩)->R w (Xs E H β) β u (a.eval x)->res = .ok u H->o.wp cx.P a w K Q:=by
   intro u b o' he hu hr;subst hr;unfold Oper.wp;simp only [execOp,ho,he,Sem.run_pure];rw [he] at hu;exact hk _ w β (Step.refl hR) hu
  have hx:=hrd x;split at h
  ·rename_i id off hv
   simp only [hold,Tree.run,ZH3] at h;rw [hv] at hx;generalize he:a.eval x=xv at hx run;have hx' := hx;cases hx;exact run _ _ _ rfl hx' h.symm
  ·rename_i cells hv
   simp only [hold,Tree.run,ZH3] at h;rw [hv] at hx;generalize he:a.eval x=xv at hx run;have hx' := hx;cases hx;exact run _ _ _ rfl hx' h.symm
  ·cases h
 ·-- binOp
  rename_i op ty x y _ ho;obtain ⟨u,hu,rfl⟩:=pB h;cases hnil:LX y
  ·rw [hnil,cond_false] at hu
   exact same (s:=bin op ty x y (a.eval x) (a.eval y)) (by simp only [execOp,ho,bin]) (aZ0 (hrd x) (hrd y) hu) rfl
  ·rw [hnil,cond_true] at hu
   have hy:y = .const .nilIface:=by
    unfold LX at hnil;split at hnil
    ·rfl
    ·cases hnil
   subst hy;exact same (s:=bin op ty x (.const .nilIface) (a.eval x) .nilIface) (by simp only [execOp,ho,bin]; rfl) (aX1 (hrd x) hu) rfl
 ·-- unOp
  rename_i op _ x ho;obtain ⟨u,hu,rfl⟩:=kW h;exact same (s:=Op.unary op (a.eval x)) (by simp only [execOp,ho]) (a2A (hrd x) hu) rfl
 ·-- convert
  rename_i src dst x ho;cases hss:BW cx.P src dst
  ·rw [hss,cond_false] at h
   obtain ⟨u,hu,rfl⟩:=pB h;exact same (s:=convert src dst (a.eval x)) (by simp only [execOp,ho]) (aR2 hR (hrd x) (aWR hu)) rfl
  ·rw [hss,cond_true] at h
   obtain ⟨u,hu,rfl⟩:=kW h;obtain ⟨z,w',h1,h2,h3⟩:=aQW hE.1 hR (hrd x) hss hu;exact some' (s:=convert src dst (a.eval x)) (by simp only [execOp,ho]) ⟨z,w',β,h1,h2,h3⟩ rfl
 ·-- makeFunc
  rename_i fn first captured ho
  simp only [hold,Tree.run,ZH3] at h;refine same (s:=Instr.makeFunc fn (first.map a.eval) (captured.map a.eval)) (by simp only [execOp,ho]) ⟨.func fn (first.toList.map a.eval).toArray (captured.toList.map a.eval).toArray,?_,?_⟩ h.symm
  ·have e1:(first.toList.map a.eval).toArray=first.map a.eval:=by apply Array.ext'; simp
   have e2:(captured.toList.map a.eval).toArray=captured.map a.eval:=by apply Array.ext'; simp
   rw [e1,e2]; rfl
  ·have get:∀ (l:List Operand) (k:Nat) (v:V) (x:Value),(l.map (rd t))[k]? = some v->(l.map a.eval)[k]? = some x->R w (Xs E H β) β v x:=by
    intro l k v x h1 h2;simp only [ZC0,ZH0] at h1 h2;obtain ⟨u,hu,rfl⟩:=h1;obtain ⟨u',hu',rfl⟩:=h2;rw [hu] at hu';simp only [ZH3] at hu';subst hu';exact hrd u
   exact .clo β fn _ _ _ _ (by simp) (by simp) (get _) (get _)
 ·-- makeSlice
  rename_i ty l c ho;cases hpg:WQ o cx.lz
  ·rw [hpg,cond_false] at h
   obtain ⟨u,H',hu,rfl⟩:=BB h;exact some' (s:=Instr.makeSlice ty (a.eval l) (a.eval c)) (by simp only [execOp,ho]) (aQT hE.1 hR (hrd l) (hrd c) hu) rfl
  ·rw [hpg,cond_true] at h
   obtain ⟨u,H',hu,rfl⟩:=BB h;exact some' (s:=Instr.makeSlice ty (a.eval l) (a.eval c)) (by simp only [execOp,ho]) (aQY hR (hrd l) (hrd c) hu) rfl
 ·-- slice
  rename_i ty x lo hi ho;obtain ⟨u,hu,rfl⟩:=pB h;exact same (s:=Instr.sliceAt ty (a.eval x) (lo.map a.eval) (hi.map a.eval) none) (by simp only [execOp,ho,Option.map_none]) (aSW hR (hrd x) (aFJ hrd lo) (aFJ hrd hi) hu) rfl
 ·-- fieldAddr
  rename_i ty x f ho;obtain ⟨u,hu,rfl⟩:=kW h;exact same (s:=Instr.fieldAt ty (a.eval x) f) (by simp only [execOp,ho]) (aQP (hrd x) hu) rfl
 ·-- field
  rename_i ty x f ho;obtain ⟨u,hu,rfl⟩:=kW h;exact same (s:=Instr.field ty (a.eval x) f) (by simp only [execOp,ho]) (aT9 (hrd x) hu) rfl
 ·-- indexAddr
  rename_i ty x i ho;obtain ⟨u,hu,rfl⟩:=pB h;exact same (s:=Instr.indexAt ty (a.eval x) (a.eval i)) (by simp only [execOp,ho]) (aQR (hrg x) (hrd i) hu) rfl
 ·-- index
  rename_i ty x i ho;obtain ⟨u,hu,rfl⟩:=pB h;exact same (s:=Instr.index ty (a.eval x) (a.eval i)) (by simp only [execOp,ho]) (aSZ (hrd x) (hrd i) hu) rfl
 ·-- extract
  rename_i x i ho;split at h;rotate_left
  ·cases h
  rename_i vs hvs;obtain ⟨u,hu,rfl⟩:=kW h;have hx:=hrd x;rw [hvs] at hx;generalize he:a.eval x=xv at hx
  cases hx with
  | tup _ _ xs hl hr =>
   have hi:i<xs.length:=by rw [hl]; exact (List.getElem?_eq_some_iff.1 hu).1
   exact same (s:=Instr.extract (a.eval x) i) (by simp only [execOp,ho]) ⟨xs[i],by rw [he]; simp [Instr.extract,hi],hr i u _ hu (by simp [hi])⟩ rfl
 ·-- makeInterface
  rename_i ty x ho;split at h
  ·cases h
  ·rename_i d hu hd
   simp only [hold,Tree.run,ZH3] at h;refine same (s:=Instr.makeInterface ty (a.eval x)) (by simp only [execOp,ho]) ⟨.iface ty (a.eval x),?_,.ifc β ty _ _ (hrd x)⟩ h.symm;simp only [Instr.makeInterface,Sem.run_bind,cZ w hd,Result.andThen_ok]
   cases d <;> first | rfl | (exfalso; simp_all)
  ·cases h
 ·-- typeAssert
  rename_i x ty' as ok ho;split at h
  ·cases h
  ·rename_i ty v d hd hv hu
   cases hb:Nat.beq ty as
   ·rw [hb] at h; cases h
   rw [hb] at h;simp only [cond_true,hold,Tree.run,ZH3] at h;have hb:=ZG1 hb;subst hb;have hx:=hrd x;rw [hv] at hx;generalize hev:a.eval x=xv at hx
   cases hx with
   | ifc _ _ _ z hz =>
    refine same (s:=Instr.typeAssert (a.eval x) ty' ty ok) (by simp only [execOp,ho]) ⟨if ok then .tuple #[z,.bool true] else z,?_,?_⟩ h.symm
    ·rw [hev]
     simp only [Instr.typeAssert,Sem.run_bind,cZ w hu,Result.andThen_ok]
     cases d <;> first | (exfalso; simp_all; done) | (simp; done)
    ·cases ok
     ·exact hz
     ·exact .tup β _ [z,.bool true] rfl (fun k v x h1 h2=>by
       match k with
       | 0=>simp only [ZC3,ZH3] at h1 h2; subst h1; subst h2; exact hz
       | 1=>simp only [List.getElem?_cons_succ,ZC3,ZH3] at h1 h2; subst h1; subst h2; exact .bool _ _
       | k+2=>simp at h1)
  ·cases h
 ·-- panic
  rename_i x ho;split at h;rotate_left
  ·cases h
  rename_i ty v hv;simp only [Tree.run,ZH3] at h;subst h;have hx:=hrd x;rw [hv] at hx;generalize hev:a.eval x=xv at hx;have hx' := hx;cases hx;unfold Oper.wp;simp only [execOp,ho,hev];exact hk _ w β (Step.refl hR) hx'
 ·-- makeMap
  rename_i ty ho;simp only [Tree.run,ZH3] at h;exact some' (s:=Instr.makeMap ty none) (by simp only [execOp,ho]; rfl) (aR1 hR ty) h.symm
 ·-- lookup
  rename_i ty x i ok ho;obtain ⟨u,hu,rfl⟩:=pB h;exact same (s:=Instr.lookup ty (a.eval x) (a.eval i) ok) (by simp only [execOp,ho]) (aRZ hR (hrd x) (hrd i) hu) rfl
 ·-- mapUpdate
  rename_i ty m k x ho;obtain ⟨H',h1,h2⟩:=bD h;simp only [Tree.run,ZH3] at h2;subst h2;obtain ⟨w',β',g1,g2⟩:=aQQ hR (hrd m) (hrd k) (hrd x) h1;exact aJO (s:=Instr.mapUpdate ty (a.eval m) (a.eval k) (a.eval x)) (by simp only [execOp,ho]) g1 (hk _ w' β' g2 (.any _ _))
 ·-- range
  rename_i ty x ho;obtain ⟨u,H',rfl,z,w',β',g1,g2,g3⟩:=aSY hR (hrd x) h;exact some' (s:=Instr.range ty (a.eval x)) (by simp only [execOp,ho]) ⟨z,w',β',g1,g2,g3⟩ rfl
 ·-- next
  rename_i it isString ho;cases isString
  ·cases h
  rw [cond_true] at h;obtain ⟨u,H',rfl,z,w',β',g1,g2,g3⟩:=aUT (ty:=o.type) hR (hrd it) h;exact some' (s:=Instr.next (a.eval it) true o.type) (by simp only [execOp,ho]) ⟨z,w',β',g1,g2,g3⟩ rfl
 ·-- builtin
  rename_i b args argTypes ho
  have he:execOp a.eval o=(builtin b argTypes o.type (args.map fun | .const _=>true | _=>false) (args.map a.eval)):=by
   simp only [execOp,ho,resolve,invoke];rfl
  have val:∀ {s:Sem Value} {u:V} {H' : List O},builtin b argTypes o.type (args.map fun | .const _=>true | _=>false) (args.map a.eval)=(do pure (Next.value (<- s))) ->
    (∃ z w' β',s.run cx.P w = .ok z w' /\ Step E H β w H' β' w' /\ R w' (Xs E H' β') β' u z)->res = .ok u H' -> o.wp cx.P a w K Q:=by
   intro s u H' hb;exact some' (he.trans hb)
  have two:∀ x y,args.toList=[x,y]->args.map a.eval = #[a.eval x,a.eval y]:=by
   intro x y h; apply Array.ext'; simp [h]
  have one:∀ x,args.toList=[x]->args.map a.eval = #[a.eval x]:=by
   intro x h; apply Array.ext'; simp [h]
  cases hap:IG cx o b;rotate_left
  ·rw [hap,cond_true] at h
   have hbb:b = .append:=by
    unfold IG at hap;split at hap
    ·rfl
    ·cases hap
   subst hbb;unfold aOT at h;split at h;rotate_left
   ·cases h
   rename_i s x hargs
   obtain ⟨x1,x2,hl,rfl,rfl⟩:∃ x1 x2,args.toList=[x1,x2]/\s=rd t x1/\x=rd t x2:=by
    rcases hl:args.toList with _ | ⟨x1,_ | ⟨x2,_ | ⟨_,_⟩⟩⟩ <;> simp [hl] at hargs
    exact ⟨x1,x2,rfl,hargs.1.symm,hargs.2.symm⟩
   unfold sB at h;split at h;rotate_left
   ·cases h
   rename_i p hp;obtain ⟨u,H'⟩:=p;simp only [Tree.run,ZH3] at h;exact val (s:=Builtin.append_ argTypes o.type (args.map a.eval)) rfl (by rw [two _ _ hl]; exact aQZ hR (hrd x1) (hrd x2) hp) h.symm
  rw [hap,cond_false] at h;unfold KB at h;split at h
  ·rename_i s x hargs
   obtain ⟨x1,x2,hl,rfl,rfl⟩:∃ x1 x2,args.toList=[x1,x2]/\s=rd t x1/\x=rd t x2:=by
    rcases hl:args.toList with _ | ⟨x1,_ | ⟨x2,_ | ⟨_,_⟩⟩⟩ <;> simp [hl] at hargs
    exact ⟨x1,x2,rfl,hargs.1.symm,hargs.2.symm⟩
   obtain ⟨u,H',hu,rfl⟩:=BB h;exact val (s:=Builtin.append_ argTypes o.type (args.map a.eval)) rfl (by rw [two _ _ hl]; exact aRV hE.1 hR (hrd x1) (hrd x2) hu) rfl
  ·rename_i x hargs
   obtain ⟨x1,hl,rfl⟩:∃ x1,args.toList=[x1]/\x=rd t x1:=by
    rcases hl:args.toList with _ | ⟨x1,_ | ⟨_,_⟩⟩ <;> simp [hl] at hargs
    exact ⟨x1,rfl,hargs.symm⟩
   obtain ⟨u,hu,rfl⟩:=kW h;obtain ⟨z,h1,h2⟩:=aVT (ty:=o.type) hR (hrd x1) hu;exact val (s:=Builtin.len_ argTypes o.type (args.map a.eval)) rfl ⟨z,w,β,by rw [one _ hl]; exact h1,Step.refl hR,h2⟩ rfl
  ·rename_i x hargs
   obtain ⟨x1,hl,rfl⟩:∃ x1,args.toList=[x1]/\x=rd t x1:=by
    rcases hl:args.toList with _ | ⟨x1,_ | ⟨_,_⟩⟩ <;> simp [hl] at hargs
    exact ⟨x1,rfl,hargs.symm⟩
   obtain ⟨u,hu,rfl⟩:=kW h;obtain ⟨z,h1,h2⟩:=aZ9 (ty:=o.type) hR (hrd x1) hu;exact val (s:=Builtin.cap_ argTypes o.type (args.map a.eval)) rfl ⟨z,w,β,by rw [one _ hl]; exact h1,Step.refl hR,h2⟩ rfl
  ·rename_i s x hargs
   obtain ⟨x1,x2,hl,rfl,rfl⟩:∃ x1 x2,args.toList=[x1,x2]/\s=rd t x1/\x=rd t x2:=by
    rcases hl:args.toList with _ | ⟨x1,_ | ⟨x2,_ | ⟨_,_⟩⟩⟩ <;> simp [hl] at hargs
    exact ⟨x1,x2,rfl,hargs.1.symm,hargs.2.symm⟩
   obtain ⟨u,hu,rfl⟩:=kW h;obtain ⟨z,h1,h2⟩:=aYS (argTypes:=argTypes) (ty:=o.type) (hrd x1) (hrd x2) hu;exact val (s:=Builtin.max_ argTypes o.type (args.map a.eval)) rfl ⟨z,w,β,by rw [two _ _ hl]; exact h1,Step.refl hR,h2⟩ rfl
  ·rename_i s x hargs
   obtain ⟨x1,x2,hl,rfl,rfl⟩:∃ x1 x2,args.toList=[x1,x2]/\s=rd t x1/\x=rd t x2:=by
    rcases hl:args.toList with _ | ⟨x1,_ | ⟨x2,_ | ⟨_,_⟩⟩⟩ <;> simp [hl] at hargs
    exact ⟨x1,x2,rfl,hargs.1.symm,hargs.2.symm⟩
   obtain ⟨u,hu,rfl⟩:=kW h;obtain ⟨z,h1,h2⟩:=aWW (argTypes:=argTypes) (ty:=o.type) (hrd x1) (hrd x2) hu;exact val (s:=Builtin.min_ argTypes o.type (args.map a.eval)) rfl ⟨z,w,β,by rw [two _ _ hl]; exact h1,Step.refl hR,h2⟩ rfl
  ·rename_i ty v hargs
   obtain ⟨x1,hl,hv⟩:∃ x1,args.toList=[x1]/\rd t x1 = .ifc ty v:=by
    rcases hl:args.toList with _ | ⟨x1,_ | ⟨_,_⟩⟩ <;> simp [hl] at hargs
    exact ⟨x1,rfl,hargs⟩
   simp only [Tree.run,ZH3] at h;subst h;have hx:=hrd x1;rw [hv] at hx;generalize hev:a.eval x1=xv at hx;have hx' := hx;cases hx;unfold Oper.wp;rw [he];simp only [builtin,one _ hl,hev];exact hk _ w β (Step.refl hR) hx'
  ·cases h
 ·-- call
  rename_i f args argTypes ho;exact aV3 rfl hT.1 hT.2.1 hT.2.2.1 hE hR hF ho rfl h hk
 ·cases h
end
end Go.Ab

namespace Go.Ab
def Tree.all {β:Type} (Q:β->Prop):Tree β->Prop
 | .leaf b=>Q b
 | .fail=>False
 | .br c x y=>(c=true->x.all Q)/\(c=false->y.all Q)
theorem Tree.all_run {β:Type} {Q:β->Prop} {x:Tree β} (h:x.all Q):∃ b,x.run=some b/\Q b:=by
 induction x with
 | leaf b=>exact ⟨b,rfl,h⟩
 | fail=>exact h.elim
 | br c x y a d =>
  cases c
  ·exact d (h.2 rfl)
  ·exact a (h.1 rfl)
theorem Tree.gH {β:Type} {Q:β->Prop} {x:Tree β} {b:β} (h:x.run=some b) (f:Q b):x.all Q:=by
 induction x with
 | leaf c=>simp only [Tree.run,ZH3] at h; subst h; exact f
 | fail=>cases h
 | br c x y d e =>
  refine ⟨fun a=>?_,fun a=>?_⟩
  ·subst a; exact d h
  ·subst a; exact e h
structure Good (E:Nat->Nat->Prop) (H0:List O) (β0:List Loc) (w0:World) (n:Nat) (D:List Deferred) (t:T) (H:List O) (β:List Loc) (a:Act) (w:World):Prop where
 step:Step E H0 β0 w0 H β w
 fr:FR w (Xs E H β) β n t a
 defers:a.defers=D
def kL (E:Nat->Nat->Prop) (d:List O) (b:List Loc) (w0:World) (n:Nat) (D:List Deferred) (Q:AEx->T->List O->Prop):Exit->Act->World->Prop
 | .normal,a,w=>∃ t H β,Q .normal t H/\Good E d b w0 n D t H β a w
 | .exit id,a,w=>∃ t H β,Q (.exit id) t H/\Good E d b w0 n D t H β a w
 | .ret,a,w=>∃ t H β,Q .ret t H/\Good E d b w0 n D t H β a w
 | .panic c,a,w=>∃ t H β v x,Q (.panic v) t H/\Good E d b w0 n D t H β a w/\R w (Xs E H β) β v x/\c=[{ v:=x,recovered:=false }]
 | _,_,_=>False
def aI (P:Program) (n:Nat) (c:Code) (Q:AEx->T->List O->Prop) (t:T) (H:List O):Prop:=
 ∀ E d b w0 D β a w,gJ P E d b w0->Good E d b w0 n D t H β a w->c.wp P (kL E d b w0 n D Q) a w
theorem gJ.now {P:Program} {E H0 β0 w0 H β w} (h:gJ P E H0 β0 w0) (s:Step E H0 β0 w0 H β w):gJ P E H β w:=by
 refine ⟨fun b o hb=>?_,fun p d=>(h.2 p d).stab s.stab [] (.refl _)⟩;obtain ⟨a,h2⟩:=h.1 b o hb;refine ⟨Nat.lt_of_lt_of_le a s.size,fun c=>?_⟩
 rcases s.own b o c with h | h
 ·exact h2 h
 ·omega
section
variable {P:Program} {n:Nat} {Q Q' : AEx->T->List O->Prop} {t:T} {H:List O}
theorem kL.mono {E H0 β0 w0 D} (h:∀ e t H,Q e t H->Q' e t H) {e:Exit} {a:Act} {w:World} (b:kL E H0 β0 w0 n D Q e a w):kL E H0 β0 w0 n D Q' e a w:=by
 cases e with
 | normal=>obtain ⟨t,H,β,h1,h2⟩:=b; exact ⟨t,H,β,h _ _ _ h1,h2⟩
 | exit id=>obtain ⟨t,H,β,h1,h2⟩:=b; exact ⟨t,H,β,h _ _ _ h1,h2⟩
 | ret=>obtain ⟨t,H,β,h1,h2⟩:=b; exact ⟨t,H,β,h _ _ _ h1,h2⟩
 | panic c=>obtain ⟨t,H,β,v,x,h1,h2⟩:=b; exact ⟨t,H,β,v,x,h _ _ _ h1,h2⟩
 | goto l=>exact b.elim
 | outgrown=>exact b.elim
theorem aI.mono {c:Code} (h:aI P n c Q t H) (i:∀ e t H,Q e t H->Q' e t H):aI P n c Q' t H:=
 fun E d b w0 D β a w j f=>wp_mono (h E d b w0 D β a w j f) fun _ _ _ g=>kL.mono i g
theorem a36 (h:Q .normal t H):aI P n .skip Q t H:=fun _ _ _ _ _ β _ _ _ a=>wp_skip ⟨t,H,β,h,a⟩
theorem a5E (h:Q .ret t H):aI P n .ret Q t H:=fun _ _ _ _ _ β _ _ _ a=>wp_ret ⟨t,H,β,h,a⟩
theorem a1Z {id:Nat} (h:Q (.exit id) t H):aI P n (.exit id) Q t H:=fun _ _ _ _ _ β _ _ _ a=>wp_exit ⟨t,H,β,h,a⟩
def xE (K:T->List O->Prop) (Q:AEx->T->List O->Prop):AEx->T->List O->Prop
 | .normal,t,H=>K t H
 | e,t,H=>Q e t H
theorem cL {x y:Code} (h:aI P n x (xE (aI P n y Q) Q) t H):aI P n (.seq x y) Q t H:=by
 intro E d c w0 D β a w f i;refine wp_seq (wp_mono (h E d c w0 D β a w f i) ?_);intro e g w' b
 cases e with
 | normal=>obtain ⟨t',H',β',h1,h2⟩:=b; exact h1 E d c w0 D β' g w' f h2
 | exit id=>exact b
 | ret=>exact b
 | panic j=>exact b
 | goto l=>exact b.elim
 | outgrown=>exact b.elim
def vV (id:Nat) (Q:AEx->T->List O->Prop):AEx->T->List O->Prop
 | .exit j,t,H=>if j=id then Q .normal t H else Q (.exit j) t H
 | e,t,H=>Q e t H
theorem mA {id:Nat} {c:Code} (h:aI P n c (vV id Q) t H):aI P n (.block id c) Q t H:=by
 intro E f d w0 D β a w i g;refine wp_block (wp_mono (h E f d w0 D β a w i g) ?_);intro e k w' b
 cases e with
 | normal=>exact b
 | exit j =>
  obtain ⟨t',H',β',h1,h2⟩:=b;simp only [Exit.inBlock];simp only [vV] at h1;by_cases hj:j=id
  ·simp only [hj,if_true] at h1 ⊢; exact ⟨t',H',β',h1,h2⟩
  ·simp only [hj,if_false] at h1 ⊢; exact ⟨t',H',β',h1,h2⟩
 | ret=>exact b
 | panic m=>exact b
 | goto l=>exact b.elim
 | outgrown=>exact b.elim
theorem RJ {β:List Loc} {w:World} {X:Nat->Nat->Prop} {a:Act} {d:Nat} {b:Bool} (h:FR w X β n t a) (hb:get d t = .bool b):FR w X β n (put d (.bool b) t) a:=by
 refine ⟨h.size,fun e=>?_⟩;rw [tH];split
 ·rename_i c
  subst c;rw [<- hb]; exact h.slot e
 ·exact h.slot e
theorem a1E {d:Nat} {x y:Code} {b:Bool} (i:get d t = .bool b) (m:b=true->aI P n x Q (put d (.bool true) t) H) (l:b=false->aI P n y Q (put d (.bool false) t) H) :
  aI P n (.cond (.tmp d) x y) Q t H:=by
 intro E g c w0 D β a w j f;have h:=q5 f.fr (.tmp d);simp only [rd,i] at h;generalize k:a.eval (.tmp d)=v at h;cases h;have e : Good E g c w0 n D (put d (.bool b) t) H β a w:=⟨f.step,RJ f.fr i,f.defers⟩;refine wp_cond k ?_;cases b
 ·exact l rfl E g c w0 D β a w j e
 ·exact m rfl E g c w0 D β a w j e
theorem aYZ {c:Operand} {x y:Code} {b:Bool} (i:rd t c = .bool b) (l:b=true->aI P n x Q t H) (k:b=false->aI P n y Q t H) :
  aI P n (.cond c x y) Q t H:=by
 intro E g d w0 D β a w h e;have f:=q5 e.fr c;rw [i] at f;generalize j:a.eval c=v at f;cases f;refine wp_cond j ?_;cases b
 ·exact k rfl E g d w0 D β a w h e
 ·exact l rfl E g d w0 D β a w h e
def dK (t s:T):Prop:=∀ d,get d s=get d t\/get d s = .any
theorem dK.refl (t:T):dK t t:=fun _=>.inl rfl
theorem dK.bC (l:List Nat) (t:T):dK t (bC l t):=fun d=>RS l d t
theorem FR.le {β:List Loc} {w:World} {X:Nat->Nat->Prop} {a:Act} {s:T} (h:FR w X β n t a) (b:dK t s):FR w X β n s a:=
 ⟨h.size,fun d=>by rcases b d with e | e <;> rw [e]; exact h.slot d; exact .any _ _⟩
theorem aI.less {c:Code} {s:T} (f:dK t s) (h:aI P n c Q s H):aI P n c Q t H:=
 fun E e d w0 D β a w g b=>h E e d w0 D β a w g ⟨b.step,b.fr.le f,b.defers⟩
theorem JU {α:Type} (st:α->T × List O) (g:α->Nat) {body:Code}
  (h:∀ i,aI P n body (fun e t H=>match e with | .normal=>∃ j,g j<g i/\dK t (st j).1/\H=(st j).2 | e=>Q e t H) (st i).1 (st i).2) (i:α) :
  aI P n (.loop body) Q (st i).1 (st i).2:=by
 intro E o c w0 D β a w s p b k cs
 have key:∀ m i β a w,g i=m->Good E o c w0 n D (st i).1 (st i).2 β a w ->
   ∃ e f w',kL E o c w0 n D Q e f w' /\ Arrives P (lone (b.at a (.code body :: .inLoop body :: k)) cs w) b k cs e f w' := by
  intro m
  induction m using Nat.strongRecOn with
  | _ m u =>
   intro i β a w r p;obtain ⟨e,a₁,w₁,hq,harr⟩:=h i E o c w0 D β a w s p b (.inLoop body :: k) cs
   cases e with
   | normal =>
    obtain ⟨t',H',β',⟨j,hlt,hle,rfl⟩,hg'⟩:=hq;obtain ⟨d,a₂,w₂,hq₂,harr₂⟩:=u (g j) (r ▸ hlt) j β' a₁ w₁ rfl ⟨hg'.step,hg'.fr.le hle,hg'.defers⟩;exact ⟨d,a₂,w₂,hq₂,.of_steps (Steps.trans harr (.one step_inLoop)) harr₂⟩
   | exit id=>exact ⟨.exit id,a₁,w₁,hq,.pass (x:=.inLoop body) rfl (fun _ _=>.inl (by simp)) harr⟩
   | ret=>exact ⟨.ret,a₁,w₁,hq,.pass (x:=.inLoop body) rfl (fun _ _=>.inl (by simp)) harr⟩
   | panic q=>exact ⟨.panic q,a₁,w₁,hq,.pass (x:=.inLoop body) rfl (fun _ _=>.inl (by simp)) harr⟩
   | goto l=>exact hq.elim
   | outgrown=>exact hq.elim
 obtain ⟨e,f,w',hq,harr⟩:=key _ i β a w rfl p;exact ⟨e,f,w',hq,.of_steps (.one step_loop) harr⟩
theorem aCZ {cx:Cx} (K:aW cx) {ops:Array Oper} {E H0 β0 w0 D} (M:gJ cx.P E H0 β0 w0) {Q:AEx->T->List O->Prop} :
  ∀ (l:List Oper) (k:Nat) (t:T) (H:List O) (β:List Loc) (a:Act) (w:World),ops.toList.drop k=l->(dD cx ops l t H).all (fun s=>Q s.1 s.2.1 s.2.2) ->
   Good E H0 β0 w0 cx.n D t H β a w->wpOps cx.P ops (kL E H0 β0 w0 cx.n D Q) (List.range' k l.length) a w
 | [],k,t,H,β,a,w,_,h,e=>⟨bC cx.keeps t,H,β,h,⟨e.step,e.fr.bC _,e.defers⟩⟩
 | o :: r,k,t,H,β,a,w,hl,h,e=>by
  have S:ops.toList[k]? = some o:=by
   have:=congrArg (fun l=>l[0]?) hl;simpa using this
  have I : ops[k]? = some o:=by simpa using S
  have L:ops.toList.drop (k+1)=r:=by
   have:=congrArg List.tail hl;simpa [List.tail_drop] using this
  have N:=aCZ K M (ops:=ops) (Q:=Q) (D:=D) r (k+1);simp only [List.length_cons,List.range'_succ,wpOps,I]
  have put:∀ v x t H β a w,(kI cx o v t H (dD cx ops r)).all (fun s=>Q s.1 s.2.1 s.2.2)->R w (Xs E H β) β v x->Good E H0 β0 w0 cx.n D t H β a w ->
    wpOps cx.P ops (kL E H0 β0 w0 cx.n D Q) (List.range' (k+1) r.length) (a.put o.dst x) w:=by
   intro v x t H β a w A i e;unfold kI wV at A
   cases p:o.dst with
   | none =>
    simp only [p] at A;simp only [Act.put];exact N t H β a w L A e
   | some d =>
    simp only [p] at A;cases hb:Nat.blt d cx.n
    ·simp [hb,Tree.all] at A
    ·simp only [hb,cond_true] at A
     have J:d<cx.n:=by simpa [Nat.blt_eq] using hb
     exact N _ H β _ w L A ⟨e.step,e.fr.put J i,e.defers⟩
  have run:∀ t,FR w (Xs E H β) β cx.n t a->((aP cx t H o).bind (mV cx o t (dD cx ops r))).all (fun s=>Q s.1 s.2.1 s.2.2) ->
    o.wp cx.P a w (wpOps cx.P ops (kL E H0 β0 w0 cx.n D Q) (List.range' (k+1) r.length)) (kL E H0 β0 w0 cx.n D Q):=by
   intro t z F;obtain ⟨s,hs1,hs2⟩:=Tree.all_run F;obtain ⟨res,hres,p⟩:=bD hs1;refine JG K (M.now e.step) e.step.rel z hres ?_
   cases res with
   | ok v H' =>
    intro x w' B st i;exact put v x t H' B a w' (Tree.gH p hs2) i ⟨e.step.trans st,z.step st,e.defers⟩
   | pan v H' =>
    intro x w' B st i;simp only [mV,Tree.run,ZH3] at p;subst p;exact ⟨t,H',B,v,x,hs2,⟨e.step.trans st,z.step st,e.defers⟩,i,rfl⟩
  unfold dD zG at h;split at h
  ·rename_i f
   have m:Region.wanted o (yielded ops a.tmps)=true:=by simp [Region.wanted,f]
   simp only [m,if_true];exact .inl (run t e.fr h)
  ·rename_i j y f
   split at h;rotate_left
   ·exact h.elim
   rename_i d p;have c:=e.fr.slot d
   have u:∀ b,a.tmps.getD d undef = .bool b->yielded ops a.tmps j=some b:=by
    intro b hb;unfold yielded;rw [p];simp only [ZH1];rw [ZI0] at hb
    cases G:a.tmps[d]? with
    | none=>rw [G] at hb; simp [undef] at hb
    | some q=>rw [G] at hb; simp at hb; subst hb; rfl
   split at h
   ·rename_i b hb
    rw [hb] at c;generalize i:a.tmps.getD d undef=v at c;cases c;have C:=u b i;have g := RJ e.fr hb;cases b
    ·have h:=h.2 rfl
     cases y
     ·have m:Region.wanted o (yielded ops a.tmps)=true:=by simp [Region.wanted,f,C]
      simp only [m,if_true];exact .inl (run _ g h)
     ·have m:Region.wanted o (yielded ops a.tmps)=false:=by simp [Region.wanted,f,C]
      simp only [m,Bool.false_eq_true,if_false];exact put lJ undef _ H β a w h (.val _ _) ⟨e.step,g,e.defers⟩
    ·have h:=h.1 rfl
     cases y
     ·have m:Region.wanted o (yielded ops a.tmps)=false:=by simp [Region.wanted,f,C]
      simp only [m,Bool.false_eq_true,if_false];exact put lJ undef _ H β a w h (.val _ _) ⟨e.step,g,e.defers⟩
     ·have m:Region.wanted o (yielded ops a.tmps)=true:=by simp [Region.wanted,f,C]
      simp only [m,if_true];exact .inl (run _ g h)
   ·rename_i vs hb
    rw [hb] at c;generalize i:a.tmps.getD d undef=v at c;cases c
    have C:yielded ops a.tmps j=none:=by
     unfold yielded;rw [p];simp only [ZH1];rw [ZI0] at i
     cases G:a.tmps[d]? with
     | none=>rfl
     | some q=>rw [G] at i; simp at i; subst i; rfl
    have m:Region.wanted o (yielded ops a.tmps)=false:=by simp [Region.wanted,f,C]
    simp only [m,Bool.false_eq_true,if_false];exact put lJ undef t H β a w h (.val _ _) e
   ·exact h.elim
theorem aWH {cx:Cx} (b:cx.P=P) (e:cx.n=n) (c:aW cx) {id:Nat} {ops:Array Oper} (h:(dD cx ops ops.toList t H).all (fun s=>Q s.1 s.2.1 s.2.2)) :
  aI P n (.region id ops false) Q t H:=by
 intro E i g w0 D β a w f d;refine wp_region ?_;subst b;subst e;have:=aCZ c f (ops:=ops) (Q:=Q) (D:=D) ops.toList 0 t H β a w rfl h d;simpa [List.range_eq_range'] using this
end
end Go.Ab
