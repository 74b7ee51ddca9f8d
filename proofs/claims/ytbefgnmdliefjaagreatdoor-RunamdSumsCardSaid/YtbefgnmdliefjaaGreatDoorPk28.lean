/-
  runamd: rows of the program's Run and of the document's, alike, kind by kind. Conditions: none.
-/
import Derived.Test.YtbefgnmdliefjaaGreatDoorPk27
set_option linter.unusedVariables false
set_option linter.unusedSimpArgs false
namespace Go.Ra
open Go Go.Ab Go.Proofs Go.Amd
def Alike (x:RowT) (r g:RunTy):Prop:=∀ s a b c d m sz A B C D E,Fine s→lens5 A B C D E=true→okF x a b c d=true→(uI x=true→lowR x≤m∧m≤highR x) →
 Both s (r s a b c d m sz A B C D E) (g s a b c d m sz A B C D E)
structure Hy (x:RowT) (e:EnvR):Prop where
 s:Fine e.s
 l:lens5 e.A e.B e.C e.D e.E=true
 ok:okF x e.a e.b e.c e.d=true
 im:uI x=true→lowR x≤e.m∧e.m≤highR x
 bk:rng64 e.bk=true
def wE {x:RowT} {e:EnvR} (h:Hy x e):W:=⟨e.s,h.s.len⟩
theorem okReg_of {n:Int} (h:0≤n∧n<16):okReg n=true:=by
 simp only [okReg,Bool.and_eq_true,decide_eq_true_eq]
 omega
section
variable {x:RowT} {e:EnvR} (h:Hy x e)
include h
theorem Hy.a:okReg e.a=true:=by
 rcases ok_parts h.ok with ⟨_,g,_⟩ | ⟨_,g,_⟩ <;> exact okReg_of (reg_rng g)
theorem Hy.b (hu:uM x=false):okReg e.b=true:=by
 rcases ok_parts h.ok with ⟨g,_,_⟩ | ⟨_,_,g,_⟩
 ·rw [hu] at g; cases g
 ·exact okReg_of (reg_rng g)
theorem Hy.p (hu:uM x=true):(e.b=17∨((e.b == 17)=false∧okReg e.b=true))∧(e.c=16∨((e.c != 16)=true∧okReg e.c=true)):=by
 rcases ok_parts h.ok with ⟨_,_,g⟩ | ⟨g,_⟩
 ·rcases place_rng g with ⟨h1,h2,_⟩ | ⟨h1,h2,_⟩ | ⟨h1,h2,_⟩
  ·exact ⟨.inl h1,.inl h2⟩
  ·exact ⟨.inr ⟨by rw [beq_eq_false_iff_ne]; omega,okReg_of h1⟩,.inl h2⟩
  ·exact ⟨.inr ⟨by rw [beq_eq_false_iff_ne]; omega,okReg_of h1⟩,.inr ⟨by rw [bne_iff_ne]; omega,okReg_of h2⟩⟩
 ·rw [hu] at g; cases g
theorem Hy.d (hu:uM x=false):0≤e.d∧e.d<16:=by
 rcases ok_parts h.ok with ⟨g,_⟩ | ⟨_,_,_,_,g⟩
 ·rw [hu] at g; cases g
 ·rcases g with g | ⟨_,g⟩
  ·omega
  ·exact cond_rng g
theorem Hy.r (n:Int):rng64 (regW (wE h) n)=true:=h.s.rng _
end
theorem nx_rng (s:CpuT) (sz:Int):rng64 (wu (s.pc+wu sz))=true:=rng_wu _
def Does (e:EnvR) (nx:Int) (r:(List V→Option Res)→Option Res) (g:(Int→List V→Option Res)→Option Res):Prop:=
 ∃ (t t' : W) (er:Int),(er=0∨er=21)∧(er=0→Fine t.1∧t' = t)∧(∀ k,r k=cond (er != 0) (faultK e) (k (t.1.l++tlP e nx)))∧(∀ k,g k=k nx (t'.1.l++tlD e er))
theorem does_both {e:EnvR} {nx:Int} {r g} (hs:Fine e.s) (hl:lens5 e.A e.B e.C e.D e.E=true) (hn:rng64 nx=true) (h:Does e nx r g) :
  Both e.s (r (finS (memO e.A e.B e.C e.D e.E))) (g fun to=>finG e.s to 0 (refO e.A e.B e.C e.D e.E)):=by
 obtain ⟨t,t',er,h1,h2,h3,h4⟩:=h
 rw [h3,h4,finS_R,finG_R]
 rcases h1 with rfl | rfl
 ·obtain ⟨f1,rfl⟩:=h2 rfl
  exact both_out (fine_pc f1 hn) 0 hl
 ·exact both_err hs 21 hl
theorem al_row {x:RowT} {f:BodyR} {g:EnvR→Int→List V→KS→Option Res} {nm:List UInt8}
  (h:∀ e (hy:Hy x e),Does e e.bk (f e ((wE hy).1.l++tlP e e.bk)) fun k=>g e (regW (wE hy) e.a) ((wE hy).1.l++tlD e 0) (k e.bk)):Alike x (mvR f nm) (oneD g nm):=by
 intro s a b c d m sz A B C D E hs hl ho hi
 have hy:Hy x (envF s nm a b c d m sz A B C D E):=⟨hs,hl,ho,hi,nx_rng _ _⟩
 have hb:=does_both hs hl (nx_rng s sz) (h _ hy)
 unfold mvR oneD
 rw [stC_eq _ hs.len,dcC_eq _ hs.len,inX_R (a:=a) hy.a]
 exact hb
theorem al_flow {x:RowT} {f:BodyR} {g:EnvR→List V→(Int→KS)→Option Res} {nm:List UInt8}
  (h:∀ e (hy:Hy x e),∃ nx,rng64 nx=true∧Does e nx (f e ((wE hy).1.l++tlP e e.bk)) (g e ((wE hy).1.l++tlD e 0))):Alike x (mvR f nm) (floD g nm):=by
 intro s a b c d m sz A B C D E hs hl ho hi
 have hy:Hy x (envF s nm a b c d m sz A B C D E):=⟨hs,hl,ho,hi,nx_rng _ _⟩
 obtain ⟨nx,hn,hd⟩:=h _ hy
 exact does_both hs hl hn hd
theorem does_ok {e:EnvR} {nx:Int} {r g} (t:W) (ht:Fine t.1) (h1:∀ k,r k=k (t.1.l++tlP e nx)) (h2:∀ k,g k=k nx (t.1.l++tlD e 0)):Does e nx r g:=
 ⟨t,t,0,.inl rfl,fun _=>⟨ht,rfl⟩,h1,h2⟩
theorem does_bad {e:EnvR} {nx:Int} {r g} (t:W) (h1:∀ k,r k=faultK e) (h2:∀ k,g k=k nx (t.1.l++tlD e 21)):Does e nx r g:=
 ⟨t,t,21,.inr rfl,fun h=>absurd h (by decide),h1,h2⟩
section
variable {x:RowT} {nm:List UInt8}
theorem al_movrr (hu:uM x=false):Alike x (mvR (preRr fun e S k=>inA e.a (inX e.b S fun y=>putX e.a y S k)) nm) (oneD (fun e _ S k=>inX e.b S fun y=>setD e y S k) nm):=
 al_row fun e hy=>does_ok (putW e.a (regW (wE hy) e.b) (wE hy)) (fine_put hy.s _ (hy.r _))
  (fun k=>by simp only [preRr,inX_R (hy.b hu),inA_R hy.a,putX_R hy.a]) (fun k=>by simp only [inX_R (hy.b hu),setD_R hy.a _ _ e rfl])
theorem al_movri {f:BodyR} (hf:∀ e S k,f e S k=inA e.a (putX e.a (wu e.m) S k)∨f e S k=inA e.a (inA e.a (putX e.a (wu e.m) S k))):Alike x (mvR f nm) (oneD (fun e _ S k=>setD e (wu e.m) S k) nm):=
 al_row fun e hy=>does_ok (putW e.a (wu e.m) (wE hy)) (fine_put hy.s _ (rng_wu _))
  (fun k=>by rcases hf e ((wE hy).1.l++tlP e e.bk) k with h | h <;> (rw [h]; simp only [inA_R hy.a,putX_R hy.a])) (fun k=>by simp only [setD_R hy.a _ _ e rfl])
theorem adK_R {e:EnvR} (hy:Hy x e) (hu:uM x=true):∃ p,rng64 p=true ∧ ∀ (T:List V) (k:Int→Option Res),adK e ((wE hy).1.l++T) k=k p:=by
 obtain ⟨h1,h2⟩:=hy.p hu
 have g2:∀ z,rng64 z=true → ∃ p,rng64 p=true ∧ ∀ (T:List V) (k:Int→Option Res),adK2 e ((wE hy).1.l++T) z k=k p:=by
  intro z hz
  unfold adK2
  rcases h2 with h2 | ⟨h2,h3⟩
  ·refine ⟨z,hz,fun T k=>?_⟩
   rw [h2]
   rfl
  ·refine ⟨wu (z+wu (regW (wE hy) e.c*wu e.d)),rng_wu _,fun T k=>?_⟩
   rw [h2,cond_true,inX_R h3]
 unfold adK
 rcases h1 with h1 | ⟨h1,h3⟩
 ·obtain ⟨p,hp,g⟩:=g2 _ (rng_wu (wu e.m+e.bk))
  refine ⟨p,hp,fun T k=>?_⟩
  rw [h1]
  exact g T k
 ·obtain ⟨p,hp,g⟩:=g2 _ (rng_wu (wu e.m+regW (wE hy) e.b))
  refine ⟨p,hp,fun T k=>?_⟩
  rw [h1,cond_false,inX_R h3]
  exact g T k
theorem rng_ldN {A B C D E:List Int} {x:Int}:∀ (n:Nat) (v:Int),rng64 v=true→rng64 (ldN A B C D E x n v)=true
 | 0,_,h=>h
 | n+1,v,_=>rng_ldN n _ (rng_wu _)
theorem valLd_rng (A B C D E:List Int) (x n:Int):rng64 (valLd A B C D E x n)=true:=by
 unfold valLd
 cases mayB x n 4
 ·rfl
 ·exact rng_ldN _ 0 rfl
theorem errLd_or (p n:Int):errLd p n=0∨errLd p n=21:=by
 unfold errLd
 cases mayB p n 4
 ·exact .inr rfl
 ·exact .inl rfl
theorem errSt_or (p n:Int):errSt p n=0∨errSt p n=21:=by
 unfold errSt
 cases mayB p n 2
 ·exact .inr rfl
 ·exact .inl rfl
theorem loadK_R {e:EnvR} (hl:lens5 e.A e.B e.C e.D e.E=true) {p:Int} (hp:rng64 p=true) (n:Int) (k:Int→Option Res):loadK e p n k=cond (errLd p n != 0) (faultK e) (k (valLd e.A e.B e.C e.D e.E p n)):=by
 unfold loadK q
 rw [hl,hp]
 rfl
theorem loadD_R {e:EnvR} (hl:lens5 e.A e.B e.C e.D e.E=true) {p:Int} (hp:rng64 p=true) (n:Int) (t:W) (er:Int) (k:Int→KS) :
  loadD e p n (t.1.l++tlD e er) k=k (valLd e.A e.B e.C e.D e.E p n) (t.1.l++tlD e (errLd p n)):=by
 unfold loadD q
 rw [hl,hp,set40_R]
 rfl
theorem does_ld {e:EnvR} {nx:Int} {r:(List V→Option Res)→Option Res} {g:(Int→List V→Option Res)→Option Res} (p n:Int) (t:W) (ht:Fine t.1) (h1:∀ k,r k=cond (errLd p n != 0) (faultK e) (k (t.1.l++tlP e nx))) (h2:∀ k,g k=k nx (t.1.l++tlD e (errLd p n))):Does e nx r g:=
 ⟨t,t,errLd p n,errLd_or _ _,fun _=>⟨ht,rfl⟩,h1,h2⟩
theorem al_ld (hu:uM x=true) (n:Int) {f g:Int→Int} (hg:∀ y,g y=f y) (hf:∀ y,rng64 y=true→rng64 (f y)=true) :
  Alike x (ldR n f nm) (oneD (fun e _ S k=>adK e S fun p=>loadD e p n S fun y U=>setD e (g y) U k) nm):=
 al_row fun e hy=>by
  obtain ⟨p,hp,ha⟩:=adK_R hy hu
  refine does_ld p n (putW e.a (f (valLd e.A e.B e.C e.D e.E p n)) (wE hy)) (fine_put hy.s _ (hf _ (valLd_rng _ _ _ _ _ _ _))) (fun k=>?_) (fun k=>?_)
  ·simp only [inA_R hy.a,ha,loadK_R hy.l hp,putX_R hy.a]
  ·simp only [ha,loadD_R hy.l hp,setD_R hy.a _ _ e rfl,hg]
theorem al_lea (hu:uM x=true):Alike x (mvR (fun e S k=>inA e.a (adK e S fun x=>putX e.a x S k)) nm) (oneD (fun e _ S k=>adK e S fun p=>setD e p S k) nm):=
 al_row fun e hy=>by
  obtain ⟨p,hp,ha⟩:=adK_R hy hu
  exact does_ok (putW e.a p (wE hy)) (fine_put hy.s _ hp) (fun k=>by simp only [inA_R hy.a,ha,putX_R hy.a]) (fun k=>by simp only [ha,setD_R hy.a _ _ e rfl])
theorem al_fs:Alike x (fsR nm) (oneD (fun e _ S k=>loadD e (wu (e.s.th+wu e.m)) 8 S fun y U=>setD e y U k) nm):=
 al_row fun e hy=>by
  refine does_ld (wu (e.s.th+wu e.m)) 8 (putW e.a (valLd e.A e.B e.C e.D e.E (wu (e.s.th+wu e.m)) 8) (wE hy)) (fine_put hy.s _ (valLd_rng _ _ _ _ _ _ _)) (fun k=>?_) (fun k=>?_)
  ·simp only [inA_R hy.a,loadK_R hy.l (rng_wu _),putX_R hy.a]
  ·simp only [loadD_R hy.l (rng_wu _),setD_R hy.a _ _ e rfl]
theorem hold_eq (z n c v:Bool) {d:Int} (h0:0≤d) (h1:d<16):holdsF z n c v d=hdF z n c v d:=by
 obtain ⟨m,rfl⟩:=Int.eq_ofNat_of_zero_le h0
 have hm:m<16:=by omega
 have key:∀ m:Fin 16,∀ z n c v:Bool,holdsF z n c v ((m.val:Nat):Int)=hdF z n c v ((m.val:Nat):Int):=by decide +kernel
 exact key ⟨m,hm⟩ z n c v
theorem al_cmov (hu:uM x=false):Alike x (mvR (fun e S k=>inA e.a (cond (holdsF e.s.z e.s.n e.s.c e.s.v e.d) (inX e.b S fun y=>putX e.a y S k) (k S))) nm) (oneD (fun e _ S k=>cond (hdF e.s.z e.s.n e.s.c e.s.v e.d) (inX e.b S fun y=>setD e y S k) (k S)) nm):=
 al_row fun e hy=>by
  have he:=hold_eq e.s.z e.s.n e.s.c e.s.v (hy.d hu).1 (hy.d hu).2
  cases hh:hdF e.s.z e.s.n e.s.c e.s.v e.d
  ·exact does_ok (wE hy) hy.s (fun k=>by simp only [he,hh,inA_R hy.a,cond_false]) (fun k=>by simp only [hh,cond_false])
  ·exact does_ok (putW e.a (regW (wE hy) e.b) (wE hy)) (fine_put hy.s _ (hy.r _)) (fun k=>by simp only [he,hh,inA_R hy.a,cond_true,inX_R (hy.b hu),putX_R hy.a]) (fun k=>by simp only [hh,cond_true,inX_R (hy.b hu),setD_R hy.a _ _ e rfl])
theorem al_cqo:Alike x (mvR (fun e S k=>inA e.a (k (S.set 3 (.int .u64 (wu (Int.fdiv (wi (e.s.x.getD 0 0)) (2 ^ 63))))))) nm) (oneD (fun e _ S k=>k (S.set 3 (.int .u64 (wu (Int.fdiv (wi (e.s.x.getD 0 0)) (2 ^ 63)))))) nm):=
 al_row fun e hy=>does_ok (putW 2 (wu (Int.fdiv (wi (e.s.x.getD 0 0)) (2 ^ 63))) (wE hy)) (fine_put hy.s _ (rng_wu _)) (fun k=>by simp only [inA_R hy.a,set3_R]) (fun k=>by simp only [set3_R])
theorem al_nop:Alike x (mvR (fun e S k=>inA e.a (inA e.a (k S))) nm) (oneD (fun _ _ S k=>k S) nm):=
 al_row fun e hy=>does_ok (wE hy) hy.s (fun k=>by simp only [inA_R hy.a]) (fun k=>rfl)
theorem notI_rng (x:Int):rng64 (notI x)=true:=rng_wu _
theorem al_not:Alike x (mvR (fun e S k=>inA e.a (inA e.a (rdX e.a S fun x=>putX e.a (notI x) S k))) nm) (oneD (fun e x S k=>setD e (notI x) S k) nm):=
 al_row fun e hy=>does_ok (putW e.a (notI (regW (wE hy) e.a)) (wE hy)) (fine_put hy.s _ (notI_rng _)) (fun k=>by simp only [inA_R hy.a,rdX_R hy.a,putX_R hy.a]) (fun k=>by simp only [setD_R hy.a _ _ e rfl])
theorem fine_sum {t:W} (h:Fine t.1) (a b:Int):Fine (sumW a b t).1:=fine_fl h _ _ _ _
theorem fine_sub {t:W} (h:Fine t.1) (a b:Int):Fine (subW a b t).1:=fine_fl h _ _ _ _
theorem fine_log {t:W} (h:Fine t.1) (a:Int):Fine (logW a t).1:=fine_fl h _ _ _ _
theorem al_neg:Alike x (mvR (fun e S k=>inA e.a (inA e.a (rdX e.a S fun x=>subK 0 x S fun y T=>putX e.a y T k))) nm) (oneD (fun e x S k=>subD 0 x S fun v T=>setD e v T k) nm):=
 al_row fun e hy=>does_ok (putW e.a (wu (0 - regW (wE hy) e.a)) (subW 0 (regW (wE hy) e.a) (wE hy))) (fine_put (fine_sub hy.s _ _) _ (rng_wu _))
  (fun k=>by simp only [inA_R hy.a,rdX_R hy.a,subK_R (x:=(0:Int)) rfl (hy.r _),putX_R hy.a]) (fun k=>by simp only [subD_R (x:=(0:Int)) rfl (hy.r _),setD_R hy.a _ _ e rfl])
structure TwoV (F:TwoR) (G:EnvR→Int→Int→List V→KS→Option Res):Prop where
 al:∀ (x:RowT) (e:EnvR) (hy:Hy x e) (y:Int),rng64 y=true → ∃ t:W,Fine t.1∧(∀ T k,F e y ((wE hy).1.l++T) k=k (t.1.l++T))∧(∀ T k,G e (regW (wE hy) e.a) y ((wE hy).1.l++T) k=k (t.1.l++T))
theorem two_add:TwoV addT (fun e x y S k=>addD x y S fun v T=>keptD e v T k):=⟨fun x e hy y h=>⟨putW e.a (wu (regW (wE hy) e.a+y)) (sumW (regW (wE hy) e.a) y (wE hy)),fine_put (fine_sum hy.s _ _) _ (rng_wu _),
 fun T k=>by simp only [addT,inA_R hy.a,rdX_R hy.a,addK_R (hy.r _) h,putX_R hy.a],fun T k=>by simp only [keptD,addD_R (hy.r _) h,setD_R hy.a _ _ e rfl]⟩⟩
theorem two_sub:TwoV subT (fun e x y S k=>subD x y S fun v T=>keptD e v T k):=⟨fun x e hy y h=>⟨putW e.a (wu (regW (wE hy) e.a - y)) (subW (regW (wE hy) e.a) y (wE hy)),fine_put (fine_sub hy.s _ _) _ (rng_wu _),
 fun T k=>by simp only [subT,inA_R hy.a,rdX_R hy.a,subK_R (hy.r _) h,putX_R hy.a],fun T k=>by simp only [keptD,subD_R (hy.r _) h,setD_R hy.a _ _ e rfl]⟩⟩
theorem two_cmp:TwoV cmpT (fun e x y S k=>subD x y S fun v T=>lostD e v T k):=⟨fun x e hy y h=>⟨subW (regW (wE hy) e.a) y (wE hy),fine_sub hy.s _ _,
 fun T k=>by simp only [cmpT,inA_R hy.a,rdX_R hy.a,subK_R (hy.r _) h],fun T k=>by simp only [lostD,subD_R (hy.r _) h]⟩⟩
theorem two_log {f:Int→Int→Int} (hf:∀ a b,rng64 (f a b)=true):TwoV (logT f) (fun e x y S k=>logD f x y S fun v T=>keptD e v T k):=⟨fun x e hy y h=>⟨putW e.a (f (regW (wE hy) e.a) y) (logW (f (regW (wE hy) e.a) y) (wE hy)),fine_put (fine_log hy.s _) _ (hf _ _),
 fun T k=>by simp only [logT,inA_R hy.a,rdX_R hy.a,logS_R (hf _ _),putX_R hy.a],fun T k=>by simp only [keptD,logD_R (hf _ _),setD_R hy.a _ _ e rfl]⟩⟩
theorem two_test:TwoV testT (fun e x y S k=>logD andU x y S fun v T=>lostD e v T k):=⟨fun x e hy y h=>⟨logW (andU (regW (wE hy) e.a) y) (wE hy),fine_log hy.s _,
 fun T k=>by simp only [testT,inA_R hy.a,rdX_R hy.a,logS_R (andU_rng _ _)],fun T k=>by simp only [lostD,logD_R (andU_rng _ _)]⟩⟩
variable {F:TwoR} {G:EnvR→Int→Int→List V→KS→Option Res} (hF:TwoV F G)
include hF
theorem al_rr (hu:uM x=false):Alike x (rrR F nm) (oneD (fun e _ S k=>inX e.b S fun y=>inX e.a S fun x=>G e x y S k) nm):=
 al_row fun e hy=>by
  obtain ⟨t,ht,h1,h2⟩:=hF.al x e hy (regW (wE hy) e.b) (hy.r _)
  exact does_ok t ht (fun k=>by simp only [inX_R (hy.b hu),h1]) (fun k=>by simp only [inX_R (hy.b hu),inX_R hy.a,h2])
theorem al_ri:Alike x (riR F nm) (oneD (fun e _ S k=>inX e.a S fun x=>G e x (wu e.m) S k) nm):=
 al_row fun e hy=>by
  obtain ⟨t,ht,h1,h2⟩:=hF.al x e hy (wu e.m) (rng_wu _)
  exact does_ok t ht (fun k=>by simp only [h1]) (fun k=>by simp only [inX_R hy.a,h2])
theorem al_rm (hu:uM x=true):Alike x (rmR F nm) (oneD (fun e _ S k=>adK e S fun p=>loadD e p 8 S fun y U=>inX e.a U fun x=>G e x y U k) nm):=
 al_row fun e hy=>by
  obtain ⟨p,hp,ha⟩:=adK_R hy hu
  obtain ⟨t,ht,h1,h2⟩:=hF.al x e hy (valLd e.A e.B e.C e.D e.E p 8) (valLd_rng _ _ _ _ _ _ _)
  exact does_ld p 8 t ht (fun k=>by simp only [ha,loadK_R hy.l hp,h1]) (fun k=>by simp only [ha,loadD_R hy.l hp,inX_R hy.a,h2])
end
end Go.Ra

namespace Go.Ra
open Go Go.Ab Go.Proofs Go.Amd
theorem mulHi_rng {x y:Int} (hx:rng64 x=true) (hy:rng64 y=true):rng64 (mulHi x y)=true:=by
 obtain ⟨x0,x1⟩:=rng_spec hx
 obtain ⟨y0,y1⟩:=rng_spec hy
 refine rng_of (Int.ediv_nonneg (Int.mul_nonneg x0 y0) (by decide)) ?_
 refine (Int.ediv_lt_iff_lt_mul (by decide)).2 ?_
 have a:=Int.mul_le_mul_of_nonneg_right (show x≤18446744073709551615 by omega) y0
 have b:=Int.mul_le_mul_of_nonneg_left (show y≤18446744073709551615 by omega) (show (0:Int)≤18446744073709551615 by decide)
 omega
theorem dq_rng {h l y:Int} (hh:rng64 h=true) (hl:rng64 l=true) (hy:rng64 y=true) (hlt:h<y):rng64 (dq128 h l y)=true∧rng64 (dr128 h l y)=true:=by
 obtain ⟨h0,h1⟩:=rng_spec hh
 obtain ⟨l0,l1⟩:=rng_spec hl
 obtain ⟨y0,y1⟩:=rng_spec hy
 unfold dq128 dr128
 constructor
 ·refine rng_of (Int.ediv_nonneg (by omega) y0) ((Int.ediv_lt_iff_lt_mul (by omega)).2 ?_)
  have:=Int.mul_le_mul_of_nonneg_right (show h+1≤y by omega) (show (0:Int)≤18446744073709551616 by decide)
  rw [Int.mul_comm 18446744073709551616 y]
  omega
 ·have:=Int.emod_lt_of_pos (h*18446744073709551616+l) (show 0<y by omega)
  exact rng_of (Int.emod_nonneg _ (by omega)) (by omega)
def WdOk (wd:Int→Int→Int × Int):Prop:=∀ x y,rng64 x=true→rng64 y=true→(wd x y).1=mulHi x y∧(wd x y).2=wu (x*y)
def LgOk (lg:Int→Int→Int→Int × Int):Prop:=∀ h l y,rng64 h=true→rng64 l=true→rng64 y=true→h<y→(lg h l y).1=dq128 h l y∧(lg h l y).2=dr128 h l y
theorem regW_put {t:W} {a:Int} (ha:okReg a=true) (v:Int):regW (putW a v t) a=v:=by
 obtain ⟨h0,h1⟩:=okReg_in ha
 show (t.1.x.set a.toNat v).getD a.toNat 0=v
 have hl:=t.2
 rw [List.getD_eq_getElem?_getD,List.getElem?_set_self (by omega)]
 rfl
theorem putW_self {t:W} {a:Int} (ha:okReg a=true):putW a (regW t a) t=t:=by
 obtain ⟨h0,h1⟩:=okReg_in ha
 have hl:=t.2
 apply Subtype.ext
 show putS a (t.1.x.getD a.toNat 0) t.1=t.1
 unfold putS
 have e:t.1.x.set a.toNat (t.1.x.getD a.toNat 0)=t.1.x:=by
  rw [List.getD_eq_getElem?_getD,List.getElem?_eq_getElem (show a.toNat<t.1.x.length by omega)]
  exact List.set_getElem_self _
 rw [e]
section
variable {x:RowT} {nm:List UInt8}
def shW (a v:Int) (c:Bool) (t:W):W:=flW (v == 0) (hb v) c false (putW a v t)
theorem shE_R {a:Int} (ha:okReg a=true) {v:Int} (hv:rng64 v=true) (out:Int) (t:W) (T:List V) (k:KS):shE a out v (t.1.l++T) k=k ((shW a v (out != 0) t).1.l++T):=by
 unfold shE
 rw [putX_R ha,rdX_R ha,regW_put ha,sumS_R,negB_hb hv]
 rfl
theorem shD_R {e:EnvR} {a:Int} (ha:okReg a=true) (he:e.a=a) {v:Int} (hv:rng64 v=true) (c:Bool) (t:W) (T:List V) (k:KS):setD e v (nzS v c false (t.1.l++T)) k=k ((shW a v c t).1.l++T):=by
 rw [nzS_R,sh63_one hv,setD_R ha _ _ e he]
 rfl
theorem fine_sh {t:W} (h:Fine t.1) (a:Int) {v:Int} (hv:rng64 v=true) (c:Bool):Fine (shW a v c t).1:=fine_fl (fine_put h a hv) _ _ _ _
def ShV (P:Int→Int→List V→KS→Option Res) (D:EnvR→Int→Int→List V→KS→Option Res):Prop:=
 ∀ (x:RowT) (e:EnvR) (hy:Hy x e) (n:Int),rng64 n=true→n≤63 → ∃ t:W,Fine t.1∧(∀ T k,P e.a n ((wE hy).1.l++T) k=k (t.1.l++T))∧(∀ T k,D e (regW (wE hy) e.a) n ((wE hy).1.l++T) k=k (t.1.l++T))
theorem shl_rng (x n:Int):rng64 (shlF x n)=true:=rng_wu _
theorem q_true (k:Option Res):q true k=k:=rfl
theorem sh_shl:ShV shlK shlD:=by
 intro x e hy n hn _
 by_cases h0:n=0
 ·subst h0
  refine ⟨wE hy,hy.s,fun T k=>rfl,fun T k=>?_⟩
  show setD e _ _ k=_
  rw [setD_R hy.a _ _ e rfl,putW_self hy.a]
 ·have e0:(n == 0)=false:=by simpa using h0
  have e1:decide (0≤n)=true:=decide_eq_true (rng_spec hn).1
  have e2:decide (0≤wu (64 - n))=true:=decide_eq_true (rng_spec (rng_wu _)).1
  refine ⟨shW e.a (shlF (regW (wE hy) e.a) n) (andU (shrF (regW (wE hy) e.a) (wu (64 - n))) 1 == 1) (wE hy),fine_sh hy.s _ (shl_rng _ _) _,fun T k=>?_,fun T k=>?_⟩
  ·unfold shlK
   simp only [e0,cond_false,inA_R hy.a,rdX_R hy.a,e1,e2,q_true,shE_R hy.a (shl_rng _ _),out_eq]
  ·unfold shlD
   simp only [e0,cond_false,e1,e2,q_true,shD_R hy.a rfl (shl_rng _ _)]
theorem sh_shr:ShV shrK shrD:=by
 intro x e hy n hn _
 by_cases h0:n=0
 ·subst h0
  refine ⟨wE hy,hy.s,fun T k=>rfl,fun T k=>?_⟩
  show setD e _ _ k=_
  rw [setD_R hy.a _ _ e rfl,putW_self hy.a]
 ·have e0:(n == 0)=false:=by simpa using h0
  have e1:decide (0≤n)=true:=decide_eq_true (rng_spec hn).1
  have e2:decide (0≤wu (n - 1))=true:=decide_eq_true (rng_spec (rng_wu _)).1
  have hr:=shr_rng (hy.r e.a) n
  refine ⟨shW e.a (shrF (regW (wE hy) e.a) n) (andU (shrF (regW (wE hy) e.a) (wu (n - 1))) 1 == 1) (wE hy),fine_sh hy.s _ hr _,fun T k=>?_,fun T k=>?_⟩
  ·unfold shrK
   simp only [e0,cond_false,inA_R hy.a,rdX_R hy.a,e1,e2,q_true,shE_R hy.a hr,out_eq]
  ·unfold shrD
   simp only [e0,cond_false,e1,e2,q_true,shD_R hy.a rfl hr]
theorem sh_sar:ShV sarK sarD:=by
 intro x e hy n hn hle
 by_cases h0:n=0
 ·subst h0
  refine ⟨wE hy,hy.s,fun T k=>rfl,fun T k=>?_⟩
  show setD e _ _ k=_
  rw [setD_R hy.a _ _ e rfl,putW_self hy.a]
 ·have e0:(n == 0)=false:=by simpa using h0
  have n0:=(rng_spec hn).1
  have e1:decide (0≤n)=true:=decide_eq_true n0
  have e2:decide (0≤wu (n - 1))=true:=decide_eq_true (rng_spec (rng_wu _)).1
  have hr:rng64 (wu (shrF (wi (regW (wE hy) e.a)) n))=true:=rng_wu _
  refine ⟨shW e.a (wu (shrF (wi (regW (wE hy) e.a)) n)) (andU (shrF (regW (wE hy) e.a) (wu (n - 1))) 1 == 1) (wE hy),fine_sh hy.s _ hr _,fun T k=>?_,fun T k=>?_⟩
  ·unfold sarK
   simp only [e0,cond_false,inA_R hy.a,rdX_R hy.a,e1,e2,q_true,shE_R hy.a hr,out_eq]
  ·unfold sarD
   simp only [e0,cond_false,e1,e2,q_true,sar_out (hy.r e.a) (show 1≤n by omega) (show n≤64 by omega),shD_R hy.a rfl hr]
theorem al_shi {P:Int→Int→List V→KS→Option Res} {D:EnvR→Int→Int→List V→KS→Option Res} (hP:ShV P D) (hu:uI x=true) (h0:lowR x=0) (h1:highR x=63) :
  Alike x (mvR (preRi fun e S k=>inA e.a (inA e.a (P e.a (wu e.m) S k))) nm) (oneD (fun e _ S k=>inX e.a S fun x=>D e x (wu e.m) S k) nm):=
 al_row fun e hy=>by
  obtain ⟨g0,g1⟩:=hy.im hu
  rw [h0] at g0
  rw [h1] at g1
  have em:wu e.m=e.m:=by rw [wu_mod]; omega
  obtain ⟨t,ht,h1,h2⟩:=hP x e hy (wu e.m) (rng_wu _) (by rw [em]; exact g1)
  exact does_ok t ht (fun k=>by simp only [preRi,inA_R hy.a,h1]) (fun k=>by simp only [inX_R hy.a,h2])
theorem al_shc {P:Int→Int→List V→KS→Option Res} {D:EnvR→Int→Int→List V→KS→Option Res} (hP:ShV P D) :
  Alike x (mvR (fun e S k=>inA e.a (inA e.a (P e.a (andU (e.s.x.getD 1 0) 63) S k))) nm) (oneD (fun e _ S k=>inX e.a S fun x=>D e x (andU (e.s.x.getD 1 0) 63) S k) nm):=
 al_row fun e hy=>by
  obtain ⟨t,ht,h1,h2⟩:=hP x e hy (andU (e.s.x.getD 1 0) 63) (andU_rng _ _) (by rw [andU_63]; omega)
  exact does_ok t ht (fun k=>by simp only [inA_R hy.a,h1]) (fun k=>by simp only [inX_R hy.a,h2])
variable {wd:Int→Int→Int × Int} (hw:WdOk wd)
include hw in
theorem al_mul:Alike x (mvR (fun e S k=>inA e.a (inA e.a (mulK e S k))) nm) (oneD (fun e x S k=>k (setCV ((wd (e.s.x.getD 0 0) x).1 != 0) ((S.set 1 (.int .u64 (wd (e.s.x.getD 0 0) x).2)).set 3 (.int .u64 (wd (e.s.x.getD 0 0) x).1)))) nm):=
 al_row fun e hy=>by
  have h0:rng64 (e.s.x.getD 0 0)=true:=hy.s.rng 0
  obtain ⟨w1,w2⟩:=hw _ _ h0 (hy.r e.a)
  refine does_ok (cvW (mulHi (e.s.x.getD 0 0) (regW (wE hy) e.a) != 0) (putW 2 (mulHi (e.s.x.getD 0 0) (regW (wE hy) e.a)) (putW 0 (wu (e.s.x.getD 0 0*regW (wE hy) e.a)) (wE hy))))
   (fine_cv (fine_put (fine_put hy.s 0 (rng_wu _)) 2 (mulHi_rng h0 (hy.r _))) _) (fun k=>?_) (fun k=>?_)
  ·unfold mulK
   simp only [inA_R hy.a,inX_R hy.a,h0,hy.r,Bool.and_self,q_true,set1_R,set3_R,setCV_R]
  ·simp only [w1,w2,set1_R,set3_R,setCV_R]
include hw in
theorem al_imul (hu:uM x=false):Alike x (mvR (preRr fun e S k=>inA e.a (inA e.a (imulK e S k))) nm) (oneD (fun e _ S k=>inX e.a S fun x=>inX e.b S fun y=>imulD wd e x y S k) nm):=
 al_row fun e hy=>by
  obtain ⟨w1,w2⟩:=hw _ _ (hy.r e.a) (hy.r e.b)
  have one:∀ h:Int,Does e e.bk (imE e (wu (regW (wE hy) e.a*regW (wE hy) e.b)) h ((wE hy).1.l++tlP e e.bk)) (fun k=>imF e h (wu (regW (wE hy) e.a*regW (wE hy) e.b)) ((wE hy).1.l++tlD e 0) (k e.bk)):=by
   intro h
   refine does_ok (cvW (h != wu (Int.fdiv (wi (wu (regW (wE hy) e.a*regW (wE hy) e.b))) (2 ^ 63))) (putW e.a (wu (regW (wE hy) e.a*regW (wE hy) e.b)) (wE hy))) (fine_cv (fine_put hy.s _ (rng_wu _)) _) (fun k=>?_) (fun k=>?_)
   ·unfold imE
    simp only [inA_R hy.a,putX_R hy.a,setCV_R]
   ·unfold imF
    rw [setCV_R,setD_R hy.a _ _ e rfl]
    rfl
  have tr:∀ {r r' : (List V→Option Res)→Option Res} {g g' : (Int→List V→Option Res)→Option Res},Does e e.bk r g→(∀ k,r' k=r k)→(∀ k,g' k=g k)→Does e e.bk r' g' := by
   rintro r r' g g' ⟨t,t',er,h1,h2,h3,h4⟩ e1 e2
   exact ⟨t,t',er,h1,h2,fun k=>(e1 k).trans (h3 k),fun k=>(e2 k).trans (h4 k)⟩
  unfold preRr imulK imulD
  simp only [inX_R hy.a,inX_R (hy.b hu),inA_R hy.a,hy.r,Bool.and_self,q_true,w1,w2]
  cases negB (regW (wE hy) e.a) <;> cases negB (regW (wE hy) e.b)
  ·exact one _
  ·exact one _
  ·exact one _
  ·exact one _
variable {lg:Int→Int→Int→Int × Int} (hg:LgOk lg)
include hg in
theorem al_div:Alike x (divR nm) (oneD (fun e x S k=>divD lg e x S k) nm):=
 al_row fun e hy=>by
  have h0:rng64 (e.s.x.getD 0 0)=true:=hy.s.rng 0
  have h2:rng64 (e.s.x.getD 2 0)=true:=hy.s.rng 2
  unfold divD
  simp only [inA_R hy.a,inX_R hy.a]
  by_cases hlt:e.s.x.getD 2 0<regW (wE hy) e.a
  ·obtain ⟨g1,g2⟩:=hg _ _ _ h2 h0 (hy.r e.a) hlt
   obtain ⟨r1,r2⟩:=dq_rng h2 h0 (hy.r e.a) hlt
   refine does_ok (putW 2 (dr128 (e.s.x.getD 2 0) (e.s.x.getD 0 0) (regW (wE hy) e.a)) (putW 0 (dq128 (e.s.x.getD 2 0) (e.s.x.getD 0 0) (regW (wE hy) e.a)) (wE hy))) (fine_put (fine_put hy.s 0 r1) 2 r2) (fun k=>?_) (fun k=>?_)
   ·simp only [decide_eq_true hlt,h0,h2,hy.r,Bool.and_self,Bool.not_true,cond_false,q_true,set1_R,set3_R]
   ·have:decide (regW (wE hy) e.a≤e.s.x.getD 2 0)=false:=decide_eq_false (by omega)
    simp only [this,cond_false,g1,g2,set1_R,set3_R]
  ·refine does_bad (wE hy) (fun k=>?_) (fun k=>?_)
   ·simp only [decide_eq_false hlt,Bool.not_false,cond_true]
   ·have:decide (regW (wE hy) e.a≤e.s.x.getD 2 0)=true:=decide_eq_true (by omega)
    simp only [this,cond_true,failS_R]
theorem mag_doc {h l:Int} (hh:rng64 h=true) (hl:rng64 l=true):rng64 (magH h l)=true∧rng64 (magL h l)=true ∧
  (decide (wi h<0)=true→magL h l=wu (0 - l)∧magH h l=cond (wu (0 - l) == 0) (wu (notI h+1)) (notI h))∧(decide (wi h<0)=false→magL h l=l∧magH h l=h):=by
 obtain ⟨h0,h1⟩:=rng_spec hh
 obtain ⟨l0,l1⟩:=rng_spec hl
 unfold magH magL
 by_cases g:wi h<0
 ·have h2:9223372036854775808≤h:=by
   rw [wi_def] at g
   split at g <;> omega
  rw [decide_eq_false (by omega:¬ 0≤wi h),decide_eq_true g,cond_false,cond_false]
  refine ⟨rng_of (by omega) (by omega),rng_of (by omega) (by omega),fun _=>⟨by rw [wu_mod]; omega,?_⟩,fun e=>by cases e⟩
  rw [notI_eq hh]
  by_cases hz:l=0
  ·subst hz
   show _=wu (18446744073709551615 - h+1)
   rw [wu_mod]
   omega
  ·have:(wu (0 - l) == 0)=false:=by
    rw [beq_eq_false_iff_ne,wu_mod]
    omega
   rw [this,cond_false]
   omega
 ·rw [decide_eq_true (by omega:0≤wi h),decide_eq_false g]
  simp only [cond_true]
  exact ⟨hh,hl,by simp,by simp⟩
include hg in
theorem al_idiv:Alike x (idivR nm) (oneD (fun e x S k=>idivD lg e x S k) nm):=
 al_row fun e hy=>by
  have h0:rng64 (e.s.x.getD 0 0)=true:=hy.s.rng 0
  have h2:rng64 (e.s.x.getD 2 0)=true:=hy.s.rng 2
  obtain ⟨mh,ml,m1,m2⟩:=mag_doc h2 h0
  have hny:rng64 (wu (0 - regW (wE hy) e.a))=true:=rng_wu _
  have key:∀ (neg:Bool) (dv:Int),rng64 dv=true→Does e e.bk (fun k=>idK e ((wE hy).1.l++tlP e e.bk) k neg (magH (e.s.x.getD 2 0) (e.s.x.getD 0 0)) (magL (e.s.x.getD 2 0) (e.s.x.getD 0 0)) (regW (wE hy) e.a) dv)
    (fun k=>idD0 lg neg (magH (e.s.x.getD 2 0) (e.s.x.getD 0 0)) (magL (e.s.x.getD 2 0) (e.s.x.getD 0 0)) (regW (wE hy) e.a) dv ((wE hy).1.l++tlD e 0) (k e.bk)):=by
   intro neg dv hd
   unfold idK idD0
   by_cases hlt:magH (e.s.x.getD 2 0) (e.s.x.getD 0 0)<dv
   rotate_left
   ·refine does_bad (wE hy) (fun k=>?_) (fun k=>?_)
    ·simp only [decide_eq_false hlt,Bool.not_false,cond_true]
    ·have:decide (dv≤magH (e.s.x.getD 2 0) (e.s.x.getD 0 0))=true:=decide_eq_true (by omega)
     simp only [this,cond_true,failS_R]
   have hle:decide (dv≤magH (e.s.x.getD 2 0) (e.s.x.getD 0 0))=false:=decide_eq_false (by omega)
   obtain ⟨g1,g2⟩:=hg _ _ _ mh ml hd hlt
   obtain ⟨r1,r2⟩:=dq_rng mh ml hd hlt
   simp only [decide_eq_true hlt,hle,mh,ml,hd,g1,g2,Bool.and_self,Bool.not_true,cond_false,q_true]
   generalize magH (e.s.x.getD 2 0) (e.s.x.getD 0 0)=H at *
   generalize magL (e.s.x.getD 2 0) (e.s.x.getD 0 0)=L at *
   generalize dq128 H L dv=Q at *
   generalize dr128 H L dv=R at *
   have fin:∀ qv:Int,rng64 qv=true→Does e e.bk (fun k=>idE neg ((wE hy).1.l++tlP e e.bk) k qv R) (fun k=>idD3 neg qv R ((wE hy).1.l++tlD e 0) (k e.bk)):=by
    intro qv hq
    unfold idE idD3
    cases neg
    ·exact does_ok (putW 2 R (putW 0 qv (wE hy))) (fine_put (fine_put hy.s 0 hq) 2 r2) (fun k=>by simp only [cond_false,set1_R,set3_R]) (fun k=>by simp only [cond_false,set1_R,set3_R])
    ·exact does_ok (putW 2 (wu (0 - R)) (putW 0 qv (wE hy))) (fine_put (fine_put hy.s 0 hq) 2 (rng_wu _)) (fun k=>by simp only [cond_true,set1_R,set3_R]) (fun k=>by simp only [cond_true,set1_R,set3_R])
   unfold idD1 idD2
   cases (!(neg == decide (wi (regW (wE hy) e.a)<0)))
   ·simp only [cond_false,cond_true,Bool.not_false]
    by_cases hq:Q≤9223372036854775807
    ·have:decide (9223372036854775808≤Q)=false:=decide_eq_false (by omega)
     simp only [decide_eq_true hq,this,Bool.not_true,cond_false]
     exact fin Q r1
    ·refine does_bad (wE hy) (fun k=>?_) (fun k=>?_)
     ·simp only [decide_eq_false hq,Bool.not_false,cond_true]
     ·have:decide (9223372036854775808≤Q)=true:=decide_eq_true (by omega)
      simp only [this,cond_true,failS_R]
   ·simp only [cond_false,cond_true,Bool.not_true]
    by_cases hq:Q≤9223372036854775808
    ·have:decide (9223372036854775808<Q)=false:=decide_eq_false (by omega)
     simp only [decide_eq_true hq,this,Bool.not_true,cond_false]
     exact fin _ (rng_wu _)
    ·refine does_bad (wE hy) (fun k=>?_) (fun k=>?_)
     ·simp only [decide_eq_false hq,Bool.not_false,cond_true]
     ·have:decide (9223372036854775808<Q)=true:=decide_eq_true (by omega)
      simp only [this,cond_true,failS_R]
  have kd:Does e e.bk (fun k=>cond (decide (wi (regW (wE hy) e.a)<0)) (idK e ((wE hy).1.l++tlP e e.bk) k (!decide (0≤wi (e.s.x.getD 2 0))) (magH (e.s.x.getD 2 0) (e.s.x.getD 0 0)) (magL (e.s.x.getD 2 0) (e.s.x.getD 0 0)) (regW (wE hy) e.a) (wu (0 - regW (wE hy) e.a)))
     (idK e ((wE hy).1.l++tlP e e.bk) k (!decide (0≤wi (e.s.x.getD 2 0))) (magH (e.s.x.getD 2 0) (e.s.x.getD 0 0)) (magL (e.s.x.getD 2 0) (e.s.x.getD 0 0)) (regW (wE hy) e.a) (regW (wE hy) e.a)))
    (fun k=>idDY lg (!decide (0≤wi (e.s.x.getD 2 0))) (magH (e.s.x.getD 2 0) (e.s.x.getD 0 0)) (magL (e.s.x.getD 2 0) (e.s.x.getD 0 0)) (regW (wE hy) e.a) ((wE hy).1.l++tlD e 0) (k e.bk)):=by
   unfold idDY
   cases decide (wi (regW (wE hy) e.a)<0)
   ·exact key _ _ (hy.r _)
   ·exact key _ _ hny
  have en:(!decide (0≤wi (e.s.x.getD 2 0)))=decide (wi (e.s.x.getD 2 0)<0):=by
   by_cases g:wi (e.s.x.getD 2 0)<0
   ·rw [decide_eq_true g,decide_eq_false (by omega)]; rfl
   ·rw [decide_eq_false g,decide_eq_true (by omega)]; rfl
  have ed:∀ (S:List V) (k:KS),idivD lg e (regW (wE hy) e.a) S k=idDY lg (!decide (0≤wi (e.s.x.getD 2 0))) (magH (e.s.x.getD 2 0) (e.s.x.getD 0 0)) (magL (e.s.x.getD 2 0) (e.s.x.getD 0 0)) (regW (wE hy) e.a) S k:=by
   intro S k
   rw [en]
   unfold idivD
   cases hn:decide (wi (e.s.x.getD 2 0)<0)
   ·obtain ⟨g1,g2⟩:=m2 hn
    rw [g1,g2]
    rfl
   ·obtain ⟨g1,g2⟩:=m1 hn
    rw [g1,g2]
    cases wu (0 - e.s.x.getD 0 0) == 0 <;> rfl
  obtain ⟨t,t',er,k1,k2,k3,k4⟩:=kd
  refine ⟨t,t',er,k1,k2,fun k=>?_,fun k=>?_⟩
  ·rw [← k3]
   simp only [inA_R hy.a,inX_R hy.a,h0,h2,Bool.and_self,q_true]
  ·exact (ed _ _).trans (k4 k)
theorem al_flow1 {f:EnvR→Int} (hf:∀ (x:RowT) (e:EnvR) (hy:Hy x e),rng64 (f e)=true):Alike x (mvR (fun e S k=>inA e.a (inA e.a (k (S.set 45 (.int .u64 (f e)))))) nm) (floD (fun e S k=>k (f e) S) nm):=
 al_flow fun e hy=>⟨f e,hf x e hy,does_ok (wE hy) hy.s (fun k=>by simp only [inA_R hy.a,set45_R]) (fun k=>rfl)⟩
theorem al_jmp:Alike x (mvR (fun e S k=>inA e.a (inA e.a (k (S.set 45 (.int .u64 (tgF e)))))) nm) (floD (fun e S k=>k (tgF e) S) nm):=al_flow1 fun _ _ _=>rng_wu _
theorem al_jcc (hu:uM x=false):Alike x (mvR (fun e S k=>inA e.a (inA e.a (cond (holdsF e.s.z e.s.n e.s.c e.s.v e.d) (k (S.set 45 (.int .u64 (tgF e)))) (k S)))) nm) (floD (fun e S k=>cond (hdF e.s.z e.s.n e.s.c e.s.v e.d) (k (tgF e) S) (k e.bk S)) nm):=
 al_flow fun e hy=>by
  have he:=hold_eq e.s.z e.s.n e.s.c e.s.v (hy.d hu).1 (hy.d hu).2
  cases hh:hdF e.s.z e.s.n e.s.c e.s.v e.d
  ·exact ⟨e.bk,hy.bk,does_ok (wE hy) hy.s (fun k=>by simp only [he,hh,inA_R hy.a,cond_false]) (fun k=>by simp only [hh,cond_false])⟩
  ·exact ⟨tgF e,rng_wu _,does_ok (wE hy) hy.s (fun k=>by simp only [he,hh,inA_R hy.a,cond_true,set45_R]) (fun k=>by simp only [hh,cond_true])⟩
theorem al_jmpr:Alike x (mvR (fun e S k=>inA e.a (inA e.a (inX e.a S fun y=>k (S.set 45 (.int .u64 y))))) nm) (floD (fun e S k=>inX e.a S fun y=>k y S) nm):=
 al_flow fun e hy=>⟨regW (wE hy) e.a,hy.r _,does_ok (wE hy) hy.s (fun k=>by simp only [inA_R hy.a,inX_R hy.a,set45_R]) (fun k=>by simp only [inX_R hy.a])⟩
theorem spF_eq {e:EnvR} (hy:Hy x e):rng64 (spF e)=true:=hy.s.rng 4
theorem popK_R {e:EnvR} (hy:Hy x e) (T:List V) (k:Int→KS):popK e ((wE hy).1.l++T) k=cond (errLd (spF e) 8 != 0) (faultK e) (k (valLd e.A e.B e.C e.D e.E (spF e) 8) ((putW 4 (wu (spF e+8)) (wE hy)).1.l++T)):=by
 unfold popK
 rw [loadK_R hy.l (spF_eq hy),set5_R]
theorem popD_R {e:EnvR} (hy:Hy x e) (k:Int→KS):popD e ((wE hy).1.l++tlD e 0) k=k (valLd e.A e.B e.C e.D e.E (spF e) 8) ((putW 4 (wu (spF e+8)) (wE hy)).1.l++tlD e (errLd (spF e) 8)):=by
 unfold popD
 rw [loadD_R hy.l (spF_eq hy),set5_R]
theorem al_pop:Alike x (popR nm) (oneD (fun e _ S k=>popD e S fun y U=>setD e y U k) nm):=
 al_row fun e hy=>by
  refine does_ld (spF e) 8 (putW e.a (valLd e.A e.B e.C e.D e.E (spF e) 8) (putW 4 (wu (spF e+8)) (wE hy))) (fine_put (fine_put hy.s 4 (rng_wu _)) _ (valLd_rng _ _ _ _ _ _ _)) (fun k=>?_) (fun k=>?_)
  ·simp only [inA_R hy.a,popK_R hy,putX_R hy.a]
  ·simp only [popD_R hy,setD_R hy.a _ _ e rfl]
theorem al_ret:Alike x (retR nm) (floD (fun e S k=>popD e S fun y U=>k y U) nm):=
 al_flow fun e hy=>by
  refine ⟨valLd e.A e.B e.C e.D e.E (spF e) 8,valLd_rng _ _ _ _ _ _ _,does_ld (spF e) 8 (putW 4 (wu (spF e+8)) (wE hy)) (fine_put hy.s 4 (rng_wu _)) (fun k=>?_) (fun k=>?_)⟩
  ·simp only [inA_R hy.a,popK_R hy,set45_R]
  ·simp only [popD_R hy]
theorem lens5_stB {A B C D E:List Int} (h:lens5 A B C D E=true) (x n y:Int):lens5 (stB 1 x n y A) (stB 2 x n y B) (stB 16 x n y C) (stB 17 x n y D) (stB 32 x n y E)=true:=by
 unfold stB
 cases mayB x n 2
 ·exact h
 ·exact lens5_stN _ _ h
theorem store_both {e:EnvR} (hs:Fine e.s) (hl:lens5 e.A e.B e.C e.D e.E=true) {p:Int} (hp:rng64 p=true) (n v:Int) (t:W) (ht:Fine t.1) {nx:Int} (hn:rng64 nx=true) :
  Both e.s (storeK e p n v fun H=>finS H (t.1.l++tlP e nx)) (cond (errSt p n != 0) (errK e.s (errSt p n) (refO (stB 1 p n v e.A) (stB 2 p n v e.B) (stB 16 p n v e.C) (stB 17 p n v e.D) (stB 32 p n v e.E)))
   (outK ({ t.1 with pc:=nx }:CpuT).l 0 (refO (stB 1 p n v e.A) (stB 2 p n v e.B) (stB 16 p n v e.C) (stB 17 p n v e.D) (stB 32 p n v e.E)))):=by
 have hl' := lens5_stB hl p n v
 unfold storeK q
 rw [hl,hp]
 simp only [Bool.and_self,cond_true,finS_R]
 rcases errSt_or p n with h | h
 ·rw [h]
  exact both_out (fine_pc ht hn) 0 hl'
 ·rw [h]
  exact both_err hs 21 hl'
theorem storeD_R {e:EnvR} (hl:lens5 e.A e.B e.C e.D e.E=true) {p:Int} (hp:rng64 p=true) (n v:Int) (t:W) (er:Int) (k:List V→List O→Option Res) :
  storeD e p n v (t.1.l++tlD e er) k=k (t.1.l++tlD e (errSt p n)) (refO (stB 1 p n v e.A) (stB 2 p n v e.B) (stB 16 p n v e.C) (stB 17 p n v e.D) (stB 32 p n v e.E)):=by
 unfold storeD q
 rw [hl,hp,set40_R]
 rfl
theorem al_st (hu:uM x=true) (n:Int):Alike x (stR n nm) (onwD (fun e _ S k=>adK e S fun p=>inX e.a S fun y=>storeD e p n y S k) nm):=by
 intro s a b c d m sz A B C D E hs hl ho hi
 have hy:Hy x (envF s nm a b c d m sz A B C D E):=⟨hs,hl,ho,hi,nx_rng _ _⟩
 obtain ⟨p,hp,hk⟩:=adK_R hy hu
 have hb:=store_both (e:=envF s nm a b c d m sz A B C D E) hs hl hp n (regW (wE hy) a) (wE hy) hs (nx_rng s sz)
 unfold stR mwR onwD
 rw [stC_eq _ hs.len,dcC_eq _ hs.len,inX_R (a:=a) hy.a]
 refine (congr (congrArg (Both s) ?_) ?_).mpr hb
 ·refine (inA_R hy.a _).trans ((hk _ _).trans ?_)
  exact rdX_R hy.a (wE hy) _ _
 ·refine (hk _ _).trans ((inX_R hy.a (wE hy) _ _).trans ((storeD_R hl hp _ _ (wE hy) 0 _).trans ?_))
  exact finG_R (wE hy) (envF s nm a b c d m sz A B C D E) s _ 0 _ _
theorem push_both {e:EnvR} (hy:Hy x e) (v:Int) {nx:Int} (hn:rng64 nx=true) :
  Both e.s (pushK e v ((wE hy).1.l++tlP e e.bk) fun T H=>finS H (T.set 45 (.int .u64 nx))) (pushD e v ((wE hy).1.l++tlD e 0) fun T H=>finG e.s nx 0 H T):=by
 have hb:=store_both hy.s hy.l (rng_wu (spF e - 8)) 8 v (putW 4 (wu (spF e - 8)) (wE hy)) (fine_put hy.s 4 (rng_wu _)) hn
 unfold pushK pushD
 rw [storeD_R hy.l (rng_wu _)]
 simp only [set5_R,set45_R,finG_R]
 exact hb
theorem set45_same {e:EnvR} (t:W):(t.1.l++tlP e e.bk)=(t.1.l++tlP e e.bk).set 45 (.int .u64 e.bk):=(set45_R t e e.bk e.bk).symm
theorem al_push:Alike x (pushR nm) (onwD (fun e x S k=>pushD e x S k) nm):=by
 intro s a b c d m sz A B C D E hs hl ho hi
 have hy:Hy x (envF s nm a b c d m sz A B C D E):=⟨hs,hl,ho,hi,nx_rng _ _⟩
 have hb:=push_both hy (regW (wE hy) a) (nx_rng s sz)
 unfold pushR mwR onwD
 rw [stC_eq _ hs.len,dcC_eq _ hs.len,inX_R (a:=a) hy.a]
 refine (congrArg (fun r=>Both s r _) ?_).mpr hb
 refine (inA_R hy.a _).trans ((inA_R hy.a _).trans ((rdX_R hy.a (wE hy) _ _).trans ?_))
 unfold pushK
 refine congrArg (storeK _ _ 8 _) (funext fun H=>?_)
 show finS H (((wE hy).1.l++tlP (envF s nm a b c d m sz A B C D E) (envF s nm a b c d m sz A B C D E).bk).set 5 _)=_
 rw [set5_R]
 exact congrArg (finS H) (set45_same _)
theorem al_call:Alike x (callR nm) (flwD (fun e S k=>pushD e e.bk S (k (tgF e))) nm):=by
 intro s a b c d m sz A B C D E hs hl ho hi
 have hy:Hy x (envF s nm a b c d m sz A B C D E):=⟨hs,hl,ho,hi,nx_rng _ _⟩
 have hb:=push_both hy (envF s nm a b c d m sz A B C D E).bk (rng_wu ((envF s nm a b c d m sz A B C D E).bk+wu (envF s nm a b c d m sz A B C D E).m))
 unfold callR mwR flwD
 rw [stC_eq _ hs.len,dcC_eq _ hs.len]
 refine (congrArg (fun r=>Both s r _) ?_).mpr hb
 exact (inA_R hy.a _).trans (inA_R hy.a _)
theorem al_callr:Alike x (callrR nm) (flwD (fun e S k=>inX e.a S fun y=>pushD e e.bk S (k y)) nm):=by
 intro s a b c d m sz A B C D E hs hl ho hi
 have hy:Hy x (envF s nm a b c d m sz A B C D E):=⟨hs,hl,ho,hi,nx_rng _ _⟩
 have hb:=push_both hy (envF s nm a b c d m sz A B C D E).bk (hy.r a)
 unfold callrR mwR flwD
 rw [stC_eq _ hs.len,dcC_eq _ hs.len]
 refine (congr (congrArg (Both s) ?_) ?_).mpr hb
 ·exact (inA_R hy.a _).trans ((inA_R hy.a _).trans (inX_R hy.a (wE hy) _ _))
 ·exact inX_R hy.a (wE hy) _ _
theorem al_sys:Alike x (sysR nm) (sysD nm):=by
 intro s a b c d m sz A B C D E hs hl ho hi
 have hy:Hy x (envF s nm a b c d m sz A B C D E):=⟨hs,hl,ho,hi,nx_rng _ _⟩
 unfold sysD
 rw [dcC_eq _ hs.len,set2_R,finG_R]
 exact both_out (s' := ({ (putW 1 (wu (s.pc+wu sz)) (wE hy)).1 with pc:=wu (s.pc+wu sz) }:CpuT)) (fine_pc (fine_put hy.s 1 (rng_wu _)) (rng_wu _)) 1 hl
theorem al_ud:Alike x (udR nm) (udD nm):=by
 intro s a b c d m sz A B C D E hs hl ho hi
 exact both_out hs 2 hl
end
end Go.Ra

namespace Go.Ra
open Go Go.Ab Go.Proofs
def bitI (l i:Int):Int:=wu ((BitVec.toNat (BitVec.ofInt 64 (Int.fdiv l (2 ^ Min.min (Int.toNat (wu i)) 64)) &&& BitVec.ofInt 64 1):Nat):Int)
def r2I (l r i:Int):Int:=wu ((BitVec.toNat (BitVec.ofInt 64 (wu (r*2 ^ 1)) ||| BitVec.ofInt 64 (bitI l i)):Nat):Int)
def topI (r:Int):Bool:=Int.fdiv r (2 ^ 63) == 1
def lgStep (l b i:Int) (p:Int × Int):Int × Int:=
 cond (topI p.2) (wu (wu (p.1*2 ^ 1)+1),wu (r2I l p.2 i - b)) (cond (decide (b≤r2I l p.2 i)) (wu (wu (p.1*2 ^ 1)+1),wu (r2I l p.2 i - b)) (wu (p.1*2 ^ 1),r2I l p.2 i))
noncomputable def lgN (h l b:Int) (k:Nat):Int × Int:=Nat.rec (motive:=fun _=>Int × Int) (0,h) (fun i p=>lgStep l b (63 - (i:Int)) p) k
theorem lgN_succ (h l b:Int) (k:Nat):lgN h l b (k+1)=lgStep l b (63 - (k:Int)) (lgN h l b k):=rfl
noncomputable def lgF (h l b:Int):Int × Int:=lgN h l b 64
end Go.Ra
