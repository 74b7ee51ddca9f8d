/-
  Decode. Conditions: none.
-/
import Derived.Test.YtbefgnmdliefjaaGreatDoorPk20
set_option linter.unusedVariables false
set_option linter.unusedSimpArgs false
namespace Go.Amd
open Go Go.Ab Go.Proofs
def allAt (w0:WS) (r:Res):MSpec:=fun args H=>match args,H with
 | [.ptr 0 0],[.cells [.sl (.int .u8) l sp fl,.int .i64 k,.bool fs,.int .u8 R,.bool has] 146]=>.req (eqW (l,sp,fl,k,fs,R,has) w0) (.leaf r)
 | _,_=>.fail
theorem allAt_ok {w0:WS} {r:Res} (h0:MCall Tryz.prog 111 [.ptr 0 0] [wkS w0] r):MSound Tryz.prog 111 (allAt w0 r):=by
 intro args H res h
 unfold allAt at h
 split at h
 rotate_left
 ·cases h
 obtain ⟨h1,h⟩:=req_run h
 have h:=leaf_out h
 subst h
 have h1:=of_decide_eq_true h1
 subst h1
 exact h0
noncomputable def cxD (w0:WS) (r:Res):Cx:={ P:=Tryz.prog,n:=Tryz.f58.ntmps,tab:=[],mtab:=[(111,allAt w0 r)],refs:=[],keeps:=[0,1,4,5,6,7,15] }
def pureT (r:Res):Tree V:=match r with
 | .ok v _=>.ofOption (V.pure? v)
 | _=>.fail
noncomputable def decG (w0:WS) (r:Res) (l sp:List Int) (fl:Fl) (at_:Int):Tree V:=
 (dfunD (cxD w0 r) cx110 Tryz.f58 110 Tryz.f110 [.sl (.int .u8) l sp fl,.int .i64 at_] []).bind pureT
def zeroI:InsT:=([],0,0,0,0,0)
abbrev outD (i:InsT) (n e:Int):V:=.tup [insV i,.int .i64 n,.int .i64 e]
def decH (w0:WS) (l sp:List Int) (fl:Fl) (at_:Int) (out:V):Tree V:=
 .br (decide (at_<0)) (.leaf (outD zeroI 0 5)) (.br (decide ((l.length:Nat)<at_)) (.leaf (outD zeroI 0 5))
  (.br (decide (0≤at_) && decide (at_≤(l.length:Nat))) (.br (eqW (l.drop at_.toNat,sp,fl,0,false,0,false) w0) (.leaf out) .fail) .fail))
theorem dec1_eq (w0:WS) (l sp l2 sp2:List Int) (fl fl2:Fl) (at_ k R:Int) (fs has:Bool) (i:InsT) :
  (decG w0 (.ok (insV i) [wkO l2 sp2 fl2 k fs R has,insO i]) l sp fl at_).out=(decH w0 l sp fl at_ (outD i k 0)).out:=by kernel_rfl
theorem dec2_eq (w0:WS) (l sp l2 sp2:List Int) (fl fl2:Fl) (at_ k R e:Int) (fs has:Bool) :
  (decG w0 (.pan (fltV e) [wkO l2 sp2 fl2 k fs R has]) l sp fl at_).out=(decH w0 l sp fl at_ (outD zeroI 0 e)).out:=by kernel_rfl
theorem decG_ok {w0:WS} {r:Res} (h0:MCall Tryz.prog 111 [.ptr 0 0] [wkS w0] r) {l sp:List Int} {fl:Fl} {at_:Int} {out:V} (h:(decG w0 r l sp fl at_).run=some out) :
  PCall Tryz.prog 58 [.sl (.int .u8) l sp fl,.int .i64 at_] out:=by
 unfold decG at h
 obtain ⟨res,h2,h3⟩:=bind_run h
 cases res with
 | ok v H' =>
  exact pcall_of_mcall (mcall_defer (cx:=cxD w0 r) (cl:=cx110) (fn:=Tryz.f58) (fg:=Tryz.f110) (cx1_ok (.nil _) (.cons (allAt_ok h0) (.nil _)) rfl rfl) (cx0_ok rfl rfl) rfl (by kernel_rfl) (by kernel_rfl) (by kernel_rfl) (by kernel_rfl) (by kernel_rfl) h2) (ofOption_run h3)
 | pan v H' => cases h3
def outOf (l:List Int) (at_:Int):Bool:=decide (at_<0) || decide ((l.length:Int)<at_)
def ansD:Except Int (InsT × Int)→V
 | .ok (i,k)=>outD i k 0
 | .error e=>outD zeroI 0 e
def decV (l:List Int) (at_:Int):V:=cond (outOf l at_) (outD zeroI 0 5) (ansD (decQ (l.drop at_.toNat)))
theorem decode_ok {l sp:List Int} {fl:Fl} {at_:Int} (h1:l.length<1000000000) (hb:∀ x ∈ l,0≤x∧x<256):PCall Tryz.prog 58 [.sl (.int .u8) l sp fl,.int .i64 at_] (decV l at_):=by
 obtain ⟨res,hres,hall⟩:=all_ok (l:=l.drop at_.toNat) (sp:=sp) (fl:=fl) (by rw [List.length_drop]; omega) (fun x hx=>hb x (List.mem_of_mem_drop hx))
 refine decG_ok (w0:=(l.drop at_.toNat,sp,fl,0,false,0,false)) hall ?_
 have run:∀ out,(decH (l.drop at_.toNat,sp,fl,0,false,0,false) l sp fl at_ out).run=some (cond (outOf l at_) (outD zeroI 0 5) out):=by
  intro out
  unfold decH outOf
  rw [br_run,br_run]
  by_cases g1:at_<0
  ·rw [decide_eq_true g1]; rfl
  ·rw [decide_eq_false g1]
   by_cases g2:(l.length:Int)<at_
   ·rw [decide_eq_true g2]; rfl
   ·rw [decide_eq_false g2,cond_false,cond_false]
    refine (br_t ?_).trans ((br_t (eqW_refl _)).trans rfl)
    rw [decide_eq_true (show 0≤at_ by omega),decide_eq_true (show at_≤(l.length:Int) by omega)]
    rfl
 unfold decV
 cases hd:decQ (l.drop at_.toNat) with
 | ok p =>
  obtain ⟨i,k⟩:=p
  rw [hd] at hres
  obtain ⟨fs,R,has,rfl⟩:=hres
  exact (Tree.out_run _).symm.trans ((dec1_eq _ l sp _ _ fl _ at_ k R fs has i).trans ((Tree.out_run _).trans (run _)))
 | error e =>
  rw [hd] at hres
  obtain ⟨k,fs,R,has,rfl⟩:=hres
  exact (Tree.out_run _).symm.trans ((dec2_eq _ l sp _ _ fl _ at_ k R e fs has).trans ((Tree.out_run _).trans (run _)))
def bytesB (l:List Int):Bool:=l.all fun x=>decide (0≤x) && decide (x<256)
theorem bytesB_of {l:List Int} (h:bytesB l=true):∀ x ∈ l,0≤x∧x<256:=by
 intro x hx
 have:=List.all_eq_true.1 h x hx
 simpa using this
def decodeS:Ab.Spec:=fun args=>match args with
 | [.sl (.int .u8) l _ _,.int .i64 at_]=>.req (decide (l.length<1000000000)) (.req (bytesB l) (.leaf (decV l at_)))
 | _=>.fail
theorem decodeS_ok:Sound Tryz.prog 58 decodeS:=by
 intro args out h
 unfold decodeS at h
 split at h
 rotate_left
 ·cases h
 rename_i l sp fl at_
 obtain ⟨h1,h⟩:=req_run h
 obtain ⟨h2,h⟩:=req_run h
 have h:=leaf_out h
 subst h
 exact decode_ok (of_decide_eq_true h1) (bytesB_of h2)
end Go.Amd

namespace Go.Amd
open Go Go.Ab Go.Proofs
def all1 (n:Nat) (p:Int→Bool):Bool:=(List.range n).all fun a=>p (a:Int)
def all2 (n m:Nat) (p:Int→Int→Bool):Bool:=(List.range n).all fun a=>(List.range m).all fun b=>p (a:Int) (b:Int)
theorem all1_of {n:Nat} {p:Int→Bool} (h:all1 n p=true) {a:Int} (a0:0≤a) (a1:a<n):p a=true:=by
 have:=List.all_eq_true.1 h a.toNat (List.mem_range.2 (by omega))
 rwa [Int.toNat_of_nonneg a0] at this
theorem all2_of {n m:Nat} {p:Int→Int→Bool} (h:all2 n m p=true) {a b:Int} (a0:0≤a) (a1:a<n) (b0:0≤b) (b1:b<m):p a b=true:=by
 have:=List.all_eq_true.1 h a.toNat (List.mem_range.2 (by omega))
 have:=List.all_eq_true.1 this b.toNat (List.mem_range.2 (by omega))
 rwa [Int.toNat_of_nonneg a0,Int.toNat_of_nonneg b0] at this
theorem rexM_all:all2 16 16 (fun a b=>rexM 0 a b == 4*(a / 8)+b / 8)=true:=by kernel_rfl
theorem rexM_eq {a b:Int} (a0:0≤a) (a1:a<16) (b0:0≤b) (b1:b<16):rexM 0 a b=4*(a / 8)+b / 8:=eq_of_beq (all2_of rexM_all a0 a1 b0 b1)
theorem hi_all:all1 16 (fun a=>or8 0 (hi4 a 1) == a / 8)=true:=by kernel_rfl
theorem hi_eq {a:Int} (a0:0≤a) (a1:a<16):or8 0 (hi4 a 1)=a / 8:=eq_of_beq (all1_of hi_all a0 a1)
theorem sibR_all:all2 16 16 (fun i b=>sibR 0 i b == 2*(i / 8)+b / 8 && sibR 4 i b == 4+2*(i / 8)+b / 8)=true:=by kernel_rfl
theorem sibR_eq {a i b:Int} (a0:0≤a) (a1:a<16) (i0:0≤i) (i1:i<16) (b0:0≤b) (b1:b<16):sibR (rexM 0 a 4) i b=4*(a / 8)+2*(i / 8)+b / 8:=by
 obtain ⟨h1,h2⟩:=Bool.and_eq_true_iff.1 (all2_of sibR_all i0 i1 b0 b1)
 rw [rexM_eq a0 a1 (by decide) (by decide)]
 have:a / 8=0∨a / 8=1:=by omega
 rcases this with h | h
 ·rw [h]
  have:=eq_of_beq h1
  simpa using this
 ·rw [h]
  have:=eq_of_beq h2
  simpa using this
theorem mrB_all:all1 5 (fun m=>all2 16 16 fun a b=>mrB m a b == (64*m+8*(a % 8)+b % 8) % 256)=true:=by kernel_rfl
theorem mrB_eq {m a b:Int} (m0:0≤m) (m1:m<4) (a0:0≤a) (a1:a<16) (b0:0≤b) (b1:b<16):mrB m a b=64*m+8*(a % 8)+b % 8:=by
 have:=eq_of_beq (all2_of (all1_of mrB_all m0 (show m<(5:Nat) by omega)) a0 a1 b0 b1)
 rw [this]
 omega
theorem bit_all:all1 16 (fun R=>bitF R 4 == 8*(R / 4 % 2) && (bitF R 2 == 8*(R / 2 % 2) && (bitF R 1 == 8*(R % 2))))=true:=by kernel_rfl
theorem bit_eq {R:Int} (r0:0≤R) (r1:R<16):bitF R 4=8*(R / 4 % 2)∧bitF R 2=8*(R / 2 % 2)∧bitF R 1=8*(R % 2):=by
 have:=all1_of bit_all r0 r1
 simpa only [Bool.and_eq_true,beq_iff_eq] using this
theorem byte_all:all1 256 (fun c=>modF c == c / 64 && (and8 (Int.fdiv c (2 ^ 3)) 7 == c / 8 % 8 && (and8 c 7 == c % 8 && rmF c == c % 8)))=true:=by kernel_rfl
theorem byte_eq {c:Int} (c0:0≤c) (c1:c<256):modF c=c / 64∧and8 (Int.fdiv c (2 ^ 3)) 7=c / 8 % 8∧and8 c 7=c % 8∧rmF c=c % 8:=by
 have:=all1_of byte_all c0 c1
 simpa only [Bool.and_eq_true,beq_iff_eq] using this
theorem midF_eq {c R:Int} (c0:0≤c) (c1:c<256) (r0:0≤R) (r1:R<16):midF c R=c / 8 % 8+8*(R / 4 % 2):=by
 unfold midF wi
 rw [(byte_eq c0 c1).2.1,(bit_eq r0 r1).1,wrap_i64 (n:=c / 8 % 8) (by omega) (by omega),wrap_i64 (by omega) (by omega)]
theorem lowF_eq {c R:Int} (c0:0≤c) (c1:c<256) (r0:0≤R) (r1:R<16):lowF c R=c % 8+8*(R % 2):=by
 unfold lowF wi
 rw [(byte_eq c0 c1).2.2.1,(bit_eq r0 r1).2.2,wrap_i64 (n:=c % 8) (by omega) (by omega),wrap_i64 (by omega) (by omega)]
theorem idxF_eq {c R:Int} (c0:0≤c) (c1:c<256) (r0:0≤R) (r1:R<16):idxF c R=c / 8 % 8+8*(R / 2 % 2):=by
 unfold idxF wi
 rw [(byte_eq c0 c1).2.1,(bit_eq r0 r1).2.1,wrap_i64 (n:=c / 8 % 8) (by omega) (by omega),wrap_i64 (by omega) (by omega)]
end Go.Amd

namespace Go.Amd
open Go Go.Ab Go.Proofs
theorem byU_eq {c:Int} {k:Nat} (c0:0≤c) (c1:c<256) (hk:k≤56):byU c k=c*2 ^ k:=by
 have hp:(2:Int) ^ k≤2 ^ 56:=by
  have:=Nat.pow_le_pow_right (n:=2) (by decide) hk
  exact_mod_cast this
 have hp0:(0:Int)<2 ^ k:=by
  have:=Nat.pow_pos (n:=k) (show 0<2 by decide)
  exact_mod_cast this
 have hm:0≤c*2 ^ k:=Int.mul_nonneg c0 (Int.le_of_lt hp0)
 have hl:c*2 ^ k≤255*2 ^ 56:=Int.mul_le_mul (by omega) hp (Int.le_of_lt hp0) (by decide)
 unfold byU w64
 rw [Go.Wd.wrap_u64,Go.Wd.wrap_u64,Int.emod_eq_of_lt c0 (by omega),Int.emod_eq_of_lt hm (by omega)]
theorem or64_add {a c:Int} {k:Nat} (a0:0≤a) (a1:a<2 ^ k) (c0:0≤c) (c1:c<256) (hk:k≤56):or64 a (byU c k)=a+c*2 ^ k:=by
 rw [byU_eq c0 c1 hk]
 obtain ⟨A,rfl⟩:=Int.eq_ofNat_of_zero_le a0
 obtain ⟨C,rfl⟩:=Int.eq_ofNat_of_zero_le c0
 have hA:A<2 ^ k:=by exact_mod_cast a1
 have hC:C<2 ^ 8:=by have:(C:Int)<256:=c1; omega
 have hk2:2 ^ k≤2 ^ 56:=Nat.pow_le_pow_right (by decide) hk
 have hCk:C*2 ^ k<2 ^ 64:=by
  have:C*2 ^ k≤255*2 ^ 56:=Nat.mul_le_mul (by omega) hk2
  omega
 have e:((C:Int)*2 ^ k)=((C <<< k:Nat):Int):=by rw [Nat.shiftLeft_eq]; push_cast; rfl
 have hs:C <<< k<2 ^ 64:=by rw [Nat.shiftLeft_eq]; exact hCk
 show Go.Wd.or64 (A:Int) _=_
 rw [e,Go.Wd.or64_cast (by omega) hs,Go.Wd.or_step (Go.Wd.OffN.low hA) hC]
 push_cast
 rfl
theorem wi_eq (n:Int):wi n=(n+9223372036854775808) % 18446744073709551616 - 9223372036854775808:=by
 have h:IntKind.wrap .i64 n=if n % 18446744073709551616 ≥ 9223372036854775808 then n % 18446744073709551616 - 18446744073709551616 else n % 18446744073709551616:=by
  simp [IntKind.wrap,IntKind.bits,IntKind.signed]
 unfold wi
 rw [h]
 split <;> omega
theorem imB_eq (n:Int) (k:Nat):imB n k=n / 2 ^ k % 256:=by
 unfold imB w8
 rw [Go.Wd.wrap_u8,Int.fdiv_eq_ediv_of_nonneg _ (Int.pow_nonneg (by decide))]
def IsB (a:Int):Prop:=0≤a∧a<256
theorem num1_all:all1 256 (fun a=>num1V a == (a+128) % 256 - 128)=true:=by kernel_rfl
theorem num1_eq {a:Int} (h:IsB a):num1V a=(a+128) % 256 - 128:=eq_of_beq (all1_of num1_all h.1 h.2)
theorem or0 {a:Int} (h:IsB a):or64 0 (byU a 0)=a:=by
 rw [or64_add (by decide) (by decide) h.1 h.2 (by decide)]
 omega
theorem num4_eq {a b c d:Int} (ha:IsB a) (hb:IsB b) (hc:IsB c) (hd:IsB d):num4V a b c d=(a+b*256+c*65536+d*16777216+2147483648) % 4294967296 - 2147483648:=by
 obtain ⟨a0,a1⟩:=ha
 obtain ⟨b0,b1⟩:=hb
 obtain ⟨c0,c1⟩:=hc
 obtain ⟨d0,d1⟩:=hd
 unfold num4V
 rw [or0 ⟨a0,a1⟩,or64_add a0 (by omega) b0 b1 (by decide),or64_add (by omega) (by omega) c0 c1 (by decide),or64_add (by omega) (by omega) d0 d1 (by decide)]
 unfold sgnV w64
 rw [Go.Wd.wrap_u64,wi_eq,Int.fdiv_eq_ediv_of_nonneg _ (by decide)]
 omega
theorem num8_eq {a b c d e f g h:Int} (ha:IsB a) (hb:IsB b) (hc:IsB c) (hd:IsB d) (he:IsB e) (hf:IsB f) (hg:IsB g) (hh:IsB h) :
  num8V a b c d e f g h=(a+b*2 ^ 8+c*2 ^ 16+d*2 ^ 24+e*2 ^ 32+f*2 ^ 40+g*2 ^ 48+h*2 ^ 56+9223372036854775808) % 18446744073709551616 - 9223372036854775808:=by
 obtain ⟨a0,a1⟩:=ha
 obtain ⟨b0,b1⟩:=hb
 obtain ⟨c0,c1⟩:=hc
 obtain ⟨d0,d1⟩:=hd
 obtain ⟨e0,e1⟩:=he
 obtain ⟨f0,f1⟩:=hf
 obtain ⟨g0,g1⟩:=hg
 obtain ⟨h0,h1⟩:=hh
 unfold num8V
 rw [or0 ⟨a0,a1⟩,or64_add a0 (by omega) b0 b1 (by decide),or64_add (by omega) (by omega) c0 c1 (by decide),or64_add (by omega) (by omega) d0 d1 (by decide),or64_add (by omega) (by omega) e0 e1 (by decide),
  or64_add (by omega) (by omega) f0 f1 (by decide),or64_add (by omega) (by omega) g0 g1 (by decide),or64_add (by omega) (by omega) h0 h1 (by decide)]
 unfold sgnV w64
 rw [Go.Wd.wrap_u64,wi_eq,Int.fdiv_eq_ediv_of_nonneg _ (by decide)]
 omega
theorem im1_num {a:Int} (h:IsB a):im1 (num1V a)=[a]:=by
 obtain ⟨a0,a1⟩:=h
 unfold im1
 rw [imB_eq,num1_eq ⟨a0,a1⟩]
 congr 1
 omega
theorem im4_num {a b c d:Int} (ha:IsB a) (hb:IsB b) (hc:IsB c) (hd:IsB d):im4 (num4V a b c d)=[a,b,c,d]:=by
 unfold im4
 simp only [imB_eq,num4_eq ha hb hc hd]
 obtain ⟨a0,a1⟩:=ha
 obtain ⟨b0,b1⟩:=hb
 obtain ⟨c0,c1⟩:=hc
 obtain ⟨d0,d1⟩:=hd
 congr 1
 ·omega
 congr 1
 ·omega
 congr 1
 ·omega
 congr 1
 omega
theorem im8_num {a b c d e f g h:Int} (ha:IsB a) (hb:IsB b) (hc:IsB c) (hd:IsB d) (he:IsB e) (hf:IsB f) (hg:IsB g) (hh:IsB h):im8 (num8V a b c d e f g h)=[a,b,c,d,e,f,g,h]:=by
 unfold im8
 simp only [imB_eq,num8_eq ha hb hc hd he hf hg hh]
 obtain ⟨a0,a1⟩:=ha
 obtain ⟨b0,b1⟩:=hb
 obtain ⟨c0,c1⟩:=hc
 obtain ⟨d0,d1⟩:=hd
 obtain ⟨e0,e1⟩:=he
 obtain ⟨f0,f1⟩:=hf
 obtain ⟨g0,g1⟩:=hg
 obtain ⟨h0,h1⟩:=hh
 congr 1
 ·omega
 congr 1
 ·omega
 congr 1
 ·omega
 congr 1
 ·omega
 congr 1
 ·omega
 congr 1
 ·omega
 congr 1
 ·omega
 congr 1
 omega
end Go.Amd

namespace Go.Amd
open Go Go.Ab Go.Proofs
def grpF (f:Int):Bool:=f == 3 || f == 4 || f == 5 || f == 6
def disjF (x y:RowT):Bool:=(formR x == 9 && (grpF (formR y) || formR y == 7 || formR y == 8)) || ((formR y == 9 && (grpF (formR x) || formR x == 7 || formR x == 8)) || (grpF (formR x) && grpF (formR y) && !(x.2.2.2.2.1 == y.2.2.2.2.1)))
def bools:List Bool:=[false,true]
def noPref (x y:RowT):Bool:=bools.all fun fs=>bools.all fun has=>all1 16 fun R=>!(prefF x fs R has && prefF y fs R has)
def apartF (x y:RowT):Bool:=x == y || (noPref x y || (modOf (formR x) && (modOf (formR y) && disjF x y)))
def openers (op:List Int):List RowT:=rowsL.filter fun x=>opensF x op
def pairsF (l:List RowT):Bool:=l.all fun x=>l.all fun y=>apartF x y
theorem open1_all:all1 256 (fun c=>pairsF (openers [c]))=true:=by kernel_rfl
theorem open2_all:all1 256 (fun c=>pairsF (openers [15,c]))=true:=by kernel_rfl
def OpB (op:List Int):Prop:=(∃ c,IsB c∧op=[c])∨(∃ c,IsB c∧op=[15,c])
theorem open_pairs {op:List Int} (h:OpB op):pairsF (openers op)=true:=by
 rcases h with ⟨c,h,rfl⟩ | ⟨c,h,rfl⟩
 ·exact all1_of open1_all h.1 h.2
 ·exact all1_of open2_all h.1 h.2
theorem cand_apart {op:List Int} (h:OpB op) {fs has:Bool} {R:Int} (r0:0≤R) (r1:R<16) {x y:RowT} (hx:x ∈ cands R op fs has) (hy:y ∈ cands R op fs has) (hne:x ≠ y) :
  modOf (formR x)=true∧modOf (formR y)=true∧disjF x y=true:=by
 have get:∀ z ∈ cands R op fs has,z ∈ openers op∧prefF z fs R has=true:=by
  intro z hz
  obtain ⟨h1,h2⟩:=List.mem_filter.1 hz
  unfold cand at h2
  cases ho:opensF z op
  ·rw [ho] at h2; cases h2
  ·rw [ho] at h2
   exact ⟨List.mem_filter.2 ⟨h1,ho⟩,h2⟩
 obtain ⟨x1,x2⟩:=get x hx
 obtain ⟨y1,y2⟩:=get y hy
 have:=List.all_eq_true.1 (List.all_eq_true.1 (open_pairs h) x x1) y y1
 unfold apartF at this
 rcases Bool.or_eq_true_iff.1 this with h | h
 ·exact absurd (eq_of_beq h) hne
 rcases Bool.or_eq_true_iff.1 h with h | h
 ·exfalso
  unfold noPref at h
  have hm:∀ b:Bool,b ∈ bools:=by intro b; cases b <;> simp [bools]
  have:=all1_of (List.all_eq_true.1 (List.all_eq_true.1 h fs (hm fs)) has (hm has)) r0 r1
  rw [x2,y2] at this
  cases this
 ·obtain ⟨h1,h⟩:=Bool.and_eq_true_iff.1 h
  obtain ⟨h2,h3⟩:=Bool.and_eq_true_iff.1 h
  exact ⟨h1,h2,h3⟩
theorem fit_grp {x:RowT} (h:grpF (formR x)=true) (m d rm:Int):fitF x m d rm=cond (m == 3) (d == x.2.2.2.2.1) false:=by
 have key:∀ f:Int,grpF f=true→(f == 9)=false∧(f == 10)=false∧(f == 7 || f == 8)=false:=by
  intro f hf
  unfold grpF at hf
  simp only [Bool.or_eq_true,beq_iff_eq] at hf
  rcases hf with ((rfl | rfl) | rfl) | rfl <;> exact ⟨rfl,rfl,rfl⟩
 obtain ⟨h1,h2,h3⟩:=key _ h
 unfold fitF
 rw [h1,h2,h3]
 rfl
theorem fit_3 {x:RowT} (h:(grpF (formR x) || formR x == 7 || formR x == 8)=true) {m d rm:Int} (hf:fitF x m d rm=true):m=3:=by
 rcases Bool.or_eq_true_iff.1 h with h | h
 ·rcases Bool.or_eq_true_iff.1 h with h | h
  ·rw [fit_grp h] at hf
   cases hm:(m == 3)
   ·rw [hm] at hf; cases hf
   ·exact eq_of_beq hm
  ·have:=eq_of_beq h
   unfold fitF at hf
   rw [this] at hf
   exact eq_of_beq hf
 ·have:=eq_of_beq h
  unfold fitF at hf
  rw [this] at hf
  exact eq_of_beq hf
theorem fit_9 {x:RowT} (h:(formR x == 9)=true) {m d rm:Int} (hf:fitF x m d rm=true):m ≠ 3:=by
 unfold fitF at hf
 rw [h] at hf
 simpa using hf
theorem disj_fit {x y:RowT} (h:disjF x y=true) (c:Int) (hx:fitC c x=true):fitC c y=false:=by
 cases hy:fitC c y
 ·rfl
 exfalso
 unfold fitC at hx hy
 unfold disjF at h
 rcases Bool.or_eq_true_iff.1 h with h | h
 ·obtain ⟨h1,h2⟩:=Bool.and_eq_true_iff.1 h
  exact fit_9 h1 hx (fit_3 h2 hy)
 rcases Bool.or_eq_true_iff.1 h with h | h
 ·obtain ⟨h1,h2⟩:=Bool.and_eq_true_iff.1 h
  exact fit_9 h1 hy (fit_3 h2 hx)
 ·obtain ⟨h1,h3⟩:=Bool.and_eq_true_iff.1 h
  obtain ⟨h1,h2⟩:=Bool.and_eq_true_iff.1 h1
  rw [fit_grp h1] at hx
  rw [fit_grp h2] at hy
  cases hm:(modF c == 3)
  ·rw [show (Int.fdiv c (2 ^ 6) == 3)=false from hm] at hx; cases hx
  ·rw [show (Int.fdiv c (2 ^ 6) == 3)=true from hm] at hx hy
   have e1:=eq_of_beq hx
   have e2:=eq_of_beq hy
   rw [← e1,← e2] at h3
   simp at h3
theorem chosen_one {op:List Int} (h:OpB op) {fs has:Bool} {R:Int} (r0:0≤R) (r1:R<16) {x:RowT} (hx:x ∈ cands R op fs has) :
  (modOf (formR x)=false→cands R op fs has=[x] ∨ ∃ G,cands R op fs has=x :: G ∧ ∀ y ∈ G,y=x) ∧
  (modOf (formR x)=true → ∃ r0 G,cands R op fs has=r0 :: G∧modOf (formR r0)=true ∧ ∀ c,fitC c x=true→(r0 :: G).find? (fitC c)=some x):=by
 have ap:=fun y (hy:y ∈ cands R op fs has) (hne:x ≠ y)=>cand_apart h r0 r1 hx hy hne
 cases hG:cands R op fs has with
 | nil=>rw [hG] at hx; cases hx
 | cons g G =>
  rw [hG] at ap hx
  refine ⟨fun hm=>.inr ?_,fun hm=>⟨g,G,rfl,?_,fun c hc=>?_⟩⟩
  ·have same:∀ y ∈ g :: G,y=x:=by
    intro y hy
    by_cases hne:x=y
    ·exact hne.symm
    ·have:=(ap y hy hne).1; rw [hm] at this; cases this
   exact ⟨G,by rw [same g List.mem_cons_self],fun y hy=>same y (List.mem_cons_of_mem _ hy)⟩
  ·by_cases hne:x=g
   ·rw [← hne]; exact hm
   ·exact (ap g List.mem_cons_self hne).2.1
  ·cases hf:(g :: G).find? (fitC c) with
   | none=>exact absurd hc (by simpa using List.find?_eq_none.1 hf x hx)
   | some y =>
    have hy:=List.mem_of_find?_eq_some hf
    have hp:=List.find?_some hf
    by_cases hne:x=y
    ·rw [hne]
    ·have:=disj_fit (ap y hy hne).2.2 c hc
     rw [this] at hp
     cases hp
end Go.Amd

namespace Go.Amd
open Go Go.Ab Go.Proofs
theorem reg_rng {n:Int} {u:Bool} (h:regF n u=true):0≤n∧n<16:=by
 unfold regF at h
 by_cases h0:n=0
 ·omega
 have e:(n == 0)=false:=beq_eq_false_iff_ne.2 h0
 rw [e,cond_false] at h
 cases u
 ·cases h
 ·rw [cond_true] at h
  by_cases h1:0<n
  ·rw [decide_eq_true h1,cond_true] at h
   have:=of_decide_eq_true h
   omega
  ·rw [decide_eq_false h1] at h; cases h
theorem base_rng {b:Int} (h:baseF b=true):(0≤b∧b<16)∨b=17:=by
 unfold baseF at h
 by_cases h17:b=17
 ·exact .inr h17
 have e:(b == 17)=false:=beq_eq_false_iff_ne.2 h17
 rw [e] at h
 by_cases h0:0≤b
 ·by_cases h1:b≤15
  ·exact .inl ⟨h0,by omega⟩
  ·rw [decide_eq_true h0,decide_eq_false h1] at h; cases h
 ·rw [decide_eq_false h0] at h; cases h
theorem scale_rng {d:Int} (h:scaleF d=true):d=1∨d=2∨d=4∨d=8:=by
 unfold scaleF at h
 by_cases h1:d=1
 ·exact .inl h1
 by_cases h2:d=2
 ·exact .inr (.inl h2)
 by_cases h4:d=4
 ·exact .inr (.inr (.inl h4))
 by_cases h8:d=8
 ·exact .inr (.inr (.inr h8))
 simp [h1,h2,h4,h8] at h
theorem place_rng {b c d:Int} (h:placeF b c d=true) :
  (b=17∧c=16∧d=0)∨((0≤b∧b<16)∧c=16∧d=0)∨((0≤b∧b<16)∧(0≤c∧c<16)∧c ≠ 4∧(d=1∨d=2∨d=4∨d=8)):=by
 unfold placeF at h
 cases hc:(c == 16)
 ·rw [hc,cond_false] at h
  cases h1:baseF b
  ·rw [h1] at h; cases h
  rw [h1,cond_true] at h
  cases h2:(b != 17)
  ·rw [h2] at h; cases h
  rw [h2,cond_true] at h
  cases h3:decide (0≤c)
  ·rw [h3] at h; cases h
  rw [h3,cond_true] at h
  cases h4:decide (c≤15)
  ·rw [h4] at h; cases h
  rw [h4,cond_true] at h
  cases h5:(c != 4)
  ·rw [h5] at h; cases h
  rw [h5,cond_true] at h
  have h2:b ≠ 17:=by simpa using h2
  have h5:c ≠ 4:=by simpa using h5
  have h3:=of_decide_eq_true h3
  have h4:=of_decide_eq_true h4
  rcases base_rng h1 with hb | hb
  ·exact .inr (.inr ⟨hb,⟨h3,by omega⟩,h5,scale_rng h⟩)
  ·exact absurd hb h2
 ·rw [hc,cond_true] at h
  have hc:=eq_of_beq hc
  cases h1:baseF b
  ·rw [h1] at h; cases h
  rw [h1,cond_true] at h
  have hd:=eq_of_beq h
  rcases base_rng h1 with hb | hb
  ·exact .inr (.inl ⟨hb,hc,hd⟩)
  ·exact .inl ⟨hb,hc,hd⟩
theorem cond_rng {d:Int} (h:condF d=true):0≤d∧d<16:=by
 unfold condF at h
 by_cases h0:0≤d
 ·by_cases h9:d≤9
  ·omega
  ·rw [decide_eq_true h0,decide_eq_false h9] at h
   by_cases h12:12≤d
   ·rw [decide_eq_true h12] at h
    have:=of_decide_eq_true h
    omega
   ·rw [decide_eq_false h12] at h; cases h
 ·have h12:¬ 12≤d:=by omega
  rw [decide_eq_false h0,decide_eq_false h12] at h
  cases h
theorem ok_parts {x:RowT} {a b c d:Int} (h:okF x a b c d=true) :
  (uM x=true∧regF a (uA x)=true∧placeF b c d=true)∨(uM x=false∧regF a (uA x)=true∧regF b (uB x)=true∧c=0∧(d=0∨(condR x=true∧condF d=true))):=by
 unfold okF at h
 cases h0:uM x
 ·rw [h0,cond_false] at h
  cases h1:regF a (uA x)
  ·rw [h1] at h; cases h
  rw [h1,cond_true] at h
  cases h2:regF b (uB x)
  ·rw [h2] at h; cases h
  rw [h2,cond_true] at h
  cases h3:(c == 0)
  ·rw [h3] at h; cases h
  rw [h3,cond_true] at h
  refine .inr ⟨rfl,rfl,rfl,eq_of_beq h3,?_⟩
  cases h4:(d == 0)
  ·rw [h4,cond_false] at h
   cases h5:condR x
   ·rw [h5] at h; cases h
   ·rw [h5,cond_true] at h; exact .inr ⟨rfl,h⟩
  ·exact .inl (eq_of_beq h4)
 ·rw [h0,cond_true] at h
  cases h1:regF a (uA x)
  ·rw [h1] at h; cases h
  rw [h1,cond_true] at h
  exact .inl ⟨rfl,rfl,h⟩
theorem ok_imm {x:RowT} {i:InsT} (h:faultyF x i=0):(uI x=true→lowR x≤i.2.2.2.2.2∧i.2.2.2.2.2≤highR x)∧(uI x=false→i.2.2.2.2.2=0):=by
 have ho:=faulty_ok h
 unfold faultyF tailF at h
 rw [ho] at h
 simp only [Bool.not_true,cond_false] at h
 refine ⟨fun hu=>?_,fun hu=>?_⟩
 ·rw [hu,cond_true] at h
  by_cases h1:i.2.2.2.2.2<lowR x
  ·rw [decide_eq_true h1] at h; cases h
  ·by_cases h2:highR x<i.2.2.2.2.2
   ·rw [decide_eq_false h1,decide_eq_true h2] at h; cases h
   ·omega
 ·rw [hu,cond_false] at h
  cases hn:(i.2.2.2.2.2 != 0)
  ·simpa using hn
  ·rw [hn] at h; cases h
end Go.Amd

namespace Go.Amd
open Go Go.Ab Go.Proofs
def OneB (c:Int):Prop:=(c == 15)=false∧(c == 100)=false∧(sh4 c == 4)=false
theorem bne_of {a b:Int} (h:(a == b)=false):(a != b)=true:=by
 unfold bne
 rw [h]; rfl
theorem opcP_one {c:Int} (h:OneB c) (t:List Int):opcP (c :: t) = .ok ([c],1,false,0,false):=by
 obtain ⟨h1,h2,h3⟩:=h
 show opc0 c t=_
 unfold opc0
 rw [h2,h3,bne_of h1]
 rfl
theorem opcP_two (d:Int) (t:List Int):opcP (15 :: d :: t) = .ok ([15,d],2,false,0,false):=rfl
end Go.Amd

namespace Go.Amd
open Go Go.Ab Go.Proofs
theorem rows_dg:rowsL.all (fun x=>decide (0≤x.2.2.2.2.1) && (decide (x.2.2.2.2.1<8) && wi x.2.2.2.2.1 == x.2.2.2.2.1))=true:=by kernel_rfl
theorem dg_rng {x:RowT} (hx:x ∈ rowsL):0≤x.2.2.2.2.1∧x.2.2.2.2.1<8∧wi x.2.2.2.2.1=x.2.2.2.2.1:=by
 have:=List.all_eq_true.1 rows_dg x hx
 simp only [Bool.and_eq_true,decide_eq_true_eq,beq_iff_eq] at this
 exact this
def rI (x:RowT) (i:InsT):Int:=rF (formR x) x.2.2.2.2.1 i.2.1 i.2.2.1 i.2.2.2.1 i.2.2.2.2.1 i.2.2.2.2.2
end Go.Amd

namespace Go.Amd
open Go Go.Ab Go.Proofs
def lastG (f:Int) (cn:Bool) (l a d:Int) (ft:Bool):Int:=
 cond (f == 1) (w8 (l+w8 (andi a 7))) (cond (f == 2) (w8 (l+w8 (andi a 7))) (cond (f == 6) (cond ft l 129) (cond cn (w8 (l+w8 d)) l)))
theorem lastF_eq (f:Int) (cn:Bool) (l a d n:Int):lastF f cn l a d n=lastG f cn l a d (fitsF n):=rfl
def lastO (x:RowT) (i:InsT):Int:=lastF (formR x) (condR x) (w8 x.2.2.1) i.2.1 i.2.2.2.2.1 i.2.2.2.2.2
def headI (x:RowT) (i:InsT):List Int:=hdF x.2.2.1++[lastO x i]
end Go.Amd

namespace Go.Amd
open Go Go.Ab Go.Proofs
theorem rows_rex:rowsL.all (fun x=>(x.2.1 == 0 || (x.2.1 == 1 || x.2.1 == 2)) && (cond (x.2.1 == 1 || decide (x.2.2.1≤255)) true (x.2.1 == 0 && (formR x == 0 || (formR x == 11 || formR x == 12))) && cond (formR x == 10) (x.2.1 == 1 && decide (x.2.2.1≤255)) true))=true:=by kernel_rfl
theorem rex_of {x:RowT} (hx:x ∈ rowsL):(x.2.1=0∨x.2.1=1∨x.2.1=2)∧(x.2.1 ≠ 1→255<x.2.2.1→x.2.1=0∧(formR x=0∨formR x=11∨formR x=12))∧(formR x=10→x.2.1=1∧x.2.2.1≤255):=by
 have:=List.all_eq_true.1 rows_rex x hx
 obtain ⟨h1,h⟩:=Bool.and_eq_true_iff.1 this
 obtain ⟨h2,h3⟩:=Bool.and_eq_true_iff.1 h
 simp only [Bool.or_eq_true,beq_iff_eq] at h1
 refine ⟨h1,fun hn hl=>?_,fun he=>?_⟩
 ·rw [beq_eq_false_iff_ne.2 hn,decide_eq_false (Int.not_le.2 hl)] at h2
  simpa using h2
 ·rw [he] at h3
  obtain ⟨h4,h5⟩:=Bool.and_eq_true_iff.1 h3
  exact ⟨eq_of_beq h4,of_decide_eq_true h5⟩
theorem rI_none {x:RowT} {i:InsT} (h:formR x=0∨formR x=11∨formR x=12):rI x i=0:=by
 unfold rI
 rcases h with h | h | h <;> rw [h] <;> rfl
end Go.Amd

namespace Go.Amd
open Go Go.Ab Go.Proofs
theorem or8_all:all1 8 (fun r=>or8 r 8 == 8+r && (or8 64 (8+r) == 64+(8+r) && (or8 64 r == 64+r && and8 (8+r) 8 != 0)))=true:=by kernel_rfl
theorem or8_of {r:Int} (r0:0≤r) (r1:r<8):or8 64 (or8 r 8)=64+(8+r)∧or8 64 r=64+r∧(and8 (8+r) 8 != 0)=true:=by
 have:=all1_of or8_all r0 r1
 simp only [Bool.and_eq_true,beq_iff_eq] at this
 obtain ⟨h1,h2,h3,h4⟩:=this
 exact ⟨by rw [h1,h2],h3,h4⟩
def tailI (x:RowT) (i:InsT):List Int:=tailB (formR x) x.2.2.2.2.1 i.2.1 i.2.2.1 i.2.2.2.1 i.2.2.2.2.1 i.2.2.2.2.2
theorem bytes_split (x:RowT) (i:InsT):bytesF x i=fsF (formR x)++rexL x.2.1 (rI x i)++headI x i++tailI x i:=rfl
end Go.Amd

namespace Go.Amd
open Go Go.Ab Go.Proofs
def frontI (x:RowT) (i:InsT):List Int:=fsF (formR x)++rexL x.2.1 (rI x i)++headI x i
end Go.Amd

namespace Go.Amd
open Go Go.Ab Go.Proofs
theorem fitsF_iff (n:Int):fitsF n=true ↔ -128≤n∧n<128:=by
 unfold fitsF
 by_cases h0 : -128≤n
 ·by_cases h1:n≤127
  ·rw [decide_eq_true h0,decide_eq_true h1]
   exact ⟨fun _=>by omega,fun _=>rfl⟩
  ·rw [decide_eq_true h0,decide_eq_false h1]
   exact ⟨fun h=>(by cases h),fun h=>(by omega)⟩
 ·rw [decide_eq_false h0]
  exact ⟨fun h=>(by cases h),fun h=>(by omega)⟩
end Go.Amd

namespace Go.Amd
open Go Go.Ab Go.Proofs
theorem wi_small {n:Int} (h0:0≤n) (h1:n<256):wi n=n:=by
 rw [wi_eq]
 omega
end Go.Amd

namespace Go.Amd
open Go Go.Ab Go.Proofs
theorem formQ_1 (R:Int) (x:RowT) (op:List Int) (c:Int) (t:List Int) (k d:Int):formQ 1 R x op c t k d=lastQ x op fun a=>finQ x (x.1,wi (a+bitF R 1),0,0,d,0) k:=rfl
end Go.Amd

namespace Go.Amd
open Go Go.Ab Go.Proofs
theorem formQ_11 (R:Int) (x:RowT) (op:List Int) (c:Int) (t:List Int) (k d:Int):formQ 11 R x op c t k d=num4Q t k fun n _ k=>finQ x (x.1,0,0,0,d,n) k:=rfl
theorem formQ_12 (R:Int) (x:RowT) (op:List Int) (c:Int) (t:List Int) (k d:Int):formQ 12 R x op c t k d=num1Q t k fun n _ k=>finQ x (x.1,0,0,0,d,n) k:=rfl
end Go.Amd

namespace Go.Amd
open Go Go.Ab Go.Proofs
theorem rI_grp {x:RowT} (hx:x ∈ rowsL) {i:InsT} (ha:0≤i.2.1∧i.2.1<16) (hf:formR x=3∨formR x=4∨formR x=5∨formR x=6):rI x i=i.2.1 / 8:=by
 obtain ⟨d0,d1,d2⟩:=dg_rng hx
 have e:rI x i=rexM 0 (wi x.2.2.2.2.1) i.2.1:=by
  unfold rI
  rcases hf with e | e | e | e <;> rw [e] <;> rfl
 rw [e,d2,rexM_eq d0 (by omega) ha.1 ha.2]
 omega
theorem formQ_3 (R:Int) (x:RowT) (op:List Int) (c:Int) (t:List Int) (k d:Int):formQ 3 R x op c t k d=finQ x (x.1,lowF c R,0,0,d,0) k:=rfl
theorem formQ_4 (R:Int) (x:RowT) (op:List Int) (c:Int) (t:List Int) (k d:Int):formQ 4 R x op c t k d=num4Q t k fun n _ k=>finQ x (x.1,lowF c R,0,0,d,n) k:=rfl
theorem formQ_5 (R:Int) (x:RowT) (op:List Int) (c:Int) (t:List Int) (k d:Int):formQ 5 R x op c t k d=num1Q t k fun n _ k=>finQ x (x.1,lowF c R,0,0,d,n) k:=rfl
theorem formQ_7 (R:Int) (x:RowT) (op:List Int) (c:Int) (t:List Int) (k d:Int):formQ 7 R x op c t k d=finQ x (x.1,lowF c R,midF c R,0,d,0) k:=rfl
theorem formQ_8 (R:Int) (x:RowT) (op:List Int) (c:Int) (t:List Int) (k d:Int):formQ 8 R x op c t k d=finQ x (x.1,midF c R,lowF c R,0,d,0) k:=rfl
end Go.Amd

namespace Go.Amd
open Go Go.Ab Go.Proofs
theorem formQ_6 (R:Int) (x:RowT) (op:List Int) (c:Int) (t:List Int) (k d:Int):formQ 6 R x op c t k d =
  cond (op.getD 0 0 == 131) (num1Q t k fun n _ k=>finQ x (x.1,lowF c R,0,0,d,n) k) (num4Q t k fun n _ k=>mustQ (!fitsF n) k (finQ x (x.1,lowF c R,0,0,d,n) k)):=rfl
theorem formQ_10 (R:Int) (x:RowT) (op:List Int) (c:Int) (t:List Int) (k d:Int):formQ 10 R x op c t k d =
  nxQ t k fun e t k=>mustQ (e == 37) k (num4Q t k fun n _ k=>finQ x (x.1,midF c R,0,0,d,n) k):=rfl
end Go.Amd

namespace Go.Amd
open Go Go.Ab Go.Proofs
def immS (n:Int):List Int:=cond (fitsF n) (im1 n) (im4 n)
end Go.Amd

namespace Go.Amd
open Go Go.Ab Go.Proofs
theorem small_all:all1 16 (fun b=>andi b 7 == b % 8 && (and8 b 3 == b % 4 && and8 b 2 == 2*(b / 2 % 2)))=true:=by kernel_rfl
theorem andi7 {b:Int} (b0:0≤b) (b1:b<16):andi b 7=b % 8:=by
 have:=all1_of small_all b0 b1
 simp only [Bool.and_eq_true,beq_iff_eq] at this
 exact this.1
theorem and83 {b:Int} (b0:0≤b) (b1:b<16):and8 b 3=b % 4∧and8 b 2=2*(b / 2 % 2):=by
 have:=all1_of small_all b0 b1
 simp only [Bool.and_eq_true,beq_iff_eq] at this
 exact this.2
theorem scF_all:all1 256 (fun e=>cond (e / 64 == 0) (scF e == 1) (cond (e / 64 == 1) (scF e == 2) (cond (e / 64 == 2) (scF e == 4) (scF e == 8))))=true:=by kernel_rfl
def ModeOk (b n mod:Int) (imm:List Int):Prop:=
 (mod=0∧imm=[]∧n=0∧b % 8 ≠ 5)∨(mod=1∧imm=im1 n∧(-128≤n∧n<128)∧(n=0→b % 8=5))∨(mod=2∧imm=im4 n∧fitsF n=false)
end Go.Amd

namespace Go.Amd
open Go Go.Ab Go.Proofs
section
variable {x:RowT} {i:InsT}
theorem tail_e {f:Int} (hf:formR x=f):tailI x i=tailB f x.2.2.2.2.1 i.2.1 i.2.2.1 i.2.2.2.1 i.2.2.2.2.1 i.2.2.2.2.2:=by unfold tailI; rw [hf]
theorem tail_0 (hf:formR x=0):tailI x i=[]:=by rw [tail_e hf]; rfl
theorem tail_1 (hf:formR x=1):tailI x i=[]:=by rw [tail_e hf]; rfl
theorem tail_2 (hf:formR x=2):tailI x i=im8 i.2.2.2.2.2:=by rw [tail_e hf]; rfl
theorem tail_3 (hf:formR x=3):tailI x i=[mrB 3 (wi x.2.2.2.2.1) i.2.1]:=by rw [tail_e hf]; rfl
theorem tail_4 (hf:formR x=4):tailI x i=mrB 3 (wi x.2.2.2.2.1) i.2.1 :: im4 i.2.2.2.2.2:=by rw [tail_e hf]; rfl
theorem tail_5 (hf:formR x=5):tailI x i=mrB 3 (wi x.2.2.2.2.1) i.2.1 :: im1 i.2.2.2.2.2:=by rw [tail_e hf]; rfl
theorem tail_6 (hf:formR x=6):tailI x i=mrB 3 (wi x.2.2.2.2.1) i.2.1 :: immS i.2.2.2.2.2:=by rw [tail_e hf]; rfl
theorem tail_7 (hf:formR x=7):tailI x i=[mrB 3 i.2.2.1 i.2.1]:=by rw [tail_e hf]; rfl
theorem tail_8 (hf:formR x=8):tailI x i=[mrB 3 i.2.1 i.2.2.1]:=by rw [tail_e hf]; rfl
theorem tail_9 (hf:formR x=9):tailI x i=(memP i.2.1 i.2.2.1 i.2.2.2.1 i.2.2.2.2.1 i.2.2.2.2.2).2:=by rw [tail_e hf]; rfl
theorem tail_10 (hf:formR x=10):tailI x i=mrB 0 i.2.1 4 :: 37 :: im4 i.2.2.2.2.2:=by rw [tail_e hf]; rfl
theorem tail_11 (hf:formR x=11):tailI x i=im4 i.2.2.2.2.2:=by rw [tail_e hf]; rfl
theorem tail_12 (hf:formR x=12):tailI x i=im1 i.2.2.2.2.2:=by rw [tail_e hf]; rfl
end
theorem cond_9 {x:RowT} (hx:x ∈ rowsL) (hf:formR x=9):condR x=false:=by
 have hr:rowsL.all (fun x=>!(formR x == 9 && condR x))=true:=by kernel_rfl
 have:=List.all_eq_true.1 hr x hx
 rw [hf] at this
 cases hc:condR x
 ·rfl
 ·rw [hc] at this; cases this
theorem formQ_9 (R:Int) (x:RowT) (op:List Int) (c:Int) (t:List Int) (k d:Int):formQ 9 R x op c t k d=placeQ R c t k fun b cc d n _ k=>finQ x (x.1,midF c R,b,cc,d,n) k:=rfl
theorem enc_split (i:InsT):encL i=frontI (frow i.1) i++tailI (frow i.1) i:=bytes_split _ _
end Go.Amd

namespace Go.Amd
open Go Go.Ab Go.Proofs
theorem all_f {α:Type} {c:Bool} {x y:Tree α} {Q:α→Prop} (h:c=false) (hy:y.all Q):(Tree.br c x y).all Q:=⟨fun e=>Bool.noConfusion (h.symm.trans e),fun _=>hy⟩
def AllB (l:List Int):Prop:=∀ c ∈ l,IsB c
end Go.Amd

namespace Go.Amd
open Go Go.Ab Go.Proofs
def MonoP (F:List Int→Int→RestR):Prop:=∀ (t:List Int) (k:Int) (i:InsT) (m:Int),F t k = .ok (i,m) → ∃ u:Nat,m=k+u∧u≤t.length ∧ ∀ j<u,∃ s,F (t.take j) k = .error (2,s)
theorem mono_fin (x:RowT) (i:InsT):MonoP fun _ k=>finQ x i k:=by
 intro t k i' m h
 have h:finQ x i k = .ok (i',m):=h
 unfold finQ at h
 cases hc:(!(faultyF x i == 0))
 ·rw [hc,cond_false] at h
  have h2:=Prod.mk.inj (Except.ok.inj h)
  exact ⟨0,by omega,by omega,fun j hj=>by omega⟩
 ·rw [hc,cond_true] at h; cases h
theorem mono_must {b:Bool} {F:List Int→Int→RestR} (h:MonoP F):MonoP fun t k=>mustQ b k (F t k):=by
 intro t k i m he
 cases b
 ·cases he
 ·exact h t k i m he
theorem mono_cond {b:Bool} {F G:List Int→Int→RestR} (h:MonoP F) (g:MonoP G):MonoP fun t k=>cond b (F t k) (G t k):=by
 cases b
 ·exact g
 ·exact h
theorem mono_nx {K:Int→List Int→Int→RestR} (h:∀ c,MonoP (K c)):MonoP fun t k=>nxQ t k K:=by
 intro t k i m he
 cases t with
 | nil=>cases he
 | cons c t =>
  obtain ⟨u,h1,h2,h3⟩:=h c t (k+1) i m he
  refine ⟨u+1,by omega,by simp only [List.length_cons]; omega,fun j hj=>?_⟩
  cases j with
  | zero=>exact ⟨k,rfl⟩
  | succ j=>exact h3 j (by omega)
theorem mono_num1 {K:Int→List Int→Int→RestR} (h:∀ c,MonoP (K c)):MonoP fun t k=>num1Q t k K:=mono_nx fun _=>h _
theorem mono_num4 {K:Int→List Int→Int→RestR} (h:∀ c,MonoP (K c)):MonoP fun t k=>num4Q t k K:=mono_nx fun _=>mono_nx fun _=>mono_nx fun _=>mono_nx fun _=>h _
theorem mono_num8 {K:Int→List Int→Int→RestR} (h:∀ c,MonoP (K c)):MonoP fun t k=>num8Q t k K:=
 mono_nx fun _=>mono_nx fun _=>mono_nx fun _=>mono_nx fun _=>mono_nx fun _=>mono_nx fun _=>mono_nx fun _=>mono_nx fun _=>h _
theorem mono_err (e:Int):MonoP fun _ k=>.error (e,k):=fun t k i m h=>by cases h
theorem mono_mod (c b:Int) {K:Int→List Int→Int→RestR} (h:∀ c,MonoP (K c)):MonoP fun t k=>modQ c b t k K:=
 mono_cond (mono_num1 fun n=>mono_cond (h n) (mono_must (h n))) (mono_cond (mono_num4 fun n=>mono_must (h n)) (h 0))
theorem mono_sib2 (R c e:Int) {K:PlaceK} (h:∀ b cc d n,MonoP (K b cc d n)):MonoP fun t k=>sibQ2 R c e t k K:=
 mono_cond (mono_cond (mono_must (mono_mod _ _ fun n=>h _ _ _ n)) (mono_err 22)) (mono_mod _ _ fun n=>h _ _ _ n)
theorem mono_sib (R c:Int) {K:PlaceK} (h:∀ b cc d n,MonoP (K b cc d n)):MonoP fun t k=>sibQ R c t k K:=
 mono_nx fun e=>mono_cond (mono_sib2 R c e h) (mono_must (mono_sib2 R c e h))
theorem mono_base (R c:Int) {K:PlaceK} (h:∀ b cc d n,MonoP (K b cc d n)):MonoP fun t k=>baseQ R c t k K:=
 mono_cond (mono_sib R c h) (mono_must (mono_mod _ _ fun n=>h _ _ _ n))
theorem mono_place (R c:Int) {K:PlaceK} (h:∀ b cc d n,MonoP (K b cc d n)):MonoP fun t k=>placeQ R c t k K:=
 mono_cond (mono_cond (mono_must (mono_num4 fun n=>h _ _ _ n)) (mono_base R c h)) (mono_base R c h)
theorem mono_form (f R:Int) (x:RowT) (op:List Int) (c d:Int):MonoP fun t k=>formQ f R x op c t k d:=by
 unfold formQ lastQ
 refine mono_cond (mono_fin x _) (mono_cond (mono_fin x _) (mono_cond (mono_num8 fun n=>mono_fin x _) (mono_cond (mono_fin x _) (mono_cond (mono_num4 fun n=>mono_fin x _) (mono_cond (mono_num1 fun n=>mono_fin x _)
  (mono_cond (mono_cond (mono_num1 fun n=>mono_fin x _) (mono_num4 fun n=>mono_must (mono_fin x _))) (mono_cond (mono_fin x _) (mono_cond (mono_fin x _) (mono_cond (mono_place R c fun b cc d n=>mono_fin x _)
  (mono_cond (mono_nx fun e=>mono_must (mono_num4 fun n=>mono_fin x _)) (mono_cond (mono_num4 fun n=>mono_fin x _) (mono_num1 fun n=>mono_fin x _))))))))))))
theorem mono_rest (R:Int) (x:RowT) (op:List Int) (c:Int):MonoP fun t k=>restQ R x op c t k:=by
 unfold restQ lastQ
 exact mono_cond (mono_form _ R x op c _) (mono_form _ R x op c 0)
def OpcAt (l op:List Int) (k:Int) (fs:Bool) (R:Int) (has:Bool):Prop:=
 (∃ t,l=op++t∧k=(op.length:Int)∧fs=false∧R=0∧has=false∧((∃ c,op=[c]∧OneB c)∨(∃ d,op=[15,d]))) ∨
 (∃ r t,l=r :: op++t∧k=(op.length:Int)+1∧fs=false∧(r == 100)=false∧(sh4 r == 4)=true∧R=and8 r 15∧has=true∧((∃ c,op=[c]∧(c == 15)=false)∨(∃ d,op=[15,d]∧(and8 R 8 != 0)=true))) ∨
 (∃ r c t,l=100 :: r :: c :: t∧op=[c]∧k=3∧fs=true∧(and8 r 251 == 72)=true∧(sh4 r == 4)=true∧R=and8 r 15∧has=true∧(c == 15)=false)
theorem fs_all:all1 256 (fun r=>cond (and8 r 251 == 72) (sh4 r == 4 && (and8 r 15 == 8 || and8 r 15 == 12)) true)=true:=by kernel_rfl
theorem bne_ff {a b:Int} (h:(a != b)=true):(a == b)=false:=by
 unfold bne at h
 cases hb:(a == b)
 ·rfl
 ·rw [hb] at h; cases h
theorem bne_tt {a b:Int} (h:(a != b)=false):a=b:=by
 unfold bne at h
 cases hb:(a == b)
 ·rw [hb] at h; cases h
 ·exact eq_of_beq hb
theorem opc_at {l op:List Int} {k:Int} {fs:Bool} {R:Int} {has:Bool} (hl:AllB l) (h:opcP l = .ok (op,k,fs,R,has)):OpcAt l op k fs R has:=by
 have ok:∀ {o:List Int} {j:Int} {f:Bool} {r:Int} {b:Bool},(Except.ok (o,j,f,r,b):OpR) = .ok (op,k,fs,R,has)→o=op∧j=k∧f=fs∧r=R∧b=has:=by
  intro o j f r b h
  cases h
  exact ⟨rfl,rfl,rfl,rfl,rfl⟩
 cases l with
 | nil=>cases h
 | cons c t =>
  unfold opcP opc0 at h
  simp only at h
  cases h0:(c == 100)
  ·rw [h0,cond_false] at h
   cases h4:(sh4 c == 4)
   ·rw [h4,cond_false] at h
    cases h15:(c != 15)
    ·rw [h15,cond_false] at h
     cases t with
     | nil=>cases h
     | cons d t =>
      obtain ⟨rfl,rfl,rfl,rfl,rfl⟩:=ok h
      have:=bne_tt h15
      subst this
      exact .inl ⟨t,rfl,rfl,rfl,rfl,rfl,.inr ⟨d,rfl⟩⟩
    ·rw [h15,cond_true] at h
     obtain ⟨rfl,rfl,rfl,rfl,rfl⟩:=ok h
     exact .inl ⟨t,rfl,rfl,rfl,rfl,rfl,.inl ⟨c,rfl,bne_ff h15,h0,h4⟩⟩
   ·rw [h4,cond_true] at h
    cases t with
    | nil=>cases h
    | cons d t =>
     simp only at h
     unfold opc2 at h
     cases h15:(d != 15)
     ·rw [h15,cond_false] at h
      cases h8:(!(and8 (and8 c 15) 8 != 0))
      ·rw [h8,cond_false] at h
       cases t with
       | nil=>cases h
       | cons e t =>
        obtain ⟨rfl,rfl,rfl,rfl,rfl⟩:=ok h
        have:=bne_tt h15
        subst this
        exact .inr (.inl ⟨c,t,rfl,rfl,rfl,h0,h4,rfl,rfl,.inr ⟨e,rfl,by simpa using h8⟩⟩)
      ·rw [h8] at h; cases h
     ·rw [h15,cond_true] at h
      obtain ⟨rfl,rfl,rfl,rfl,rfl⟩:=ok h
      exact .inr (.inl ⟨c,t,rfl,rfl,rfl,h0,h4,rfl,rfl,.inl ⟨d,rfl,bne_ff h15⟩⟩)
  ·rw [h0,cond_true] at h
   have hc:=eq_of_beq h0
   subst hc
   cases t with
   | nil=>cases h
   | cons d t =>
    simp only at h
    unfold opc1 at h
    cases h48:(!(and8 d 251 == 72))
    ·rw [h48,cond_false] at h
     have h48:(and8 d 251 == 72)=true:=by simpa using h48
     have hd:IsB d:=hl d (List.mem_cons_of_mem _ List.mem_cons_self)
     have h4:(sh4 d == 4)=true:=by
      have:=all1_of fs_all hd.1 hd.2
      rw [h48,cond_true] at this
      exact (Bool.and_eq_true_iff.1 this).1
     rw [h4,cond_true] at h
     cases t with
     | nil=>cases h
     | cons e t =>
      simp only at h
      cases h15:(e != 15)
      ·rw [h15] at h; cases h
      ·rw [h15,cond_true] at h
       obtain ⟨rfl,rfl,rfl,rfl,rfl⟩:=ok h
       exact .inr (.inr ⟨d,e,t,rfl,rfl,rfl,rfl,h48,h4,rfl,rfl,bne_ff h15⟩)
    ·rw [h48] at h; cases h
theorem opc_take {l op:List Int} {k:Int} {fs:Bool} {R:Int} {has:Bool} (hl:AllB l) (h:opcP l = .ok (op,k,fs,R,has)) (j:Nat) :
  (((j:Int)<k) → ∃ s,opcP (l.take j) = .error (2,s))∧(k≤(j:Int)→opcP (l.take j) = .ok (op,k,fs,R,has)):=by
 rcases opc_at hl h with ⟨t,rfl,rfl,rfl,rfl,rfl,⟨c,rfl,h1,h2,h3⟩ | ⟨d,rfl⟩⟩ | ⟨r,t,rfl,rfl,rfl,h100,h4,rfl,rfl,⟨c,rfl,h1⟩ | ⟨d,rfl,h8⟩⟩ | ⟨r,c,t,rfl,rfl,rfl,rfl,h48,h4,rfl,rfl,h15⟩
 ·match j with
  | 0=>exact ⟨fun _=>⟨_,rfl⟩,fun hj=>absurd hj (by simp only [List.length_cons,List.length_nil]; omega)⟩
  | j+1=>exact ⟨fun hj=>absurd hj (by simp only [List.length_cons,List.length_nil]; omega),fun _=>opcP_one ⟨h1,h2,h3⟩ _⟩
 ·match j with
  | 0=>exact ⟨fun _=>⟨_,rfl⟩,fun hj=>absurd hj (by simp only [List.length_cons,List.length_nil]; omega)⟩
  | 1=>exact ⟨fun _=>⟨_,rfl⟩,fun hj=>absurd hj (by simp only [List.length_cons,List.length_nil]; omega)⟩
  | j+2=>exact ⟨fun hj=>absurd hj (by simp only [List.length_cons,List.length_nil]; omega),fun _=>opcP_two d _⟩
 ·match j with
  | 0=>exact ⟨fun _=>⟨_,rfl⟩,fun hj=>absurd hj (by simp only [List.length_cons,List.length_nil]; omega)⟩
  | 1 =>
   refine ⟨fun _=>?_,fun hj=>absurd hj (by simp only [List.length_cons,List.length_nil]; omega)⟩
   show ∃ s,opc0 r []=_
   unfold opc0
   rw [h100,h4]
   exact ⟨_,rfl⟩
  | j+2 =>
   refine ⟨fun hj=>absurd hj (by simp only [List.length_cons,List.length_nil]; omega),fun _=>?_⟩
   show opc0 r (c :: t.take j)=_
   unfold opc0
   rw [h100,h4,cond_false,cond_true]
   show opc2 (and8 r 15) c _=_
   unfold opc2
   rw [bne_of h1]
   rfl
 ·match j with
  | 0=>exact ⟨fun _=>⟨_,rfl⟩,fun hj=>absurd hj (by simp only [List.length_cons,List.length_nil]; omega)⟩
  | 1 =>
   refine ⟨fun _=>?_,fun hj=>absurd hj (by simp only [List.length_cons,List.length_nil]; omega)⟩
   show ∃ s,opc0 r []=_
   unfold opc0
   rw [h100,h4]
   exact ⟨_,rfl⟩
  | 2 =>
   refine ⟨fun _=>?_,fun hj=>absurd hj (by simp only [List.length_cons,List.length_nil]; omega)⟩
   show ∃ s,opc0 r [15]=_
   unfold opc0
   rw [h100,h4,cond_false,cond_true]
   show ∃ s,opc2 (and8 r 15) 15 []=_
   unfold opc2
   rw [h8]
   exact ⟨_,rfl⟩
  | j+3 =>
   refine ⟨fun hj=>absurd hj (by simp only [List.length_cons,List.length_nil]; omega),fun _=>?_⟩
   show opc0 r (15 :: d :: t.take j)=_
   unfold opc0
   rw [h100,h4,cond_false,cond_true]
   show opc2 (and8 r 15) 15 (d :: _)=_
   unfold opc2
   rw [h8]
   rfl
 ·match j with
  | 0=>exact ⟨fun _=>⟨_,rfl⟩,fun hj=>absurd hj (by omega)⟩
  | 1=>exact ⟨fun _=>⟨_,rfl⟩,fun hj=>absurd hj (by omega)⟩
  | 2 =>
   refine ⟨fun _=>?_,fun hj=>absurd hj (by omega)⟩
   show ∃ s,opc1 r []=_
   unfold opc1
   rw [h48,h4]
   exact ⟨_,rfl⟩
  | j+3 =>
   refine ⟨fun hj=>absurd hj (by omega),fun _=>?_⟩
   show opc1 r (c :: t.take j)=_
   unfold opc1
   rw [h48,h4]
   show cond (c != 15) _ _=_
   rw [bne_of h15]
   rfl
theorem rexr_all:all1 256 (fun r=>cond (sh4 r == 4) (r == 64+and8 r 15 && (decide (0≤and8 r 15) && decide (and8 r 15<16))) true)=true:=by kernel_rfl
theorem rexr_of {r:Int} (hr:IsB r) (h:(sh4 r == 4)=true):r=64+and8 r 15∧0≤and8 r 15∧and8 r 15<16:=by
 have:=all1_of rexr_all hr.1 hr.2
 rw [h,cond_true] at this
 simp only [Bool.and_eq_true,beq_iff_eq,decide_eq_true_eq] at this
 exact this
theorem opc_split {l op:List Int} {k:Int} {fs:Bool} {R:Int} {has:Bool} (hl:AllB l) (h:opcP l = .ok (op,k,fs,R,has)) :
  OpB op∧(0≤R∧R<16)∧(has=false→R=0)∧(fs=true→has=true∧(R=8∨R=12))∧0≤k∧l=(cond fs [100] []++cond has [64+R] []++op)++l.drop k.toNat∧k=((cond fs [100] []++cond has [64+R] []++op).length:Int):=by
 have b0:∀ {c:Int} {t:List Int},AllB (c :: t)→IsB c:=fun h=>h _ List.mem_cons_self
 have b1:∀ {c:Int} {t:List Int},AllB (c :: t)→AllB t:=fun h d hd=>h d (List.mem_cons_of_mem _ hd)
 rcases opc_at hl h with ⟨t,rfl,rfl,rfl,rfl,rfl,⟨c,rfl,h1,h2,h3⟩ | ⟨d,rfl⟩⟩ | ⟨r,t,rfl,rfl,rfl,h100,h4,rfl,rfl,⟨c,rfl,h1⟩ | ⟨d,rfl,h8⟩⟩ | ⟨r,c,t,rfl,rfl,rfl,rfl,h48,h4,rfl,rfl,h15⟩
 ·exact ⟨.inl ⟨c,b0 hl,rfl⟩,by decide,fun _=>rfl,(fun h=>by cases h),by simp only [List.length_cons,List.length_nil]; omega,rfl,rfl⟩
 ·exact ⟨.inr ⟨d,b0 (b1 hl),rfl⟩,by decide,fun _=>rfl,(fun h=>by cases h),by simp only [List.length_cons,List.length_nil]; omega,rfl,rfl⟩
 ·obtain ⟨e,e0,e1⟩:=rexr_of (b0 hl) h4
  refine ⟨.inl ⟨c,b0 (b1 hl),rfl⟩,⟨e0,e1⟩,(fun h=>by cases h),(fun h=>by cases h),by simp only [List.length_cons,List.length_nil]; omega,?_,rfl⟩
  rw [← e]; rfl
 ·obtain ⟨e,e0,e1⟩:=rexr_of (b0 hl) h4
  refine ⟨.inr ⟨d,b0 (b1 (b1 hl)),rfl⟩,⟨e0,e1⟩,(fun h=>by cases h),(fun h=>by cases h),by simp only [List.length_cons,List.length_nil]; omega,?_,rfl⟩
  rw [← e]; rfl
 ·obtain ⟨e,e0,e1⟩:=rexr_of (b0 (b1 hl)) h4
  have hR:and8 r 15=8∨and8 r 15=12:=by
   have:=all1_of fs_all (b0 (b1 hl)).1 (b0 (b1 hl)).2
   rw [h48,cond_true] at this
   simpa using (Bool.and_eq_true_iff.1 this).2
  refine ⟨.inl ⟨c,b0 (b1 (b1 hl)),rfl⟩,⟨e0,e1⟩,(fun h=>by cases h),fun _=>⟨rfl,hR⟩,by decide,?_,rfl⟩
  rw [← e]; rfl
theorem plainR_ok {r:RestR} {p:InsT × Int} (h:plainR r = .ok p):r = .ok p:=by
 cases r with
 | ok q=>exact congrArg Except.ok (Except.ok.inj h)
 | error q=>cases h
theorem dec_parts {l:List Int} (hl:AllB l) {i:InsT} {n:Int} (h:decQ l = .ok (i,n)):∃ op k fs R has,opcP l = .ok (op,k,fs,R,has) ∧ ∃ x,x ∈ cands R op fs has ∧
  ((modOf (formR x)=false∧restQ R x op 0 (l.drop k.toNat) k = .ok (i,n))∨(modOf (formR x)=true ∧ ∃ c t,l.drop k.toNat=c :: t∧fitC c x=true∧restQ R x op c t (k+1) = .ok (i,n))):=by
 unfold decQ at h
 cases ho:opcP l with
 | error p=>rw [ho] at h; cases h
 | ok p =>
  obtain ⟨op,k,fs,R,has⟩:=p
  rw [ho] at h
  simp only at h
  refine ⟨op,k,fs,R,has,rfl,?_⟩
  cases hc:cands R op fs has with
  | nil=>rw [hc] at h; cases h
  | cons r0 G =>
   rw [hc] at h
   simp only at h
   have hmod:∀ y ∈ r0 :: G,y ∈ cands R op fs has:=fun y hy=>by rw [hc]; exact hy
   cases hm:modOf (formR r0)
   ·rw [hm,cond_false] at h
    exact ⟨r0,List.mem_cons_self,.inl ⟨hm,plainR_ok h⟩⟩
   ·rw [hm,cond_true] at h
    cases hd:l.drop k.toNat with
    | nil=>rw [hd] at h; cases h
    | cons c t =>
     rw [hd] at h
     unfold decC at h
     simp only at h
     cases hx:(r0 :: G).find? (fitC c) with
     | none=>rw [hx] at h; cases h
     | some x =>
      rw [hx] at h
      have hfit:fitC c x=true:=by
       have:=List.find?_some hx
       exact this
      have hmem:=List.mem_of_find?_eq_some hx
      refine ⟨x,hmem,.inr ⟨?_,c,t,rfl,hfit,plainR_ok h⟩⟩
      obtain ⟨s1,s2,-⟩:=opc_split hl ho
      by_cases hne:r0=x
      ·rw [← hne]; exact hm
      ·exact (cand_apart s1 s2.1 s2.2 (hmod r0 List.mem_cons_self) (hmod x hmem) hne).2.1
theorem cands_of {op:List Int} {fs has:Bool} {R:Int} {x:RowT} (h:x ∈ cands R op fs has):x ∈ rowsL∧opensF x op=true∧prefF x fs R has=true:=by
 obtain ⟨h1,h2⟩:=List.mem_filter.1 h
 unfold cand at h2
 cases ho:opensF x op
 ·rw [ho] at h2; cases h2
 ·rw [ho] at h2; exact ⟨h1,rfl,h2⟩
theorem dec_short {l:List Int} (hl:AllB l) {i:InsT} {n:Int} (h:decQ l = .ok (i,n)):0≤n∧n≤(l.length:Int) ∧ ∀ j:Nat,(j:Int)<n→decQ (l.take j) = .error 2:=by
 obtain ⟨op,k,fs,R,has,ho,x,hx,hr⟩:=dec_parts hl h
 obtain ⟨s1,s2,-,-,k0,e1,e2⟩:=opc_split hl ho
 have hk:k≤(l.length:Int):=by
  rw [e1,List.length_append]
  omega
 have hdl:((l.drop k.toNat).length:Int)=(l.length:Int) - k:=by rw [List.length_drop]; omega
 have tk:=opc_take hl ho
 have early:∀ j:Nat,(j:Int)<k→decQ (l.take j) = .error 2:=by
  intro j hj
  obtain ⟨s,hs⟩:=(tk j).1 hj
  unfold decQ
  rw [hs]
 have hone:=chosen_one s1 s2.1 s2.2 hx
 rcases hr with ⟨hm,hr⟩ | ⟨hm,c,t,hd,hf,hr⟩
 ·obtain ⟨u,h1,h2,h3⟩:=mono_rest R x op 0 _ _ _ _ hr
  refine ⟨by omega,by omega,fun j hj=>?_⟩
  by_cases hjk:(j:Int)<k
  ·exact early j hjk
  obtain ⟨s,hs⟩:=h3 (j - k.toNat) (by omega)
  have hc:∃ G,cands R op fs has=x :: G:=by
   rcases hone.1 hm with e | ⟨G,e,-⟩
   ·exact ⟨[],e⟩
   ·exact ⟨G,e⟩
  obtain ⟨G,hc⟩:=hc
  unfold decQ
  rw [(tk j).2 (by omega)]
  simp only
  rw [hc]
  simp only
  rw [hm,cond_false,List.drop_take,show restQ R x op 0 (List.take (j - k.toNat) (List.drop k.toNat l)) k = .error (2,s) from hs]
  rfl
 ·obtain ⟨u,h1,h2,h3⟩:=mono_rest R x op c _ _ _ _ hr
  have hdl2:((l.drop k.toNat).length:Int)=(t.length:Int)+1:=by rw [hd,List.length_cons]; omega
  refine ⟨by omega,by omega,fun j hj=>?_⟩
  by_cases hjk:(j:Int)<k
  ·exact early j hjk
  obtain ⟨r0,G,hc,hm0,hG⟩:=hone.2 hm
  have hg:=hG c hf
  unfold decQ
  rw [(tk j).2 (by omega)]
  simp only
  rw [hc]
  simp only
  rw [hm0,cond_true,List.drop_take,hd]
  by_cases hj0:j - k.toNat=0
  ·rw [hj0]; rfl
  ·obtain ⟨s,hs⟩:=h3 (j - k.toNat - 1) (by omega)
   rw [show j - k.toNat=(j - k.toNat - 1)+1 by omega,List.take_succ_cons]
   unfold decC
   simp only
   rw [hg]
   simp only
   rw [show restQ R x op c (List.take (j - k.toNat - 1) t) (k+1) = .error (2,s) from hs]
   rfl
end Go.Amd

namespace Go.Amd
open Go Go.Ab Go.Proofs
theorem nxQ_fwd {t:List Int} {k:Int} {K:Int→List Int→Int→RestR} {p:InsT × Int} (h:nxQ t k K = .ok p):∃ c t',t=c :: t' ∧ K c t' (k+1) = .ok p:=by
 cases t with
 | nil=>cases h
 | cons c t=>exact ⟨c,t,rfl,h⟩
theorem must_fwd {b:Bool} {k:Int} {r:RestR} {p:InsT × Int} (h:mustQ b k r = .ok p):b=true∧r = .ok p:=by
 cases b
 ·cases h
 ·exact ⟨rfl,h⟩
theorem fin_fwd {x:RowT} {i i' : InsT} {k m:Int} (h:finQ x i k = .ok (i',m)):i' = i∧m=k∧faultyF x i=0:=by
 unfold finQ at h
 cases hc:(!(faultyF x i == 0))
 ·rw [hc,cond_false] at h
  have h2:=Prod.mk.inj (Except.ok.inj h)
  refine ⟨h2.1.symm,h2.2.symm,by simpa using hc⟩
 ·rw [hc,cond_true] at h; cases h
theorem allB_hd {c:Int} {t:List Int} (h:AllB (c :: t)):IsB c∧AllB t:=⟨h _ List.mem_cons_self,fun d hd=>h d (List.mem_cons_of_mem _ hd)⟩
theorem num1_fwd {t:List Int} (ht:AllB t) {k:Int} {K:Int→List Int→Int→RestR} {p:InsT × Int} (h:num1Q t k K = .ok p) :
  ∃ n rest,t=im1 n++rest∧AllB rest∧(-128≤n∧n<128)∧K n rest (k+1) = .ok p:=by
 obtain ⟨a,t,rfl,h⟩:=nxQ_fwd h
 obtain ⟨ha,ht⟩:=allB_hd ht
 refine ⟨num1V a,t,by rw [im1_num ha]; rfl,ht,?_,h⟩
 rw [num1_eq ha]
 omega
theorem num4_fwd {t:List Int} (ht:AllB t) {k:Int} {K:Int→List Int→Int→RestR} {p:InsT × Int} (h:num4Q t k K = .ok p) :
  ∃ n rest,t=im4 n++rest∧AllB rest∧(-2147483648≤n∧n<2147483648)∧K n rest (k+4) = .ok p:=by
 obtain ⟨a,t0,e0,g0⟩:=nxQ_fwd h
 subst e0
 obtain ⟨ha,ht0⟩:=allB_hd ht
 obtain ⟨b,t1,e1,g1⟩:=nxQ_fwd g0
 subst e1
 obtain ⟨hb,ht1⟩:=allB_hd ht0
 obtain ⟨c,t2,e2,g2⟩:=nxQ_fwd g1
 subst e2
 obtain ⟨hc,ht2⟩:=allB_hd ht1
 obtain ⟨d,t3,e3,g3⟩:=nxQ_fwd g2
 subst e3
 obtain ⟨hd,ht3⟩:=allB_hd ht2
 rw [show k+1+1+1+1=k+4 by omega] at g3
 refine ⟨num4V a b c d,t3,by rw [im4_num ha hb hc hd]; rfl,ht3,?_,g3⟩
 rw [num4_eq ha hb hc hd]
 omega
theorem num8_fwd {t:List Int} (ht:AllB t) {k:Int} {K:Int→List Int→Int→RestR} {p:InsT × Int} (h:num8Q t k K = .ok p) :
  ∃ n rest,t=im8 n++rest∧AllB rest∧K n rest (k+8) = .ok p:=by
 obtain ⟨a,t0,e0,g0⟩:=nxQ_fwd h
 subst e0
 obtain ⟨ha,ht0⟩:=allB_hd ht
 obtain ⟨b,t1,e1,g1⟩:=nxQ_fwd g0
 subst e1
 obtain ⟨hb,ht1⟩:=allB_hd ht0
 obtain ⟨c,t2,e2,g2⟩:=nxQ_fwd g1
 subst e2
 obtain ⟨hc,ht2⟩:=allB_hd ht1
 obtain ⟨d,t3,e3,g3⟩:=nxQ_fwd g2
 subst e3
 obtain ⟨hd,ht3⟩:=allB_hd ht2
 obtain ⟨e,t4,e4,g4⟩:=nxQ_fwd g3
 subst e4
 obtain ⟨he,ht4⟩:=allB_hd ht3
 obtain ⟨f,t5,e5,g5⟩:=nxQ_fwd g4
 subst e5
 obtain ⟨hf,ht5⟩:=allB_hd ht4
 obtain ⟨g,t6,e6,g6⟩:=nxQ_fwd g5
 subst e6
 obtain ⟨hg',ht6⟩:=allB_hd ht5
 obtain ⟨j,t7,e7,g7⟩:=nxQ_fwd g6
 subst e7
 obtain ⟨hj,ht7⟩:=allB_hd ht6
 rw [show k+1+1+1+1+1+1+1+1=k+8 by omega] at g7
 exact ⟨num8V a b c d e f g j,t7,by rw [im8_num ha hb hc hd he hf hg' hj]; rfl,ht7,g7⟩
theorem bits8_all:all1 16 (fun R=>R % 8 == 4*(R / 4 % 2)+2*(R / 2 % 2)+R % 2)=true:=by kernel_rfl
theorem bits8 {R:Int} (r0:0≤R) (r1:R<16):R % 8=4*(R / 4 % 2)+2*(R / 2 % 2)+R % 2:=eq_of_beq (all1_of bits8_all r0 r1)
theorem mode_memP {a b c d n mod:Int} {imm:List Int} (b0:0≤b) (b1:b<16) (h:ModeOk b n mod imm):memP a b c d n=modP mod a b c d imm:=by
 have hb:(b == 17)=false:=beq_eq_false_iff_ne.2 (by omega)
 unfold memP
 rw [hb,cond_false,andi7 b0 b1]
 rcases h with ⟨rfl,rfl,rfl,h5⟩ | ⟨rfl,rfl,hr,h5⟩ | ⟨rfl,rfl,hq⟩
 ·have e:(b % 8 != 5)=true:=by simpa using h5
  rw [e]
  rfl
 ·have e:cond (n == 0) (b % 8 != 5) false=false:=by
   cases hn:(n == 0)
   ·rfl
   ·rw [cond_true,h5 (eq_of_beq hn)]
    rfl
  rw [e,cond_false,(fitsF_iff n).2 hr,cond_true]
 ·have e:(n == 0)=false:=by
   cases hn:(n == 0)
   ·rfl
   ·rw [eq_of_beq hn] at hq; cases hq
  rw [e,cond_false,cond_false,hq,cond_false]
theorem modQ_fwd {b c:Int} (b0:0≤b) (b1:b<16) (hc:IsB c) (h3:modF c ≠ 3) (h05:modF c=0→b % 8 ≠ 5) {t:List Int} (ht:AllB t) {k:Int} {K:Int→List Int→Int→RestR} {p:InsT × Int} (h:modQ c b t k K = .ok p) :
  ∃ n imm rest,t=imm++rest∧AllB rest∧ModeOk b n (modF c) imm∧K n rest (k+(imm.length:Int)) = .ok p:=by
 have hm:=(byte_eq hc.1 hc.2).1
 obtain ⟨c0,c1⟩:=hc
 unfold modQ at h
 by_cases e1:modF c=1
 ·rw [e1,show ((1:Int) == 1)=true from rfl,cond_true] at h
  obtain ⟨n,rest,e,hr,hn,h⟩:=num1_fwd ht h
  refine ⟨n,im1 n,rest,e,hr,.inr (.inl ⟨e1,rfl,hn,fun hz=>?_⟩),?_⟩
  ·have e0:(n != 0)=false:=by rw [hz]; rfl
   rw [e0,cond_false] at h
   have:=(must_fwd h).1
   rw [andi7 b0 b1] at this
   exact eq_of_beq this
  ·cases hz:(n != 0)
   ·rw [hz,cond_false] at h; exact (must_fwd h).2
   ·rw [hz,cond_true] at h; exact h
 ·rw [beq_eq_false_iff_ne.2 e1,cond_false] at h
  by_cases e2:modF c=2
  ·rw [e2,show ((2:Int) == 2)=true from rfl,cond_true] at h
   obtain ⟨n,rest,e,hr,hn,h⟩:=num4_fwd ht h
   obtain ⟨q1,q2⟩:=must_fwd h
   exact ⟨n,im4 n,rest,e,hr,.inr (.inr ⟨e2,rfl,by simpa using q1⟩),q2⟩
  ·rw [beq_eq_false_iff_ne.2 e2,cond_false] at h
   have e0:modF c=0:=by omega
   refine ⟨0,[],t,rfl,ht,.inl ⟨e0,rfl,rfl,h05 e0⟩,?_⟩
   show K 0 t (k+0)=_
   rw [Int.add_zero]
   exact h
theorem place_fwd {R c:Int} (r0:0≤R) (r1:R<16) (hc:IsB c) (h3:modF c ≠ 3) {t:List Int} (ht:AllB t) {k:Int} {K:PlaceK} {p:InsT × Int} (h:placeQ R c t k K = .ok p) :
  ∃ b cc d n used rest,t=used++rest∧memP (midF c R) b cc d n=(R % 8,c :: used)∧K b cc d n rest (k+(used.length:Int)) = .ok p:=by
 have hm:=byte_eq hc.1 hc.2
 have hmid:=midF_eq hc.1 hc.2 r0 r1
 obtain ⟨c0,c1⟩:=hc
 have a0:0≤midF c R:=by rw [hmid]; omega
 have a1:midF c R<16:=by rw [hmid]; omega
 generalize midF c R=a at *
 have base:(modF c=0→rmF c ≠ 5)→baseQ R c t k K = .ok p → ∃ b cc d n used rest,t=used++rest∧memP a b cc d n=(R % 8,c :: used)∧K b cc d n rest (k+(used.length:Int)) = .ok p:=by
  clear h
  intro h5 h
  unfold baseQ at h
  by_cases e4:rmF c=4
  ·rw [e4,show ((4:Int) == 4)=true from rfl,cond_true] at h
   unfold sibQ at h
   have h0:=nxQ_fwd h
   clear h
   obtain ⟨e,t,rfl,h⟩:=h0
   obtain ⟨he,ht⟩:=allB_hd ht
   have hl:=lowF_eq he.1 he.2 r0 r1
   have hx:=idxF_eq he.1 he.2 r0 r1
   have hem:=(byte_eq he.1 he.2).1
   obtain ⟨e0,e1⟩:=he
   have b0:0≤lowF e R:=by rw [hl]; omega
   have b1:lowF e R<16:=by rw [hl]; omega
   have key:(modF c=0→lowF e R % 8 ≠ 5)∧sibQ2 R c e t (k+1) K = .ok p:=by
    by_cases e0:modF c=0
    ·rw [e0] at h
     obtain ⟨q1,q2⟩:=must_fwd (h:mustQ (andi (lowF e R) 7 != 5) (k+1) (sibQ2 R c e t (k+1) K) = .ok p)
     rw [andi7 b0 b1] at q1
     exact ⟨fun _=>by simpa using q1,q2⟩
    ·have:(modF c != 0)=true:=by simpa using e0
     rw [this,cond_true] at h
     exact ⟨fun h=>absurd h e0,h⟩
   obtain ⟨h05,h⟩:=key
   unfold sibQ2 at h
   by_cases ei:idxF e R=4
   ·rw [ei,show ((4:Int) == 4)=true from rfl,cond_true] at h
    by_cases em:modF e=0
    ·rw [em,show ((0:Int) == 0)=true from rfl,cond_true] at h
     obtain ⟨q1,q2⟩:=must_fwd h
     rw [andi7 b0 b1] at q1
     have q1:=eq_of_beq q1
     obtain ⟨n,imm,rest,f1,f2,f3,f4⟩:=modQ_fwd b0 b1 ⟨c0,c1⟩ h3 h05 ht q2
     refine ⟨lowF e R,16,0,n,e :: imm,rest,by rw [f1]; rfl,?_,?_⟩
     ·rw [mode_memP b0 b1 f3]
      have m1:=mrB_eq (m:=modF c) (by omega) (by omega) a0 a1 (show (0:Int)≤4 by omega) (show (4:Int)<16 by omega)
      have m2:=mrB_eq (m:=0) (by omega) (by omega) (show (0:Int)≤4 by omega) (show (4:Int)<16 by omega) b0 b1
      have m3:=sibR_eq a0 a1 (show (0:Int)≤4 by omega) (show (4:Int)<16 by omega) b0 b1
      have g1:mrB (modF c) a 4=c:=by rw [m1]; omega
      have g2:mrB 0 4 (lowF e R)=e:=by rw [m2]; omega
      have g3:sibR (rexM 0 a 4) 4 (lowF e R)=R % 8:=by rw [m3]; omega
      unfold modP
      rw [andi7 b0 b1,q1]
      show (sibR (rexM 0 a 4) 4 (lowF e R),[mrB (modF c) a 4]++[mrB 0 4 (lowF e R)]++imm)=_
      rw [g1,g2,g3]
      rfl
     ·rw [show k+((e :: imm).length:Int)=k+1+(imm.length:Int) by simp only [List.length_cons]; omega]
      exact f4
    ·rw [beq_eq_false_iff_ne.2 em,cond_false] at h; cases h
   ·rw [beq_eq_false_iff_ne.2 ei,cond_false] at h
    obtain ⟨n,imm,rest,f1,f2,f3,f4⟩:=modQ_fwd b0 b1 ⟨c0,c1⟩ h3 h05 ht h
    have hix0:0≤idxF e R:=by rw [hx]; omega
    have hix1:idxF e R<16:=by rw [hx]; omega
    refine ⟨lowF e R,idxF e R,scF e,n,e :: imm,rest,by rw [f1]; rfl,?_,?_⟩
    ·rw [mode_memP b0 b1 f3]
     have hs:scaleN (scF e)=modF e:=by
      have:=all1_of scF_all e0 e1
      have hq:e / 64=0∨e / 64=1∨e / 64=2∨e / 64=3:=by omega
      rw [hem]
      rcases hq with hq | hq | hq | hq <;> rw [hq] at this ⊢ <;> rw [eq_of_beq (this:(scF e == _)=true)] <;> rfl
     have m1:=mrB_eq (m:=modF c) (by omega) (by omega) a0 a1 (show (0:Int)≤4 by omega) (show (4:Int)<16 by omega)
     have m2:=mrB_eq (m:=modF e) (by omega) (by omega) hix0 hix1 b0 b1
     have m3:=sibR_eq a0 a1 hix0 hix1 b0 b1
     have w1:a / 8=R / 4 % 2:=by omega
     have w2:idxF e R / 8=R / 2 % 2:=by omega
     have w3:lowF e R / 8=R % 2:=by omega
     have g1:mrB (modF c) a 4=c:=by rw [m1]; omega
     have g2:mrB (modF e) (idxF e R) (lowF e R)=e:=by rw [m2,show idxF e R % 8=e / 8 % 8 by omega,show lowF e R % 8=e % 8 by omega]; omega
     have g3:sibR (rexM 0 a 4) (idxF e R) (lowF e R)=R % 8:=by rw [m3,w1,w2,w3,bits8 r0 r1]
     have e16:(idxF e R == 16)=false:=beq_eq_false_iff_ne.2 (by omega)
     unfold modP
     rw [e16,hs]
     show (sibR (rexM 0 a 4) (idxF e R) (lowF e R),[mrB (modF c) a 4]++[mrB (modF e) (idxF e R) (lowF e R)]++imm)=_
     rw [g1,g2,g3]
     rfl
    ·rw [show k+((e :: imm).length:Int)=k+1+(imm.length:Int) by simp only [List.length_cons]; omega]
     exact f4
  ·rw [beq_eq_false_iff_ne.2 e4,cond_false] at h
   obtain ⟨q1,q2⟩:=must_fwd h
   rw [(and83 r0 r1).2] at q1
   have q1:=eq_of_beq q1
   have hb:wi (rmF c+bitF R 1)=c % 8+8*(R % 2):=by
    rw [hm.2.2.2,(bit_eq r0 r1).2.2,wi_small (by omega) (by omega)]
   have b0:0≤c % 8+8*(R % 2):=by omega
   have b1:c % 8+8*(R % 2)<16:=by omega
   rw [hb] at q2
   obtain ⟨n,imm,rest,f1,f2,f3,f4⟩:=modQ_fwd b0 b1 ⟨c0,c1⟩ h3 (fun e0=>by have:=h5 e0; omega) ht q2
   refine ⟨_,16,0,n,imm,rest,f1,?_,f4⟩
   rw [mode_memP b0 b1 f3]
   have m1:=mrB_eq (m:=modF c) (by omega) (by omega) a0 a1 b0 b1
   have m3:=rexM_eq a0 a1 b0 b1
   have g1:mrB (modF c) a (c % 8+8*(R % 2))=c:=by rw [m1]; omega
   have g3:rexM 0 a (c % 8+8*(R % 2))=R % 8:=by rw [m3]; omega
   have h4:((c % 8+8*(R % 2)) % 8 != 4)=true:=by
    rw [hm.2.2.2] at e4
    simpa using (show (c % 8+8*(R % 2)) % 8 ≠ 4 by omega)
   unfold modP
   rw [andi7 b0 b1,h4]
   show (rexM 0 a _,[mrB (modF c) a _]++imm)=_
   rw [g1,g3]
   rfl
 unfold placeQ at h
 by_cases em:modF c=0
 ·rw [em,show ((0:Int) == 0)=true from rfl,cond_true] at h
  by_cases e5:rmF c=5
  ·rw [e5,show ((5:Int) == 5)=true from rfl,cond_true] at h
   obtain ⟨q1,q2⟩:=must_fwd h
   rw [(and83 r0 r1).1] at q1
   have q1:=eq_of_beq q1
   obtain ⟨n,rest,f1,f2,f3,f4⟩:=num4_fwd ht q2
   refine ⟨17,16,0,n,im4 n,rest,f1,?_,f4⟩
   have m1:=mrB_eq (m:=0) (by omega) (by omega) a0 a1 (show (0:Int)≤5 by omega) (show (5:Int)<16 by omega)
   have m3:=rexM_eq a0 a1 (show (0:Int)≤5 by omega) (show (5:Int)<16 by omega)
   have g1:mrB 0 a 5=c:=by rw [m1]; omega
   have g3:rexM 0 a 5=R % 8:=by rw [m3]; omega
   show (rexM 0 a 5,[mrB 0 a 5]++im4 n)=_
   rw [g1,g3]
   rfl
  ·rw [beq_eq_false_iff_ne.2 e5,cond_false] at h
   exact base (fun _=>e5) h
 ·rw [beq_eq_false_iff_ne.2 em,cond_false] at h
  exact base (fun e=>absurd e em) h
end Go.Amd
