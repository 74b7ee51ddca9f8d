/-
  runrv: a short instruction laid into code: what a step decodes there. Conditions: none.
-/
import Derived.Test.YtnickegmpffneaaGreatDoorPk49
import Derived.Test.YtnickegmpffneaaGreatDoorPk48
set_option linter.unusedVariables false
set_option linter.unusedSimpArgs false
namespace Go.Ra
open Go Go.Ab Go.Proofs
theorem layL_off {m:List Int}:∀ (n:Nat) (P:List Int),n≤8192→layL 1 65536 m n P=P
 | 0,_,_=>rfl
 | n+1,P,h=>by
  unfold layL
  rw [layL_off n P (by omega)]
  have e:adr 65536 n=65536+(n:Int):=by
   have e1:adr 65536 n=(65536+(n:Int) % 18446744073709551616) % 18446744073709551616:=rfl
   rw [e1]
   omega
  have e2:(pgF (65536+(n:Int)) == 1)=false:=by
   have e3:pgF (65536+(n:Int))=(Int.tdiv (65536+(n:Int)) 4096) % 18446744073709551616:=rfl
   rw [e3,Int.tdiv_eq_ediv_of_nonneg (by omega),beq_eq_false_iff_ne]
   omega
  unfold setF
  rw [e,e2]
  rfl
theorem page1 (b0 b1:Int) {m:List Int} (hm:m.length≤8192):wdK 1 [b0,b1] m zeros=(zeros.set 0 b0).set 1 b1:=by
 unfold wdK
 rw [layL_off _ _ hm]
 have p0:(pgF (adr 4096 0) == 1)=true:=rfl
 have p1:(pgF (adr 4096 1) == 1)=true:=rfl
 have o0:offF (adr 4096 0)=0:=rfl
 have o1:offF (adr 4096 1)=1:=rfl
 show setF 1 (adr 4096 1) b1 (setF 1 (adr 4096 0) b0 zeros)=_
 unfold setF
 rw [p0,p1,o0,o1]
 rfl
theorem zeros_getD (k:Nat):zeros.getD k 0=0:=by
 unfold zeros
 rw [List.getD_eq_getElem?_getD,List.getElem?_replicate]
 split <;> rfl
theorem fet_code (b0 b1:Int) (B C D E:List Int):fetL ((zeros.set 0 b0).set 1 b1) B C D E 4096=[b0,b1,0,0]:=by
 have hn:fetN 4096=4:=rfl
 have h4:List.range 4=[0,1,2,3]:=rfl
 unfold fetL
 rw [hn,h4]
 have key:∀ k:Nat,k<4→byteF ((zeros.set 0 b0).set 1 b1) B C D E (4096+(k:Int))=((zeros.set 0 b0).set 1 b1).getD k 0:=by
  intro k hk
  have hk:k=0∨k=1∨k=2∨k=3:=by omega
  rcases hk with rfl | rfl | rfl | rfl <;> rfl
 have g:∀ k:Nat,((zeros.set 0 b0).set 1 b1).getD k 0=if k=1 then b1 else if k=0 then b0 else 0:=by
  intro k
  rw [List.getD_eq_getElem?_getD,List.getElem?_set,List.length_set,zeros_len]
  by_cases h1:1=k
  ·subst h1
   rfl
  ·rw [if_neg h1,List.getElem?_set,zeros_len,if_neg (Ne.symm h1)]
   by_cases h0:0=k
   ·subst h0
    rfl
   ·rw [if_neg h0,if_neg (Ne.symm h0),← List.getD_eq_getElem?_getD,zeros_getD]
 simp only [List.map_cons,List.map_nil]
 rw [key 0 (by omega),key 1 (by omega),key 2 (by omega),key 3 (by omega),g,g,g,g]
 rfl
theorem low_all:Cmp.rowsL.all (fun x=>!(Cmp.bitX x (x.2.1.length - 2) == 1 && Cmp.bitX x (x.2.1.length - 1) == 1))=true:=by kernel_rfl
theorem low_not {i:InsR} (h:Cmp.encE i=0):Cmp.encW (Cmp.frow i.1) i % 4 ≠ 3:=by
 obtain ⟨h1,h2⟩:=Cmp.enc_parts h
 obtain ⟨hx,hn,_⟩:=Cmp.frow_mem h1
 obtain ⟨w0,w1⟩:=Cmp.encW_rng hx i
 have hr:(Cmp.readX (Cmp.frow i.1) (Cmp.encW (Cmp.frow i.1) i)).2=true:=by rw [Cmp.read_enc hx h2 hn.symm]
 have ho:=Cmp.op_of hx w0 w1 hr
 unfold Cmp.opF at ho
 simp only [Bool.and_eq_true,beq_iff_eq] at ho
 obtain ⟨_,_,_,o1,o0⟩:=ho
 have hl:=List.all_eq_true.1 low_all _ hx
 rw [o1,o0,Cmp.bitW_zero,Cmp.bitW_eq w0 w1,Cmp.bitW_eq w0 w1] at hl
 generalize Cmp.encW (Cmp.frow i.1) i=w at w0 w1 hl
 obtain ⟨n,rfl⟩:=Int.eq_ofNat_of_zero_le w0
 intro h3
 have b0:(n:Nat).testBit 0=true:=by
  rw [Nat.testBit_zero]
  exact decide_eq_true (by omega)
 have b1:(n:Nat).testBit 1=true:=by
  rw [Nat.testBit_succ,Nat.testBit_zero]
  exact decide_eq_true (by omega)
 rw [Int.toNat_natCast,b0,b1] at hl
 cases hl
theorem c3_code {i:InsR} (h:Cmp.encE i=0) (t:List Int):c3 (Cmp.encL i++t)=true:=by
 have hw:=low_not h
 have e:(Cmp.encL i++t).getD 0 0=Cmp.encW (Cmp.frow i.1) i % 256:=rfl
 unfold c3
 rw [e]
 generalize Cmp.encW (Cmp.frow i.1) i=w at hw
 rw [c3_low]
 have e2:w % 256 % 4=w % 4:=by omega
 rw [e2]
 simpa using hw
theorem stL_code {f:OutFn} {i:InsR} (h:(Cmp.encE i == 0)=true) (s:CpuT) (A B C D E:List Int):stL f (Cmp.encL i++[0,0]) s A B C D E=runI f (Cmp.wideA i) 2 s A B C D E:=by
 have hs:Cmp.Bytes [0,0]:=by
  intro x hx
  simp only [List.mem_cons,List.not_mem_nil,or_false] at hx
  rcases hx with rfl | rfl <;> decide
 obtain ⟨d1,d2,d3⟩:=Cmp.back_dec (p:=[]) h (fun x hx=>by cases hx) hs (by simp) (by simp)
 have d1:Cmp.dE (Cmp.encL i++[0,0]) 0=0:=d1
 have d2:Cmp.dI (Cmp.encL i++[0,0]) 0=i:=d2
 have d3:Cmp.dN (Cmp.encL i++[0,0]) 0=2:=d3
 unfold stL
 rw [c3_code (eq_of_beq h),d1,d2,d3]
 rfl
theorem setB_enc {i:InsR}:setB (Cmp.encL i)=true:=by
 unfold setB
 have h2:(Cmp.encL i).all byteB=true:=by
  have hb:=Cmp.bytes2_bytes (Cmp.encW (Cmp.frow i.1) i)
  rw [List.all_eq_true]
  intro x hx
  have:=hb x hx
  simp only [byteB,Bool.and_eq_true,decide_eq_true_eq]
  exact this
 rw [h2]
 rfl
end Go.Ra
