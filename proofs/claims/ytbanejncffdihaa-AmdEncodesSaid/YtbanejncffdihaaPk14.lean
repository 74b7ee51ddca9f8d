/-
  The document's build of amd is the program's: places. Conditions: none.
-/
import Derived.Test.YtbanejncffdihaaPk13
import Derived.Test.YtbanejncffdihaaPk12
import Derived.Test.YtbanejncffdihaaPk11
import Derived.Test.YtbanejncffdihaaPk09
import Derived.ProofKit
import Derived.Deep.Slices
import Derived.OpenShut
set_option linter.unusedVariables false
set_option linter.unusedSimpArgs false
namespace Go.Amd
open Go Go.Ab Go.Proofs
theorem mr_all : all1 4 (fun m => all2 16 16 fun a b => orB (orB (sl8 m 6) (sl8 (u8 (Int.tmod a 8)) 3)) (u8 (Int.tmod b 8)) == mrB m a b) = true := by kernel_rfl
theorem mr_x {m a b : Int} (hm : 0 ≤ m ∧ m < 4) (ha : Reg a) (hb : Reg b) : orB (orB (sl8 m 6) (sl8 (u8 (Int.tmod a 8)) 3)) (u8 (Int.tmod b 8)) = mrB m a b :=
  eq_of_beq (all2_of (all1_of mr_all hm.1 (show m < (4 : Nat) by omega)) ha.1 ha.2 hb.1 hb.2)
theorem mr_4 {m a : Int} (hm : 0 ≤ m ∧ m < 4) (ha : Reg a) : orB (orB (sl8 m 6) (sl8 (u8 (Int.tmod a 8)) 3)) 4 = mrB m a 4 := mr_x hm ha (b := 4) (by decide)
theorem mr_i4 {m b : Int} (hm : 0 ≤ m ∧ m < 4) (hb : Reg b) : orB (orB (sl8 m 6) (sl8 4 3)) (u8 (Int.tmod b 8)) = mrB m 4 b := mr_x hm (a := 4) (by decide) hb
theorem pc_all : all1 16 (fun a => orB (sl8 (u8 (Int.tmod a 8)) 3) 5 == mrB 0 a 5 && (u8 (Int.tmod a 8) == andi a 7 && q8 a == a / 8)) = true := by kernel_rfl
theorem pc_x {a : Int} (ha : Reg a) : orB (sl8 (u8 (Int.tmod a 8)) 3) 5 = mrB 0 a 5 ∧ u8 (Int.tmod a 8) = andi a 7 ∧ q8 a = a / 8 := by
  have := all1_of pc_all ha.1 ha.2
  simpa only [Bool.and_eq_true, beq_iff_eq] using this
theorem rx_all : all2 2 2 (fun r x => all1 2 fun b => rexD 1 r x b == rW (4 * r + 2 * x + b) && (rexD 0 r x b == or8 64 (4 * r + 2 * x + b) && (cond (decide (0 < wi (wi (r + x) + b))) [rexD 0 r x b] [] == rexL 0 (4 * r + 2 * x + b)))) = true := by kernel_rfl
abbrev Bit (a : Int) : Prop := 0 ≤ a ∧ a < 2
theorem rx_x {r x b : Int} (hr : Bit r) (hx : Bit x) (hb : Bit b) : rexD 1 r x b = rW (4 * r + 2 * x + b) ∧ rexD 0 r x b = or8 64 (4 * r + 2 * x + b) ∧ cond (decide (0 < wi (wi (r + x) + b))) [rexD 0 r x b] [] = rexL 0 (4 * r + 2 * x + b) := by
  have := all1_of (all2_of rx_all hr.1 hr.2 hx.1 hx.2) hb.1 hb.2
  simpa only [Bool.and_eq_true, beq_iff_eq] using this
section
variable {K : Int → Int → List Int → Option V} {F : Int → List Int → Option V} {a b c d n : Int} (ha : Reg a)
  (hK : ∀ x y t, Bit x → Bit y → K x y t = F (4 * (a / 8) + 2 * x + y) t)
include ha hK in
theorem plMd_eq (hb : Reg b) (hp : (c = 16 ∧ d = 0) ∨ (Reg c ∧ (d = 1 ∨ d = 2 ∨ d = 4 ∨ d = 8))) {m : Int} (hm : 0 ≤ m ∧ m < 3) (disp : List Int) :
    plMd K a b c d m disp = F (modP m a b c d disp).1 (modP m a b c d disp).2 := by
  have hm' : 0 ≤ m ∧ m < 4 := ⟨hm.1, by omega⟩
  have hbq : Bit (q8 b) := by rw [(pc_x hb).2.2]; exact ⟨by omega, by omega⟩
  have sib : ∀ {x idx sc : Int}, Bit x → (0 ≤ sc ∧ sc < 4) → orB (orB (sl8 sc 6) (sl8 idx 3)) (u8 (Int.tmod b 8)) = mrB sc (cond (c == 16) 4 c) b → sibR (rexM 0 a 4) (cond (c == 16) 4 c) b = 4 * (a / 8) + 2 * x + b / 8 → scaleN d = sc →
      plSib K a b m disp x idx sc = F (sibR (rexM 0 a 4) (cond (c == 16) 4 c) b) ([mrB m a 4] ++ [mrB (scaleN d) (cond (c == 16) 4 c) b] ++ disp) := by
    intro x idx sc hx hs h1 h2 h3
    unfold plSib
    rw [hK _ _ _ hx hbq, mr_4 hm' ha, h1, h2, h3, (pc_x hb).2.2]
    rfl
  rcases hp with ⟨rfl, rfl⟩ | ⟨hc, hd⟩
  · have s := sib (x := 0) (idx := 4) (sc := 0) (by decide) (by decide) (mr_i4 (by decide) hb) (by
      rw [show cond ((16 : Int) == 16) (4 : Int) 16 = 4 from rfl, sibR_eq ha.1 ha.2 (by decide) (by decide) hb.1 hb.2]
      omega) rfl
    have e0 : plRest K a b 16 0 m disp = plSib K a b m disp 0 4 0 := rfl
    have e1 : K 0 (q8 b) ([orB (orB (sl8 m 6) (sl8 (u8 (Int.tmod a 8)) 3)) (u8 (Int.tmod b 8))] ++ disp) = F (rexM 0 a b) ([mrB m a b] ++ disp) := by
      rw [hK _ _ _ (by decide) hbq, mr_x hm' ha hb, rexM_eq ha.1 ha.2 hb.1 hb.2, (pc_x hb).2.2]
      congr 1
      omega
    show cond (u8 (Int.tmod b 8) != 4) _ (plRest K a b 16 0 m disp) = _
    rw [e0, s, e1, (pc_x hb).2.1]
    unfold modP
    rw [show ((16 : Int) == 16) = true from rfl, cond_true]
    cases andi b 7 != 4 <;> rfl
  · have hcq : Bit (q8 c) := by rw [(pc_x hc).2.2]; exact ⟨by omega, by omega⟩
    have h16 : (c == 16) = false := by have := hc.2; exact beq_eq_false_iff_ne.2 (by omega)
    have hsc : 0 ≤ scaleN d ∧ scaleN d < 4 := by rcases hd with rfl | rfl | rfl | rfl <;> decide
    have s := sib (x := q8 c) (idx := u8 (Int.tmod c 8)) (sc := scaleN d) hcq hsc (by rw [h16]; exact mr_x hsc hc hb) (by
      rw [h16, cond_false, sibR_eq ha.1 ha.2 hc.1 hc.2 hb.1 hb.2, (pc_x hc).2.2]) rfl
    have e0 : plRest K a b c d m disp = plSib K a b m disp (q8 c) (u8 (Int.tmod c 8)) (scaleN d) := by
      unfold plRest bne
      rw [h16]
      rcases hd with rfl | rfl | rfl | rfl <;> kernel_rfl
    unfold plMd modP
    rw [h16, cond_false, e0, s, h16]
    rfl
include ha hK in
theorem plO_eq (hp : (b = 17 ∧ c = 16 ∧ d = 0) ∨ (Reg b ∧ ((c = 16 ∧ d = 0) ∨ (Reg c ∧ (d = 1 ∨ d = 2 ∨ d = 4 ∨ d = 8))))) :
    plO K a b c d n = F (memP a b c d n).1 (memP a b c d n).2 := by
  rcases hp with ⟨rfl, rfl, rfl⟩ | ⟨hb, hp⟩
  · show K 0 0 _ = F (rexM 0 a 5) ([mrB 0 a 5] ++ im4 n)
    rw [hK _ _ _ (by decide) (by decide), (pc_x ha).1, fx4_im, rexM_eq ha.1 ha.2 (by decide) (by decide)]
    congr 1
    omega
  · have h17 : (b == 17) = false := by have := hb.2; exact beq_eq_false_iff_ne.2 (by omega)
    have m0 := plMd_eq ha hK hb hp (m := 0) (by decide) []
    have m1 := plMd_eq ha hK hb hp (m := 1) (by decide) (im1 n)
    have m2 := plMd_eq ha hK hb hp (m := 2) (by decide) (im4 n)
    unfold plO plShort memP
    rw [h17, cond_false, cond_false, short_fits, fx4_im, fx1_im, m0, m1, m2, (pc_x hb).2.1]
    cases (n == 0)
    · cases fitsF n <;> rfl
    · cases (andi b 7 != 5)
      · cases fitsF n <;> rfl
      · rfl
end
section
variable {x nm : List UInt8} {q : List UInt8 → Bool} {dg a b c d n o p : Int} (ha : Reg a) (hp : (b = 17 ∧ c = 16 ∧ d = 0) ∨ (Reg b ∧ ((c = 16 ∧ d = 0) ∨ (Reg c ∧ (d = 1 ∨ d = 2 ∨ d = 4 ∨ d = 8))))) (h1 : 1 ≤ o) (ho : IsB o) (hpb : IsB p)
include ha hp ho in
theorem k4_12 : (bdE q 4 [o] 2 x dg nm a b c d n).run = bF 4 [o] 2 dg nm a b c d n := by
  have haq : Bit (q8 a) := by rw [(pc_x ha).2.2]; exact ⟨by omega, by omega⟩
  rw [← Tree.fin_run, p4_12]
  refine (plO_eq (F := fun R t => some (slB ([rW R] ++ [o] ++ t))) ha (fun x y t hx hy => ?_) hp).trans ?_
  · show some (slB _) = some (slB _)
    rw [(rx_x haq hx hy).1, (pc_x ha).2.2]
  refine Eq.trans (b := some (slB ([] ++ [rW (memP a b c d n).1] ++ (hdF o ++ [w8 o]) ++ (memP a b c d n).2))) ?_ (by kernel_rfl)
  rw [hd1 ho, w8_in ho]
  rfl
include ha hp h1 ho hpb in
theorem k4_22 : (bdE q 4 [o, p] 2 x dg nm a b c d n).run = bF 4 [o, p] 2 dg nm a b c d n := by
  have haq : Bit (q8 a) := by rw [(pc_x ha).2.2]; exact ⟨by omega, by omega⟩
  rw [← Tree.fin_run, p4_22]
  refine (plO_eq (F := fun R t => some (slB ([rW R] ++ [o, p] ++ t))) ha (fun x y t hx hy => ?_) hp).trans ?_
  · show some (slB _) = some (slB _)
    rw [(rx_x haq hx hy).1, (pc_x ha).2.2]
  refine Eq.trans (b := some (slB ([] ++ [rW (memP a b c d n).1] ++ (hdF (256 * o + p) ++ [w8 (256 * o + p)]) ++ (memP a b c d n).2))) ?_ (by kernel_rfl)
  rw [(hd2 h1 ho hpb).1, (hd2 h1 ho hpb).2]
  rfl
include ha hp ho in
theorem k4_11 : (bdE q 4 [o] 1 x dg nm a b c d n).run = bF 4 [o] 1 dg nm a b c d n := by
  have haq : Bit (q8 a) := by rw [(pc_x ha).2.2]; exact ⟨by omega, by omega⟩
  rw [← Tree.fin_run, p4_11]
  refine (plO_eq (F := fun R t => some (slB ([or8 64 R] ++ [o] ++ t))) ha (fun x y t hx hy => ?_) hp).trans ?_
  · show some (slB _) = some (slB _)
    rw [(rx_x haq hx hy).2.1, (pc_x ha).2.2]
  refine Eq.trans (b := some (slB ([] ++ [or8 64 (memP a b c d n).1] ++ (hdF o ++ [w8 o]) ++ (memP a b c d n).2))) ?_ (by kernel_rfl)
  rw [hd1 ho, w8_in ho]
  rfl
include ha hp ho in
theorem k4_10 : (bdE q 4 [o] 0 x dg nm a b c d n).run = bF 4 [o] 0 dg nm a b c d n := by
  have haq : Bit (q8 a) := by rw [(pc_x ha).2.2]; exact ⟨by omega, by omega⟩
  rw [← Tree.fin_run, p4_10]
  refine (plO_eq (F := fun R t => some (slB (rexL 0 R ++ [o] ++ t))) ha (fun x y t hx hy => ?_) hp).trans ?_
  · show _ = some (slB _)
    rw [← (pc_x ha).2.2, ← (rx_x haq hx hy).2.2]
    show cond _ _ _ = _
    cases decide (0 < wi (wi (q8 a + x) + y)) <;> rfl
  refine Eq.trans (b := some (slB ([] ++ rexL 0 (memP a b c d n).1 ++ (hdF o ++ [w8 o]) ++ (memP a b c d n).2))) ?_ (by kernel_rfl)
  rw [hd1 ho, w8_in ho]
  rfl
end
end Go.Amd

namespace Go.Amd
open Go Go.Ab Go.Proofs
def cutK (ks : List Nat) (s : St) : Tree St := .leaf (s.1, keep ks s.2.1, s.2.2)
theorem cutK_run (ks : List Nat) (x : Tree St) : (x.bind (cutK ks)).run = x.run.map (fun s => (s.1, keep ks s.2.1, s.2.2)) := by
  induction x with
  | leaf b => rfl
  | fail => rfl
  | br c x y h1 h2 =>
    cases c
    · exact h2
    · exact h1
section
variable {P : Program} {n : Nat} {Q : AEx → T → List O → Prop} {t : T} {H : List O} {cx : Cx} {ops : Array Oper}
theorem AWP_ordersF (κ keeps : List Nat) (k : Nat) (hP : cx.P = P) (hn : cx.n = n) (hT : CxOk cx) {id : Nat} {t' : T} {H' : List O}
    (h : (allOrds cx ops (t, H)).map (fun l => l.map fun s => (dropS H.length κ (.normal, keep keeps s.1, s.2))) = some (List.replicate k (some (.normal, t', H'))))
    (hq : Q .normal t' H') : AWP P n (.region id ops true) Q t H := by
  obtain ⟨l, hl, h2⟩ := Option.map_eq_some_iff.1 h
  refine AWP_scope (AWP.keepQ keeps (AWP_ordersP hP hn hT hl fun s hs => ⟨κ, (.normal, t', H'), ?_, hq⟩))
  have : dropS H.length κ (.normal, keep keeps s.1, s.2) ∈ List.replicate k (some ((.normal, t', H') : St)) := by rw [← h2]; exact List.mem_map_of_mem hs
  exact (List.mem_replicate.1 this).2
end
section
variable (q : List UInt8 → Bool) (f : Int) (x : List UInt8) (dg rx : Int) (nm : List UInt8) (a b c d n : Int)
theorem bd_head (op : List Int) : ((dcode (cxBd q f x op dg rx) (headN 1 Bbd) (initT 0 [.agg [.str nm, .int .i64 a, .int .i64 b, .int .i64 c, .int .i64 d, .int .i64 n]]) []).bind (cutK [1, 3])).run = cond (q nm) (some (.normal, [(1, .ptr 0 0), (3, .ptr 1 0)], [insOb nm a b c d n, rowOb f x op dg rx])) none := by kernel_rfl
theorem bd_r1 (o : Int) : (allOrds (cxBd q f x [o] dg rx) bdOps ([(1, .ptr 0 0), (3, .ptr 1 0)], [insOb nm a b c d n, rowOb f x [o] dg rx])).map (fun l => l.map fun s => dropS 2 [2, 3] (.normal, keep [1, 3, 5] s.1, s.2)) =
    some (List.replicate 2 (some (.normal, [(1, .ptr 0 0), (3, .ptr 1 0), (5, .ptr 3 0)], [insOb nm a b c d n, rowOb f x [o] dg rx, opO [o], parO 1 (decide (0 < rx))]))) := by kernel_rfl
theorem bd_r2 (o p : Int) : (allOrds (cxBd q f x [o, p] dg rx) bdOps ([(1, .ptr 0 0), (3, .ptr 1 0)], [insOb nm a b c d n, rowOb f x [o, p] dg rx])).map (fun l => l.map fun s => dropS 2 [2, 3] (.normal, keep [1, 3, 5] s.1, s.2)) =
    some (List.replicate 2 (some (.normal, [(1, .ptr 0 0), (3, .ptr 1 0), (5, .ptr 3 0)], [insOb nm a b c d n, rowOb f x [o, p] dg rx, opO [o, p], parO 2 (decide (0 < rx))]))) := by kernel_rfl
end
theorem bd_eq : tailN 1 Bbd = .seq (.region 2 bdOps true) (tailN 2 Bbd) := by kernel_rfl
theorem bdT_ok {q : List UInt8 → Bool} {f : Int} {x : List UInt8} {op : List Int} {dg rx : Int} (h : Sound Try.prog 36 (findF q f x op dg rx)) : CxOk (cxBd q f x op dg rx) :=
  deep_ok (T := bdB q f x op dg rx) ⟨.cons h (.cons fixS_ok (.cons dirS_ok (ok1 shortXS_ok))), .nil _, .nil _, fun p h => by cases h⟩ bdT_ps_ok bdT_ms_ok 1
theorem build_way {q : List UInt8 → Bool} {f : Int} {x : List UInt8} {op : List Int} {dg rx : Int} (h : Sound Try.prog 36 (findF q f x op dg rx)) {nm : List UInt8} {a b c d n : Int} (hq : q nm = true) (hl : (∃ o, op = [o]) ∨ ∃ o p, op = [o, p]) {v : V}
    (ht : (bdE q f op rx x dg nm a b c d n).run = some v) : PCall Try.prog 20 [.agg [.str nm, .int .i64 a, .int .i64 b, .int .i64 c, .int .i64 d, .int .i64 n]] v := by
  have hok := bdT_ok h
  refine pcall_of' (c := Bbd) (fn := Try.f20) (by kernel_rfl) (by kernel_rfl) (by kernel_rfl) (by kernel_rfl) ?_
  refine AWP_headK (cx := cxBd q f x op dg rx) rfl rfl hok 1 [1, 3] (by kernel_rfl) ((cutK_run _ _).symm.trans ((bd_head q f x dg rx nm a b c d n op).trans (by rw [hq]; rfl))) ?_
  rw [bd_eq]
  have fin : AWP Try.prog Try.f20.ntmps (tailN 2 Bbd) (fun e' t H => (e' = AEx.ret ∨ e' = .normal) ∧ answerV Try.prog Try.f20.results.toList H t = some v) [(1, .ptr 0 0), (3, .ptr 1 0), (5, .ptr 3 0)] [insOb nm a b c d n, rowOb f x op dg rx, opO op, parO op.length (decide (0 < rx))] := by
    obtain ⟨s, h1, h2⟩ := bind_run ht
    refine AWP_run (cx := cxBd q f x op dg rx) rfl rfl hok h1 ?_
    obtain ⟨e, t, H⟩ := s
    unfold answer at h2
    split at h2
    · rename_i heq
      cases heq
      split at h2
      · rename_i v hv
        cases h2
        exact ⟨.inl rfl, hv⟩
      · cases h2
    · rename_i heq
      cases heq
      split at h2
      · rename_i v hv
        cases h2
        exact ⟨.inr rfl, hv⟩
      · cases h2
    · cases h2
  rcases hl with ⟨o, rfl⟩ | ⟨o, p, rfl⟩
  · exact AWP_seq (AWP_ordersF (cx := cxBd q f x [o] dg rx) [2, 3] [1, 3, 5] 2 rfl rfl hok (bd_r1 q f x dg rx nm a b c d n o) fin)
  · exact AWP_seq (AWP_ordersF (cx := cxBd q f x [o, p] dg rx) [2, 3] [1, 3, 5] 2 rfl rfl hok (bd_r2 q f x dg rx nm a b c d n o p) fin)
def ks1 : List (Int × Int) := [(1, 2), (2, 2), (3, 2), (5, 2), (6, 2), (8, 2), (8, 0), (9, 2), (9, 0), (10, 2), (12, 0), (13, 0), (14, 0), (16, 0), (4, 2), (4, 1), (4, 0)]
def ks2 : List (Int × Int) := [(7, 2), (11, 2), (9, 0), (15, 0), (4, 2)]
def kindD (f : Int) (op : Option (List Int)) (dg rx : Int) : Bool := match op with
  | some [o] => ks1.contains (f, rx) && (decide (0 ≤ o ∧ o < 256) && decide (0 ≤ dg ∧ dg < 8))
  | some [o, p] => ks2.contains (f, rx) && (decide (1 ≤ o ∧ o < 256) && decide (0 ≤ p ∧ p < 256))
  | _ => false
theorem kindsD_all : rowsX.all (fun y => kindD y.2.1 y.2.2.1 y.2.2.2.1 y.2.2.2.2) = true := by kernel_rfl
theorem d_zero {x : RowT} {a b c d : Int} (h : okF x a b c d = true) (h9 : uM x = false) (hc : condR x = false) : d = 0 := by
  rcases ok_parts h with ⟨h1, -⟩ | ⟨-, -, -, -, h5⟩
  · rw [h9] at h1; cases h1
  · rcases h5 with h5 | ⟨h5, -⟩
    · exact h5
    · rw [hc] at h5; cases h5
theorem pl_of {x : RowT} {a b c d : Int} (h : okF x a b c d = true) (h9 : uM x = true) : (b = 17 ∧ c = 16 ∧ d = 0) ∨ (Reg b ∧ ((c = 16 ∧ d = 0) ∨ (Reg c ∧ (d = 1 ∨ d = 2 ∨ d = 4 ∨ d = 8)))) := by
  rcases ok_parts h with ⟨-, -, h3⟩ | ⟨h1, -⟩
  · rcases place_rng h3 with h | ⟨hb, hc, hd⟩ | ⟨hb, hc, -, hd⟩
    · exact .inl h
    · exact .inr ⟨hb, .inl ⟨hc, hd⟩⟩
    · exact .inr ⟨hb, .inr ⟨hc, hd⟩⟩
  · rw [h9] at h1; cases h1
theorem bdE_run (q : List UInt8 → Bool) {x nm : List UInt8} {f dg rx : Int} {op : List Int} (hk : kindD f (some op) dg rx = true) {a b c d n : Int} (h : okF (conv (nm, f, some op, dg, rx)) a b c d = true) :
    ((∃ o, op = [o]) ∨ ∃ o p, op = [o, p]) ∧ (bdE q f op rx x dg nm a b c d n).run = bF f op rx dg nm a b c d n := by
  have ra : Reg a := (ok_rng (i := (nm, a, b, c, d, n)) h).1
  have rb : uM (conv (nm, f, some op, dg, rx)) = false → Reg b := fun e => (ok_zero (i := (nm, a, b, c, d, n)) h e).2.2.2
  match op, hk, h, rb with
  | [o], hk, h, rb =>
    refine ⟨.inl ⟨o, rfl⟩, ?_⟩
    unfold kindD at hk
    obtain ⟨hm, hk⟩ := Bool.and_eq_true_iff.1 hk
    obtain ⟨ho, hg⟩ := Bool.and_eq_true_iff.1 hk
    have ho : 0 ≤ o ∧ o < 256 := of_decide_eq_true ho
    have hg : 0 ≤ dg ∧ dg < 8 := of_decide_eq_true hg
    have hm : (f, rx) ∈ ks1 := by simpa using hm
    simp only [ks1, List.mem_cons, List.not_mem_nil, or_false, Prod.mk.injEq] at hm
    rcases hm with ⟨rfl, rfl⟩ | ⟨rfl, rfl⟩ | ⟨rfl, rfl⟩ | ⟨rfl, rfl⟩ | ⟨rfl, rfl⟩ | ⟨rfl, rfl⟩ | ⟨rfl, rfl⟩ | ⟨rfl, rfl⟩ | ⟨rfl, rfl⟩ | ⟨rfl, rfl⟩ | ⟨rfl, rfl⟩ | ⟨rfl, rfl⟩ | ⟨rfl, rfl⟩ | ⟨rfl, rfl⟩ | ⟨rfl, rfl⟩ | ⟨rfl, rfl⟩ | ⟨rfl, rfl⟩
    · exact (bt1_12_eq q x dg nm a b c d n o).trans (k1 ra (rb (by kernel_rfl)) ho)
    · exact (bt2_12_eq q x dg nm a b c d n o).trans (k2 ra ho)
    · exact (bt3_12_eq q x dg nm a b c d n o).trans (k3 ra hg ho)
    · exact (bt5_12_eq q x dg nm a b c d n o).trans (k5 ra ho)
    · exact (bt6_12_eq q x dg nm a b c d n o).trans (k6 ra hg ho)
    · exact (bt8_12_eq q x dg nm a b c d n o).trans (k8 ra hg ho)
    · exact (bt8_10_eq q x dg nm a b c d n o).trans (k8s ra hg ho)
    · exact (bt9_12_eq q x dg nm a b c d n o).trans (k9 ho)
    · exact (bt9_10_eq q x dg nm a b c d n o).trans (k9s ho)
    · exact (bt10_12_eq q x dg nm a b c d n o).trans (k10 ra hg ho)
    · exact (bt12_10_eq q x dg nm a b c d n o).trans (k12 ra ho)
    · exact (bt13_10_eq q x dg nm a b c d n o).trans (k13 ho (d_zero h (by kernel_rfl) (by kernel_rfl)))
    · exact (bt14_10_eq q x dg nm a b c d n o).trans (k14 ho (d_zero h (by kernel_rfl) (by kernel_rfl)))
    · exact (bt16_10_eq q x dg nm a b c d n o).trans (k16 ho)
    · exact k4_12 ra (pl_of h (by kernel_rfl)) ho
    · exact k4_11 ra (pl_of h (by kernel_rfl)) ho
    · exact k4_10 ra (pl_of h (by kernel_rfl)) ho
  | [o, p], hk, h, rb =>
    refine ⟨.inr ⟨o, p, rfl⟩, ?_⟩
    unfold kindD at hk
    obtain ⟨hm, hk⟩ := Bool.and_eq_true_iff.1 hk
    obtain ⟨ho, hp⟩ := Bool.and_eq_true_iff.1 hk
    have ho1 : 1 ≤ o ∧ o < 256 := of_decide_eq_true ho
    have hp : 0 ≤ p ∧ p < 256 := of_decide_eq_true hp
    have h1 : 1 ≤ o := ho1.1
    have ho : IsB o := ⟨by omega, ho1.2⟩
    have hm : (f, rx) ∈ ks2 := by simpa using hm
    simp only [ks2, List.mem_cons, List.not_mem_nil, or_false, Prod.mk.injEq] at hm
    rcases hm with ⟨rfl, rfl⟩ | ⟨rfl, rfl⟩ | ⟨rfl, rfl⟩ | ⟨rfl, rfl⟩ | ⟨rfl, rfl⟩
    · exact (bt7_22_eq q x dg nm a b c d n o p).trans (k7 ra (rb (by kernel_rfl)) h1 ho hp (d_zero h (by kernel_rfl) (by kernel_rfl)))
    · exact (bt11_22_eq q x dg nm a b c d n o p).trans (k11 ra (rb (by kernel_rfl)) h1 ho hp)
    · exact (bt9_20_eq q x dg nm a b c d n o p).trans (k9t h1 ho hp)
    · exact (bt15_20_eq q x dg nm a b c d n o p).trans (k15 h1 ho hp)
    · exact k4_22 ra (pl_of h (by kernel_rfl)) h1 ho hp
  | [], hk, _, _ => cases hk
  | _ :: _ :: _ :: _, hk, _, _ => cases hk
def buildS : Ab.Spec := fun args => match args with
  | [.agg [.str nm, .int .i64 a, .int .i64 b, .int .i64 c, .int .i64 d, .int .i64 n]] => .req (encE (nm, a, b, c, d, n) == 0) (.leaf (slB (encL (nm, a, b, c, d, n))))
  | _ => .fail
theorem buildS_ok : Sound Try.prog 20 buildS := by
  intro args out h
  unfold buildS at h
  split at h
  rotate_left
  · cases h
  rename_i nm a b c d n
  obtain ⟨h1, h⟩ := req_run h
  have h := leaf_out h
  subst h
  have he : encE (nm, a, b, c, d, n) = 0 := eq_of_beq h1
  have hfk : fokX nm = true := by
    cases hh : fokX nm
    · exfalso
      unfold encE at he
      rw [fok_eq, hh] at he
      cases he
    · rfl
  obtain ⟨_, hx, hr⟩ := row_of hfk
  obtain ⟨h2, -⟩ := frow_eq hfk
  have hf := faulty_ok (enc_row he).2.2
  have el : encL (nm, a, b, c, d, n) = bytesF (conv (frowX nm)) (nm, a, b, c, d, n) := congrArg (fun r => bytesF r (nm, a, b, c, d, n)) h2
  rw [show frow (nm, a, b, c, d, n).1 = conv (frowX nm) from h2] at hf
  have hk := List.all_eq_true.1 kindsD_all _ hx
  obtain ⟨op, ho, -⟩ := row_op hx
  rw [el]
  generalize frowX nm = y at hx hr hf hk ho
  obtain ⟨x, f, op', dg, rx⟩ := y
  simp only at ho
  subst ho
  obtain ⟨hl, hrun⟩ := bdE_run (fun nm => isRow nm (x, f, some op, dg, rx)) (x := x) (nm := nm) (n := n) hk hf
  exact build_way (findF_ok (y := (x, f, some op, dg, rx)) rfl) hr hl (hrun.trans rfl)
end Go.Amd

namespace Go.Amd
open Go Go.Ab Go.Proofs
noncomputable def groB1 (fn : Func) : Option St → Tree V
  | some (.ret, t', [.tok m 1]) => match answerI Try.prog fn.results.toList [.tok m 1] t' with
    | some (.tup [.gro 0 (.int .u8) l, .int .i64 r]) => .br (decide (m = l.length)) (.leaf (.tup [.sl (.int .u8) l [] .ro, .int .i64 r])) .fail
    | _ => .fail
  | _ => .fail
noncomputable def groB0 (fn : Func) : Option St → Tree V
  | some (.ret, t', []) => match answerI Try.prog fn.results.toList [] t' with
    | some (.tup [.val (.slice none 0 0), .int .i64 r]) => .leaf (.tup [nilV, .int .i64 r])
    | _ => .fail
  | _ => .fail
noncomputable def groB (fn : Func) : St → Tree V
  | (.ret, t, H) => match answerI Try.prog fn.results.toList H t with
    | some (.tup [.gro id _ _, _]) => groB1 fn (dropS 0 [id] (.ret, t, H))
    | some (.tup [.val _, _]) => groB0 fn (dropS 0 [] (.ret, t, H))
    | _ => .fail
  | _ => .fail
def GroOut (f : Nat) (args : List V) : V → Prop
  | .tup [.sl (.int .u8) l [] .ro, .int .i64 r] => MCall Try.prog f args [] (.ok (.tup [.gro 0 (.int .u8) l, .int .i64 r]) [.tok l.length 1])
  | .tup [.val (.slice none 0 0), .int .i64 r] => MCall Try.prog f args [] (.ok (.tup [nilV, .int .i64 r]) [])
  | _ => True
theorem mcall_groB {cx : Cx} {f : Nat} {fn : Func} {args : List V} {v : V} (hP : cx.P = Try.prog) (hT : CxOk cx) (hf : cx.P.funcs[f]? = some fn) (hb : fn.body = some (bodyOf fn)) (hname : (fn.name == "runtime.NumGoroutine") = false) (hn : Nat.ble args.length fn.ntmps = true)
    (h : ((dcode { cx with n := fn.ntmps } (bodyOf fn) (initT 0 args) []).bind (groB fn)).run = some v) : GroOut f args v := by
  obtain ⟨s, h1, h2⟩ := bind_run h
  have call : ∀ {κ : List Nat} {t' : T} {H' : List O} {u : V}, dropS 0 κ s = some (.ret, t', H') → answerI Try.prog fn.results.toList H' t' = some u → MCall Try.prog f args [] (.ok u H') := by
    intro κ t' H' u hd ha
    have := mcall_of' (P := cx.P) (args := args) (H := []) (r := .ok u H') hf hb hname hn (AWP_scope (AWP_run (cx := { cx with n := fn.ntmps }) rfl rfl hT h1 ⟨κ, _, hd, .inl rfl, rfl, by rw [hP]; exact ha⟩))
    rw [hP] at this
    exact this
  obtain ⟨e, t, H⟩ := s
  unfold groB at h2
  split at h2
  rotate_left
  · cases h2
  rename_i heq
  cases heq
  split at h2
  · rename_i id _ _ _ _
    unfold groB1 at h2
    split at h2
    rotate_left
    · cases h2
    rename_i t' m hd
    split at h2
    rotate_left
    · cases h2
    rename_i l r ha
    rw [br_run] at h2
    cases hm : decide (m = l.length)
    · rw [hm] at h2; cases h2
    · rw [hm] at h2
      have e2 := Option.some.inj h2
      subst e2
      have e1 := of_decide_eq_true hm
      subst e1
      exact call hd ha
  · unfold groB0 at h2
    split at h2
    rotate_left
    · cases h2
    rename_i t' hd
    split at h2
    rotate_left
    · cases h2
    rename_i r ha
    have e2 := Option.some.inj h2
    subst e2
    exact call hd ha
  · cases h2
noncomputable def cxEg : Cx := { P := Try.prog, n := Try.f6.ntmps, tab := [(16, findS), (17, faultyS)], mtab := [(18, bytesGS)], refs := [], keeps := [0, 1, 2, 3, 4, 5, 6, 14, 19] }
theorem cxEg_ok : CxOk cxEg := cx1_ok (.cons findS_ok (ok1 faultyS_ok)) (.cons bytesGS_ok (.nil _)) rfl rfl
def egH (i : InsT) : Tree V := .br (!fok i.1) (.leaf (.tup [nilV, .int .i64 7])) (.br (formOk (frow i.1)) (.br (faultyF (frow i.1) i != 0) (.leaf (.tup [nilV, .int .i64 (faultyF (frow i.1) i)]))
  (.br (kindOk (frow i.1)) (.br (decide (i.2.2.2.2.1 ≤ 16)) (.br (decide ((encL i).length = (encL i).length)) (.leaf (.tup [.sl (.int .u8) (encL i) [] .ro, .int .i64 0])) .fail) .fail) .fail)) .fail)
theorem egH_eq (i : InsT) : ((dcode { cxEg with n := Try.f6.ntmps } (bodyOf Try.f6) (initT 0 [.agg (insL i)]) []).bind (groB Try.f6)).run = (egH i).run :=
  (show _ = (egH i).out by kernel_rfl).trans (Tree.out_run _)
theorem encG_ok (i : InsT) : MCall Try.prog 6 [.agg (insL i)] [] (cond (encE i == 0) (.ok (.tup [.ref 0 1 0 (encL i).length, .int .i64 0]) [.cells (u8c (encL i)) 5]) (.ok (.tup [nilV, .int .i64 (encE i)]) [])) := by
  have run : ∀ {v : V}, (egH i).run = some v → GroOut 6 [.agg (insL i)] v := fun h =>
    mcall_groB (cx := cxEg) (fn := Try.f6) rfl cxEg_ok (by kernel_rfl) (by kernel_rfl) (by kernel_rfl) (by kernel_rfl) ((egH_eq i).trans h)
  unfold egH at run
  simp only [br_run] at run
  have he : encE i = cond (fok i.1) (faultyF (frow i.1) i) 7 := rfl
  cases hf : fok i.1
  · rw [hf] at run he
    rw [he]
    exact run rfl
  · rw [hf, frow_form hf, frow_kind hf] at run
    rw [hf, cond_true] at he
    rw [he]
    cases hb : (faultyF (frow i.1) i == 0)
    · have : (faultyF (frow i.1) i != 0) = true := by simp [bne, hb]
      rw [this] at run
      exact run rfl
    · have h0 : (faultyF (frow i.1) i != 0) = false := by simp [bne, hb]
      obtain ⟨nm, a, b, c, d, n⟩ := i
      have h16 : decide (d ≤ 16) = true := decide_eq_true (ok_le (faulty_ok (eq_of_beq hb)))
      rw [h0, h16] at run
      exact mcall_own8 5 (by decide) (run rfl)
def ints8 : List V → Option (List Int)
  | [] => some []
  | .int .u8 x :: r => (ints8 r).map (x :: ·)
  | _ => none
theorem ints8_is : ∀ {cs : List V} {l : List Int}, ints8 cs = some l → cs = u8c l
  | [], l, h => by cases h; rfl
  | v :: r, l, h => by
    unfold ints8 at h
    split at h
    · rename_i heq
      cases heq
    · rename_i x r' heq
      cases heq
      obtain ⟨l', h1, rfl⟩ := Option.map_eq_some_iff.1 h
      rw [ints8_is h1]
      rfl
    · cases h
noncomputable def cxS2 : Cx := { cx9 with fuel := 2 }
theorem spoil_nil : (mfun cxS2 Try.f9 [nilV] []).run = some (.ok (.tup []) []) := by kernel_rfl
def spoilS : MSpec := fun args H => match args, H with
  | [.ref 0 1 0 m], [.cells cs 5] => match ints8 cs with
    | some l => cond (Nat.beq m l.length && (Nat.ble 1 m && Nat.ble m 1000)) (.leaf (.ok (.tup []) [.dead])) .fail
    | none => .fail
  | [.val (.slice none 0 0)], [] => .leaf (.ok (.tup []) [])
  | _, _ => .fail
theorem spoilS_ok : MSound Try.prog 9 spoilS := by
  intro args H out h
  unfold spoilS at h
  split at h
  · rename_i m cs
    split at h
    · rename_i l hl
      cases hb : (Nat.beq m l.length && (Nat.ble 1 m && Nat.ble m 1000))
      · rw [hb] at h; cases h
      · rw [hb] at h
        cases h
        simp only [Bool.and_eq_true] at hb
        obtain ⟨h1, h2, h3⟩ := hb
        have h1 := Nat.eq_of_beq_eq_true h1
        subst h1
        rw [ints8_is hl]
        exact spoil_ok (by decide) (Nat.le_of_ble_eq_true h2) (Nat.le_of_ble_eq_true h3)
    · cases h
  · cases h
    exact mcall_fun' (cx := cxS2) (fn := Try.f9) (cx0_ok rfl rfl) (by kernel_rfl) (by kernel_rfl) (by kernel_rfl) spoil_nil
  · cases h
noncomputable def cx7 : Cx := { P := Try.prog, n := 12, tab := [(19, checkS), (20, buildS)], mtab := [], refs := [], keeps := [0, 1, 2, 3, 4, 8] }
def exH (i : InsT) : Tree V := .br (checkX i != 0) (.leaf (.tup [nilV, .int .i64 (checkX i)])) (.br (encE i == 0) (.leaf (.tup [.sl (.int .u8) (encL i) [] .ro, .int .i64 0])) .fail)
theorem exH_eq (i : InsT) : (dfun cx7 Try.f7 [.agg (insL i)]).run = (exH i).run :=
  (show _ = (exH i).out by kernel_rfl).trans (Tree.out_run _)
theorem encX_ok {i : InsT} (hn : i64r i.2.2.2.2.2 = true) : PCall Try.prog 7 [.agg (insL i)] (cond (encE i == 0) (.tup [.sl (.int .u8) (encL i) [] .ro, .int .i64 0]) (.tup [nilV, .int .i64 (encE i)])) := by
  refine pcall_fun' (cx := cx7) (fn := Try.f7) (cx1_ok (.cons checkS_ok (ok1 buildS_ok)) (.nil _) rfl rfl) (by kernel_rfl) (by kernel_rfl) (by kernel_rfl) ((exH_eq i).trans ?_)
  unfold exH
  rw [br_run, br_run, check_eq hn]
  cases hb : (encE i == 0)
  · have : (encE i != 0) = true := by simp [bne, hb]
    rw [this]
    rfl
  · have : (encE i != 0) = false := by simp [bne, hb]
    rw [this]
    rfl
end Go.Amd

namespace Go.Amd
open Go Go.Ab Go.Proofs
abbrev insE : EC := .prod [.str, .int .i64, .int .i64, .int .i64, .int .i64, .int .i64]
def insOf (x : insE.ty) : InsT := (x.1, x.2.1, x.2.2.1, x.2.2.2.1, x.2.2.2.2.1, x.2.2.2.2.2)
def encAt (q : InsT → Bool) (r : V) (H' : List O) (e : Int) : MSpec := fun args H => match args, H with
  | [.agg [.str nm, .int .i64 a, .int .i64 b, .int .i64 c, .int .i64 d, .int .i64 n]], [] => .req (q (nm, a, b, c, d, n)) (.leaf (.ok (.tup [r, .int .i64 e]) H'))
  | _, _ => .fail
def encXAt (q : InsT → Bool) (r : V) (e : Int) : Ab.Spec := fun args => match args with
  | [.agg [.str nm, .int .i64 a, .int .i64 b, .int .i64 c, .int .i64 d, .int .i64 n]] => .req (q (nm, a, b, c, d, n)) (.leaf (.tup [r, .int .i64 e]))
  | _ => .fail
def mayAt (q : InsT → Bool) (v : Bool) : Ab.Spec := fun args => match args with
  | [.agg [.str nm, .int .i64 a, .int .i64 b, .int .i64 c, .int .i64 d, .int .i64 n]] => .req (q (nm, a, b, c, d, n)) (.leaf (.bool v))
  | _ => .fail
noncomputable def cxE (q : InsT → Bool) (r : V) (H' : List O) (r' : V) (e : Int) (v : Bool) : Cx :=
  { P := Try.prog, n := Try.f3.ntmps, tab := [(5, begunS), (7, encXAt q r' e), (8, mayAt q v)], mtab := [(6, encAt q r H' e), (9, spoilS)], refs := [], keeps := [0, 2, 3, 4, 5, 6, 7, 8, 11, 19, 57, 72] }
noncomputable abbrev cxOkE (q : InsT → Bool) (l : List Int) : Cx := cxE q (.ref 0 1 0 l.length) [.cells (u8c l) 5] (.sl (.int .u8) l [] .ro) 0 true
noncomputable abbrev cxNoE (q : InsT → Bool) (e : Int) : Cx := cxE q nilV [] nilV e false
noncomputable abbrev B3 : Code := bodyOf Try.f3
noncomputable abbrev R3 : Code := cin (cin (c2 (c1 (tailN 1 B3))))
def qAt (l : List insE.ty) (q : InsT → Bool) (k : Int) : Bool := q (insOf (l.getD k.toNat (EC.dflt insE)))
abbrev tx (bs : List Int) : List UInt8 := List.map (fun n => UInt8.ofNat (Int.toNat n)) bs
def eSt (l : List insE.ty) (k : Int) : T := [(0, .sl insE l [] .may), (3, .int .i64 k)]
def eRet (l : List insE.ty) (k : Int) : Option St := some (.ret, [(0, .sl insE l [] .may), (2, .bool false), (3, .int .i64 k)], [])
def eRH (q : InsT → Bool) (l : List insE.ty) (k : Int) (bs : List Int) : Option St :=
  cond (decide (k < (l.length : Nat))) (cond (decide (k < 60)) (cond (inside k l.length) (cond (qAt l q k) (cond (inside k l.length) (cond (qAt l q k) (cond (!strEq (tx bs) (tx bs)) (eRet l k)
    (cond (inside k l.length) (cond (qAt l q k) (cond (inside k l.length) (cond (qAt l q k) (cond (!strEq (tx bs) (tx bs)) (eRet l k) (some (.normal, eSt l (wi (k + 1)), []))) none) none) none) none)) none) none) none) none)
    (some (.exit 0, eSt l k, []))) (some (.exit 0, eSt l k, []))
def eRN (q : InsT → Bool) (l : List insE.ty) (k e : Int) : Option St :=
  cond (decide (k < (l.length : Nat))) (cond (decide (k < 60)) (cond (inside k l.length) (cond (qAt l q k) (cond (inside k l.length) (cond (qAt l q k) (cond (e != e) (eRet l k)
    (cond (inside k l.length) (cond (qAt l q k) (cond (!false == (e == 0)) (eRet l k) (cond (inside k l.length) (cond (qAt l q k) (some (.normal, eSt l (wi (k + 1)), [])) none) none)) none) none)) none) none) none) none)
    (some (.exit 0, eSt l k, []))) (some (.exit 0, eSt l k, []))
noncomputable abbrev eE (cx : Cx) (l : List insE.ty) (k : Int) : Tree St := (dcode cx R3 (eSt l k) []).bind (rnd 0 [] [0, 2, 3])
section
variable (q : InsT → Bool) (l : List insE.ty) (k e a1 a2 a3 a4 a5 a6 a7 a8 a9 a10 : Int)
theorem eR_no : (eE (cxNoE q e) l k).fin = eRN q l k e := by kernel_rfl
theorem eR_1 : (eE (cxOkE q [a1]) l k).fin = eRH q l k [a1] := by kernel_rfl
theorem eR_2 : (eE (cxOkE q [a1, a2]) l k).fin = eRH q l k [a1, a2] := by kernel_rfl
theorem eR_3 : (eE (cxOkE q [a1, a2, a3]) l k).fin = eRH q l k [a1, a2, a3] := by kernel_rfl
theorem eR_4 : (eE (cxOkE q [a1, a2, a3, a4]) l k).fin = eRH q l k [a1, a2, a3, a4] := by kernel_rfl
theorem eR_5 : (eE (cxOkE q [a1, a2, a3, a4, a5]) l k).fin = eRH q l k [a1, a2, a3, a4, a5] := by kernel_rfl
theorem eR_6 : (eE (cxOkE q [a1, a2, a3, a4, a5, a6]) l k).fin = eRH q l k [a1, a2, a3, a4, a5, a6] := by kernel_rfl
theorem eR_7 : (eE (cxOkE q [a1, a2, a3, a4, a5, a6, a7]) l k).fin = eRH q l k [a1, a2, a3, a4, a5, a6, a7] := by kernel_rfl
theorem eR_8 : (eE (cxOkE q [a1, a2, a3, a4, a5, a6, a7, a8]) l k).fin = eRH q l k [a1, a2, a3, a4, a5, a6, a7, a8] := by kernel_rfl
theorem eR_9 : (eE (cxOkE q [a1, a2, a3, a4, a5, a6, a7, a8, a9]) l k).fin = eRH q l k [a1, a2, a3, a4, a5, a6, a7, a8, a9] := by kernel_rfl
theorem eR_10 : (eE (cxOkE q [a1, a2, a3, a4, a5, a6, a7, a8, a9, a10]) l k).fin = eRH q l k [a1, a2, a3, a4, a5, a6, a7, a8, a9, a10] := by kernel_rfl
end
theorem eR_len (q : InsT → Bool) (l : List insE.ty) (k : Int) : ∀ bs : List Int, 1 ≤ bs.length → bs.length ≤ 10 → (eE (cxOkE q bs) l k).fin = eRH q l k bs
  | [], h, _ => by cases h
  | [a1], _, _ => eR_1 q l k a1
  | [a1, a2], _, _ => eR_2 q l k a1 a2
  | [a1, a2, a3], _, _ => eR_3 q l k a1 a2 a3
  | [a1, a2, a3, a4], _, _ => eR_4 q l k a1 a2 a3 a4
  | [a1, a2, a3, a4, a5], _, _ => eR_5 q l k a1 a2 a3 a4 a5
  | [a1, a2, a3, a4, a5, a6], _, _ => eR_6 q l k a1 a2 a3 a4 a5 a6
  | [a1, a2, a3, a4, a5, a6, a7], _, _ => eR_7 q l k a1 a2 a3 a4 a5 a6 a7
  | [a1, a2, a3, a4, a5, a6, a7, a8], _, _ => eR_8 q l k a1 a2 a3 a4 a5 a6 a7 a8
  | [a1, a2, a3, a4, a5, a6, a7, a8, a9], _, _ => eR_9 q l k a1 a2 a3 a4 a5 a6 a7 a8 a9
  | [a1, a2, a3, a4, a5, a6, a7, a8, a9, a10], _, _ => eR_10 q l k a1 a2 a3 a4 a5 a6 a7 a8 a9 a10
  | _ :: _ :: _ :: _ :: _ :: _ :: _ :: _ :: _ :: _ :: _ :: _, _, h => by simp only [List.length_cons] at h; omega
def qOk (bs : List Int) (i : InsT) : Bool := i64r i.2.2.2.2.2 && (encE i == 0 && decide (encL i = bs))
def qNo (e : Int) (i : InsT) : Bool := i64r i.2.2.2.2.2 && (!(encE i == 0) && (encE i == e))
theorem encAt_ok {q : InsT → Bool} {r : V} {H' : List O} {e : Int} (h : ∀ i, q i = true → MCall Try.prog 6 [.agg (insL i)] [] (.ok (.tup [r, .int .i64 e]) H')) : MSound Try.prog 6 (encAt q r H' e) := by
  intro args H out h1
  unfold encAt at h1
  split at h1
  rotate_left
  · cases h1
  rename_i nm a b c d n
  obtain ⟨h2, h1⟩ := req_run h1
  have h1 := leaf_out h1
  subst h1
  exact h (nm, a, b, c, d, n) h2
theorem encXAt_ok {q : InsT → Bool} {r : V} {e : Int} (h : ∀ i, q i = true → PCall Try.prog 7 [.agg (insL i)] (.tup [r, .int .i64 e])) : Sound Try.prog 7 (encXAt q r e) := by
  intro args out h1
  unfold encXAt at h1
  split at h1
  rotate_left
  · cases h1
  rename_i nm a b c d n
  obtain ⟨h2, h1⟩ := req_run h1
  have h1 := leaf_out h1
  subst h1
  exact h (nm, a, b, c, d, n) h2
theorem mayAt_ok {q : InsT → Bool} {v : Bool} (h : ∀ i, q i = true → (encE i == 0) = v) : Sound Try.prog 8 (mayAt q v) := by
  intro args out h1
  refine mayS_ok args out ?_
  unfold mayAt at h1
  split at h1
  rotate_left
  · cases h1
  rename_i nm a b c d n
  obtain ⟨h2, h1⟩ := req_run h1
  have h1 := leaf_out h1
  subst h1
  show some (V.bool (encE (nm, a, b, c, d, n) == 0)) = _
  rw [h (nm, a, b, c, d, n) h2]
theorem cxOkE_ok (bs : List Int) : CxOk (cxOkE (qOk bs) bs) := by
  have use : ∀ i, qOk bs i = true → i64r i.2.2.2.2.2 = true ∧ (encE i == 0) = true ∧ encL i = bs := by
    intro i h
    unfold qOk at h
    simp only [Bool.and_eq_true, decide_eq_true_eq] at h
    exact h
  refine cx1_ok (.cons begunS_ok (.cons (encXAt_ok fun i hi => ?_) (ok1 (mayAt_ok fun i hi => (use i hi).2.1)))) (.cons (encAt_ok fun i hi => ?_) (.cons spoilS_ok (.nil _))) rfl rfl
  · obtain ⟨h1, h2, h3⟩ := use i hi
    have := encX_ok h1
    rw [h2, h3] at this
    exact this
  · obtain ⟨h1, h2, h3⟩ := use i hi
    have := encG_ok i
    rw [h2, h3] at this
    exact this
theorem cxNoE_ok (e : Int) : CxOk (cxNoE (qNo e) e) := by
  have use : ∀ i, qNo e i = true → i64r i.2.2.2.2.2 = true ∧ (encE i == 0) = false ∧ encE i = e := by
    intro i h
    unfold qNo at h
    simp only [Bool.and_eq_true, Bool.not_eq_true', beq_iff_eq] at h
    exact h
  refine cx1_ok (.cons begunS_ok (.cons (encXAt_ok fun i hi => ?_) (ok1 (mayAt_ok fun i hi => (use i hi).2.1)))) (.cons (encAt_ok fun i hi => ?_) (.cons spoilS_ok (.nil _))) rfl rfl
  · obtain ⟨h1, h2, h3⟩ := use i hi
    have := encX_ok h1
    rw [h2, h3] at this
    exact this
  · obtain ⟨h1, h2, h3⟩ := use i hi
    have := encG_ok i
    rw [h2, h3] at this
    exact this
abbrev lawEQ (e : AEx) (t : T) (H : List O) : Prop := (e = .ret ∨ e = .normal) ∧ answerV Try.prog Try.f3.results.toList H t = some (.bool true)
noncomputable def cxB : Cx := { P := Try.prog, n := Try.f3.ntmps, tab := [(5, begunS)], mtab := [], refs := [], keeps := [0, 2, 3, 4, 5, 6, 7, 8, 11, 19, 57, 72] }
theorem cxB_ok : CxOk cxB := cx1_ok (ok1 begunS_ok) (.nil _) rfl rfl
theorem e_end (l : List insE.ty) : (dcode cxB (tailN 2 B3) [(0, .sl insE l [] .may)] []).run = some (.ret, [(0, .sl insE l [] .may), (2, .bool true)], []) := by kernel_rfl
theorem self_eq (a : List UInt8) : (!strEq a a) = false := by simp [strEq]
theorem e_round {l : List insE.ty} (hl : ∀ x ∈ l, i64r (insOf x).2.2.2.2.2 = true) (k : Nat) :
    ∃ cx : Cx, cx.P = Try.prog ∧ cx.n = Try.f3.ntmps ∧ CxOk cx ∧ ((eE cx l k).run = some (.normal, eSt l (wi ((k : Int) + 1)), []) ∧ k < 60 ∨ (eE cx l k).run = some (.exit 0, eSt l k, [])) := by
  have off : ∀ e, (¬ ((k : Int) < (l.length : Nat)) ∨ ¬ ((k : Int) < 60)) → (eE (cxNoE (qNo e) e) l k).run = some (.exit 0, eSt l k, []) := by
    intro e h
    rw [← Tree.fin_run, eR_no]
    unfold eRN
    rcases h with h | h
    · rw [decide_eq_false h]; rfl
    · rw [decide_eq_false h]
      cases decide ((k : Int) < (l.length : Nat)) <;> rfl
  by_cases h1 : (k : Int) < (l.length : Nat)
  rotate_left
  · exact ⟨_, rfl, rfl, cxNoE_ok 7, .inr (off 7 (.inl h1))⟩
  by_cases h2 : (k : Int) < 60
  rotate_left
  · exact ⟨_, rfl, rfl, cxNoE_ok 7, .inr (off 7 (.inr h2))⟩
  have hin : inside (k : Int) l.length = true := inside_of (Int.natCast_nonneg k) h1
  have hx : i64r (insOf (l.getD (k : Int).toNat (EC.dflt insE))).2.2.2.2.2 = true := by
    have hk : k < l.length := Int.ofNat_lt.1 h1
    rw [Int.toNat_natCast, getD_lt hk]
    exact hl _ (List.getElem_mem hk)
  generalize hi : insOf (l.getD (k : Int).toNat (EC.dflt insE)) = i at hx
  cases he : (encE i == 0)
  · refine ⟨_, rfl, rfl, cxNoE_ok (encE i), .inl ⟨?_, by omega⟩⟩
    have hq : qAt l (qNo (encE i)) k = true := by
      unfold qAt qNo
      rw [hi, hx, he]
      simp
    rw [← Tree.fin_run, eR_no]
    unfold eRN
    rw [decide_eq_true h1, decide_eq_true h2, hin, hq, bne_self_eq_false, he]
    rfl
  · obtain ⟨-, b1, b2⟩ := enc_bytes (eq_of_beq he)
    refine ⟨_, rfl, rfl, cxOkE_ok (encL i), .inl ⟨?_, by omega⟩⟩
    have hq : qAt l (qOk (encL i)) k = true := by
      unfold qAt qOk
      rw [hi, hx, he]
      simp
    rw [← Tree.fin_run, eR_len (qOk (encL i)) l k (encL i) b1 b2]
    unfold eRH
    rw [decide_eq_true h1, decide_eq_true h2, hin, hq, self_eq]
    rfl
set_option maxRecDepth 8000 in
theorem lawE_ok (l : List insE.ty) (hl : ∀ x ∈ l, i64r (insOf x).2.2.2.2.2 = true) : PCall Try.prog 3 [.sl insE l [] .may] (.bool true) := by
  refine pcall_of' (c := B3) (fn := Try.f3) (by kernel_rfl) (by kernel_rfl) (by kernel_rfl) (by kernel_rfl) ?_
  show AWP _ _ _ lawEQ _ _
  refine AWP_headK (cx := cxB) rfl rfl cxB_ok 1 [0] (t' := [(0, .sl insE l [] .may)]) (H' := []) (by kernel_rfl) (by kernel_rfl) ?_
  have e : tailN 1 B3 = .seq (.seq (c1 (c1 (tailN 1 B3))) (.block 0 (.loop R3))) (tailN 2 B3) := by kernel_rfl
  rw [e]
  refine AWP_seq (AWP_seq (AWP_run (cx := cxB) rfl rfl cxB_ok (s := (.normal, eSt l ((0 : Nat) : Int), [])) (by kernel_rfl) ?_))
  show AWP _ _ _ _ _ _
  refine AWP_block ?_
  refine AWP_loop (n := Try.f3.ntmps) (P := Try.prog) (fun k : { k : Nat // k ≤ 60 } => (eSt l (k.1 : Int), [])) (fun k => 60 - k.1) (fun p => ?_) ⟨0, Nat.zero_le _⟩
  obtain ⟨k, hk⟩ := p
  obtain ⟨cx, hP, hn, hT, h⟩ := e_round hl k
  rcases h with ⟨h, hlt⟩ | h
  · refine AWP_codeK (cx := cx) hP hn hT [] [0, 2, 3] (Tree.run_all h ?_)
    intro t ht
    refine ⟨⟨k + 1, hlt⟩, by show 60 - (k + 1) < 60 - k; omega, ?_, rfl⟩
    have hw : wi ((k : Int) + 1) = ((k + 1 : Nat) : Int) := (wrap_i64 (n := (k : Int) + 1) (by omega) (by omega)).trans (by omega)
    rw [hw] at ht
    exact tle_told ht
  · refine AWP_codeK (cx := cx) hP hn hT [] [0, 2, 3] (Tree.run_all h ?_)
    intro t ht
    show AWP _ _ _ _ _ _
    refine AWP.less (s := [(0, .sl insE l [] .may)]) ?_ (AWP_run (cx := cxB) rfl rfl cxB_ok (e_end l) ⟨.inl rfl, by kernel_rfl⟩)
    intro d
    rcases get_told ht d with g | g
    · match d, g with
      | 0, g => exact .inl g
      | d + 1, _ => exact .inr rfl
    · match d, g with
      | 0, g => cases g
      | d + 1, _ => exact .inr rfl
end Go.Amd

namespace Go.Ab
open Go.ChangeShapes Go.WideShapes Go.ChangeAt Go.RowKit
def arrFs (P : Program) (n : Nat) (e : TypeId) : List Field := (List.range n).map fun i => { name := "", type := e, offset := i * P.cellsOf e, embedded := false, tag := "", pkgPath := "", byteOffset := 0 }
mutual
def lay (P : Program) : Nat → TypeId → Option EC
  | 0, _ => none
  | d + 1, t => match P.underlying t with
    | some (.int k) => some (.int k)
    | some .bool => some .bool
    | some .string => some .str
    | some (.struct fs) => match layF P d 0 fs.toList with
      | some cs => if P.cellsOf t = EC.sizes cs then some (.prod cs) else none
      | none => none
    | some (.array n e) => match layF P d 0 (arrFs P n e) with
      | some cs => if P.cellsOf t = EC.sizes cs then some (.prod cs) else none
      | none => none
    | _ => none
def layF (P : Program) : Nat → Nat → List Field → Option (List EC)
  | 0, _, _ => none
  | _ + 1, _, [] => some []
  | d + 1, off, f :: r => match lay P d f.type with
    | some c => if f.offset = off ∧ P.cellsOf f.type = c.size then (layF P d (off + c.size) r).map (c :: ·) else none
    | none => none
end
def layP (P : Program) (t : TypeId) : Option EC :=
  match P.underlying t with
  | some (.slice e) => match lay P 80 e with
    | some c => if P.cellsOf e = c.size ∧ 0 < c.size then some (.sl c) else none
    | none => none
  | _ => lay P 80 t
mutual
def okE : (c : EC) → c.ty → Prop
  | .int k, (n : Int) => k.has n
  | .bool, _ => True
  | .str, (s : List UInt8) => s.length ≤ maxLen
  | .sl _, none => True
  | .sl c, some l => l.length ≤ maxLen ∧ ∀ x ∈ l, okE c x
  | .prod cs, x => okEs cs x
def okEs : (cs : List EC) → EC.tys cs → Prop
  | [], _ => True
  | [c], x => okE c x
  | c :: d :: cs, x => okE c x.1 ∧ okEs (d :: cs) x.2
end
def argV : (c : EC) → c.ty → V
  | .int k, n => .int k n
  | .bool, b => .bool b
  | .str, s => .str s
  | .sl c, o => .sl c (o.getD []) [] .may
  | .prod cs, x => .agg (encs cs x)
def argVs : (cs : List EC) → EC.tys cs → List V
  | [], _ => []
  | [c], x => [argV c x]
  | c :: d :: cs, x => argV c x.1 :: argVs (d :: cs) x.2
section
variable {H : Type} {en : TypeId × Value → H} {P : Program} {w : World} {base : Nat} {sp : Nat → Bool} {hd : Bool} {X : Nat → Nat → Prop}
theorem wf_has {k : IntKind} {n : Int} (h : (Lit.int k n).wf = true) : k.has n := by
  simpa [Lit.wf, IntKind.has] using h
theorem take_get {α : Type} {l : List α} {off n k : Nat} {z : α} (h : ((l.drop off).take n)[k]? = some z) : l[off + k]? = some z := by
  rw [List.getElem?_take] at h
  split at h
  · rwa [List.getElem?_drop] at h
  · cases h
mutual
theorem trod_lay : ∀ (d : Nat) (t : TypeId) (c : EC) (fuel : Nat) (cs : List Value) (y : DataW H × List MemPlace), lay P d t = some c → DataW.trod en P w base sp hd fuel t cs = some y →
    ∃ x : c.ty, okE c x ∧ ∀ (k : Nat) v, (enc c x)[k]? = some v → ∃ z, cs[k]? = some z ∧ R w X [] v z
  | 0, t, c, fuel, cs, y, hl, ht => by simp [lay] at hl
  | d + 1, t, c, fuel, cs, y, hl, ht => by
    unfold lay at hl
    split at hl
    · rename_i k hu
      simp only [Option.some.injEq] at hl
      subst hl
      obtain ⟨n, rfl, _, hw⟩ := DataW.trod_int hu ht
      refine ⟨(n : Int), wf_has hw, ?_⟩
      intro k v hv
      match k, hv with
      | 0, hv =>
        simp only [enc, List.getElem?_cons_zero, Option.some.injEq] at hv
        subst hv
        exact ⟨_, rfl, .int _ _ _⟩
    · rename_i hu
      simp only [Option.some.injEq] at hl
      subst hl
      obtain ⟨b, rfl, _⟩ := DataW.trod_bool hu ht
      refine ⟨(b : Bool), trivial, ?_⟩
      intro k v hv
      match k, hv with
      | 0, hv =>
        simp only [enc, List.getElem?_cons_zero, Option.some.injEq] at hv
        subst hv
        exact ⟨_, rfl, .bool _ _⟩
    · rename_i hu
      simp only [Option.some.injEq] at hl
      subst hl
      obtain ⟨s, rfl, _, hs⟩ := DataW.trod_string hu ht
      refine ⟨(s.data.toList : List UInt8), by simpa [okE] using hs, ?_⟩
      intro k v hv
      match k, hv with
      | 0, hv =>
        simp only [enc, List.getElem?_cons_zero, Option.some.injEq] at hv
        subst hv
        refine ⟨_, rfl, ?_⟩
        have := R.str (w := w) (X := X) [] s.data.toList
        simpa using this
    · rename_i fs hu
      split at hl
      rotate_left
      · cases hl
      rename_i cs' hcs'
      split at hl
      rotate_left
      · cases hl
      simp only [Option.some.injEq] at hl
      subst hl
      obtain ⟨xs, n, _, _, hlen, hxs, hf⟩ := DataW.trod_struct hu ht
      obtain ⟨x, h1, h2⟩ := trod_layF d 0 fs.toList cs' n cs hcs' (fun f hf' => by
        obtain ⟨i, hi, hfi⟩ := List.getElem_of_mem hf'
        have h1 := hf i f (by simp at hi; rw [Array.getElem?_eq_getElem hi]; simpa using hfi)
        rw [List.getElem?_eq_getElem (by simp at hi; omega)] at h1
        exact ⟨_, h1⟩)
      exact ⟨x, by simpa [okE] using h1, fun k v hv => by simpa using h2 k v (by simpa [enc] using hv)⟩
    · rename_i n e hu
      split at hl
      rotate_left
      · cases hl
      rename_i cs' hcs'
      split at hl
      rotate_left
      · cases hl
      simp only [Option.some.injEq] at hl
      subst hl
      obtain ⟨xs, m, _, _, hlen, hxs, hf⟩ := DataW.trod_array hu ht
      obtain ⟨x, h1, h2⟩ := trod_layF d 0 (arrFs P n e) cs' m cs hcs' (fun f hf' => by
        obtain ⟨i, hi, rfl⟩ := List.mem_map.1 hf'
        have hi : i < n := List.mem_range.1 hi
        have h1 := hf i hi
        rw [List.getElem?_eq_getElem (by omega)] at h1
        exact ⟨_, h1⟩)
      exact ⟨x, by simpa [okE] using h1, fun k v hv => by simpa using h2 k v (by simpa [enc] using hv)⟩
    · cases hl
theorem trod_layF : ∀ (d off : Nat) (fs : List Field) (cs' : List EC) (n : Nat) (cs : List Value), layF P d off fs = some cs' →
    (∀ f ∈ fs, ∃ y, DataW.trod en P w base sp hd n f.type ((cs.drop f.offset).take (P.cellsOf f.type)) = some y) →
    ∃ x : EC.tys cs', okEs cs' x ∧ ∀ (k : Nat) v, (encs cs' x)[k]? = some v → ∃ z, cs[off + k]? = some z ∧ R w X [] v z
  | 0, off, fs, cs', n, cs, hl, h => by simp [layF] at hl
  | d + 1, off, [], cs', n, cs, hl, h => by
    simp only [layF, Option.some.injEq] at hl
    subst hl
    exact ⟨(), trivial, fun k v hv => by simp [encs] at hv⟩
  | d + 1, off, f :: r, cs', n, cs, hl, h => by
    unfold layF at hl
    split at hl
    rotate_left
    · cases hl
    rename_i c hc
    split at hl
    rotate_left
    · cases hl
    rename_i ho
    obtain ⟨ho, hz⟩ := ho
    obtain ⟨ds, hds, rfl⟩ := Option.map_eq_some_iff.1 hl
    obtain ⟨y, hy⟩ := h f List.mem_cons_self
    obtain ⟨x1, a1, a2⟩ := trod_lay d f.type c n _ y hc hy
    obtain ⟨x2, b1, b2⟩ := trod_layF d (off + c.size) r ds n cs hds (fun g hg => h g (List.mem_cons_of_mem _ hg))
    have hfirst : ∀ (k : Nat) v, (enc c x1)[k]? = some v → ∃ z, cs[off + k]? = some z ∧ R w X [] v z := fun k v hv => by
      obtain ⟨z, hz, hr⟩ := a2 k v hv
      rw [ho] at hz
      exact ⟨z, take_get hz, hr⟩
    match ds, x2, b1, b2 with
    | [], _, _, _ => exact ⟨x1, by simpa [okEs] using a1, fun k v hv => hfirst k v (by simpa [encs] using hv)⟩
    | e :: es, x2, b1, b2 =>
      refine ⟨(x1, x2), by simpa [okEs] using ⟨a1, b1⟩, fun k v hv => ?_⟩
      simp only [encs] at hv
      by_cases hk : k < (enc c x1).length
      · rw [List.getElem?_append_left hk] at hv
        exact hfirst k v hv
      · rw [List.getElem?_append_right (by omega)] at hv
        rw [enc_size] at hv hk
        obtain ⟨z, hz, hr⟩ := b2 (k - c.size) v hv
        rw [show off + c.size + (k - c.size) = off + k from by omega] at hz
        exact ⟨z, hz, hr⟩
end
theorem choose_lt' {α : Type} [Inhabited α] {p : Nat → α → Prop} {m : Nat} (h : ∀ i, i < m → ∃ x, p i x) : ∃ f : Nat → α, ∀ i, i < m → p i (f i) := by
  refine ⟨fun i => if hi : i < m then Classical.choose (h i hi) else default, fun i hi => ?_⟩
  simp only [hi, dif_pos]
  exact Classical.choose_spec (h i hi)
instance (c : EC) : Inhabited c.ty := ⟨c.dflt⟩
theorem flat_not_sl {d : Nat} {t : TypeId} {c : EC} (h : lay P d t = some (.sl c)) : False := by
  cases d with
  | zero => simp [lay] at h
  | succ d =>
    unfold lay at h
    split at h
    all_goals first | (simp at h; done) | skip
    all_goals (repeat' (split at h))
    all_goals first | (cases h; done) | (simp at h; done)
theorem cells_one {t : TypeId} {c : EC} {v : Value} {r : Reach} (hl : lay P 80 t = some c) (hv : Value.okWide P w r base t v) (hc : ∀ cs, c ≠ .prod cs) : v.cells = #[v] := by
  unfold lay at hl
  unfold Value.okWide at hv
  split at hl
  · rename_i k hu
    simp only [hu] at hv
    simp only [Cell.okWide, hu, Cell.ok] at hv
    cases v <;> first | rfl | (simp at hv; done)
  · rename_i hu
    simp only [hu] at hv
    simp only [Cell.okWide, hu, Cell.ok] at hv
    cases v <;> first | rfl | (simp at hv; done)
  · rename_i hu
    simp only [hu] at hv
    simp only [Cell.okWide, hu, Cell.ok] at hv
    cases v <;> first | rfl | (simp at hv; done)
  · split at hl
    rotate_left
    · cases hl
    split at hl
    rotate_left
    · cases hl
    simp only [Option.some.injEq] at hl
    exact absurd hl.symm (hc _)
  · split at hl
    rotate_left
    · cases hl
    split at hl
    rotate_left
    · cases hl
    simp only [Option.some.injEq] at hl
    exact absurd hl.symm (hc _)
  · cases hl
theorem cells_agg {t : TypeId} {cs : List EC} {v : Value} {r : Reach} (hl : lay P 80 t = some (.prod cs)) (hv : Value.okWide P w r base t v) : ∃ xs : Array Value, v = .agg xs ∧ xs.size = EC.sizes cs := by
  unfold lay at hl
  unfold Value.okWide at hv
  split at hl
  · simp at hl
  · simp at hl
  · simp at hl
  · rename_i fs hu
    simp only [hu] at hv
    split at hl
    rotate_left
    · cases hl
    split at hl
    rotate_left
    · cases hl
    rename_i hsz
    simp only [Option.some.injEq, EC.prod.injEq] at hl
    subst hl
    obtain ⟨xs, rfl, h1, _⟩ := hv
    exact ⟨xs, rfl, by rw [h1, hsz]⟩
  · rename_i n e hu
    simp only [hu] at hv
    split at hl
    rotate_left
    · cases hl
    split at hl
    rotate_left
    · cases hl
    rename_i hsz
    simp only [Option.some.injEq, EC.prod.injEq] at hl
    subst hl
    obtain ⟨xs, rfl, h1, _⟩ := hv
    exact ⟨xs, rfl, by rw [h1, hsz]⟩
  · cases hl
theorem okWide_sl {t e : TypeId} {v : Value} {r : Reach} (hu : P.underlying t = some (.slice e)) (hv : Value.okWide P w r base t v) :
    v = .slice none 0 0 ∨ ∃ b o len cap, v = .slice (some ⟨b, o, none⟩) len cap := by
  unfold Value.okWide at hv
  simp only [hu] at hv
  cases v
  case slice a len cap =>
    cases a with
    | none =>
      simp only [Cell.okWide, hu, Cell.ok] at hv
      split at hv
      all_goals first | (simp_all; done) | skip
    | some a =>
      simp only [Cell.okWide, hu, Cell.ok] at hv
      obtain ⟨_, _, _, hs, _⟩ := hv
      obtain ⟨b, o, s⟩ := a
      simp only at hs
      subst hs
      exact .inr ⟨b, o, len, cap, rfl⟩
  all_goals simp [Cell.okWide, hu, Cell.ok] at hv
theorem arg_R {t : TypeId} {c : EC} {v : Value} {d : DataW H} {ps : List MemPlace} {r : Reach} (hl : layP P t = some c) (hv : Value.okWide P w r base t v)
    (ht : DataW.Trod en P w 0 sp hd t v d ps) : ∃ x : c.ty, okE c x ∧ R w (fun _ _ => False) [] (argV c x) v := by
  obtain ⟨fuel, ht⟩ := ht
  unfold layP at hl
  split at hl
  · rename_i e hu
    split at hl
    rotate_left
    · cases hl
    rename_i c' hc'
    split at hl
    rotate_left
    · cases hl
    rename_i hsz
    simp only [Option.some.injEq] at hl
    subst hl
    rcases okWide_sl hu hv with rfl | ⟨b, o, len, cap, rfl⟩
    · exact ⟨(none : Option (List c'.ty)), trivial, .nil _ _⟩
    · rcases Go.Deep.open_slice hu ht with ⟨h0, _⟩ | ⟨a, len', cap', m, n, D, Pl, hcs, _, hle, hmax, hm, _, hx⟩
      · simp [Value.cells] at h0
      simp only [Value.cells, List.cons.injEq, Value.slice.injEq, Option.some.injEq, and_true] at hcs
      obtain ⟨rfl, rfl, rfl⟩ := hcs
      have hlm : len ≤ m := by rw [hm]; split <;> omega
      have hel : ∀ i, i < len → ∃ x : c'.ty, okE c' x ∧ ∀ (k : Nat) v, (enc c' x)[k]? = some v → ∃ z, w.cell? ⟨b, o + i * c'.size + k, none⟩ = some z ∧ R w (fun _ _ => False) [] v z := by
        intro i hi
        obtain ⟨cs', h1, h2⟩ := hx i (by omega)
        obtain ⟨x, x1, x2⟩ := trod_lay (X := fun _ _ => False) 80 e c' n cs' _ hc' h2
        obtain ⟨_, hlen, hcell⟩ := World.cells?_some h1
        refine ⟨x, x1, fun k v hv => ?_⟩
        obtain ⟨z, hz, hr⟩ := x2 k v hv
        refine ⟨z, ?_, hr⟩
        have hk : k < P.cellsOf e := by
          rw [← hlen]
          exact (List.getElem?_eq_some_iff.1 hz).1
        have := hcell k hk
        rw [hz, add_plain, add_plain, hsz.1] at this
        exact this
      obtain ⟨f, hf⟩ := choose_lt' hel
      have hg : ∀ i k, i < len → k < c'.size → ∃ z, w.cell? ⟨b, o + i * c'.size + k, none⟩ = some z := fun i k hi hk => by
        obtain ⟨z, hz, _⟩ := (hf i hi).2 k _ (List.getElem?_eq_getElem (by rw [enc_size]; exact hk))
        exact ⟨z, hz⟩
      refine ⟨(some ((List.range len).map f) : Option (List c'.ty)), ⟨by simp; omega, fun x hx => ?_⟩, ?_⟩
      · obtain ⟨i, hi, rfl⟩ := List.mem_map.1 hx
        exact (hf i (List.mem_range.1 hi)).1
      · have := R.sl (w := w) (X := fun _ _ => False) [] c' ((List.range len).map f) [] .may b o cap (fun i k => (w.cell? ⟨b, o + i * c'.size + k, none⟩).getD undef)
          (by simp; omega) (fun h => by cases h) (fun h => by cases h) (fun i k hi hk => ⟨fun h => h, by
            obtain ⟨z, hz⟩ := hg i k (by simpa using hi) hk
            rw [hz]; rfl⟩) (fun i x k v h1 h2 => by
            simp only [List.append_nil, List.getElem?_map, Option.map_eq_some_iff] at h1
            obtain ⟨j, hj, rfl⟩ := h1
            obtain ⟨hj1, hj2⟩ := List.getElem?_eq_some_iff.1 hj
            simp only [List.length_range] at hj1
            simp only [List.getElem_range] at hj2
            subst hj2
            obtain ⟨z, hz, hr⟩ := (hf i hj1).2 k v h2
            rw [hz]; exact hr)
        simp only [List.length_map, List.length_range] at this
        exact this
  · cases c with
    | prod cs =>
      obtain ⟨xs, rfl, hsz⟩ := cells_agg hl hv
      obtain ⟨x, x1, x2⟩ := trod_lay (X := fun _ _ => False) 80 t _ fuel _ _ hl ht
      refine ⟨x, x1, ?_⟩
      have := R.agg (w := w) (X := fun _ _ => False) [] (encs cs x) xs.toList (by rw [show (encs cs x).length = EC.sizes cs from enc_size (.prod cs) x]; simpa using hsz) (fun k v y h1 h2 => by
        obtain ⟨z, hz, hr⟩ := x2 k v (by simpa [enc] using h1)
        simp only [Value.cells] at hz
        rw [hz] at h2
        simp only [Option.some.injEq] at h2
        subst h2
        exact hr)
      simpa [argV] using this
    | sl c => exact (flat_not_sl hl).elim
    | int k =>
      have hc := cells_one hl hv (by simp)
      obtain ⟨x, x1, x2⟩ := trod_lay (X := fun _ _ => False) 80 t _ fuel _ _ hl ht
      obtain ⟨z, hz, hr⟩ := x2 0 _ rfl
      simp only [hc, List.getElem?_cons_zero, Option.some.injEq] at hz
      subst hz
      exact ⟨x, x1, hr⟩
    | bool =>
      have hc := cells_one hl hv (by simp)
      obtain ⟨x, x1, x2⟩ := trod_lay (X := fun _ _ => False) 80 t _ fuel _ _ hl ht
      obtain ⟨z, hz, hr⟩ := x2 0 _ rfl
      simp only [hc, List.getElem?_cons_zero, Option.some.injEq] at hz
      subst hz
      exact ⟨x, x1, hr⟩
    | str =>
      have hc := cells_one hl hv (by simp)
      obtain ⟨x, x1, x2⟩ := trod_lay (X := fun _ _ => False) 80 t _ fuel _ _ hl ht
      obtain ⟨z, hz, hr⟩ := x2 0 _ rfl
      simp only [hc, List.getElem?_cons_zero, Option.some.injEq] at hz
      subst hz
      exact ⟨x, x1, hr⟩
theorem okWide_of_get {ts : List TypeId} {vs : List Value} {t : TypeId} {v : Value} {r : Reach} (h : ∀ (j : Nat) t' v', (t :: ts)[j]? = some t' → (v :: vs)[j]? = some v' → Value.okWide P w r base t' v') :
    Value.okWide P w r base t v ∧ ∀ (j : Nat) t' v', ts[j]? = some t' → vs[j]? = some v' → Value.okWide P w r base t' v' :=
  ⟨h 0 t v rfl rfl, fun j t' v' h1 h2 => h (j + 1) t' v' (by simpa using h1) (by simpa using h2)⟩
def layPs (P : Program) : List TypeId → Option (List EC)
  | [] => some []
  | t :: r => match layP P t, layPs P r with
    | some c, some cs => some (c :: cs)
    | _, _ => none
theorem args_R {r : Reach} : ∀ {ts : List TypeId} {cs : List EC} {vs : List Value} {ds : List (DataW H)} {ps : List MemPlace}, layPs P ts = some cs →
    (∀ (j : Nat) t v, ts[j]? = some t → vs[j]? = some v → Value.okWide P w r base t v) → DataW.TrodAll en P w 0 sp hd ts vs ds ps →
    ∃ x : EC.tys cs, okEs cs x ∧ vs.length = (argVs cs x).length ∧ ds.length = ts.length ∧ ∀ (k : Nat) v z, (argVs cs x)[k]? = some v → vs[k]? = some z → R w (fun _ _ => False) [] v z
  | [], cs, vs, ds, ps, hl, hv, ht => by
    simp only [layPs, Option.some.injEq] at hl
    subst hl
    obtain ⟨rfl, rfl, rfl⟩ := trodAll_nil ht
    exact ⟨(), trivial, rfl, rfl, fun k v z h => by simp [argVs] at h⟩
  | t :: ts, cs, vs, ds, ps, hl, hv, ht => by
    unfold layPs at hl
    split at hl
    rotate_left
    · cases hl
    rename_i c cs' hc hcs
    simp only [Option.some.injEq] at hl
    subst hl
    obtain ⟨v, vs', d, ds', p, q, rfl, rfl, rfl, h1, h2⟩ := trodAll_cons ht
    obtain ⟨g1, g2⟩ := okWide_of_get hv
    obtain ⟨x1, a1, a2⟩ := arg_R hc g1 h1
    obtain ⟨x2, b1, b2, b3, b4⟩ := args_R hcs g2 h2
    match cs', x2, b1, b2, b4 with
    | [], x2, b1, b2, b4 =>
      refine ⟨x1, by simpa [okEs] using a1, by simpa [argVs] using b2, by simp [b3], fun k u z hu hz => ?_⟩
      match k, hu, hz with
      | 0, hu, hz =>
        simp only [argVs, List.getElem?_cons_zero, Option.some.injEq] at hu hz
        subst hu; subst hz
        exact a2
    | e :: es, x2, b1, b2, b4 =>
      refine ⟨(x1, x2), by simpa [okEs] using ⟨a1, b1⟩, by simpa [argVs] using b2, by simp [b3], fun k u z hu hz => ?_⟩
      cases k with
      | zero =>
        simp only [argVs, List.getElem?_cons_zero, Option.some.injEq] at hu hz
        subst hu; subst hz
        exact a2
      | succ k => exact b4 k u z (by simpa [argVs] using hu) (by simpa using hz)
def readable (P : Program) (ts : List TypeId) : Bool := ts.all fun t => P.readableRec t && decide (t < P.types.size)
theorem args_stay {W W' : World} (hlaid : laidOutB P = true) (hb : Below W.heap.size W W') : ∀ {ts : List TypeId} {vs : List Value} {ds : List (DataW H)} {ps : List MemPlace}, readable P ts = true →
    DataW.TrodAll en P W 0 (fun _ => true) true ts vs ds ps → (∀ x ∈ ps, x.block < W.heap.size) → DataW.TrodAll en P W' 0 (fun b => decide (b < W.heap.size)) true ts vs ds ps
  | [], vs, ds, ps, _, ht, _ => by
    obtain ⟨rfl, rfl, rfl⟩ := trodAll_nil ht
    rfl
  | t :: ts, vs, ds, ps, hr, ht, hlt => by
    obtain ⟨v, vs', d, ds', p, q, rfl, rfl, rfl, h1, h2⟩ := trodAll_cons ht
    simp only [readable, List.all_cons, Bool.and_eq_true, decide_eq_true_eq] at hr
    exact ⟨p, q, Below.trod hlaid hr.1.1 hr.1.2 h1 hb (fun x hx => hlt x (by simp [hx])), args_stay hlaid hb (by simpa [readable] using hr.2) h2 (fun x hx => hlt x (by simp [hx])), rfl⟩
theorem below_step {W W' : World} (s : Step (fun _ _ => False) [] [] W [] [] W') : Below W.heap.size W W' :=
  ⟨s.os, s.tape, s.output, s.size, fun b hb => by
    rcases s.pres b hb with h | ⟨⟨o, h⟩, _⟩ | ⟨⟨o, h⟩, _⟩
    · exact h
    · exact absurd h (own_nil b o)
    · exact absurd h (own_nil b o)⟩
def resBool (P : Program) (ts : List TypeId) : Bool :=
  match ts with
  | [t] => match P.underlying t with
    | some .bool => true
    | _ => false
  | _ => false
theorem resBool_some {ts : Array TypeId} (h : resBool P ts.toList = true) : ∃ t, ts = #[t] ∧ P.underlying t = some .bool := by
  unfold resBool at h
  split at h
  · rename_i t ht
    split at h
    · rename_i hu
      exact ⟨t, by apply Array.ext'; simpa using ht, hu⟩
    · cases h
  · cases h
theorem gs_nil (h : globsOf P = []) (W : World) : Gs P W fun _ _ => False := by
  intro p hp
  rw [h] at hp
  cases hp
theorem law_contract {f : FuncId} {fn : Func} {s : ChangeSpec} {cs : List EC} {apart fresh handsOn : Bool} (hlaid : laidOutB P = true) (hts : layPs P fn.params.toList = some cs) (hrd : readable P fn.params.toList = true)
    (hrb : resBool P fn.resultTypes.toList = true) (hvars : s.vars = [])
    (hs : ∀ ds : List (DataW H), ds.length = fn.params.toList.length → s.fn H ds = { results := [.lit (.bool true)], args := ds })
    (hpc : ∀ x : EC.tys cs, okEs cs x → PCall P f (argVs cs x) (.bool true))
    (W : World) (base : Nat) (args : Array Value) (ds gs : List (DataW H)) (before : List MemPlace) (hG : Gs P W fun _ _ => False)
    (hval : ∀ (j : Nat) t v, fn.params[j]? = some t → args[j]? = some v → Value.okWide P W .any base t v)
    (hW : DataW.Whole en P fn.params.toList s.vars apart W args.toList ds gs before) :
    Calls P f args W fun e W' => ∃ v, e = .returned v ∧ s.post en P fn apart fresh handsOn false W args v W' := by
  have hW0 := hW
  obtain ⟨tb, hres, htb⟩ := resBool_some hrb
  obtain ⟨p, q, hA, hV, rfl, hfz, hnd⟩ := hW
  rw [hvars] at hV
  obtain ⟨rfl, rfl⟩ : gs = [] ∧ q = [] := by
    cases gs with
    | nil => exact ⟨rfl, hV⟩
    | cons g gs => exact hV.elim
  obtain ⟨x, x1, x2, x3, x4⟩ := args_R hts (fun j t v h1 h2 => hval j t v (by simpa using h1) (by simpa using h2)) hA
  have hlt := hW0.lt
  simp only [List.append_nil] at hlt hW0
  have := (hpc x x1).2 W (fun _ _ => False) args.toList ⟨fun _ _ h => h.elim, hG⟩ x2 x4
  simp only [Array.toArray_toList] at this
  refine this.mono ?_
  rintro e W' ⟨y, rfl, st, hr⟩
  have hb := below_step st
  cases hr
  refine ⟨_, rfl, ds, [], p, [], p, [], hW0, ?_, ?_, ?_, ?_, fun h => by cases h⟩
  · rw [List.append_nil, hs ds x3, hres]
    exact trodAll_mk1 (shut_bool htb true)
  · rw [List.append_nil, hs ds x3]
    exact args_stay hlaid hb hrd hA hlt
  · rw [List.append_nil, hs ds x3, hvars]
    rfl
  · exact hb.frame _
end
end Go.Ab
