/-
  The program's memory: bytes set. Conditions: none.
-/
import Derived.Test.YtbefgnmdliefjaaGreatDoorPk14
import Derived.Test.YtbefgnmdliefjaaGreatDoorPk13
import Derived.Lib.Mul64
import Derived.Test.YtbefgnmdliefjaaGreatDoorPk11
import Derived.Test.YtbefgnmdliefjaaGreatDoorProg
import Derived.KernelRfl
import Derived.Test.YtbefgnmdliefjaaGreatDoorPk12
set_option linter.unusedVariables false
set_option linter.unusedSimpArgs false
namespace Go.Ra
open Go Go.Ab Go.Proofs
noncomputable def cx24 : Cx := { P := Tryz.prog, n := 34, tab := [], mtab := [(30, noneM), (31, mayBig), (32, putM)], refs := [], keeps := [0, 1, 2, 6, 7, 8, 18, 19, 20, 21, 22] }
theorem cxPs_ok : CxOk cx24 := cx1_ok (.nil _) (.cons noneM_ok (.cons mayBig_ok (.cons putM_ok fun p h => by cases h))) rfl rfl
noncomputable def cxPs0 : Cx := { cx24 with fuel := 1 }
noncomputable abbrev Bps : Code := bodyOf Tryz.f24
def layL (k x : Int) (l : List Int) : Nat → List Int → List Int
  | 0, P => P
  | n + 1, P => setF k (adr x n) (l.getD n 0) (layL k x l n P)
theorem byte_getD {l : List Int} (h : l.all byteB = true) (n : Nat) : byteB (l.getD n 0) = true := by
  rw [List.getD_eq_getElem?_getD]
  cases hn : l[n]? with
  | none => rfl
  | some v => exact List.all_eq_true.1 h v (List.mem_of_getElem? hn)
theorem lens5_layL {a b c d e : List Int} (x : Int) (l : List Int) (hb : l.all byteB = true) (h : lens5 a b c d e = true) : ∀ n, lens5 (layL 1 x l n a) (layL 2 x l n b) (layL 16 x l n c) (layL 17 x l n d) (layL 32 x l n e) = true
  | 0 => h
  | n + 1 => lens5_set (lens5_layL x l hb h n) _ (byte_getD hb n)
theorem adr_small {x : Int} {j : Nat} (h0 : 0 ≤ x) (h1 : x + j < 18446744073709551616) : adr x j = x + j := by
  have e : adr x j = (x + (j : Int) % 18446744073709551616) % 18446744073709551616 := rfl
  rw [e]
  omega
theorem usable_base {x : Int} (hx : isBase x = true) {i : Nat} (hi : i < 8192) : usable (adr x i) = true := by
  have hx : x = 4096 ∨ x = 65536 := by simpa [isBase] using hx
  have ea : adr x i = x + i := adr_small (by omega) (by omega)
  have hr : rng64 (x + i) = true := by
    simp only [rng64, Bool.and_eq_true, decide_eq_true_eq]
    omega
  have hp : pgF (x + i) = (x + i) / 4096 := pgF_eq hr
  unfold usable
  rw [ea, hr, Bool.true_and]
  have : pgF (x + i) = 1 ∨ pgF (x + i) = 2 ∨ pgF (x + i) = 16 ∨ pgF (x + i) = 17 := by omega
  rcases this with h | h | h | h <;> rw [h] <;> rfl
theorem all_t {α : Type} {c : Bool} {x y : Tree α} {Q : α → Prop} (h : c = true) (hx : x.all Q) : (Tree.br c x y).all Q := ⟨fun _ => hx, fun e => Bool.noConfusion (h.symm.trans e)⟩
theorem all_f {α : Type} {c : Bool} {x y : Tree α} {Q : α → Prop} (h : c = false) (hy : y.all Q) : (Tree.br c x y).all Q := ⟨fun e => Bool.noConfusion (h.symm.trans e), fun _ => hy⟩
def cutK (ks : List Nat) (s : St) : Tree St := .leaf (s.1, keep ks s.2.1, s.2.2)
theorem cutK_run (ks : List Nat) (x : Tree St) : (x.bind (cutK ks)).run = x.run.map (fun s => (s.1, keep ks s.2.1, s.2.2)) := by
  induction x with
  | leaf b => rfl
  | fail => rfl
  | br c x y h1 h2 =>
    cases c
    · exact h2
    · exact h1
def psT (x : Int) (l sp : List Int) (fl : Fl) (i : Int) : T := [(0, .ptr 0 0), (1, .int .u64 x), (19, .sl (.int .u8) l sp fl), (20, .int .i64 l.length), (21, .int .i64 i)]
def psS (x : Int) (l : List Int) (n : Nat) (a b c d e : List Int) : List O := memO (layL 1 x l n a) (layL 2 x l n b) (layL 16 x l n c) (layL 17 x l n d) (layL 32 x l n e)
def psRound (x : Int) (l sp : List Int) (fl : Fl) (i : Nat) (a b c d e : List Int) : Tree St :=
  .br (decide ((i : Int) < l.length)) (.br (inside i l.length) (.br (lens5 a b c d e) (.br (usable (adr x i)) (.leaf (.normal, psT x l sp fl (IntKind.wrap .i64 ((i : Int) + 1)),
      memO (setF 1 (adr x i) (l.getD i 0) a) (setF 2 (adr x i) (l.getD i 0) b) (setF 16 (adr x i) (l.getD i 0) c) (setF 17 (adr x i) (l.getD i 0) d) (setF 32 (adr x i) (l.getD i 0) e))) .fail) .fail) .fail)
    (.leaf (.exit 0, psT x l sp fl i, memO a b c d e))
theorem psRound_eq (x : Int) (l sp : List Int) (fl : Fl) (i : Nat) (a b c d e : List Int) :
    ((dcode cx24 (cin (cin (c2 (c1 (tailN 1 Bps))))) (psT x l sp fl i) (memO a b c d e)).bind (rnd 7 [] [0, 1, 19, 20, 21])).run = (psRound x l sp fl i a b c d e).run :=
  (show _ = (psRound x l sp fl i a b c d e).out by kernel_rfl).trans (Tree.out_run _)
theorem ps_head (x : Int) (l sp : List Int) (fl : Fl) (a b c d e : List Int) : ((dcode cx24 (headN 1 Bps) (initT 0 [.ptr 0 0, .int .u64 x, .sl (.int .u8) l sp fl]) (memO a b c d e)).bind (cutK [0, 1, 2])).run =
    cond (lens5 a b c d e) (cond (bigOk x l.length 0) (some (.normal, [(0, .ptr 0 0), (1, .int .u64 x), (2, .sl (.int .u8) l sp fl)], memO a b c d e)) none) none := by kernel_rfl
theorem ps_start (x : Int) (l sp : List Int) (fl : Fl) (H : List O) : (dcode cx24 (c1 (c1 (tailN 1 Bps))) [(0, .ptr 0 0), (1, .int .u64 x), (2, .sl (.int .u8) l sp fl)] H).run.map (fun s => (s.1, keep [0, 1, 19, 20, 21] s.2.1, s.2.2)) =
    some (.normal, psT x l sp fl 0, H) := by kernel_rfl
theorem ps_end (H : List O) : ((dcode cx24 (tailN 2 Bps) [] H).bind (answerM Tryz.prog Tryz.f24.results.toList)).run = some (.ok (.int .i64 0) H) := by kernel_rfl
theorem ps_nil (x : Int) (a b c d e : List Int) : (mfun cxPs0 Tryz.f24 [.ptr 0 0, .int .u64 x, .val (.slice none 0 0)] (memO a b c d e)).fin = cond (lens5 a b c d e) (some (.ok (.int .i64 0) (memO a b c d e))) none := by kernel_rfl
def psSt (x : Int) (l sp : List Int) (fl : Fl) (a b c d e : List Int) (i : { i : Nat // i ≤ l.length }) : T × List O := (psT x l sp fl i.1, psS x l i.1 a b c d e)
theorem ps_ok {x : Int} {l : List Int} (sp : List Int) (fl : Fl) {a b c d e : List Int} (hx : isBase x = true) (hn : l.length ≤ 8192) (hb8 : l.all byteB = true) (hl : lens5 a b c d e = true) :
    MCall Tryz.prog 24 [.ptr 0 0, .int .u64 x, .sl (.int .u8) l sp fl] (memO a b c d e) (.ok (.int .i64 0) (psS x l l.length a b c d e)) := by
  refine mcall_of' (c := Bps) (fn := Tryz.f24) (by kernel_rfl) (by kernel_rfl) (by kernel_rfl) (by kernel_rfl) ?_
  have hb : bigOk x l.length 0 = true := by
    unfold bigOk
    cases h0 : ((l.length : Int) == 0)
    · have h0 : ¬ (l.length : Int) = 0 := by simpa using h0
      rw [hx, decide_eq_true (by omega), decide_eq_true (by omega)]
      rfl
    · rfl
  refine AWP_headK (cx := cx24) rfl rfl cxPs_ok 1 [0, 1, 2] (by kernel_rfl) (by rw [← cutK_run, ps_head, hl, hb]; rfl) ?_
  have eb : tailN 1 Bps = .seq (.seq (c1 (c1 (tailN 1 Bps))) (.block 0 (.loop (cin (cin (c2 (c1 (tailN 1 Bps)))))))) (tailN 2 Bps) := by kernel_rfl
  rw [eb]
  obtain ⟨s, g1, g2⟩ := Option.map_eq_some_iff.1 (ps_start x l sp fl (memO a b c d e))
  refine AWP_seq (AWP_seq (AWP_run (cx := cx24) rfl rfl cxPs_ok g1 ?_))
  obtain ⟨ex, t, H⟩ := s
  simp only [Prod.mk.injEq] at g2
  obtain ⟨rfl, g2, rfl⟩ := g2
  refine AWP_block (AWP.less (s := psT x l sp fl 0) (g2 ▸ TLe.keep _ _) ?_)
  refine AWP_roundsK (cx := cx24) (P := Tryz.prog) (n := 34) rfl rfl cxPs_ok (psSt x l sp fl a b c d e) (fun i => l.length - i.1) [] [0, 1, 19, 20, 21] ?_ ⟨0, Nat.zero_le _⟩
  rintro ⟨i, hi⟩
  have hl' := lens5_layL x l hb8 hl i
  refine Tree.all_run_eq (psRound_eq x l sp fl i _ _ _ _ _) ?_
  refine ⟨fun hlt => ?_, fun hge => ?_⟩
  · have hlt : i < l.length := Int.ofNat_lt.1 (of_decide_eq_true hlt)
    refine all_t (inside_of (Int.natCast_nonneg i) (Int.ofNat_lt.2 hlt)) (all_t hl' (all_t (usable_base hx (by omega)) ⟨⟨i + 1, hlt⟩, by show l.length - (i + 1) < l.length - i; omega, ?_, rfl⟩))
    rw [wrap_i64 (by omega) (by omega)]
    exact TLe.refl _
  · have hge : ¬ i < l.length := fun h => of_decide_eq_false hge (Int.ofNat_lt.2 h)
    have hi' : i = l.length := by omega
    subst hi'
    intro t _
    show AWP _ _ _ _ _ _
    refine AWP.less (s := []) (fun _ => .inr rfl) ?_
    obtain ⟨s, g1, g2⟩ := bind_run (ps_end (psS x l l.length a b c d e))
    refine AWP_run (cx := cx24) rfl rfl cxPs_ok g1 ?_
    exact answerM_post g2
def setPM : MSpec := fun args H => match args with
  | [.ptr 0 0, .int .u64 x, .sl (.int .u8) l _ _] => memM (fun a b c d e => .req (isBase x && (decide (l.length ≤ 8192) && l.all byteB)) (.leaf (.ok (.int .i64 0) (memO (layL 1 x l l.length a) (layL 2 x l l.length b) (layL 16 x l l.length c) (layL 17 x l l.length d) (layL 32 x l l.length e))))) H
  | [.ptr 0 0, .int .u64 x, .val (.slice none 0 0)] => memM (fun a b c d e => .leaf (.ok (.int .i64 0) (memO a b c d e))) H
  | _ => .fail
theorem cxPs0_ok : CxOk cxPs0 := cxPs_ok
theorem setPM_ok : MSound Tryz.prog 24 setPM := by
  intro args H out h
  unfold setPM at h
  split at h
  · rename_i x l sp fl
    obtain ⟨a, b, c, d, e, rfl, hl, h⟩ := memM_run h
    obtain ⟨h1, h⟩ := req_run h
    cases h
    obtain ⟨hx, hn⟩ := Bool.and_eq_true_iff.1 h1
    obtain ⟨hn, h8⟩ := Bool.and_eq_true_iff.1 hn
    exact ps_ok sp fl hx (of_decide_eq_true hn) h8 hl
  · rename_i x
    obtain ⟨a, b, c, d, e, rfl, hl, h⟩ := memM_run h
    cases h
    refine msound_fun (cx := cxPs0) (fn := Tryz.f24) cxPs0_ok (by kernel_rfl) (by kernel_rfl) _ _ _ ?_
    refine run_req (by kernel_rfl) ?_
    rw [← Tree.fin_run, ps_nil, hl, cond_true]
  · cases h
end Go.Ra

namespace Go.Ra
open Go Go.Ab Go.Proofs
def vI (y s : Int) : Int := wu (y * 2 ^ Min.min (Int.toNat s) 64)
def u2I (h l s : Int) : Int := wu ((BitVec.toNat (BitVec.ofInt 64 (vI h s) ||| BitVec.ofInt 64 (Int.fdiv l (2 ^ Min.min (Int.toNat (wu (64 - s))) 64))) : Nat) : Int)
def loI (x : Int) : Int := wu ((BitVec.toNat (BitVec.ofInt 64 x &&& BitVec.ofInt 64 4294967295) : Nat) : Int)
def hiI (x : Int) : Int := Int.fdiv x (2 ^ 32)
def qI (a b : Int) : Int := wu (Int.tdiv a b)
def rI (a b : Int) : Int := wu (a - wu (qI a b * b))
def mI (a b q v : Int) : Int := wu (wu (wu (a * 4294967296) + b) - wu (q * v))
def numH (h l y s : Int) : Tree St :=
  .br (decide (0 ≤ s)) (.br (decide (0 ≤ s)) (.br (decide (0 ≤ wu (64 - s))) (.br (decide (0 ≤ s)) (.br (!decide (hiI (vI y s) = 0)) (.leaf (.normal, [(0, .int .u64 h), (1, .int .u64 l), (2, .int .u64 (vI y s)), (8, .int .u64 s), (9, .int .u64 (hiI (vI y s))), (10, .int .u64 (loI (vI y s))),
    (11, .int .u64 (u2I h l s)), (12, .int .u64 (vI l s)), (13, .int .u64 (hiI (vI l s))), (14, .int .u64 (loI (vI l s))), (15, .int .u64 (qI (u2I h l s) (hiI (vI y s)))), (16, .int .u64 (rI (u2I h l s) (hiI (vI y s))))], [])) .fail) .fail) .fail) .fail) .fail
theorem numH_eq (h l y s : Int) : (dcode cx151 (headN 8 (tailN 4 Bdv)) [(0, .int .u64 h), (1, .int .u64 l), (2, .int .u64 y), (8, .int .u64 s)] []).run = (numH h l y s).run := dvNum_eq h l y s
def midH (q v v1 v0 u2 u1 u0 s : Int) : Tree St :=
  .br (!decide (v1 = 0)) (.leaf (.normal, [(2, .int .u64 v), (8, .int .u64 s), (9, .int .u64 v1), (10, .int .u64 v0), (11, .int .u64 u2), (13, .int .u64 u1), (14, .int .u64 u0), (15, .int .u64 q), (16, .int .u64 (rI (mI u2 u1 q v) v1)), (17, .int .u64 (mI u2 u1 q v)), (18, .int .u64 (qI (mI u2 u1 q v) v1))], [])) .fail
theorem midH_eq (q v v1 v0 u2 u1 u0 s : Int) : (dcode cx151 (headN 2 (tailN 14 Bdv)) [(2, .int .u64 v), (8, .int .u64 s), (9, .int .u64 v1), (10, .int .u64 v0), (11, .int .u64 u2), (13, .int .u64 u1), (14, .int .u64 u0), (15, .int .u64 q)] []).run = (midH q v v1 v0 u2 u1 u0 s).run := dvMid_eq q v v1 v0 u2 u1 u0 s
def endH (q1 q0 v u21 u0 s : Int) : Tree St :=
  .br (decide (0 ≤ s)) (.leaf (.ret, [(2, .int .u64 v), (6, .int .u64 (wu (wu (q1 * 4294967296) + q0))), (7, .int .u64 (Int.fdiv (mI u21 u0 q0 v) (2 ^ Min.min (Int.toNat s) 64))), (8, .int .u64 s), (14, .int .u64 u0), (15, .int .u64 q1), (17, .int .u64 u21), (18, .int .u64 q0)], [])) .fail
theorem endH_eq (q1 q0 v u21 u0 s : Int) : (dcode cx151 (tailN 18 Bdv) [(2, .int .u64 v), (8, .int .u64 s), (14, .int .u64 u0), (15, .int .u64 q1), (17, .int .u64 u21), (18, .int .u64 q0)] []).run = (endH q1 q0 v u21 u0 s).run := dvEnd_eq q1 q0 v u21 u0 s
theorem hi_cast (x : Nat) : hiI (x : Int) = ((x / 4294967296 : Nat) : Int) := fdiv_cast x 32
theorem lo_cast' (x : Nat) : loI (x : Int) = ((x % 4294967296 : Nat) : Int) := lo_cast x
theorem q_cast {x v : Nat} (h : x < 18446744073709551616) : qI (x : Int) (v : Int) = ((x / v : Nat) : Int) := by
  unfold qI
  rw [tdiv_cast]
  exact wu_cast (by have := Nat.div_le_self x v; omega)
theorem r_cast {x v : Nat} (h : x < 18446744073709551616) : rI (x : Int) (v : Int) = ((x % v : Nat) : Int) := by
  unfold rI
  rw [q_cast h]
  exact rest_cast h
theorem pt_v {v : Nat} : v / 4294967296 * 4294967296 + v % 4294967296 = v := by omega
theorem pt_u {u2 u10 : Nat} : u2 * 18446744073709551616 + u10 = (u2 * 4294967296 + u10 / 4294967296) * 4294967296 + u10 % 4294967296 := by omega
theorem pt_lt {u2 u10 v : Nat} (h : u2 * 18446744073709551616 + u10 < v * 18446744073709551616) : u2 * 4294967296 + u10 / 4294967296 < v * 4294967296 := by
  rw [pt_u] at h
  refine Nat.lt_of_not_le fun g => Nat.not_le.2 h ?_
  have g := Nat.mul_le_mul_right 4294967296 g
  rw [Nat.mul_assoc v 4294967296 4294967296] at g
  exact Nat.le_trans g (Nat.le_add_right _ _)
theorem pt_lt2 {u21 u0 v : Nat} (h : u21 < v) (h0 : u0 < 4294967296) : u21 * 4294967296 + u0 < v * 4294967296 := by omega
theorem pt_q {q1 q0 : Nat} (h : q1 * 4294967296 + q0 < 18446744073709551616) : wu (wu ((q1 : Int) * 4294967296) + (q0 : Int)) = ((q1 * 4294967296 + q0 : Nat) : Int) := by
  rw [wu_mod, wu_mod]
  omega
set_option maxRecDepth 8000 in
set_option maxHeartbeats 1000000 in
theorem dv_part2 {v u21 u0 q1 s : Nat} (b2 : 9223372036854775808 ≤ v) (b3 : v < 18446744073709551616) (hu0 : u0 < 4294967296) (hm : u21 < v) (hs : s ≤ 64) (hq : q1 * 4294967296 + (u21 * 4294967296 + u0) / v < 18446744073709551616) :
    AWP Tryz.prog 135 (tailN 2 (tailN 14 Bdv)) (fun e t H => (e = .ret ∨ e = .normal) ∧ answerV Tryz.prog Tryz.f151.results.toList H t = some (.tup [.int .u64 ((q1 * 4294967296 + (u21 * 4294967296 + u0) / v : Nat) : Int), .int .u64 (((u21 * 4294967296 + u0) % v / 2 ^ s : Nat) : Int)]))
      [(2, .int .u64 v), (8, .int .u64 (s : Nat)), (9, .int .u64 ((v / 4294967296 : Nat) : Int)), (10, .int .u64 ((v % 4294967296 : Nat) : Int)), (14, .int .u64 (u0 : Nat)), (15, .int .u64 (q1 : Nat)), (16, .int .u64 ((u21 % (v / 4294967296) : Nat) : Int)), (17, .int .u64 (u21 : Nat)), (18, .int .u64 ((u21 / (v / 4294967296) : Nat) : Int))] [] := by
  have hok : CxOk cx151 := cx1_ok (ok1 lzS_ok) (.nil _) rfl rfl
  have eV : v / 4294967296 * 4294967296 + v % 4294967296 = v := pt_v
  have hs0 : decide ((0 : Int) ≤ (s : Int)) = true := decide_eq_true (by omega)
  have ec2 : tailN 2 (tailN 14 Bdv) = .seq (.block 2 (.loop (cin (cin (c1 (tailN 17 Bdv)))))) (tailN 18 Bdv) := by kernel_rfl
  rw [ec2]
  refine AWP_seq (AWP_block ?_)
  refine dv_loop (cx := cx151) (P := Tryz.prog) (n := 135) rfl rfl hok (st := fun q r => [(2, .int .u64 v), (8, .int .u64 (s : Nat)), (9, .int .u64 ((v / 4294967296 : Nat) : Int)), (10, .int .u64 ((v % 4294967296 : Nat) : Int)), (14, .int .u64 (u0 : Nat)), (15, .int .u64 (q1 : Nat)), (16, .int .u64 r), (17, .int .u64 (u21 : Nat)), (18, .int .u64 q)])
    (ex := 2) (a := 113) (b := 120) (v1 := v / 4294967296) (v0 := v % 4294967296) (u2 := u21) (u1 := u0) (by omega) (by omega) (by omega) hu0 (by rw [eV]; exact pt_lt2 hm hu0)
    (fun q r x => Fits.tle ⟨rfl, rfl, rfl, rfl, rfl, rfl, rfl, rfl, rfl, trivial⟩) (fun q r => dv_rd2 _ _ _ _ _ _ _ q r) ?_
  intro r x
  rw [eV]
  show AWP _ _ _ _ _ _
  refine AWP.less (s := [(2, .int .u64 v), (8, .int .u64 (s : Nat)), (14, .int .u64 (u0 : Nat)), (15, .int .u64 (q1 : Nat)), (17, .int .u64 (u21 : Nat)), (18, .int .u64 (((u21 * 4294967296 + u0) / v : Nat) : Int))])
    (Fits.tle ⟨rfl, rfl, rfl, rfl, rfl, rfl, trivial⟩) ?_
  have ee : (dcode cx151 (tailN 18 Bdv) [(2, .int .u64 v), (8, .int .u64 (s : Nat)), (14, .int .u64 (u0 : Nat)), (15, .int .u64 (q1 : Nat)), (17, .int .u64 (u21 : Nat)), (18, .int .u64 (((u21 * 4294967296 + u0) / v : Nat) : Int))] []).run = _ := (endH_eq _ _ _ _ _ _).trans (show _ = some _ by unfold endH; rw [hs0]; rfl)
  refine AWP_run (cx := cx151) rfl rfl hok ee ?_
  refine ⟨.inl rfl, ?_⟩
  have em2 : mI (u21 : Nat) (u0 : Nat) (((u21 * 4294967296 + u0) / v : Nat) : Int) (v : Nat) = (((u21 * 4294967296 + u0) % v : Nat) : Int) := rest2_cast (by omega) (by omega)
  refine Eq.trans (b := some (V.tup [.int .u64 (wu (wu ((q1 : Nat) * 4294967296) + (((u21 * 4294967296 + u0) / v : Nat) : Int))), .int .u64 (Int.fdiv (mI (u21 : Nat) (u0 : Nat) (((u21 * 4294967296 + u0) / v : Nat) : Int) (v : Nat)) (2 ^ Min.min (Int.toNat (s : Nat)) 64))])) (by kernel_rfl) ?_
  rw [em2, min_cast (by omega), fdiv_cast]
  rw [pt_q hq]
set_option maxRecDepth 8000 in
set_option maxHeartbeats 1000000 in
theorem div_call {h l y : Nat} (hh : h < y) (hy : y < 2 ^ 64) (hl : l < 18446744073709551616) : PCall Tryz.prog 151 [.int .u64 h, .int .u64 l, .int .u64 y] (.tup [.int .u64 (dq128 h l y), .int .u64 (dr128 h l y)]) := by
  have hok : CxOk cx151 := cx1_ok (ok1 lzS_ok) (.nil _) rfl rfl
  refine pcall_of' (c := Bdv) (fn := Tryz.f151) (by kernel_rfl) (by kernel_rfl) (by kernel_rfl) (by kernel_rfl) ?_
  rw [dq_cast, dr_cast]
  refine AWP_headE (cx := cx151) rfl rfl hok 4 (by kernel_rfl) (dvHead_eq h l y) ?_
  refine all_f (by rw [beq_eq_false_iff_ne]; omega) (all_f (decide_eq_false (by omega)) ⟨fun h0 => ?_, fun h0 => ?_⟩)
  · have h0 : (h : Int) = 0 := eq_of_beq h0
    have h0 : h = 0 := by omega
    subst h0
    have hn : (!decide ((y : Int) = 0)) = true := by rw [decide_eq_false (by omega)]; rfl
    refine all_t hn (all_t hn ⟨.inl rfl, ?_⟩)
    refine Eq.trans (b := some (V.tup [.int .u64 (wu (Int.tdiv (l : Int) (y : Int))), .int .u64 (Int.tmod (l : Int) (y : Int))])) (by kernel_rfl) ?_
    have e1 : wu (Int.tdiv (l : Int) (y : Int)) = (((0 * 18446744073709551616 + l) / y : Nat) : Int) := by
      rw [tdiv_cast, Nat.zero_mul, Nat.zero_add]
      exact wu_cast (by have := Nat.div_le_self l y; omega)
    have e2 : Int.tmod (l : Int) (y : Int) = (((0 * 18446744073709551616 + l) % y : Nat) : Int) := by
      rw [Int.tmod_eq_emod_of_nonneg (by omega), Nat.zero_mul, Nat.zero_add]
      rfl
    rw [e1, e2]
  refine all_t (by simp only [rng64, Bool.and_eq_true, decide_eq_true_eq]; omega) ?_
  show AWP _ _ _ _ _ _
  have hy0 : y ≠ 0 := by omega
  obtain ⟨b1, b2, b3⟩ := dvS_bd hy hy0
  have es := sF_eq hy
  refine AWP.less (s := [(0, .int .u64 h), (1, .int .u64 l), (2, .int .u64 y), (8, .int .u64 (dvS y : Nat))]) (Fits.tle ⟨rfl, rfl, rfl, congrArg (V.int .u64) es, trivial⟩) ?_
  refine AWP_headE (cx := cx151) rfl rfl hok 8 (by kernel_rfl) (numH_eq h l y (dvS y : Nat)) ?_
  have ev : vI (y : Int) (dvS y : Nat) = ((y * 2 ^ dvS y : Nat) : Int) := by
    refine (shl_cast (x := y) (s := dvS y) (by omega)).trans ?_
    rw [Nat.mod_eq_of_lt b3]
  have el : vI (l : Int) (dvS y : Nat) = ((dvU10 l (dvS y) : Nat) : Int) := shl_cast (x := l) (s := dvS y) (by omega)
  obtain ⟨eu, hu2⟩ := u2_cast hy hy0 hh hl
  have eu : u2I (h : Int) (l : Int) (dvS y : Nat) = ((dvU2 h l (dvS y) : Nat) : Int) := eu
  have hu := dvU_eq (h := h) (l := l) (s := dvS y) (by omega)
  have h10 : dvU10 l (dvS y) < 18446744073709551616 := Nat.mod_lt _ (by decide)
  have e64 : wu (64 - ((dvS y : Nat) : Int)) = ((64 - dvS y : Nat) : Int) := by
    rw [show (64 : Int) - ((dvS y : Nat) : Int) = ((64 - dvS y : Nat) : Int) by omega]
    exact wu_cast (by omega)
  have htot : (h * 18446744073709551616 + l) * 2 ^ dvS y < y * 2 ^ dvS y * 18446744073709551616 := by
    have h1 : h * 18446744073709551616 + l < y * 18446744073709551616 := by
      have : (h + 1) * 18446744073709551616 ≤ y * 18446744073709551616 := Nat.mul_le_mul_right _ hh
      omega
    have := Nat.mul_lt_mul_of_pos_right h1 (Nat.two_pow_pos (dvS y))
    rw [Nat.mul_right_comm y] at this
    exact this
  have hend := kn_shift (x := h * 18446744073709551616 + l) (y := y) (dvS y) (by omega)
  rw [← hu] at htot hend
  unfold numH
  rw [ev, el, eu, hi_cast, hi_cast, lo_cast', lo_cast', q_cast hu2, r_cast hu2]
  have hs0 : decide ((0 : Int) ≤ ((dvS y : Nat) : Int)) = true := decide_eq_true (by omega)
  refine all_t hs0 (all_t hs0 (all_t (by rw [e64]; exact decide_eq_true (by omega)) (all_t hs0 (all_t (by rw [decide_eq_false (by omega)]; rfl) ?_))))
  show AWP _ _ _ _ _ _
  have hq := dq_lt hh hl
  rw [← hend.1] at hq ⊢
  rw [← hend.2]
  clear hend hu es ev el eu e64
  generalize hs : dvS y = s at *
  generalize dvU2 h l s = u2 at *
  generalize dvU10 l s = u10 at *
  generalize y * 2 ^ s = v at *
  have ec : tailN 8 (tailN 4 Bdv) = .seq (.block 0 (.loop (cin (cin (c1 (tailN 13 Bdv)))))) (tailN 14 Bdv) := by kernel_rfl
  rw [ec]
  have eV : v / 4294967296 * 4294967296 + v % 4294967296 = v := pt_v
  have eU : u2 * 18446744073709551616 + u10 = (u2 * 4294967296 + u10 / 4294967296) * 4294967296 + u10 % 4294967296 := pt_u
  have hu1 : u2 * 4294967296 + u10 / 4294967296 < v * 4294967296 := pt_lt htot
  rw [eU] at hq ⊢
  obtain ⟨j1, j2⟩ := kn_join (v := v) (x := u2 * 4294967296 + u10 / 4294967296) (u0 := u10 % 4294967296) (by omega)
  rw [← j1] at hq ⊢
  rw [← j2]
  refine AWP_seq (AWP_block ?_)
  refine AWP.less (s := [(2, .int .u64 v), (8, .int .u64 (s : Nat)), (9, .int .u64 ((v / 4294967296 : Nat) : Int)), (10, .int .u64 ((v % 4294967296 : Nat) : Int)), (11, .int .u64 (u2 : Nat)), (13, .int .u64 ((u10 / 4294967296 : Nat) : Int)), (14, .int .u64 ((u10 % 4294967296 : Nat) : Int)), (15, .int .u64 ((u2 / (v / 4294967296) : Nat) : Int)), (16, .int .u64 ((u2 % (v / 4294967296) : Nat) : Int))])
    (Fits.tle ⟨rfl, rfl, rfl, rfl, rfl, rfl, rfl, rfl, rfl, trivial⟩) ?_
  refine dv_loop (cx := cx151) (P := Tryz.prog) (n := 135) rfl rfl hok (st := fun q r => [(2, .int .u64 v), (8, .int .u64 (s : Nat)), (9, .int .u64 ((v / 4294967296 : Nat) : Int)), (10, .int .u64 ((v % 4294967296 : Nat) : Int)), (11, .int .u64 (u2 : Nat)), (13, .int .u64 ((u10 / 4294967296 : Nat) : Int)), (14, .int .u64 ((u10 % 4294967296 : Nat) : Int)), (15, .int .u64 q), (16, .int .u64 r)])
    (ex := 0) (a := 78) (b := 85) (v1 := v / 4294967296) (v0 := v % 4294967296) (u2 := u2) (u1 := u10 / 4294967296) (by omega) (by omega) (by omega) (by omega) (by rw [eV]; exact hu1)
    (fun q r x => Fits.tle ⟨rfl, rfl, rfl, rfl, rfl, rfl, rfl, rfl, rfl, trivial⟩) (fun q r => dv_rd1 _ _ _ _ _ _ _ q r) ?_
  intro r x
  rw [eV]
  show AWP _ _ _ _ _ _
  refine AWP.less (s := [(2, .int .u64 v), (8, .int .u64 (s : Nat)), (9, .int .u64 ((v / 4294967296 : Nat) : Int)), (10, .int .u64 ((v % 4294967296 : Nat) : Int)), (11, .int .u64 (u2 : Nat)), (13, .int .u64 ((u10 / 4294967296 : Nat) : Int)), (14, .int .u64 ((u10 % 4294967296 : Nat) : Int)), (15, .int .u64 (((u2 * 4294967296 + u10 / 4294967296) / v : Nat) : Int))])
    (Fits.tle ⟨rfl, rfl, rfl, rfl, rfl, rfl, rfl, rfl, trivial⟩) ?_
  refine AWP_headE (cx := cx151) rfl rfl hok 2 (by kernel_rfl) (midH_eq _ _ _ _ _ _ _ _) ?_
  have em : mI (u2 : Nat) ((u10 / 4294967296 : Nat) : Int) (((u2 * 4294967296 + u10 / 4294967296) / v : Nat) : Int) (v : Nat) = (((u2 * 4294967296 + u10 / 4294967296) % v : Nat) : Int) := rest2_cast (by omega) (by omega)
  unfold midH
  have hm := Nat.mod_lt (u2 * 4294967296 + u10 / 4294967296) (show 0 < v by omega)
  rw [em, q_cast (by omega), r_cast (by omega)]
  refine all_t (by rw [decide_eq_false (by omega)]; rfl) ?_
  show AWP _ _ _ _ _ _
  refine AWP.less (s := [(2, .int .u64 v), (8, .int .u64 (s : Nat)), (9, .int .u64 ((v / 4294967296 : Nat) : Int)), (10, .int .u64 ((v % 4294967296 : Nat) : Int)), (14, .int .u64 ((u10 % 4294967296 : Nat) : Int)), (15, .int .u64 (((u2 * 4294967296 + u10 / 4294967296) / v : Nat) : Int)), (16, .int .u64 (((u2 * 4294967296 + u10 / 4294967296) % v % (v / 4294967296) : Nat) : Int)), (17, .int .u64 (((u2 * 4294967296 + u10 / 4294967296) % v : Nat) : Int)), (18, .int .u64 (((u2 * 4294967296 + u10 / 4294967296) % v / (v / 4294967296) : Nat) : Int))])
    (Fits.tle ⟨rfl, rfl, rfl, rfl, rfl, rfl, rfl, rfl, rfl, trivial⟩) ?_
  exact dv_part2 b2 b3 (by omega) hm (by omega) hq
def div64S : Ab.Spec := fun args => match args with
  | [.int .u64 h, .int .u64 l, .int .u64 y] => .req (rng64 h && (rng64 l && (rng64 y && decide (h < y)))) (.leaf (.tup [.int .u64 (dq128 h l y), .int .u64 (dr128 h l y)]))
  | _ => .fail
theorem div64S_ok : Sound Tryz.prog 151 div64S := by
  intro args out g
  unfold div64S at g
  split at g
  rotate_left
  · cases g
  rename_i h l y
  obtain ⟨h1, g⟩ := req_run g
  cases g
  simp only [rng64, Bool.and_eq_true, decide_eq_true_eq] at h1
  obtain ⟨⟨a1, a2⟩, ⟨b1, b2⟩, ⟨c1, c2⟩, d⟩ := h1
  obtain ⟨h, rfl⟩ := Int.eq_ofNat_of_zero_le a1
  obtain ⟨l, rfl⟩ := Int.eq_ofNat_of_zero_le b1
  obtain ⟨y, rfl⟩ := Int.eq_ofNat_of_zero_le c1
  exact div_call (by omega) (by omega) (by omega)
end Go.Ra

namespace Go.Ra
open Go Go.Ab Go.Proofs
def shlF (x c : Int) : Int := IntKind.wrap .u64 (x * 2 ^ (min c.toNat 64))
def shrF (x c : Int) : Int := Int.fdiv x (2 ^ (min c.toNat 64))
def andU (a b : Int) : Int := IntKind.wrap .u64 (((BitVec.ofInt 64 a &&& BitVec.ofInt 64 b).toNat : Nat) : Int)
noncomputable def cx150 : Cx := { P := Tryz.prog, n := 51, tab := [], mtab := [], refs := [], keeps := [0, 1, 4, 5, 6, 7, 8, 9, 10, 11, 12, 13] }
def s32 (x : Int) : Int := Int.fdiv x (2 ^ 32)
def lo32 (x : Int) : Int := andU x 4294967295
def mulA (a b : Int) : Int := wu (wu (s32 a * lo32 b) + s32 (wu (lo32 a * lo32 b)))
def mulB (a b : Int) : Int := wu (lo32 (mulA a b) + wu (lo32 a * s32 b))
def mulC (a b : Int) : Int := wu (wu (wu (s32 a * s32 b) + s32 (mulA a b)) + s32 (mulB a b))
theorem mul_eq (a b : Int) : (dfun cx150 Tryz.f150 [.int .u64 a, .int .u64 b]).fin = some (.tup [.int .u64 (mulC a b), .int .u64 (wu (a * b))]) := by kernel_rfl
theorem lo32_cast (x : Nat) : lo32 (x : Int) = ((x % 4294967296 : Nat) : Int) := by
  unfold lo32 andU
  have e1 : (BitVec.ofInt 64 (x : Int)).toNat = x % 18446744073709551616 := by
    rw [BitVec.toNat_ofInt]
    omega
  rw [BitVec.toNat_and, e1, show (BitVec.ofInt 64 4294967295).toNat = 2 ^ 32 - 1 from by decide, Nat.and_two_pow_sub_one_eq_mod]
  show ((x % 18446744073709551616 % 2 ^ 32 : Nat) : Int) % 18446744073709551616 = _
  omega
theorem s32_cast (x : Nat) : s32 (x : Int) = ((x / 4294967296 : Nat) : Int) := by
  unfold s32
  rw [Int.fdiv_eq_ediv_of_nonneg _ (by decide)]
  rfl
theorem mulC_eq {a b : Int} (ha : rng64 a = true) (hb : rng64 b = true) : mulC a b = a * b / 18446744073709551616 := by
  simp only [rng64, Bool.and_eq_true, decide_eq_true_eq] at ha hb
  obtain ⟨x, rfl⟩ := Int.eq_ofNat_of_zero_le ha.1
  obtain ⟨y, rfl⟩ := Int.eq_ofNat_of_zero_le hb.1
  obtain ⟨b1, b2, b3, e⟩ := Lib.mul64_hi x y (by omega) (by omega)
  have c1 := Lib.half_mul_le (a := x / 4294967296) (b := y / 4294967296) (by omega) (by omega)
  have c2 := Lib.half_mul_le (a := x / 4294967296) (b := y % 4294967296) (by omega) (by omega)
  have c3 := Lib.half_mul_le (a := x % 4294967296) (b := y / 4294967296) (by omega) (by omega)
  have e1 : mulA x y = ((x / 4294967296 * (y % 4294967296) + x % 4294967296 * (y % 4294967296) / 4294967296 : Nat) : Int) := by
    unfold mulA
    rw [lo32_cast, lo32_cast, s32_cast, ← Int.natCast_mul, ← Int.natCast_mul, wu_cast (by omega), wu_cast b1, s32_cast, ← Int.natCast_add, wu_cast b2]
  have e2 : mulB x y = (((x / 4294967296 * (y % 4294967296) + x % 4294967296 * (y % 4294967296) / 4294967296) % 4294967296 + x % 4294967296 * (y / 4294967296) : Nat) : Int) := by
    unfold mulB
    rw [e1, lo32_cast, lo32_cast, s32_cast, ← Int.natCast_mul, wu_cast (by omega), ← Int.natCast_add, wu_cast b3]
  unfold mulC
  rw [e1, e2, s32_cast, s32_cast, s32_cast, s32_cast, ← Int.natCast_mul, wu_cast (by omega), ← Int.natCast_add, wu_cast (by omega), ← Int.natCast_add, wu_cast, e, Int.natCast_ediv, Int.natCast_mul]
  · rfl
  · rw [e]
    have : x * y / 18446744073709551616 < 18446744073709551616 := by
      rw [Nat.div_lt_iff_lt_mul (by decide)]
      exact Nat.mul_lt_mul'' (by omega) (by omega)
    omega
def mulHi (a b : Int) : Int := a * b / 18446744073709551616
def mulS : Ab.Spec := fun args => match args with
  | [.int .u64 a, .int .u64 b] => .req (rng64 a && rng64 b) (.leaf (.tup [.int .u64 (mulHi a b), .int .u64 (wu (a * b))]))
  | _ => .fail
theorem mulS_ok : Sound Tryz.prog 150 mulS := by
  intro args out h
  unfold mulS at h
  split at h
  rotate_left
  · cases h
  rename_i a b
  obtain ⟨h1, h⟩ := req_run h
  cases h
  obtain ⟨g1, g2⟩ := Bool.and_eq_true_iff.1 h1
  refine pcall_fun' (cx := cx150) (fn := Tryz.f150) (cx0_ok rfl rfl) (by kernel_rfl) (by kernel_rfl) (by kernel_rfl) ?_
  rw [← Tree.fin_run, mul_eq, mulC_eq g1 g2]
  rfl
end Go.Ra

namespace Go.Amd
open Go Go.Ab Go.Proofs
theorem cx0_ok {cx : Cx} (h1 : cx.tab = []) (h2 : cx.mtab = []) (h3 : cx.rtab = [] := by rfl) (h4 : ∀ p ∈ cx.globs, p ∈ globsOf cx.P := by intro p h; cases h) : CxOk cx := by
  refine ⟨?_, ?_, ?_, h4⟩
  · rw [h1]; exact .nil _
  · rw [h2]; exact .nil _
  · rw [h3]; exact .nil _
theorem cx1_ok {cx : Cx} {t : List (Nat × Ab.Spec)} {m : List (Nat × MSpec)} (ht : TabOk cx.P t) (hm : MTabOk cx.P m) (h1 : cx.tab = t) (h2 : cx.mtab = m) (h3 : cx.rtab = [] := by rfl) (h4 : ∀ p ∈ cx.globs, p ∈ globsOf cx.P := by intro p h; cases h) : CxOk cx := by
  refine ⟨?_, ?_, ?_, h4⟩
  · rw [h1]; exact ht
  · rw [h2]; exact hm
  · rw [h3]; exact .nil _
abbrev rowE : EC := .prod [.str, .int .i64, .int .u16, .int .i64, .int .u8, .bool, .int .i64, .int .i64, .str]
abbrev RowT := List UInt8 × Int × Int × Int × Int × Bool × Int × Int × List UInt8
noncomputable def cx199 : Cx := { P := Tryz.prog, n := 32, tab := [], mtab := [], refs := [], keeps := [0, 1, 2, 4, 7, 8, 9, 10, 11], fuel := 10 }
noncomputable def likeS : MSpec := fun args H => .req (Nat.ble args.length Tryz.f199.ntmps) (mfun cx199 Tryz.f199 args H)
theorem likeS_ok : MSound Tryz.prog 199 likeS := msound_fun (cx := cx199) (fn := Tryz.f199) (cx0_ok rfl rfl) (by kernel_rfl) (by kernel_rfl)
noncomputable def cx140 : Cx := { P := Tryz.prog, n := 62, tab := [], mtab := [(199, likeS)], refs := [], keeps := [0, 2, 3, 4] }
noncomputable def cx141 : Cx := { P := Tryz.prog, n := 75, tab := [], mtab := [(199, likeS)], refs := [], keeps := [0] }
noncomputable def cx142 : Cx := { P := Tryz.prog, n := 43, tab := [], mtab := [(199, likeS)], refs := [], keeps := [0] }
def movesL : List RowT := [
  ([109, 111, 118, 46, 114, 114], 1, 137, 7, 0, false, 0, 0, [65, 66]),
  ([109, 111, 118, 46, 114, 105], 1, 184, 2, 0, false, -9223372036854775808, 9223372036854775807, [65, 105]),
  ([109, 111, 118, 46, 114, 115], 1, 199, 4, 0, false, -2147483648, 2147483647, [65, 105]),
  ([109, 111, 118, 46, 114, 109], 1, 139, 9, 0, false, -2147483648, 2147483647, [65, 109]),
  ([109, 111, 118, 108, 46, 114, 109], 0, 139, 9, 0, false, -2147483648, 2147483647, [65, 109]),
  ([109, 111, 118, 115, 108, 46, 114, 109], 1, 99, 9, 0, false, -2147483648, 2147483647, [65, 109]),
  ([109, 111, 118, 122, 98, 46, 114, 109], 1, 4022, 9, 0, false, -2147483648, 2147483647, [65, 109]),
  ([108, 101, 97], 1, 141, 9, 0, false, -2147483648, 2147483647, [65, 109]),
  ([109, 111, 118, 46, 109, 114], 1, 137, 9, 0, false, -2147483648, 2147483647, [65, 109]),
  ([109, 111, 118, 108, 46, 109, 114], 0, 137, 9, 0, false, -2147483648, 2147483647, [65, 109]),
  ([109, 111, 118, 98, 46, 109, 114], 2, 136, 9, 0, false, -2147483648, 2147483647, [65, 109]),
  ([109, 111, 118, 46, 102, 115], 1, 139, 10, 0, false, -2147483648, 2147483647, [65, 105])]
@[irreducible] def rowsL : List RowT := [
  ([109, 111, 118, 46, 114, 114], 1, 137, 7, 0, false, 0, 0, [65, 66]),
  ([109, 111, 118, 46, 114, 105], 1, 184, 2, 0, false, -9223372036854775808, 9223372036854775807, [65, 105]),
  ([109, 111, 118, 46, 114, 115], 1, 199, 4, 0, false, -2147483648, 2147483647, [65, 105]),
  ([109, 111, 118, 46, 114, 109], 1, 139, 9, 0, false, -2147483648, 2147483647, [65, 109]),
  ([109, 111, 118, 108, 46, 114, 109], 0, 139, 9, 0, false, -2147483648, 2147483647, [65, 109]),
  ([109, 111, 118, 115, 108, 46, 114, 109], 1, 99, 9, 0, false, -2147483648, 2147483647, [65, 109]),
  ([109, 111, 118, 122, 98, 46, 114, 109], 1, 4022, 9, 0, false, -2147483648, 2147483647, [65, 109]),
  ([108, 101, 97], 1, 141, 9, 0, false, -2147483648, 2147483647, [65, 109]),
  ([109, 111, 118, 46, 109, 114], 1, 137, 9, 0, false, -2147483648, 2147483647, [65, 109]),
  ([109, 111, 118, 108, 46, 109, 114], 0, 137, 9, 0, false, -2147483648, 2147483647, [65, 109]),
  ([109, 111, 118, 98, 46, 109, 114], 2, 136, 9, 0, false, -2147483648, 2147483647, [65, 109]),
  ([109, 111, 118, 46, 102, 115], 1, 139, 10, 0, false, -2147483648, 2147483647, [65, 105]),
  ([97, 100, 100, 46, 114, 114], 1, 1, 7, 0, false, 0, 0, [65, 66]),
  ([111, 114, 46, 114, 114], 1, 9, 7, 0, false, 0, 0, [65, 66]),
  ([97, 110, 100, 46, 114, 114], 1, 33, 7, 0, false, 0, 0, [65, 66]),
  ([115, 117, 98, 46, 114, 114], 1, 41, 7, 0, false, 0, 0, [65, 66]),
  ([120, 111, 114, 46, 114, 114], 1, 49, 7, 0, false, 0, 0, [65, 66]),
  ([99, 109, 112, 46, 114, 114], 1, 57, 7, 0, false, 0, 0, [65, 66]),
  ([97, 100, 100, 46, 114, 109], 1, 3, 9, 0, false, -2147483648, 2147483647, [65, 109]),
  ([111, 114, 46, 114, 109], 1, 11, 9, 0, false, -2147483648, 2147483647, [65, 109]),
  ([97, 110, 100, 46, 114, 109], 1, 35, 9, 0, false, -2147483648, 2147483647, [65, 109]),
  ([115, 117, 98, 46, 114, 109], 1, 43, 9, 0, false, -2147483648, 2147483647, [65, 109]),
  ([120, 111, 114, 46, 114, 109], 1, 51, 9, 0, false, -2147483648, 2147483647, [65, 109]),
  ([99, 109, 112, 46, 114, 109], 1, 59, 9, 0, false, -2147483648, 2147483647, [65, 109]),
  ([97, 100, 100, 46, 114, 105], 1, 131, 6, 0, false, -2147483648, 2147483647, [65, 105]),
  ([111, 114, 46, 114, 105], 1, 131, 6, 1, false, -2147483648, 2147483647, [65, 105]),
  ([97, 110, 100, 46, 114, 105], 1, 131, 6, 4, false, -2147483648, 2147483647, [65, 105]),
  ([115, 117, 98, 46, 114, 105], 1, 131, 6, 5, false, -2147483648, 2147483647, [65, 105]),
  ([120, 111, 114, 46, 114, 105], 1, 131, 6, 6, false, -2147483648, 2147483647, [65, 105]),
  ([99, 109, 112, 46, 114, 105], 1, 131, 6, 7, false, -2147483648, 2147483647, [65, 105]),
  ([116, 101, 115, 116, 46, 114, 114], 1, 133, 7, 0, false, 0, 0, [65, 66]),
  ([105, 109, 117, 108, 46, 114, 114], 1, 4015, 8, 0, false, 0, 0, [65, 66]),
  ([110, 111, 116], 1, 247, 3, 2, false, 0, 0, [65]),
  ([110, 101, 103], 1, 247, 3, 3, false, 0, 0, [65]),
  ([109, 117, 108], 1, 247, 3, 4, false, 0, 0, [65]),
  ([100, 105, 118], 1, 247, 3, 6, false, 0, 0, [65]),
  ([105, 100, 105, 118], 1, 247, 3, 7, false, 0, 0, [65]),
  ([99, 113, 111], 1, 153, 0, 0, false, 0, 0, []),
  ([115, 104, 108, 46, 114, 105], 1, 193, 5, 4, false, 0, 63, [65, 105]),
  ([115, 104, 114, 46, 114, 105], 1, 193, 5, 5, false, 0, 63, [65, 105]),
  ([115, 97, 114, 46, 114, 105], 1, 193, 5, 7, false, 0, 63, [65, 105]),
  ([115, 104, 108, 46, 114, 99], 1, 211, 3, 4, false, 0, 0, [65]),
  ([115, 104, 114, 46, 114, 99], 1, 211, 3, 5, false, 0, 0, [65]),
  ([115, 97, 114, 46, 114, 99], 1, 211, 3, 7, false, 0, 0, [65]),
  ([99, 109, 111, 118], 1, 3904, 8, 0, true, 0, 0, [65, 66, 99]),
  ([112, 117, 115, 104], 0, 80, 1, 0, false, 0, 0, [65]),
  ([112, 111, 112], 0, 88, 1, 0, false, 0, 0, [65]),
  ([99, 97, 108, 108], 0, 232, 11, 0, false, -2147483648, 2147483647, [106]),
  ([106, 109, 112], 0, 233, 11, 0, false, -2147483648, 2147483647, [106]),
  ([106, 109, 112, 46, 115], 0, 235, 12, 0, false, -128, 127, [106]),
  ([99, 97, 108, 108, 46, 114], 0, 255, 3, 2, false, 0, 0, [65]),
  ([106, 109, 112, 46, 114], 0, 255, 3, 4, false, 0, 0, [65]),
  ([106, 99, 99], 0, 3968, 11, 0, true, -2147483648, 2147483647, [99, 106]),
  ([106, 99, 99, 46, 115], 0, 112, 12, 0, true, -128, 127, [99, 106]),
  ([114, 101, 116], 0, 195, 0, 0, false, 0, 0, []),
  ([115, 121, 115, 99, 97, 108, 108], 0, 3845, 0, 0, false, 0, 0, []),
  ([110, 111, 112], 0, 144, 0, 0, false, 0, 0, []),
  ([117, 100, 50], 0, 3851, 0, 0, false, 0, 0, [])]
def mvH : List O := [.cells [.gro 1 rowE []] 176, .tok 0 9]
noncomputable def mvOf (x : Option St) : T × List O := match x with
  | some (.normal, t, H) => (t, H)
  | _ => ([], [])
@[irreducible] noncomputable def mv4 : T × List O := mvOf (dcode cx140 (headN 3 (bodyOf Tryz.f140)) [(0, .ptr 0 0)] mvH).run
theorem mv4_eq : (dcode cx140 (headN 3 (bodyOf Tryz.f140)) [(0, .ptr 0 0)] mvH).run = some (.normal, mv4.1, mv4.2) := by kernel_rfl
noncomputable def mvOps : Array Oper := regOps (c1 (tailN 3 (bodyOf Tryz.f140)))
@[irreducible] noncomputable def mv5 : T × List O := mvOf (((ordsF cx140 mvOps mvOps.size (Array.replicate mvOps.size false) mv4).map (fun l => l.map fun s => dropS mv4.2.length (ordK [3, 4] s.1) (.normal, s.1, s.2))).getD []).head?.join
set_option maxRecDepth 8000 in
theorem mv5_eq : (ordsF cx140 mvOps mvOps.size (Array.replicate mvOps.size false) (mv4.1, mv4.2)).map (fun l => l.map fun s => dropS mv4.2.length (ordK [3, 4] s.1) (.normal, s.1, s.2)) = some (List.replicate 30 (some (.normal, mv5.1, mv5.2))) := by kernel_rfl
@[irreducible] noncomputable def mvE : St := ((dcode cx140 (c2 (tailN 3 (bodyOf Tryz.f140))) mv5.1 mv5.2).run).getD (.normal, [], [])
theorem mvE_eq : (dcode cx140 (c2 (tailN 3 (bodyOf Tryz.f140))) mv5.1 mv5.2).run = some mvE := by kernel_rfl
theorem mvE_out : (dropS 2 [] mvE).map (fun s => (match s.1 with | .normal => true | _ => false, s.2.2)) = some (true, [.cells [.gro 1 rowE movesL] 176, .tok 12 9]) := by kernel_rfl
def movesS : MSpec := fun args H => match args, H with
  | [.ptr 0 0], [.cells [.gro 1 (.prod [.str, .int .i64, .int .u16, .int .i64, .int .u8, .bool, .int .i64, .int .i64, .str]) []] 176, .tok 0 9] => .leaf (.ok (.tup []) [.cells [.gro 1 rowE movesL] 176, .tok 12 9])
  | _, _ => .fail
theorem cxMoves_ok : CxOk cx140 := cx1_ok (.nil _) (.cons likeS_ok (.nil _)) rfl rfl
set_option maxHeartbeats 2000000 in
set_option maxRecDepth 8000 in
theorem movesS_ok : MSound Tryz.prog 140 movesS := by
  intro args H r h
  unfold movesS at h
  split at h
  rotate_left
  · cases h
  simp only [Tree.run, Option.some.injEq] at h
  subst h
  refine mcall_of' (c := bodyOf Tryz.f140) (fn := Tryz.f140) (by kernel_rfl) (by kernel_rfl) (by kernel_rfl) (by kernel_rfl) ?_
  refine AWP_scope ?_
  refine AWP_head (cx := cx140) rfl rfl cxMoves_ok 3 _ _ _ _ (by kernel_rfl) (Tree.run_all mv4_eq ?_)
  show AWP _ _ _ _ _ _
  have e : tailN 3 (bodyOf Tryz.f140) = .seq (.region 4 mvOps true) (c2 (tailN 3 (bodyOf Tryz.f140))) := by kernel_rfl
  rw [e]
  refine AWP_seq (AWP_ordersK (cx := cx140) [3, 4] 30 rfl rfl cxMoves_ok (by kernel_rfl) mv5_eq ?_)
  show AWP _ _ _ _ _ _
  refine AWP_run (cx := cx140) rfl rfl cxMoves_ok mvE_eq ?_
  obtain ⟨⟨ex, t, H⟩, h1, h2⟩ := Option.map_eq_some_iff.1 mvE_out
  simp only [Prod.mk.injEq] at h2
  obtain ⟨h2, rfl⟩ := h2
  refine ⟨[], _, h1, ?_⟩
  cases ex with
  | normal =>
    show MPost Tryz.prog Tryz.f140 (.ok (.tup []) [.cells [.gro 1 rowE movesL] 176, .tok 12 9]) .normal t [.cells [.gro 1 rowE movesL] 176, .tok 12 9]
    unfold MPost
    exact ⟨.inr rfl, rfl, by kernel_rfl⟩
  | exit _ => cases h2
  | ret => cases h2
  | panic _ => cases h2
noncomputable def sumsS : MSpec := fun args H => .req (Nat.ble args.length Tryz.f141.ntmps) (mfun cx141 Tryz.f141 args H)
theorem sumsS_ok : MSound Tryz.prog 141 sumsS := msound_fun (cx := cx141) (fn := Tryz.f141) (cx1_ok (.nil _) (.cons likeS_ok (.nil _)) rfl rfl) (by kernel_rfl) (by kernel_rfl)
noncomputable def jumpsS : MSpec := fun args H => .req (Nat.ble args.length Tryz.f142.ntmps) (mfun cx142 Tryz.f142 args H)
theorem jumpsS_ok : MSound Tryz.prog 142 jumpsS := msound_fun (cx := cx142) (fn := Tryz.f142) (cx1_ok (.nil _) (.cons likeS_ok (.nil _)) rfl rfl) (by kernel_rfl) (by kernel_rfl)
noncomputable def cx92 : Cx := { P := Tryz.prog, n := 7, tab := [], mtab := [(140, movesS), (141, sumsS), (142, jumpsS)], refs := [], keeps := [0, 1] }
def rowsS : Ab.Spec := fun args => match args with
  | [] => .leaf (.sl rowE rowsL [] .ro)
  | _ => .fail
theorem rows_run : (dfun cx92 Tryz.f92 []).run = some (.sl rowE rowsL [] .ro) := by kernel_rfl
theorem rowsL_len : rowsL.length = 58 := by kernel_rfl
theorem rowsS_ok : Sound Tryz.prog 92 rowsS := by
  intro args out h
  unfold rowsS at h
  split at h
  rotate_left
  · cases h
  simp only [Tree.run, Option.some.injEq] at h
  subst h
  exact pcall_fun' (cx := cx92) (fn := Tryz.f92) (cx1_ok (.nil _) (.cons movesS_ok (.cons sumsS_ok (.cons jumpsS_ok (.nil _)))) rfl rfl) (by kernel_rfl) (by kernel_rfl) (by kernel_rfl) rows_run
end Go.Amd

namespace Go.Amd
open Go Go.Ab Go.Proofs
def rowL (r : RowT) : List V := [.str r.1, .int .i64 r.2.1, .int .u16 r.2.2.1, .int .i64 r.2.2.2.1, .int .u8 r.2.2.2.2.1, .bool r.2.2.2.2.2.1, .int .i64 r.2.2.2.2.2.2.1, .int .i64 r.2.2.2.2.2.2.2.1, .str r.2.2.2.2.2.2.2.2]
noncomputable def cx51 : Cx := { P := Tryz.prog, n := 19, tab := [(92, rowsS)], mtab := [], refs := [], keeps := [0, 2, 3, 5, 6, 7, 8, 9, 15] }
noncomputable abbrev cxFind : Cx := cx51
def zeroR : RowT := ([], 0, 0, 0, 0, false, 0, 0, [])
abbrev rowAt (l : List RowT) (i : Nat) : RowT := l.getD i zeroR
def findRound (nm : List UInt8) (i : Int) (l : List RowT) : Tree St :=
  (.br (decide (i < (l.length : Nat))) (.br (inside i l.length) (.br (strEq (rowAt l i.toNat).1 nm)
    (.leaf (.ret, [(0, .str nm), (2, .ptr 0 0), (3, .bool true), (5, .ptr 1 0), (6, .sl rowE l [] .ro), (7, .int .i64 (l.length : Nat)), (8, .int .i64 i), (9, .bool true), (15, .bool true)], [.cells (rowL (rowAt l i.toNat)) 104, .cells (rowL (rowAt l i.toNat)) 104]))
    (.leaf (.normal, [(0, .str nm), (2, .ptr 0 0), (3, .bool false), (5, .ptr 1 0), (6, .sl rowE l [] .ro), (7, .int .i64 (l.length : Nat)), (8, .int .i64 (IntKind.wrap .i64 (i + 1))), (9, .bool true), (15, .bool false)], [.cells (rowL zeroR) 104, .cells (rowL (rowAt l i.toNat)) 104]))) .fail)
    (.leaf (.exit 0, [(0, .str nm), (2, .ptr 0 0), (3, .bool false), (6, .sl rowE l [] .ro), (7, .int .i64 (l.length : Nat)), (8, .int .i64 i), (9, .bool false)], [.cells (rowL zeroR) 104])))
theorem findRound_eq (nm : List UInt8) (i : Int) (l : List RowT) : (dcode cxFind (cin (cin (c2 (c1 (c2 (bodyOf Tryz.f51)))))) [(0, .str nm), (2, .ptr 0 0), (3, .bool false), (6, .sl rowE l [] .ro), (7, .int .i64 l.length), (8, .int .i64 i)] [.cells (rowL zeroR) 104]).run = (findRound nm i l).run :=
  (show (dcode cxFind (cin (cin (c2 (c1 (c2 (bodyOf Tryz.f51)))))) [(0, .str nm), (2, .ptr 0 0), (3, .bool false), (6, .sl rowE l [] .ro), (7, .int .i64 l.length), (8, .int .i64 i)] [.cells (rowL zeroR) 104]).run = (findRound nm i l).out by kernel_rfl).trans (Tree.out_run _)
theorem cxFind_ok : CxOk cxFind := cx1_ok (.cons rowsS_ok (.nil _)) (fun p h => by cases h) rfl rfl
def findL (nm : List UInt8) (l : List RowT) : Option RowT := l.find? fun r => strEq r.1 nm
def frow (nm : List UInt8) : RowT := (findL nm rowsL).getD zeroR
def fok (nm : List UInt8) : Bool := (findL nm rowsL).isSome
def findS : Ab.Spec := fun args => match args with
  | [.str nm] => .leaf (.tup [.agg (rowL (frow nm)), .bool (fok nm)])
  | _ => .fail
def findSt (nm : List UInt8) (i : { i : Nat // i ≤ rowsL.length ∧ findL nm (rowsL.take i) = none }) : T × List O :=
  ([(0, .str nm), (2, .ptr 0 0), (3, .bool false), (6, .sl rowE rowsL [] .ro), (7, .int .i64 rowsL.length), (8, .int .i64 i.1)], [.cells (rowL zeroR) 104])
theorem find_ok (nm : List UInt8) : PCall Tryz.prog 51 [.str nm] (.tup [.agg (rowL (frow nm)), .bool (fok nm)]) := by
  refine pcall_of' (c := bodyOf Tryz.f51) (fn := Tryz.f51) (by kernel_rfl) (by kernel_rfl) (by kernel_rfl) (by kernel_rfl) ?_
  have e : bodyOf Tryz.f51 = .seq (c1 (bodyOf Tryz.f51)) (.seq (.seq (c1 (c1 (c2 (bodyOf Tryz.f51)))) (.block 0 (.loop (cin (cin (c2 (c1 (c2 (bodyOf Tryz.f51))))))))) (c2 (c2 (bodyOf Tryz.f51)))) := by kernel_rfl
  rw [e]
  generalize hQ : (fun e t H => (e = AEx.ret ∨ e = .normal) ∧ answerV Tryz.prog Tryz.f51.results.toList H t = some (.tup [.agg (rowL (frow nm)), .bool (fok nm)])) = Q
  have hlen := rowsL_len
  refine AWP_seq (AWP_run (cx := cxFind) rfl rfl cxFind_ok (s := (.normal, [(0, .str nm), (2, .ptr 0 0), (3, .bool false)], [.cells (rowL zeroR) 104])) (by kernel_rfl) ?_)
  refine AWP_seq (AWP_seq (AWP_run (cx := cxFind) rfl rfl cxFind_ok (s := (.normal, [(0, .str nm), (2, .ptr 0 0), (3, .bool false), (6, .sl rowE rowsL [] .ro), (7, .int .i64 58), (8, .int .i64 0)], [.cells (rowL zeroR) 104])) (by kernel_rfl) ?_))
  refine AWP_block ?_
  refine AWP.less (s := (findSt nm ⟨0, Nat.zero_le _, rfl⟩).1) (Fits.tle ⟨rfl, rfl, rfl, rfl, by kernel_rfl, rfl, trivial⟩) ?_
  refine AWP_rounds (cx := cxFind) (P := Tryz.prog) (n := 19) rfl rfl cxFind_ok (findSt nm) (fun i => 58 - i.1) ?_ ⟨0, Nat.zero_le _, rfl⟩
  rintro ⟨i, hi, hnone⟩
  refine Tree.all_run_eq (findRound_eq nm i rowsL) ?_
  refine ⟨fun hlt => ⟨fun hin => ⟨fun hp => ?_, fun hp => ?_⟩, fun hin => ?_⟩, fun hge => ?_⟩
  · -- found
    have hlt : i < rowsL.length := Int.ofNat_lt.1 (of_decide_eq_true hlt)
    have hf : findL nm rowsL = some (rowsL.getD i zeroR) := take_some hlt hnone hp
    refine ⟨[], _, rfl, ?_⟩
    subst hQ
    refine ⟨.inl rfl, ?_⟩
    have h1 : frow nm = rowsL.getD i zeroR := by unfold frow; rw [hf]; rfl
    have h2 : fok nm = true := by unfold fok; rw [hf]; rfl
    show answerV _ _ _ _ = some _
    rw [h1, h2]
    kernel_rfl
  · have hlt : i < rowsL.length := Int.ofNat_lt.1 (of_decide_eq_true hlt)
    have hf : findL nm (rowsL.take (i + 1)) = none := take_none hlt hnone hp
    refine ⟨[], _, rfl, ⟨i + 1, hlt, hf⟩, by show 58 - (i + 1) < 58 - i; omega, Fits.tle ⟨rfl, rfl, rfl, rfl, rfl, ?_, trivial⟩, rfl⟩
    show V.int .i64 (IntKind.wrap .i64 ((i : Int) + 1)) = V.int .i64 ((i + 1 : Nat) : Int)
    rw [wrap_i64 (by omega) (by omega)]
    rfl
  · exfalso
    have hlt : i < rowsL.length := Int.ofNat_lt.1 (of_decide_eq_true hlt)
    exact Bool.noConfusion ((inside_of (Int.natCast_nonneg i) (Int.ofNat_lt.2 hlt)).symm.trans hin)
  · have hge : ¬ ((i : Int) < rowsL.length) := of_decide_eq_false hge
    have hi' : i = rowsL.length := by omega
    refine ⟨[], _, rfl, ?_⟩
    show AWP _ _ _ _ _ _
    refine AWP.less (s := [(0, .str nm), (2, .ptr 0 0), (3, .bool false)]) (Fits.tle ⟨rfl, rfl, rfl, trivial⟩) ?_
    refine AWP_run (cx := cxFind) rfl rfl cxFind_ok (s := (.ret, [(0, .str nm), (2, .ptr 0 0), (3, .bool false)], [.cells (rowL zeroR) 104])) (by kernel_rfl) ?_
    subst hQ
    refine ⟨.inl rfl, ?_⟩
    have hf : findL nm rowsL = none := by rw [← hnone, hi', List.take_length]
    have h1 : frow nm = zeroR := by unfold frow; rw [hf]; rfl
    have h2 : fok nm = false := by unfold fok; rw [hf]; rfl
    show answerV _ _ _ _ = some _
    rw [h1, h2]
    kernel_rfl
theorem findS_ok : Sound Tryz.prog 51 findS := by
  intro args out h
  unfold findS at h
  split at h
  rotate_left
  · cases h
  simp only [Tree.run, Option.some.injEq] at h
  subst h
  exact find_ok _
end Go.Amd

namespace Go.Amd
open Go Go.Ab Go.Proofs
theorem leaf_out {α : Type} {b o : α} (h : (Tree.leaf b).run = some o) : o = b := by simpa [Tree.run] using h.symm
theorem ok1 {P : Program} {f : Nat} {s : Ab.Spec} (h : Sound P f s) : TabOk P [(f, s)] := .cons h (.nil _)
theorem all_t {α : Type} {c : Bool} {x y : Tree α} {Q : α → Prop} (h : c = true) (hx : x.all Q) : (Tree.br c x y).all Q := ⟨fun _ => hx, fun e => Bool.noConfusion (h.symm.trans e)⟩
abbrev InsT := List UInt8 × Int × Int × Int × Int × Int
def insL (i : InsT) : List V := [.str i.1, .int .i64 i.2.1, .int .i64 i.2.2.1, .int .i64 i.2.2.2.1, .int .i64 i.2.2.2.2.1, .int .i64 i.2.2.2.2.2]
abbrev insV (i : InsT) : V := .agg (insL i)
noncomputable def cx94 : Cx := { P := Tryz.prog, n := 18, tab := [], mtab := [], refs := [], keeps := [0, 1, 4] }
noncomputable def cx96 : Cx := { P := Tryz.prog, n := 17, tab := [], mtab := [], refs := [], keeps := [0, 2] }
noncomputable def cx95 : Cx := { P := Tryz.prog, n := 67, tab := [], mtab := [], refs := [], keeps := [0, 1, 2, 3, 19] }
def regT (n : Int) (u : Bool) : Tree V :=
  (.br (n == 0) (.leaf (.bool true)) (.br u (.br (decide (0 < n)) (.leaf (.bool (decide (n ≤ 15)))) (.leaf (.bool false))) (.leaf (.bool false))))
theorem regT_eq (n : Int) (u : Bool) : (dfun cx94 Tryz.f94 [.int .i64 n, .bool u]).run = (regT n u).run :=
  (show (dfun cx94 Tryz.f94 [.int .i64 n, .bool u]).run = (regT n u).out by kernel_rfl).trans (Tree.out_run _)
def condT (n : Int) : Tree V :=
  (.br (decide (0 ≤ n)) (.br (decide (n ≤ 9)) (.leaf (.bool true)) (.br (decide (12 ≤ n)) (.leaf (.bool (decide (n ≤ 15)))) (.leaf (.bool false)))) (.br (decide (12 ≤ n)) (.leaf (.bool (decide (n ≤ 15)))) (.leaf (.bool false))))
theorem condT_eq (n : Int) : (dfun cx96 Tryz.f96 [.int .i64 n]).run = (condT n).run :=
  (show (dfun cx96 Tryz.f96 [.int .i64 n]).run = (condT n).out by kernel_rfl).trans (Tree.out_run _)
def regF (n : Int) (u : Bool) : Bool := cond (n == 0) true (cond u (cond (decide (0 < n)) (decide (n ≤ 15)) false) false)
def condF (n : Int) : Bool := cond (cond (decide (0 ≤ n)) (decide (n ≤ 9)) false) true (cond (decide (12 ≤ n)) (decide (n ≤ 15)) false)
def fitsF (n : Int) : Bool := cond (decide (-128 ≤ n)) (decide (n ≤ 127)) false
def baseF (b : Int) : Bool := cond (cond (decide (0 ≤ b)) (decide (b ≤ 15)) false) true (b == 17)
def scaleF (d : Int) : Bool := cond (d == 1) true (cond (d == 2) true (cond (d == 4) true (d == 8)))
def placeF (b c d : Int) : Bool := cond (c == 16) (cond (baseF b) (d == 0) false) (cond (baseF b) (cond (b != 17) (cond (decide (0 ≤ c)) (cond (decide (c ≤ 15)) (cond (c != 4) (scaleF d) false) false) false) false) false)
def registerS : Ab.Spec := fun args => match args with
  | [.int .i64 n, .bool u] => .leaf (.bool (regF n u))
  | _ => .fail
theorem registerS_ok : Sound Tryz.prog 94 registerS := by
  intro args out h
  unfold registerS at h
  split at h
  rotate_left
  · cases h
  rename_i n u
  have h := leaf_out h
  subst h
  refine pcall_fun' (cx := cx94) (fn := Tryz.f94) (cx0_ok rfl rfl) (by kernel_rfl) (by kernel_rfl) (by kernel_rfl) ((regT_eq n u).trans ?_)
  unfold regT regF
  cases (n == 0)
  · cases u
    · rfl
    · cases decide (0 < n) <;> rfl
  · rfl
def conditionS : Ab.Spec := fun args => match args with
  | [.int .i64 n] => .leaf (.bool (condF n))
  | _ => .fail
theorem conditionS_ok : Sound Tryz.prog 96 conditionS := by
  intro args out h
  unfold conditionS at h
  split at h
  rotate_left
  · cases h
  rename_i n
  have h := leaf_out h
  subst h
  refine pcall_fun' (cx := cx96) (fn := Tryz.f96) (cx0_ok rfl rfl) (by kernel_rfl) (by kernel_rfl) (by kernel_rfl) ((condT_eq n).trans ?_)
  unfold condT condF
  cases decide (0 ≤ n) <;> cases decide (n ≤ 9) <;> cases decide (12 ≤ n) <;> rfl
def tB (b : Bool) : Tree V := .leaf (.bool b)
def placeD (d : Int) : Tree V := .br (d == 1) (tB true) (.br (d == 2) (tB true) (.br (d == 4) (tB true) (tB (d == 8))))
def placeC (x : Bool) (b c d : Int) : Tree V := .br (c == 16) (.br x (tB (d == 0)) (tB false))
  (.br x (.br (b != 17) (.br (decide (0 ≤ c)) (.br (decide (c ≤ 15)) (.br (c != 4) (placeD d) (tB false)) (tB false)) (tB false)) (tB false)) (tB false))
def placeT (b c d : Int) : Tree V := .br (decide (0 ≤ b)) (.br (decide (b ≤ 15)) (placeC true b c d) (placeC (b == 17) b c d)) (placeC (b == 17) b c d)
theorem placeT_eq (nm : List UInt8) (a b c d n : Int) : (dfun cx95 Tryz.f95 [.agg [.str nm, .int .i64 a, .int .i64 b, .int .i64 c, .int .i64 d, .int .i64 n]]).run = (placeT b c d).run :=
  (show (dfun cx95 Tryz.f95 [.agg [.str nm, .int .i64 a, .int .i64 b, .int .i64 c, .int .i64 d, .int .i64 n]]).run = (placeT b c d).out by kernel_rfl).trans (Tree.out_run _)
theorem placeC_run (x : Bool) (b c d : Int) : (placeC x b c d).run = some (.bool (cond (c == 16) (cond x (d == 0) false) (cond x (cond (b != 17) (cond (decide (0 ≤ c)) (cond (decide (c ≤ 15)) (cond (c != 4) (scaleF d) false) false) false) false) false))) := by
  unfold placeC placeD scaleF tB
  cases (c == 16)
  · cases x
    · rfl
    · cases (b != 17)
      · rfl
      · cases decide (0 ≤ c)
        · rfl
        · cases decide (c ≤ 15)
          · rfl
          · cases (c != 4)
            · rfl
            · cases (d == 1) <;> cases (d == 2) <;> cases (d == 4) <;> rfl
  · cases x <;> rfl
theorem placeT_run (b c d : Int) : (placeT b c d).run = some (.bool (placeF b c d)) := by
  unfold placeT placeF baseF
  cases decide (0 ≤ b)
  · exact placeC_run _ b c d
  · cases decide (b ≤ 15)
    · exact placeC_run _ b c d
    · exact placeC_run _ b c d
def placeS : Ab.Spec := fun args => match args with
  | [.agg [.str _, .int .i64 _, .int .i64 b, .int .i64 c, .int .i64 d, .int .i64 _]] => .leaf (.bool (placeF b c d))
  | _ => .fail
theorem placeS_ok : Sound Tryz.prog 95 placeS := by
  intro args out h
  unfold placeS at h
  split at h
  rotate_left
  · cases h
  rename_i nm a b c d n
  have h := leaf_out h
  subst h
  exact pcall_fun' (cx := cx95) (fn := Tryz.f95) (cx0_ok rfl rfl) (by kernel_rfl) (by kernel_rfl) (by kernel_rfl) ((placeT_eq nm a b c d n).trans (placeT_run b c d))
end Go.Amd

namespace Go.Amd
open Go Go.Ab Go.Proofs
noncomputable def cx93 : Cx := { P := Tryz.prog, n := 29, tab := [], mtab := [], refs := [], keeps := [0, 1, 2, 3, 4, 5, 7, 8, 11, 17, 20, 22] }
noncomputable def usesS : Ab.Spec := fun args => .req (Nat.ble args.length Tryz.f93.ntmps) (dfun cx93 Tryz.f93 args)
theorem usesS_ok : Sound Tryz.prog 93 usesS := sound_fun (cx := cx93) (fn := Tryz.f93) (cx0_ok rfl rfl) (by kernel_rfl) (by kernel_rfl)
noncomputable def cx52 : Cx := { P := Tryz.prog, n := 81, tab := [(93, usesS), (94, registerS), (95, placeS), (96, conditionS)], mtab := [], refs := [], keeps := [0, 1, 2, 3, 4, 5, 6, 7, 8, 9, 21, 53, 65] }
theorem cxFa_ok : CxOk cx52 := cx1_ok (.cons usesS_ok (.cons registerS_ok (.cons placeS_ok (ok1 conditionS_ok)))) (.nil _) rfl rfl
def formR (x : RowT) : Int := x.2.2.2.1
def condR (x : RowT) : Bool := x.2.2.2.2.2.1
def lowR (x : RowT) : Int := x.2.2.2.2.2.2.1
def highR (x : RowT) : Int := x.2.2.2.2.2.2.2.1
def uA (x : RowT) : Bool := !(formR x == 0 || formR x == 11 || formR x == 12)
def uB (x : RowT) : Bool := formR x == 7 || formR x == 8
def uM (x : RowT) : Bool := formR x == 9
def uI (x : RowT) : Bool := formR x == 2 || formR x == 4 || formR x == 5 || formR x == 6 || formR x == 9 || formR x == 10 || formR x == 11 || formR x == 12
def tE (n : Int) : Tree V := .leaf (.int .i64 n)
def tailH (x : RowT) (o : Bool) (n : Int) : Tree V :=
  .br (!o) (tE 13) (.br (uI x) (.br (decide (n < lowR x)) (tE 3) (.br (decide (highR x < n)) (tE 3) (tE 0))) (.br (n != 0) (tE 13) (tE 0)))
def faultyH (x : RowT) (a b c d n : Int) : Tree V :=
  .br (uM x) (.br (regF a (uA x)) (tailH x (placeF b c d) n) (tailH x false n))
    (.br (regF a (uA x)) (.br (regF b (uB x)) (.br (c == 0) (.br (d == 0) (tailH x true n) (.br (condR x) (tailH x (condF d) n) (tailH x false n))) (tailH x false n)) (tailH x false n)) (tailH x false n))
def forms : List Int := [0, 1, 2, 3, 4, 5, 6, 7, 8, 9, 10, 11, 12]
def formOk (x : RowT) : Bool := forms.contains (formR x)
theorem forms_of {β : Type} {f g : Int → β} (h : forms.map f = forms.map g) {x : RowT} (hx : formOk x = true) : f (formR x) = g (formR x) :=
  List.map_inj_left.1 h _ (by simpa [formOk] using hx)
theorem faulty_forms : forms.map (fun f nm rex op dg cn lo hi ops i a b c d n => (dfun cx52 Tryz.f52 [.agg (rowL (nm, rex, op, f, dg, cn, lo, hi, ops)), .agg [.str i, .int .i64 a, .int .i64 b, .int .i64 c, .int .i64 d, .int .i64 n]]).out) =
    forms.map (fun f nm rex op dg cn lo hi ops _ a b c d n => (faultyH (nm, rex, op, f, dg, cn, lo, hi, ops) a b c d n).out) := by kernel_rfl
end Go.Amd

namespace Go.Amd
open Go Go.Ab Go.Proofs
def tailF (x : RowT) (o : Bool) (n : Int) : Int := cond (!o) 13 (cond (uI x) (cond (decide (n < lowR x)) 3 (cond (decide (highR x < n)) 3 0)) (cond (n != 0) 13 0))
def okF (x : RowT) (a b c d : Int) : Bool :=
  cond (uM x) (cond (regF a (uA x)) (placeF b c d) false) (cond (regF a (uA x)) (cond (regF b (uB x)) (cond (c == 0) (cond (d == 0) true (cond (condR x) (condF d) false)) false) false) false)
def faultyF (x : RowT) (i : InsT) : Int := tailF x (okF x i.2.1 i.2.2.1 i.2.2.2.1 i.2.2.2.2.1) i.2.2.2.2.2
theorem tailH_run (x : RowT) (o : Bool) (n : Int) : (tailH x o n).run = some (.int .i64 (tailF x o n)) := by
  unfold tailH tailF tE
  cases o
  · rfl
  · cases (uI x)
    · cases (n != 0) <;> rfl
    · cases decide (n < lowR x)
      · cases decide (highR x < n) <;> rfl
      · rfl
theorem faultyH_run (x : RowT) (a b c d n : Int) : (faultyH x a b c d n).run = some (.int .i64 (tailF x (okF x a b c d) n)) := by
  unfold faultyH okF
  simp only [br_run, tailH_run]
  cases (uM x) <;> cases regF a (uA x) <;> cases regF b (uB x) <;> cases (c == 0) <;> cases (d == 0) <;> cases condR x <;> rfl
def faultyS : Ab.Spec := fun args => match args with
  | [.agg [.str nm, .int .i64 rex, .int .u16 op, .int .i64 f, .int .u8 dg, .bool cn, .int .i64 lo, .int .i64 hi, .str ops], .agg [.str i, .int .i64 a, .int .i64 b, .int .i64 c, .int .i64 d, .int .i64 n]] =>
    .req (formOk (nm, rex, op, f, dg, cn, lo, hi, ops)) (.leaf (.int .i64 (faultyF (nm, rex, op, f, dg, cn, lo, hi, ops) (i, a, b, c, d, n))))
  | _ => .fail
theorem faultyS_ok : Sound Tryz.prog 52 faultyS := by
  intro args out h
  unfold faultyS at h
  split at h
  rotate_left
  · cases h
  rename_i nm rex op f dg cn lo hi ops i a b c d n
  obtain ⟨h1, h⟩ := req_run h
  have h := leaf_out h
  subst h
  refine pcall_fun' (cx := cx52) (fn := Tryz.f52) cxFa_ok (by kernel_rfl) (by kernel_rfl) (by kernel_rfl) ?_
  have e := congrFun (congrFun (congrFun (congrFun (congrFun (congrFun (congrFun (congrFun (congrFun (congrFun (congrFun (congrFun (congrFun (congrFun (forms_of faulty_forms h1) nm) rex) op) dg) cn) lo) hi) ops) i) a) b) c) d) n
  exact (Tree.out_run _).symm.trans (e.trans ((Tree.out_run _).trans (faultyH_run (nm, rex, op, f, dg, cn, lo, hi, ops) a b c d n)))
end Go.Amd

namespace Go.Amd
open Go Go.Ab Go.Proofs
def w8 (x : Int) : Int := IntKind.wrap .u8 x
def or8 (a b : Int) : Int := IntKind.wrap .u8 ↑(BitVec.toNat (BitVec.ofInt 8 a ||| BitVec.ofInt 8 b))
def ori (a b : Int) : Int := IntKind.wrap .i64 ↑(BitVec.toNat (BitVec.ofInt 64 a ||| BitVec.ofInt 64 b))
def andi (a b : Int) : Int := IntKind.wrap .i64 ↑(BitVec.toNat (BitVec.ofInt 64 a &&& BitVec.ofInt 64 b))
def wi (x : Int) : Int := IntKind.wrap .i64 x
def hi4 (r k : Int) : Int := w8 (w8 (Int.fdiv r (2 ^ 3)) * k)
def rexM (R reg rm : Int) : Int := or8 R (or8 (hi4 reg 4) (hi4 rm 1))
def mrB (m reg rm : Int) : Int := w8 (ori (ori (wi (m * 2 ^ 6)) (wi (andi reg 7 * 2 ^ 3))) (andi rm 7))
def imB (n : Int) (k : Nat) : Int := w8 (Int.fdiv n (2 ^ k))
def im1 (n : Int) : List Int := [imB n 0]
def im4 (n : Int) : List Int := [imB n 0, imB n 8, imB n 16, imB n 24]
def im8 (n : Int) : List Int := [imB n 0, imB n 8, imB n 16, imB n 24, imB n 32, imB n 40, imB n 48, imB n 56]
def leafB (l : List Int) : Tree V := .leaf (.sl (.int .u8) l [] .ro)
def W0 (fsl : List Int) (R : Int) (op tail : List Int) : Tree V := .br (R != 0) (leafB (fsl ++ [or8 64 R] ++ op ++ tail)) (leafB (fsl ++ op ++ tail))
def W1 (fsl : List Int) (R : Int) (op tail : List Int) : Tree V := leafB (fsl ++ [or8 64 (or8 R 8)] ++ op ++ tail)
def W2 (fsl : List Int) (R : Int) (op tail : List Int) : Tree V := leafB (fsl ++ [or8 64 R] ++ op ++ tail)
def sibR (R index b : Int) : Int := or8 R (or8 (hi4 index 2) (hi4 b 1))
def sibH (K : Int → List Int → Tree V) (R : Int) (tail imm : List Int) (b index d : Int) : Tree V :=
  .br (decide (1 < d)) (.br (decide (2 < d)) (.br (decide (4 < d)) (.br (decide (8 < d)) (.br (decide (16 < d)) .fail (K (sibR R index b) (tail ++ [mrB 4 index b] ++ imm))) (K (sibR R index b) (tail ++ [mrB 3 index b] ++ imm)))
    (K (sibR R index b) (tail ++ [mrB 2 index b] ++ imm))) (K (sibR R index b) (tail ++ [mrB 1 index b] ++ imm))) (K (sibR R index b) (tail ++ [mrB 0 index b] ++ imm))
def withH (K : Int → List Int → Tree V) (m a b c d : Int) (imm : List Int) : Tree V :=
  .br (c == 16) (sibH K (rexM 0 a 4) [mrB m a 4] imm b 4 d) (sibH K (rexM 0 a 4) [mrB m a 4] imm b c d)
def modH (K : Int → List Int → Tree V) (m a b c d : Int) (imm : List Int) : Tree V :=
  .br (c == 16) (.br (andi b 7 != 4) (K (rexM 0 a b) ([mrB m a b] ++ imm)) (withH K m a b c d imm)) (withH K m a b c d imm)
def longH (K : Int → List Int → Tree V) (a b c d n : Int) : Tree V :=
  .br (fitsF n) (modH K 1 a b c d (im1 n)) (modH K 2 a b c d (im4 n))
def memH (K : Int → List Int → Tree V) (a b c d n : Int) : Tree V :=
  .br (b == 17) (K (rexM 0 a 5) ([mrB 0 a 5] ++ im4 n)) (.br (n == 0) (.br (andi b 7 != 5) (modH K 0 a b c d []) (longH K a b c d n)) (longH K a b c d n))
abbrev BodyT := Int → List Int → Int → Int → Int → Int → Int → Int → Tree V
def kindsB : List ((Int × Int × Bool) × BodyT) := [
  ((0, 0, false), fun _dg hd l _a _b _c _d _n => W0 [] 0 (hd ++ [l]) []),
  ((0, 1, false), fun _dg hd l _a _b _c _d _n => W1 [] 0 (hd ++ [l]) []),
  ((1, 0, false), fun _dg hd l a _b _c _d _n => W0 [] (or8 0 (hi4 a 1)) (hd ++ [w8 (l + w8 (andi a 7))]) []),
  ((2, 1, false), fun _dg hd l a _b _c _d n => W1 [] (or8 0 (hi4 a 1)) (hd ++ [w8 (l + w8 (andi a 7))]) (im8 n)),
  ((3, 0, false), fun dg hd l a _b _c _d _n => W0 [] (rexM 0 (wi dg) a) (hd ++ [l]) [mrB 3 (wi dg) a]),
  ((3, 1, false), fun dg hd l a _b _c _d _n => W1 [] (rexM 0 (wi dg) a) (hd ++ [l]) [mrB 3 (wi dg) a]),
  ((4, 1, false), fun dg hd l a _b _c _d n => W1 [] (rexM 0 (wi dg) a) (hd ++ [l]) ([mrB 3 (wi dg) a] ++ im4 n)),
  ((5, 1, false), fun dg hd l a _b _c _d n => W1 [] (rexM 0 (wi dg) a) (hd ++ [l]) ([mrB 3 (wi dg) a] ++ im1 n)),
  ((6, 1, false), fun dg hd l a _b _c _d n => .br (fitsF n) (W1 [] (rexM 0 (wi dg) a) (hd ++ [l]) ([mrB 3 (wi dg) a] ++ im1 n)) (W1 [] (rexM 0 (wi dg) a) (hd ++ [129]) ([mrB 3 (wi dg) a] ++ im4 n))),
  ((7, 1, false), fun _dg hd l a b _c _d _n => W1 [] (rexM 0 b a) (hd ++ [l]) [mrB 3 b a]),
  ((8, 1, false), fun _dg hd l a b _c _d _n => W1 [] (rexM 0 a b) (hd ++ [l]) [mrB 3 a b]),
  ((8, 1, true), fun _dg hd l a b _c d _n => W1 [] (rexM 0 a b) (hd ++ [(w8 (l + w8 d))]) [mrB 3 a b]),
  ((9, 0, false), fun _dg hd l a b c d n => memH (fun R t => W0 [] R (hd ++ [l]) t) a b c d n),
  ((9, 1, false), fun _dg hd l a b c d n => memH (fun R t => W1 [] R (hd ++ [l]) t) a b c d n),
  ((9, 2, false), fun _dg hd l a b c d n => memH (fun R t => W2 [] R (hd ++ [l]) t) a b c d n),
  ((10, 1, false), fun _dg hd l a _b _c _d n => W1 [100] (rexM 0 a 4) (hd ++ [l]) ([mrB 0 a 4] ++ [37] ++ im4 n)),
  ((11, 0, false), fun _dg hd l _a _b _c _d n => W0 [] 0 (hd ++ [l]) (im4 n)),
  ((11, 0, true), fun _dg hd l _a _b _c d n => W0 [] 0 (hd ++ [(w8 (l + w8 d))]) (im4 n)),
  ((12, 0, false), fun _dg hd l _a _b _c _d n => W0 [] 0 (hd ++ [l]) (im1 n)),
  ((12, 0, true), fun _dg hd l _a _b _c d n => W0 [] 0 (hd ++ [(w8 (l + w8 d))]) (im1 n))]
def kindOf (x : RowT) : Int × Int × Bool := (formR x, x.2.1, condR x)
def kindOk (x : RowT) : Bool := (kindsB.map (·.1)).contains (kindOf x)
end Go.Amd

namespace Go.Amd
open Go Go.Ab Go.Proofs
def hdF (op : Int) : List Int := cond (decide (255 < op)) [w8 (Int.fdiv op (2 ^ 8))] []
noncomputable def cx26 : Cx := { P := Tryz.prog, n := 18, tab := [(51, findS), (52, faultyS)], mtab := [], refs := [], keeps := [0, 1, 2, 3, 4] }
def rowFine (x : RowT) : Bool := formOk x && kindOk x
theorem rows_fine : rowsL.all rowFine = true := by kernel_rfl
theorem frow_fine {nm : List UInt8} (h : fok nm = true) : rowFine (frow nm) = true := by
  unfold fok at h
  unfold frow
  cases hf : findL nm rowsL with
  | none => rw [hf] at h; cases h
  | some r => exact List.all_eq_true.1 rows_fine r (List.mem_of_find?_eq_some hf)
theorem frow_form {nm : List UInt8} (h : fok nm = true) : formOk (frow nm) = true := (Bool.and_eq_true_iff.1 (frow_fine h)).1
def encE (i : InsT) : Int := cond (fok i.1) (faultyF (frow i.1) i) 7
theorem faulty_ok {x : RowT} {i : InsT} (h : faultyF x i = 0) : okF x i.2.1 i.2.2.1 i.2.2.2.1 i.2.2.2.2.1 = true := by
  unfold faultyF tailF at h
  cases ho : okF x i.2.1 i.2.2.1 i.2.2.2.1 i.2.2.2.2.1
  · rw [ho] at h; cases h
  · rfl
def mayH (i : InsT) : Tree V := .br (fok i.1) (.br (formOk (frow i.1)) (.leaf (.bool (faultyF (frow i.1) i == 0))) .fail) (.leaf (.bool false))
theorem mayH_eq (i : InsT) : (dfun cx26 Tryz.f26 [.agg (insL i)]).run = (mayH i).run :=
  (show (dfun cx26 Tryz.f26 [.agg (insL i)]).run = (mayH i).out by kernel_rfl).trans (Tree.out_run _)
def mayS : Ab.Spec := fun args => match args with
  | [.agg [.str nm, .int .i64 a, .int .i64 b, .int .i64 c, .int .i64 d, .int .i64 n]] => .leaf (.bool (encE (nm, a, b, c, d, n) == 0))
  | _ => .fail
theorem mayS_ok : Sound Tryz.prog 26 mayS := by
  intro args out h
  unfold mayS at h
  split at h
  rotate_left
  · cases h
  rename_i nm a b c d n
  refine pcall_fun' (cx := cx26) (fn := Tryz.f26) (cx1_ok (.cons findS_ok (ok1 faultyS_ok)) (.nil _) rfl rfl) (by kernel_rfl) (by kernel_rfl) (by kernel_rfl) ?_
  refine (mayH_eq (nm, a, b, c, d, n)).trans ?_
  rw [← h]
  unfold mayH encE
  simp only
  cases hf : (fok nm)
  · rfl
  rw [frow_form hf]
  rfl
end Go.Amd

namespace Go.Amd
open Go Go.Ab Go.Proofs
theorem add_ok : XSound Tryz.prog 148 add64S := add64S_ok (fn := Tryz.f148) (by kernel_rfl) (by kernel_rfl) (by kernel_rfl) (by rfl) (by rfl)
theorem sub_ok : XSound Tryz.prog 147 sub64S := sub64S_ok (fn := Tryz.f147) (by kernel_rfl) (by kernel_rfl) (by kernel_rfl) (by rfl) (by rfl)
theorem idx_ok : XSound Tryz.prog 263 idxByteS := idxByteS_ok (fn := Tryz.f263) (by kernel_rfl) (by kernel_rfl) (by kernel_rfl) (by kernel_rfl) (by kernel_rfl)
noncomputable def baseT : Tabs := { tab := [(26, mayS), (148, add64S), (147, sub64S), (263, idxByteS)] }
theorem baseT_ok : baseT.Ok Tryz.prog := ⟨.cons mayS_ok (.consX add_ok (.consX sub_ok (.consX idx_ok (.nil _)))), (fun p h => by cases h), .nil _, fun p h => by cases h⟩
noncomputable def runT_ps : List Fi := [⟨97, Tryz.f97, [0, 1, 4, 5, 6], [], 0, []⟩, ⟨143, Tryz.f143, [0, 1, 4, 5, 6, 7, 12], [], 0, []⟩, ⟨200, Tryz.f200, [0, 1, 4, 5, 6, 7, 8, 9, 10, 11, 12, 13, 16, 24, 31, 36, 59, 64, 73, 93, 107, 114, 132, 139], [], 40, []⟩, ⟨239, Tryz.f239, [0, 1, 4], [], 0, []⟩, ⟨12, Tryz.f12, [0, 1, 2, 4, 5, 7, 8, 12, 16, 20, 28, 32, 39], [], 0, []⟩, ⟨152, Tryz.f152, [0, 1, 4, 5, 6, 7, 10], [], 0, []⟩, ⟨29, Tryz.f29, [0, 2], [], 0, []⟩, ⟨45, Tryz.f45, [0, 1, 4, 5, 6], [], 0, []⟩]
theorem runT_ps_ok : FisOk Tryz.prog runT_ps := ⟨⟨by kernel_rfl, by kernel_rfl⟩, ⟨by kernel_rfl, by kernel_rfl⟩, ⟨by kernel_rfl, by kernel_rfl⟩, ⟨by kernel_rfl, by kernel_rfl⟩, ⟨by kernel_rfl, by kernel_rfl⟩, ⟨by kernel_rfl, by kernel_rfl⟩, ⟨by kernel_rfl, by kernel_rfl⟩, ⟨by kernel_rfl, by kernel_rfl⟩, trivial⟩
noncomputable def runT_ms : List Fi := [⟨21, Tryz.f21, [0], [], 0, []⟩, ⟨15, Tryz.f15, [0, 1, 2, 4, 5, 6, 7, 8, 9, 10, 19, 28], [], 0, []⟩, ⟨16, Tryz.f16, [0, 1, 2, 6, 7, 8, 9, 15, 17, 18, 19, 33, 45], [], 12, []⟩, ⟨30, Tryz.f30, [0, 2], [], 0, []⟩, ⟨31, Tryz.f31, [0, 1, 2, 3, 8, 9, 10, 11, 12, 14, 27, 33, 53], [], 4, []⟩, ⟨33, Tryz.f33, [0, 1, 4], [], 0, []⟩, ⟨146, Tryz.f146, [0, 3], [], 0, []⟩, ⟨28, Tryz.f28, [0, 14], [], 0, []⟩, ⟨53, Tryz.f53, [0, 2, 3, 4, 16, 17, 33, 44, 46, 47], [], 0, []⟩, ⟨98, Tryz.f98, [0, 1, 2, 6, 7, 18, 19, 29, 39, 47, 58, 69, 80], [], 0, []⟩, ⟨102, Tryz.f102, [0, 1, 2, 3, 8, 9, 10, 11], [], 0, []⟩, ⟨149, Tryz.f149, [0, 1], [], 0, []⟩, ⟨144, Tryz.f144, [0, 1, 4], [], 0, []⟩]
theorem runT_ms_ok : FisOk Tryz.prog runT_ms := ⟨⟨by kernel_rfl, by kernel_rfl⟩, ⟨by kernel_rfl, by kernel_rfl⟩, ⟨by kernel_rfl, by kernel_rfl⟩, ⟨by kernel_rfl, by kernel_rfl⟩, ⟨by kernel_rfl, by kernel_rfl⟩, ⟨by kernel_rfl, by kernel_rfl⟩, ⟨by kernel_rfl, by kernel_rfl⟩, ⟨by kernel_rfl, by kernel_rfl⟩, ⟨by kernel_rfl, by kernel_rfl⟩, ⟨by kernel_rfl, by kernel_rfl⟩, ⟨by kernel_rfl, by kernel_rfl⟩, ⟨by kernel_rfl, by kernel_rfl⟩, ⟨by kernel_rfl, by kernel_rfl⟩, trivial⟩
noncomputable def runT (d : Nat) : Tabs := deep Tryz.prog baseT runT_ps runT_ms d
theorem runT_ok (d : Nat) : (runT d).Ok Tryz.prog := deep_ok baseT_ok runT_ps_ok runT_ms_ok d
noncomputable def cxRun : Cx := { P := Tryz.prog, n := Tryz.f11.ntmps, tab := (runT 6).tab, mtab := (runT 6).mtab, rtab := (runT 6).rtab, refs := [], keeps := [0, 1, 2, 3, 4, 5, 8, 9, 10, 11, 12, 13, 21, 39, 40, 57], nums := (runT 6).nums }
noncomputable def cx27 : Cx := { P := Tryz.prog, n := 14, tab := [], mtab := [], refs := [], keeps := [0, 1, 2, 3, 6, 7, 9, 11, 12] }
noncomputable def runM : MSpec := fun args H => .req (Nat.ble args.length Tryz.f11.ntmps) (dfunD cxRun cx27 Tryz.f11 27 Tryz.f27 args H)
theorem cxRun_ok : CxOk cxRun := runT_ok 6
theorem runM_ok : MSound Tryz.prog 11 runM := by
  intro args H r h
  unfold runM at h
  obtain ⟨h1, h⟩ := req_run h
  exact mcall_defer (cx := cxRun) (cl := cx27) (fn := Tryz.f11) (fg := Tryz.f27) cxRun_ok (cx0_ok rfl rfl) rfl (by kernel_rfl) (by kernel_rfl) (by kernel_rfl) (by kernel_rfl) h1 h
end Go.Amd
