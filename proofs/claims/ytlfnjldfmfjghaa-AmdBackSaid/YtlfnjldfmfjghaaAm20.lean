/-
  What is behind the opcode: the evaluators, form by form. Conditions: none.
-/
import Derived.Test.YtlfnjldfmfjghaaAm19
import Derived.Test.YtlfnjldfmfjghaaWd
namespace Go.Amd
open Go Go.Ab Go.Proofs

/-! A function run, and of what it made only its answer told. -/

def viewR (P : Program) (rs : List ResultVar) (s : St) : Option Res := match s.1 with
  | .panic _ => match dropS 1 [] s with
    | some (.panic v, _, H) => some (.pan v H)
    | _ => none
  | .ret => match dropS 1 [1] s with
    | some (.ret, t, H) => (answerI P rs H t).map fun v => .ok v H
    | _ => none
  | _ => none
def vfun (cx : Cx) (fn : Func) (args : List V) (H : List O) : Tree Res :=
  (dcode { cx with n := fn.ntmps } (bodyOf fn) (initT 0 args) H).bind fun s => .ofOption (viewR cx.P fn.results.toList s)
theorem mcall_view {cx : Cx} {f : Nat} {fn : Func} {args : List V} {H : List O} {r : Res} (hT : CxOk cx) (hf : cx.P.funcs[f]? = some fn) (hb : fn.body = some (bodyOf fn))
    (hname : (fn.name == "runtime.NumGoroutine") = false) (hn : Nat.ble args.length fn.ntmps = true) (hH : H.length = 1) (h : (vfun cx fn args H).run = some r) : MCall cx.P f args H r := by
  refine mcall_of' hf hb hname hn ?_
  unfold vfun at h
  obtain ⟨s, h1, h2⟩ := bind_run h
  have h2 := ofOption_run h2
  refine AWP_scope (AWP_run (cx := { cx with n := fn.ntmps }) rfl rfl hT h1 ?_)
  rw [hH]
  obtain ⟨e, t, H2⟩ := s
  unfold viewR at h2
  cases e with
  | normal => cases h2
  | exit id => cases h2
  | ret =>
    simp only at h2
    split at h2
    · rename_i t' H' hd
      obtain ⟨v, hv, rfl⟩ := Option.map_eq_some_iff.1 h2
      exact ⟨[1], _, hd, .inl rfl, rfl, hv⟩
    · cases h2
  | panic v =>
    simp only at h2
    split at h2
    · rename_i v' t' H' hd
      simp only [Option.some.injEq] at h2
      subst h2
      exact ⟨[], _, hd, rfl, rfl⟩
    · cases h2

/-! The evaluators. -/

noncomputable def cxSib : Cx := { P := Try.prog, n := Try.f73.ntmps, tab := [], mtab := [(57, nextM), (56, mustM)], refs := [], keeps := [0, 1, 2, 6, 7, 8, 37], rtab := [(54, bitS)] }
theorem cxSib_ok : CxOk cxSib := cx2_ok (.nil _) (.cons nextM_ok (.cons mustM_ok (.nil _))) (.cons bitS_ok (.nil _)) rfl rfl rfl
noncomputable def sibG : MSpec := fun args H => .req (Nat.ble args.length Try.f73.ntmps) (mfun cxSib Try.f73 args H)
theorem sibG_ok : MSound Try.prog 73 sibG := msound_fun (cx := cxSib) (fn := Try.f73) cxSib_ok (by kernel_rfl) (by kernel_rfl)
/-! Numbers: their values stay as they are (else the kernel looks into them at each question). -/

def w64 (x : Int) : Int := IntKind.wrap .u64 x
def or64 (a b : Int) : Int := IntKind.wrap .u64 ↑(BitVec.toNat (BitVec.ofInt 64 a ||| BitVec.ofInt 64 b))
def byU (c : Int) (j : Nat) : Int := w64 (w64 c * 2 ^ j)
def sgnV (n : Int) (j : Nat) : Int := Int.fdiv (wi (w64 (n * 2 ^ j))) (2 ^ j)
def num1V (a : Int) : Int := sgnV (or64 0 (byU a 0)) 56
def num4V (a b c d : Int) : Int := sgnV (or64 (or64 (or64 (or64 0 (byU a 0)) (byU b 8)) (byU c 16)) (byU d 24)) 32
def num8V (a b c d e f g h : Int) : Int := sgnV (or64 (or64 (or64 (or64 (or64 (or64 (or64 (or64 0 (byU a 0)) (byU b 8)) (byU c 16)) (byU d 24)) (byU e 32)) (byU f 40)) (byU g 48)) (byU h 56)) 0
/-- How numbers of 1, 4, 8 bytes are made of bytes. -/
abbrev NumF := (Int → Int) × (Int → Int → Int → Int → Int) × (Int → Int → Int → Int → Int → Int → Int → Int → Int)
def numV : NumF := (num1V, num4V, num8V)
section
variable (N : NumF) (l sp : List Int) (fl : Fl) (fs : Bool) (R : Int) (has : Bool)
abbrev panA (e k : Int) : Tree Res := .leaf (.pan (fltV e) [wkO l sp fl k fs R has])
abbrev nxA (k : Int) (K : Int → Int → Tree Res) : Tree Res := nxK l k (fun e k => panA l sp fl fs R has e k) K
abbrev num1A (k : Int) (K : Int → Int → Tree Res) : Tree Res := nxA l sp fl fs R has k fun a k => K (N.1 a) k
abbrev num4A (k : Int) (K : Int → Int → Tree Res) : Tree Res := nxA l sp fl fs R has k fun a k => nxA l sp fl fs R has k fun b k => nxA l sp fl fs R has k fun c k => nxA l sp fl fs R has k fun d k => K (N.2.1 a b c d) k
abbrev num8A (k : Int) (K : Int → Int → Tree Res) : Tree Res := nxA l sp fl fs R has k fun a k => nxA l sp fl fs R has k fun b k => nxA l sp fl fs R has k fun c k => nxA l sp fl fs R has k fun d k =>
  nxA l sp fl fs R has k fun e k => nxA l sp fl fs R has k fun f k => nxA l sp fl fs R has k fun g k => nxA l sp fl fs R has k fun h k => K (N.2.2 a b c d e f g h) k
abbrev numK (n k : Int) : Tree Res := .leaf (.ok (.int .i64 n) [wkO l sp fl k fs R has])
end
def numberG (N : NumF) : MSpec := fun args H => match args, H with
  | [.ptr 0 0, .int .i64 s], [.cells [.sl (.int .u8) l sp fl, .int .i64 k, .bool fs, .int .u8 R, .bool has] 63] =>
    cond (s == 1) (num1A N l sp fl fs R has k fun n k => numK l sp fl fs R has n k) (cond (s == 4) (num4A N l sp fl fs R has k fun n k => numK l sp fl fs R has n k) (cond (s == 8) (num8A N l sp fl fs R has k fun n k => numK l sp fl fs R has n k) .fail))
  | _, _ => .fail
section
variable (l sp : List Int) (fl : Fl) (fs : Bool) (R : Int) (has : Bool) (k : Int)
theorem number1_raw : (numberM [.ptr 0 0, .int .i64 1] [wkO l sp fl k fs R has]).out = (nxA l sp fl fs R has k fun a k => numK l sp fl fs R has (num1V a) k).out := by kernel_rfl
theorem number1_eq : (numberM [.ptr 0 0, .int .i64 1] [wkO l sp fl k fs R has]).out = (num1A numV l sp fl fs R has k fun n k => numK l sp fl fs R has n k).out := number1_raw l sp fl fs R has k
theorem number4_raw : (numberM [.ptr 0 0, .int .i64 4] [wkO l sp fl k fs R has]).out = (nxA l sp fl fs R has k fun a k => nxA l sp fl fs R has k fun b k => nxA l sp fl fs R has k fun c k => nxA l sp fl fs R has k fun d k => numK l sp fl fs R has (num4V a b c d) k).out := by kernel_rfl
theorem number4_eq : (numberM [.ptr 0 0, .int .i64 4] [wkO l sp fl k fs R has]).out = (num4A numV l sp fl fs R has k fun n k => numK l sp fl fs R has n k).out := number4_raw l sp fl fs R has k
theorem number8_raw : (numberM [.ptr 0 0, .int .i64 8] [wkO l sp fl k fs R has]).out = (nxA l sp fl fs R has k fun a k => nxA l sp fl fs R has k fun b k => nxA l sp fl fs R has k fun c k => nxA l sp fl fs R has k fun d k => nxA l sp fl fs R has k fun e k => nxA l sp fl fs R has k fun f k => nxA l sp fl fs R has k fun g k => nxA l sp fl fs R has k fun h k => numK l sp fl fs R has (num8V a b c d e f g h) k).out := by kernel_rfl
theorem number8_eq : (numberM [.ptr 0 0, .int .i64 8] [wkO l sp fl k fs R has]).out = (num8A numV l sp fl fs R has k fun n k => numK l sp fl fs R has n k).out := number8_raw l sp fl fs R has k
end
theorem numberG_ok : MSound Try.prog 72 (numberG numV) := by
  intro args H r h
  unfold numberG at h
  split at h
  rotate_left
  · cases h
  rename_i s l sp fl k fs R has
  have key : ∀ s : Int, (numberM [.ptr 0 0, .int .i64 s] [wkO l sp fl k fs R has]).run = some r → MCall Try.prog 72 [.ptr 0 0, .int .i64 s] [wkO l sp fl k fs R has] r := fun s h =>
    numberM_ok _ _ _ h
  have go : ∀ {a b : Tree Res}, a.out = b.out → b.run = some r → a.run = some r := fun e h => (Tree.out_run _).symm.trans (e.trans ((Tree.out_run _).trans h))
  cases h1 : (s == 1)
  · rw [h1, cond_false] at h
    cases h4 : (s == 4)
    · rw [h4, cond_false] at h
      cases h8 : (s == 8)
      · rw [h8] at h; cases h
      · rw [h8, cond_true] at h
        have := eq_of_beq h8
        subst this
        exact key 8 (go (number8_eq l sp fl fs R has k) h)
    · rw [h4, cond_true] at h
      have := eq_of_beq h4
      subst this
      exact key 4 (go (number4_eq l sp fl fs R has k) h)
  · rw [h1, cond_true] at h
    have := eq_of_beq h1
    subst this
    exact key 1 (go (number1_eq l sp fl fs R has k) h)

noncomputable def cxPl (N : NumF) : Cx := { P := Try.prog, n := Try.f55.ntmps, tab := [(41, fitsS)], mtab := [(72, numberG N), (56, mustM), (73, sibG)], refs := [], keeps := [0, 1, 2, 6, 7, 18, 48, 60, 61, 82], rtab := [(54, bitS)] }
theorem cxPl_ok : CxOk (cxPl numV) := cx2_ok (ok1 fitsS_ok) (.cons numberG_ok (.cons mustM_ok (.cons sibG_ok (.nil _)))) (.cons bitS_ok (.nil _)) rfl rfl rfl
noncomputable def placeG (N : NumF) : MSpec := fun args H => .req (Nat.ble args.length Try.f55.ntmps) (mfun (cxPl N) Try.f55 args H)
theorem placeG_ok : MSound Try.prog 55 (placeG numV) := msound_fun (cx := cxPl numV) (fn := Try.f55) cxPl_ok (by kernel_rfl) (by kernel_rfl)
noncomputable def cxIm (N : NumF) : Cx := { P := Try.prog, n := Try.f58.ntmps, tab := [(41, fitsS)], mtab := [(72, numberG N), (56, mustM)], refs := [], keeps := [0, 1, 2, 4, 6, 7, 9, 10, 14, 20, 25, 30] }
noncomputable def immG (N : NumF) : MSpec := fun args H => .req (Nat.ble args.length Try.f58.ntmps) (mfun (cxIm N) Try.f58 args H)
theorem immG_ok : MSound Try.prog 58 (immG numV) := msound_fun (cx := cxIm numV) (fn := Try.f58) (cx1_ok (ok1 fitsS_ok) (.cons numberG_ok (.cons mustM_ok (.nil _))) rfl rfl) (by kernel_rfl) (by kernel_rfl)

/-- A walker's state, as one. -/
abbrev WS := List Int × List Int × Fl × Int × Bool × Int × Bool
abbrev wkS (w : WS) : O := wkO w.1 w.2.1 w.2.2.1 w.2.2.2.1 w.2.2.2.2.1 w.2.2.2.2.2.1 w.2.2.2.2.2.2
def eqW (a b : WS) : Bool := decide (a = b)
def eqL (a b : List Int) : Bool := decide (a = b)
theorem eqL_eq {a b : List Int} (h : eqL a b = true) : a = b := of_decide_eq_true h
/-- opcode, called so; chosen, called so. -/
def opAt (w0 : WS) (r : Res) : MSpec := fun args H => match args, H with
  | [.ptr 0 0], [.cells [.sl (.int .u8) l sp fl, .int .i64 k, .bool fs, .int .u8 R, .bool has] 63] => .req (eqW (l, sp, fl, k, fs, R, has) w0) (.leaf r)
  | _, _ => .fail
def chAt (w0 : WS) (op : List Int) (r : Res) : MSpec := fun args H => match args, H with
  | [.ptr 0 0, .sl (.int .u8) o [] .full], [.cells [.sl (.int .u8) l sp fl, .int .i64 k, .bool fs, .int .u8 R, .bool has] 63] => .req (eqW (l, sp, fl, k, fs, R, has) w0) (.req (eqL o op) (.leaf r))
  | _, _ => .fail
theorem opAt_ok {w0 : WS} {r : Res} (h0 : MCall Try.prog 52 [.ptr 0 0] [wkS w0] r) : MSound Try.prog 52 (opAt w0 r) := by
  intro args H res h
  unfold opAt at h
  split at h
  rotate_left
  · cases h
  obtain ⟨h1, h⟩ := req_run h
  have h := leaf_out h
  subst h
  have h1 := of_decide_eq_true h1
  subst h1
  exact h0
theorem chAt_ok {w0 : WS} {op : List Int} {r : Res} (h0 : MCall Try.prog 53 [.ptr 0 0, opV op] [wkS w0] r) : MSound Try.prog 53 (chAt w0 op r) := by
  intro args H res h
  unfold chAt at h
  split at h
  rotate_left
  · cases h
  obtain ⟨h1, h⟩ := req_run h
  obtain ⟨h2, h⟩ := req_run h
  have h := leaf_out h
  subst h
  have h1 := of_decide_eq_true h1
  have h2 := eqL_eq h2
  subst h1
  subst h2
  exact h0

noncomputable def cxAll (N : NumF) (w0 w1 : WS) (op : List Int) (r1 r2 : Res) : Cx := { P := Try.prog, n := Try.f28.ntmps, tab := [(41, fitsS), (23, faultyS)], mtab := [(52, opAt w0 r1), (53, chAt w1 op r2), (55, placeG N), (57, nextM), (56, mustM), (58, immG N)], refs := [], keeps := [0, 2, 3, 4, 5, 6, 7, 8, 9, 25, 50, 51, 67, 74, 80, 86, 93, 103], rtab := [(54, bitS)] }
theorem cxAll_ok {w0 w1 : WS} {op : List Int} {r1 r2 : Res} (h1 : MCall Try.prog 52 [.ptr 0 0] [wkS w0] r1) (h2 : MCall Try.prog 53 [.ptr 0 0, opV op] [wkS w1] r2) : CxOk (cxAll numV w0 w1 op r1 r2) :=
  cx2_ok (.cons fitsS_ok (ok1 faultyS_ok)) (.cons (opAt_ok h1) (.cons (chAt_ok h2) (.cons placeG_ok (.cons nextM_ok (.cons mustM_ok (.cons immG_ok (.nil _))))))) (.cons bitS_ok (.nil _)) rfl rfl rfl

/-! The trees. -/

section
variable (N : NumF) (l sp : List Int) (fl : Fl) (fs : Bool) (R : Int) (has : Bool)
variable (x : RowT) (op : List Int) (c k : Int)
abbrev insO (i : InsT) : O := .cells (insL i) 29
/-- The last check. -/
abbrev finA (a b cc d n k : Int) : Tree Res := .br (formOk x) (.br (!(faultyF x (x.1, a, b, cc, d, n) == 0)) (panA l sp fl fs R has 22 k) (.leaf (.ok (insV (x.1, a, b, cc, d, n)) [wkO l sp fl k fs R has, insO (x.1, a, b, cc, d, n)]))) .fail
def lastI (op : List Int) : Int := IntKind.wrap .i64 ((op.length : Nat) - 1)
abbrev lastA (K : Int → Tree Res) : Tree Res := .br (inside (lastI op) op.length) (K (wi (w8 (op.getD (lastI op).toNat 0 - w8 x.2.2.1)))) .fail
def midF (c R : Int) : Int := wi (wi (and8 (Int.fdiv c (2 ^ 3)) 7) + bitF R 4)
def lowF (c R : Int) : Int := wi (wi (and8 c 7) + bitF R 1)
def modF (c : Int) : Int := Int.fdiv c (2 ^ 6)
def rmF (c : Int) : Int := wi (and8 c 7)
/-- What a form has behind the opcode, by D. -/
abbrev form0A (d : Int) : Tree Res := finA l sp fl fs R has x 0 0 0 d 0 k
abbrev form1A (d : Int) : Tree Res := lastA x op fun n => finA l sp fl fs R has x (wi (n + bitF R 1)) 0 0 d 0 k
abbrev form2A (d : Int) : Tree Res := lastA x op fun a => num8A N l sp fl fs R has k fun n k => finA l sp fl fs R has x (wi (a + bitF R 1)) 0 0 d n k
abbrev form3A (d : Int) : Tree Res := finA l sp fl fs R has x (lowF c R) 0 0 d 0 k
abbrev form4A (d : Int) : Tree Res := num4A N l sp fl fs R has k fun n k => finA l sp fl fs R has x (lowF c R) 0 0 d n k
abbrev form5A (d : Int) : Tree Res := num1A N l sp fl fs R has k fun n k => finA l sp fl fs R has x (lowF c R) 0 0 d n k
abbrev form6A (d : Int) : Tree Res := .br (inside 0 op.length) (.br (op.getD 0 0 == 131) (num1A N l sp fl fs R has k fun n k => finA l sp fl fs R has x (lowF c R) 0 0 d n k)
  (num4A N l sp fl fs R has k fun n k => .br (!(!fitsF n)) (panA l sp fl fs R has 22 k) (finA l sp fl fs R has x (lowF c R) 0 0 d n k))) .fail
abbrev form7A (d : Int) : Tree Res := finA l sp fl fs R has x (lowF c R) (midF c R) 0 d 0 k
abbrev form8A (d : Int) : Tree Res := finA l sp fl fs R has x (midF c R) (lowF c R) 0 d 0 k
abbrev modA (b cc d k : Int) (K : Int → Int → Tree Res) : Tree Res :=
  .br (modF c == 1) (num1A N l sp fl fs R has k fun n k => .br (n != 0) (K n k) (.br (!(andi b 7 == 5)) (panA l sp fl fs R has 22 k) (K n k)))
    (.br (modF c == 2) (num4A N l sp fl fs R has k fun n k => .br (!(!fitsF n)) (panA l sp fl fs R has 22 k) (K n k)) (K 0 k))
def idxF (c R : Int) : Int := wi (wi (and8 (Int.fdiv c (2 ^ 3)) 7) + bitF R 2)
def scF (c : Int) : Int := IntKind.wrap .i64 (1 * 2 ^ Min.min (Int.toNat (modF c)) 64)
abbrev sibB (e k : Int) (K : Int → Int → Int → Int → Int → Tree Res) : Tree Res :=
  .br (idxF e R == 4) (.br (modF e == 0) (.br (!(andi (lowF e R) 7 == 4)) (panA l sp fl fs R has 22 k) (modA N l sp fl fs R has c (lowF e R) 16 0 k (K (lowF e R) 16 0))) (panA l sp fl fs R has 22 k))
    (.br (decide (0 ≤ modF e)) (modA N l sp fl fs R has c (lowF e R) (idxF e R) (scF e) k (K (lowF e R) (idxF e R) (scF e))) .fail)
abbrev sibA (k : Int) (K : Int → Int → Int → Int → Int → Tree Res) : Tree Res :=
  nxA l sp fl fs R has k fun e k => .br (modF c != 0) (sibB N l sp fl fs R has c e k K) (.br (!(andi (lowF e R) 7 != 5)) (panA l sp fl fs R has 22 k) (sibB N l sp fl fs R has c e k K))
abbrev baseA (k : Int) (K : Int → Int → Int → Int → Int → Tree Res) : Tree Res :=
  .br (rmF c == 4) (sibA N l sp fl fs R has c k K) (.br (!(and8 R 2 == 0)) (panA l sp fl fs R has 22 k) (modA N l sp fl fs R has c (wi (rmF c + bitF R 1)) 16 0 k (K (wi (rmF c + bitF R 1)) 16 0)))
abbrev placeA (k : Int) (K : Int → Int → Int → Int → Int → Tree Res) : Tree Res :=
  .br (modF c == 0) (.br (rmF c == 5) (.br (!(and8 R 3 == 0)) (panA l sp fl fs R has 22 k) (num4A N l sp fl fs R has k fun n k => K 17 16 0 n k)) (baseA N l sp fl fs R has c k K)) (baseA N l sp fl fs R has c k K)
abbrev form9A : Tree Res := placeA N l sp fl fs R has c k fun b cc d n k => finA l sp fl fs R has x (midF c R) b cc d n k
abbrev form10A (d : Int) : Tree Res := nxA l sp fl fs R has k fun e k => .br (!(e == 37)) (panA l sp fl fs R has 22 k) (num4A N l sp fl fs R has k fun n k => finA l sp fl fs R has x (midF c R) 0 0 d n k)
abbrev form11A (d : Int) : Tree Res := num4A N l sp fl fs R has k fun n k => finA l sp fl fs R has x 0 0 0 d n k
abbrev form12A (d : Int) : Tree Res := num1A N l sp fl fs R has k fun n k => finA l sp fl fs R has x 0 0 0 d n k
end

end Go.Amd
