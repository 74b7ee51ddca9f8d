/-
  Prefixes and the opcode are taken; bits of REX. Conditions: none.
-/
import Derived.Test.YtlfnjldfmfjghaaAm18
namespace Go.Amd
open Go Go.Ab Go.Proofs

/-! bit -/

def bitF (R n : Int) : Int := cond (and8 R n != 0) 8 0
def bitT (l sp : List Int) (fl : Fl) (k : Int) (fs : Bool) (R : Int) (has : Bool) (n : Int) : Tree Res :=
  .br (and8 R n != 0) (.leaf (.ok (.int .i64 8) [wkO l sp fl k fs R has])) (.leaf (.ok (.int .i64 0) [wkO l sp fl k fs R has]))
theorem bitT_eq (l sp : List Int) (fl : Fl) (k : Int) (fs : Bool) (R : Int) (has : Bool) (n : Int) : (mfun cx54 Try.f54 [.ptr 0 0, .int .u8 n] [wkO l sp fl k fs R has]).run = (bitT l sp fl k fs R has n).run :=
  (show _ = (bitT l sp fl k fs R has n).out by kernel_rfl).trans (Tree.out_run _)
def bitS : RSpec := fun args H => match args, H with
  | [.ptr 0 0, .int .u8 n], [.cells [.sl (.int .u8) _ _ _, .int .i64 _, .bool _, .int .u8 R, .bool _] 63] => .leaf (.int .i64 (bitF R n))
  | _, _ => .fail
theorem bitS_ok : RSound Try.prog 54 bitS := by
  intro args H r h
  unfold bitS at h
  split at h
  rotate_left
  · cases h
  rename_i n l sp fl k fs R has
  have h := leaf_out h
  subst h
  refine mcall_fun' (cx := cx54) (fn := Try.f54) (cx1_ok (.nil _) (.nil _) rfl rfl) (by kernel_rfl) (by kernel_rfl) (by kernel_rfl) ((bitT_eq l sp fl k fs R has n).trans ?_)
  unfold bitT bitF
  cases (and8 R n != 0) <;> rfl

/-! opcode -/

/-- The next byte, at a place. -/
def nxK (l : List Int) (k : Int) (E : Int → Int → Tree Res) (K : Int → Int → Tree Res) : Tree Res :=
  .br (decide ((l.length : Nat) ≤ k)) (E 2 k) (.br (inside (IntKind.wrap .i64 (IntKind.wrap .i64 (k + 1) - 1)) l.length) (K (l.getD (Int.toNat (IntKind.wrap .i64 (IntKind.wrap .i64 (k + 1) - 1))) 0) (IntKind.wrap .i64 (k + 1))) .fail)
theorem nxK_run {l : List Int} {k : Int} (k0 : 0 ≤ k) (k1 : k < 1000000000) (E K : Int → Int → Tree Res) :
    (nxK l k E K).run = cond (decide ((l.length : Nat) ≤ k)) (E 2 k).run (K (l.getD k.toNat 0) (k + 1)).run := by
  have w1 : IntKind.wrap .i64 (k + 1) = k + 1 := wrap_i64 (by omega) (by omega)
  have w2 : IntKind.wrap .i64 (IntKind.wrap .i64 (k + 1) - 1) = k := by rw [w1, wrap_i64 (by omega) (by omega)]; omega
  unfold nxK
  rw [br_run, w2, w1]
  by_cases h : (l.length : Int) ≤ k
  · rw [decide_eq_true h]; rfl
  · rw [decide_eq_false h, cond_false, cond_false]
    exact br_t (inside_of k0 (by omega))

section
variable (l sp : List Int) (fl : Fl)
abbrev panT (e k : Int) (fs : Bool) (R : Int) (has : Bool) : Tree Res := .leaf (.pan (fltV e) [wkO l sp fl k fs R has])
abbrev okT (op : List Int) (k : Int) (fs : Bool) (R : Int) (has : Bool) : Tree Res := .leaf (.ok (opV op) [wkO l sp fl k fs R has])
def sh4 (c : Int) : Int := Int.fdiv c (2 ^ 4)
/-- Behind the prefixes. -/
def opcE (c k R : Int) : Tree Res := .br (c != 15) (okT l sp fl [c] k false R true) (.br (!(and8 R 8 != 0)) (panT l sp fl 22 k false R true) (nxK l k (fun e k => panT l sp fl e k false R true) fun d k => okT l sp fl [c, d] k false R true))
def opcT : Tree Res :=
  nxK l 0 (fun e k => panT l sp fl e k false 0 false) fun c k =>
    .br (c == 100) (nxK l k (fun e k => panT l sp fl e k true 0 false) fun c1 k => .br (!(and8 c1 251 == 72)) (panT l sp fl 22 k true 0 false)
        (.br (sh4 c1 == 4) (nxK l k (fun e k => panT l sp fl e k true (and8 c1 15) true) fun c2 k => .br (c2 != 15) (okT l sp fl [c2] k true (and8 c1 15) true) (panT l sp fl 22 k true (and8 c1 15) true))
          (.br (c1 != 15) (okT l sp fl [c1] k true 0 false) (panT l sp fl 22 k true 0 false))))
      (.br (sh4 c == 4) (nxK l k (fun e k => panT l sp fl e k false (and8 c 15) true) fun c1 k => opcE l sp fl c1 k (and8 c 15))
        (.br (c != 15) (okT l sp fl [c] k false 0 false) (nxK l k (fun e k => panT l sp fl e k false 0 false) fun d k => okT l sp fl [c, d] k false 0 false)))
theorem opcT_eq : (mfun cx52 Try.f52 [.ptr 0 0] [wkO l sp fl 0 false 0 false]).run = (opcT l sp fl).run :=
  (show _ = (opcT l sp fl).out by kernel_rfl).trans (Tree.out_run _)
end

/-- A next byte where what is ahead is known. -/
theorem nxK_at {l p t : List Int} {k : Int} (hl : l = p ++ t) (hk : k = (p.length : Int)) (h1 : l.length < 1000000000) (E K : Int → Int → Tree Res) :
    (nxK l k E K).run = match t with
      | [] => (E 2 k).run
      | c :: _ => (K c (k + 1)).run := by
  have hlen : l.length = p.length + t.length := by rw [hl, List.length_append]
  rw [nxK_run (by omega) (by omega)]
  cases t with
  | nil =>
    rw [decide_eq_true (by simp only [List.length_nil] at hlen; omega)]
    rfl
  | cons c t =>
    have hg : l.getD k.toNat 0 = c := by
      rw [hl, hk, Int.toNat_natCast, List.getD_eq_getElem?_getD, List.getElem?_append_right (Nat.le_refl _), Nat.sub_self]
      rfl
    rw [decide_eq_false (by simp only [List.length_cons] at hlen; omega), hg]
    rfl

/-- What is taken of bytes: the opcode, the place behind it, whether 64 is ahead, REX, whether there is one; or what goes up, and the state then. -/
abbrev OpR := Except (Int × Int × Bool × Int × Bool) (List Int × Int × Bool × Int × Bool)
def opc2 (R c : Int) (t : List Int) : OpR := cond (c != 15) (.ok ([c], 2, false, R, true)) (cond (!(and8 R 8 != 0)) (.error (22, 2, false, R, true)) (match t with
    | [] => .error (2, 2, false, R, true)
    | d :: _ => .ok ([c, d], 3, false, R, true)))
def opc1 (c : Int) (t : List Int) : OpR := cond (!(and8 c 251 == 72)) (.error (22, 2, true, 0, false)) (cond (sh4 c == 4) (match t with
    | [] => .error (2, 2, true, and8 c 15, true)
    | d :: _ => cond (d != 15) (.ok ([d], 3, true, and8 c 15, true)) (.error (22, 3, true, and8 c 15, true)))
    (cond (c != 15) (.ok ([c], 2, true, 0, false)) (.error (22, 2, true, 0, false))))
def opc0 (c : Int) (t : List Int) : OpR := cond (c == 100) (match t with
    | [] => .error (2, 1, true, 0, false)
    | d :: t => opc1 d t) (cond (sh4 c == 4) (match t with
    | [] => .error (2, 1, false, and8 c 15, true)
    | d :: t => opc2 (and8 c 15) d t) (cond (c != 15) (.ok ([c], 1, false, 0, false)) (match t with
    | [] => .error (2, 1, false, 0, false)
    | d :: _ => .ok ([c, d], 2, false, 0, false))))
def opcP : List Int → OpR
  | [] => .error (2, 0, false, 0, false)
  | c :: t => opc0 c t

section
variable (l sp : List Int) (fl : Fl)
def opcR : OpR → Res
  | .ok (op, k, fs, R, has) => .ok (opV op) [wkO l sp fl k fs R has]
  | .error (e, k, fs, R, has) => .pan (fltV e) [wkO l sp fl k fs R has]
theorem opcE_run {p t : List Int} {c R : Int} (hl : l = p ++ (c :: t)) (hp : p.length = 1) (h1 : l.length < 1000000000) : (opcE l sp fl c 2 R).run = some (opcR l sp fl (opc2 R c t)) := by
  unfold opcE opc2
  rw [br_run, br_run, nxK_at (p := p ++ [c]) (t := t) (by rw [hl]; simp) (by rw [List.length_append, hp]; rfl) h1]
  cases t with
  | nil => cases (c != 15) <;> cases (!(and8 R 8 != 0)) <;> rfl
  | cons d t => cases (c != 15) <;> cases (!(and8 R 8 != 0)) <;> rfl
theorem opcT_run (h1 : l.length < 1000000000) : (opcT l sp fl).run = some (opcR l sp fl (opcP l)) := by
  unfold opcT
  refine (nxK_at (l := l) (p := []) (t := l) (k := 0) rfl rfl h1 _ _).trans ?_
  cases l with
  | nil => rfl
  | cons c t =>
    show (Tree.br (c == 100) _ _).run = some (opcR (c :: t) sp fl (opc0 c t))
    unfold opc0
    rw [br_run, br_run, br_run]
    cases h0 : (c == 100)
    · cases h4 : (sh4 c == 4)
      · cases h15 : (c != 15)
        · simp only [cond_false]
          refine (nxK_at (l := c :: t) (p := [c]) (t := t) (k := 0 + 1) rfl rfl h1 _ _).trans ?_
          cases t <;> rfl
        · rfl
      · simp only [cond_false, cond_true]
        refine (nxK_at (l := c :: t) (p := [c]) (t := t) (k := 0 + 1) rfl rfl h1 _ _).trans ?_
        cases t with
        | nil => rfl
        | cons d t => exact opcE_run _ sp fl (p := [c]) (t := t) rfl rfl h1
    · simp only [cond_true]
      refine (nxK_at (l := c :: t) (p := [c]) (t := t) (k := 0 + 1) rfl rfl h1 _ _).trans ?_
      cases t with
      | nil => rfl
      | cons d t =>
        simp only
        unfold opc1
        rw [br_run, br_run, br_run]
        cases h48 : (!(and8 d 251 == 72))
        · cases h4 : (sh4 d == 4)
          · cases h15 : (d != 15) <;> rfl
          · simp only [cond_false, cond_true]
            refine (nxK_at (l := c :: d :: t) (p := [c, d]) (t := t) (k := 0 + 1 + 1) rfl rfl h1 _ _).trans ?_
            cases t with
            | nil => rfl
            | cons e t =>
              simp only
              rw [br_run]
              cases h15 : (e != 15) <;> rfl
        · rfl
theorem opcode_ok (h1 : l.length < 1000000000) : MCall Try.prog 52 [.ptr 0 0] [wkO l sp fl 0 false 0 false] (opcR l sp fl (opcP l)) :=
  mcall_fun' (cx := cx52) (fn := Try.f52) (cx1_ok (.nil _) (.cons mustM_ok (.cons nextM_ok (.nil _))) rfl rfl) (by kernel_rfl) (by kernel_rfl) (by kernel_rfl) ((opcT_eq l sp fl).trans (opcT_run l sp fl h1))
end

end Go.Amd
