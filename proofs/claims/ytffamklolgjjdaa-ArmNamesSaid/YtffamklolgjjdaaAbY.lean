/-
  The engine, part Y: small tools for proofs about one program. Conditions: none.
-/
import Derived.Test.YtffamklolgjjdaaAbX
namespace Go.Ab

abbrev strEq (a b : List UInt8) : Bool := a == b
/-- A content by its plain kind. -/
abbrev tI (x : Int) : Int := x
abbrev tS (x : List UInt8) : List UInt8 := x
abbrev tB (x : Bool) : Bool := x

/-- What is written down of the slots is known of them. -/
def Fits (t : T) : T → Prop
  | [] => True
  | (d, v) :: r => get d t = v ∧ Fits t r

theorem Fits.tle {t : T} : ∀ {s : T}, Fits t s → TLe t s
  | [], _, d => .inr rfl
  | (e, v) :: r, h, d => by
    simp only [get]
    cases hb : Nat.beq d e
    · simpa using Fits.tle h.2 d
    · have := Nat.eq_of_beq_eq_true hb
      subst this
      exact .inl h.1.symm

theorem wrap_i64 {n : Int} (h0 : -9223372036854775808 ≤ n) (h1 : n < 9223372036854775808) : IntKind.wrap .i64 n = n := by
  have h : IntKind.wrap .i64 n = if n % 18446744073709551616 ≥ 9223372036854775808 then n % 18446744073709551616 - 18446744073709551616 else n % 18446744073709551616 := by
    simp [IntKind.wrap, IntKind.bits, IntKind.signed]
  rw [h]
  split <;> omega

theorem inside_of {i : Int} {n : Nat} (h0 : 0 ≤ i) (h1 : i < n) : inside i n = true := by
  simp [inside, h0, h1]

theorem Tree.all_of {α : Type} {x y : Tree α} {Q : α → Prop} (e : x = y) (h : y.all Q) : x.all Q := e ▸ h

/-- As 'run'; under another name, so that equations of trees are checked from the outside in. -/
def Tree.out {α : Type} : Tree α → Option α
  | .leaf b => some b
  | .fail => none
  | .br c x y => cond c x.out y.out

theorem Tree.out_run {α : Type} : ∀ x : Tree α, x.out = x.run
  | .leaf _ => rfl
  | .fail => rfl
  | .br c x y => by cases c <;> simp only [Tree.out, Tree.run, cond_true, cond_false, Tree.out_run x, Tree.out_run y]

theorem br_run {α : Type} (c : Bool) (x y : Tree α) : (Tree.br c x y).run = cond c x.run y.run := by cases c <;> rfl
theorem leaf_run {α : Type} (b : α) : (Tree.leaf b).run = some b := rfl

/-- Seven questions in turn, a number at each. -/
theorem fold7 (k : IntKind) (b1 b2 b3 b4 b5 b6 b7 : Bool) (x1 x2 x3 x4 x5 x6 x7 x8 : Int) :
    (Tree.br b1 (.leaf (V.int k x1)) (.br b2 (.leaf (.int k x2)) (.br b3 (.leaf (.int k x3)) (.br b4 (.leaf (.int k x4)) (.br b5 (.leaf (.int k x5)) (.br b6 (.leaf (.int k x6)) (.br b7 (.leaf (.int k x7)) (.leaf (.int k x8))))))))).run =
      some (.int k (cond b1 x1 (cond b2 x2 (cond b3 x3 (cond b4 x4 (cond b5 x5 (cond b6 x6 (cond b7 x7 x8)))))))) := by
  cases b1
  rotate_left
  · rfl
  cases b2
  rotate_left
  · rfl
  cases b3
  rotate_left
  · rfl
  cases b4
  rotate_left
  · rfl
  cases b5
  rotate_left
  · rfl
  cases b6
  rotate_left
  · rfl
  cases b7 <;> rfl

/-- Trees that come to the same. -/
theorem Tree.all_run_eq {α : Type} {x y : Tree α} {Q : α → Prop} (e : x.run = y.run) (h : y.all Q) : x.all Q := by
  obtain ⟨b, h1, h2⟩ := Tree.all_run h
  exact Tree.run_all (e.trans h1) h2

theorem getD_lt {α : Type} {l : List α} {i : Nat} {d : α} (hi : i < l.length) : l.getD i d = l[i] := by simp [List.getD, hi]

theorem take_none {α : Type} {p : α → Bool} {l : List α} {i : Nat} {d : α} (hi : i < l.length) (h : (l.take i).find? p = none) (hp : p (l.getD i d) = false) : (l.take (i + 1)).find? p = none := by
  rw [getD_lt hi] at hp
  rw [List.take_add_one, List.find?_append, h]
  simp [List.getElem?_eq_getElem hi, hp]

theorem take_some {α : Type} {p : α → Bool} {l : List α} {i : Nat} {d : α} (hi : i < l.length) (h : (l.take i).find? p = none) (hp : p (l.getD i d) = true) : l.find? p = some (l.getD i d) := by
  rw [getD_lt hi] at hp ⊢
  have e : l.find? p = (l.take i ++ l[i] :: l.drop (i + 1)).find? p := by rw [← List.drop_eq_getElem_cons hi, List.take_append_drop]
  rw [e, List.find?_append, h, List.find?_cons, hp]
  rfl

variable {P : Program} {H : List O}

/-- A contract of a function that writes, conditions as checks. -/
theorem mcall_of' {f : Nat} {fn : Func} {c : Code} {args : List V} {r : Res} (hf : P.funcs[f]? = some fn) (hb : fn.body = some c) (hname : (fn.name == "runtime.NumGoroutine") = false)
    (hn : Nat.ble args.length fn.ntmps = true) (h : AWP P fn.ntmps c (MPost P fn r) (initT 0 args) H) : MCall P f args H r :=
  mcall_of hf hb (by intro e; rw [e] at hname; simp at hname) (Nat.le_of_ble_eq_true hn) h

theorem pcall_of' {f : Nat} {fn : Func} {c : Code} {args : List V} {out : V} (hf : P.funcs[f]? = some fn) (hb : fn.body = some c) (hname : (fn.name == "runtime.NumGoroutine") = false)
    (hn : Nat.ble args.length fn.ntmps = true) (h : AWP P fn.ntmps c (fun e t H => (e = .ret ∨ e = .normal) ∧ answerV P fn.results.toList H t = some out) (initT 0 args) []) : PCall P f args out :=
  pcall_of hf hb (by intro e; rw [e] at hname; simp at hname) (Nat.le_of_ble_eq_true hn) h

theorem pcall_fun' {cx : Cx} {f : Nat} {fn : Func} {args : List V} {out : V} (hT : CxOk cx) (hf : cx.P.funcs[f]? = some fn)
    (hname : (fn.name == "runtime.NumGoroutine") = false) (hn : Nat.ble args.length fn.ntmps = true) (h : (dfun cx fn args).run = some out) : PCall cx.P f args out := by
  cases hb : fn.body with
  | none => simp [dfun, hb, Tree.run] at h
  | some c => exact pcall_fun rfl hT hf hb (by intro e; rw [e] at hname; simp at hname) hn h

theorem mcall_fun' {cx : Cx} {f : Nat} {fn : Func} {args : List V} {r : Res} (hT : CxOk cx) (hf : cx.P.funcs[f]? = some fn)
    (hname : (fn.name == "runtime.NumGoroutine") = false) (hn : Nat.ble args.length fn.ntmps = true) (h : (mfun cx fn args H).run = some r) : MCall cx.P f args H r := by
  cases hb : fn.body with
  | none => simp [mfun, hb, Tree.run] at h
  | some c => exact mcall_fun rfl hT hf hb (by intro e; rw [e] at hname; simp at hname) hn h

/-- A function that only reads, by its tree. -/
theorem sound_fun {cx : Cx} {f : Nat} {fn : Func} (hT : CxOk cx) (hf : cx.P.funcs[f]? = some fn) (hname : (fn.name == "runtime.NumGoroutine") = false) :
    Sound cx.P f (fun args => .req (Nat.ble args.length fn.ntmps) (dfun cx fn args)) := by
  intro args out h
  obtain ⟨h1, h2⟩ := req_run h
  exact pcall_fun' hT hf hname h1 h2

theorem msound_fun {cx : Cx} {f : Nat} {fn : Func} (hT : CxOk cx) (hf : cx.P.funcs[f]? = some fn) (hname : (fn.name == "runtime.NumGoroutine") = false) :
    MSound cx.P f (fun args H => .req (Nat.ble args.length fn.ntmps) (mfun cx fn args H)) := by
  intro args H out h
  obtain ⟨h1, h2⟩ := req_run h
  cases hb : fn.body with
  | none => simp [mfun, hb, Tree.run] at h2
  | some c => exact mcall_fun rfl hT hf hb (by intro e; rw [e] at hname; simp at hname) h1 h2

end Go.Ab
