/-
  The engine, part Xt: functions that the model stands in for. Conditions: none.
-/
import Derived.Test.YtmbbnhcbphkniaaGreatDoorEnJ
import Derived.Laws.Externs
import Derived.Lib.Bytealg
namespace Go.Ab

/-- Such a function is called. -/
theorem xcall_of {P : Program} {f : Nat} {fn : Func} {e : Array Value → Sem Value} {args : List V} {out : V} (hf : P.funcs[f]? = some fn) (hname : (fn.name == "runtime.NumGoroutine") = false)
    (hb : fn.body.isNone = true) (hn : Extern.findNext fn = none) (he : Extern.find fn = some e)
    (h : ∀ (w : World) (X : Nat → Nat → Prop) (β : List Loc) (rargs : List Value), rargs.length = args.length →
      (∀ (k : Nat) (v : V) (x : Value), args[k]? = some v → rargs[k]? = some x → R w X β v x) → ∃ y, (e rargs.toArray).run P w = .ok y w ∧ R w X β out y) : XCall P f args out := by
  intro w X β rargs hl hr
  obtain ⟨y, h1, h2⟩ := h w X β rargs hl hr
  refine ⟨y, ?_, h2⟩
  rw [run_callFunc_extern hf hname hb hn he, h1]
  rfl

/-- The first place of a byte. -/
def idxB (s : List UInt8) (c : UInt8) : Int := Lib.indexByte s c
def idxByteS : Spec := fun args => match args with
  | [.str s, .int .u8 c] => .leaf (.int .i64 (idxB s c.toNat.toUInt8))
  | _ => .fail
theorem idxByteS_ok {P : Program} {f : Nat} {fn : Func} (hf : P.funcs[f]? = some fn) (hname : (fn.name == "runtime.NumGoroutine") = false) (hb : fn.body.isNone = true) (hn : Extern.findNext fn = none)
    (he : Extern.find fn = some Extern.BytealgIndexByte.indexByte) : XSound P f idxByteS := by
  intro args out h
  unfold idxByteS at h
  split at h
  rotate_left
  · cases h
  rename_i s c
  cases h
  refine xcall_of hf hname hb hn he fun w X β rargs hl hr => ?_
  match rargs, hl with
  | [x, y], _ =>
    have h1 := hr 0 _ x rfl rfl
    have h2 := hr 1 _ y rfl rfl
    cases h1
    cases h2
    refine ⟨_, run_indexByte_string _ _ _, ?_⟩
    rw [Lib.firstIdx_eq]
    exact .int _ _ _

/-- A sum of two numbers of 64 bits and what was carried. -/
def add64S : Spec := fun args => match args with
  | [.int .u64 x, .int .u64 y, .int .u64 c] => .req (decide (0 ≤ x) && decide (0 ≤ y) && decide (0 ≤ c) && decide (c ≤ 1))
      (.leaf (.tup [.int .u64 ((x + y + c) % 18446744073709551616), .int .u64 ((x + y + c) / 18446744073709551616)]))
  | _ => .fail
theorem pair_R {w : World} {X : Nat → Nat → Prop} {β : List Loc} (a b : Int) : R w X β (.tup [.int .u64 a, .int .u64 b]) (.tuple #[.int .u64 a, .int .u64 b]) := by
  refine .tup β [.int .u64 a, .int .u64 b] [.int .u64 a, .int .u64 b] rfl fun k v x h1 h2 => ?_
  match k, h1, h2 with
  | 0, h1, h2 => cases h1; cases h2; exact .int _ _ _
  | 1, h1, h2 => cases h1; cases h2; exact .int _ _ _
theorem three_args {w : World} {X : Nat → Nat → Prop} {β : List Loc} {rargs : List Value} {x y c : Int} (hl : rargs.length = 3)
    (hr : ∀ (k : Nat) (v : V) (z : Value), ([.int .u64 x, .int .u64 y, .int .u64 c] : List V)[k]? = some v → rargs[k]? = some z → R w X β v z) : rargs = [.int .u64 x, .int .u64 y, .int .u64 c] := by
  match rargs, hl with
  | [p, q, r], _ =>
    have h1 := hr 0 _ p rfl rfl
    have h2 := hr 1 _ q rfl rfl
    have h3 := hr 2 _ r rfl rfl
    cases h1
    cases h2
    cases h3
    rfl
theorem add64S_ok {P : Program} {f : Nat} {fn : Func} (hf : P.funcs[f]? = some fn) (hname : (fn.name == "runtime.NumGoroutine") = false) (hb : fn.body.isNone = true) (hn : Extern.findNext fn = none)
    (he : Extern.find fn = some add64Entry) : XSound P f add64S := by
  intro args out h
  unfold add64S at h
  split at h
  rotate_left
  · cases h
  rename_i x y c
  obtain ⟨h1, h⟩ := req_run h
  cases h
  simp only [Bool.and_eq_true, decide_eq_true_eq] at h1
  obtain ⟨⟨⟨h1, h2⟩, h3⟩, h4⟩ := h1
  refine xcall_of hf hname hb hn he fun w X β rargs hl hr => ?_
  rw [three_args hl hr]
  exact ⟨_, run_add64 x y c h1 h2 h3 h4 w, pair_R _ _⟩

def sub64Entry : Array Value → Sem Value := fun args => do
  let (x, y, b) ← Extern.MathBitsCarry.three "Sub64" args
  pure (Extern.MathBitsCarry.pair ((x + Extern.MathBitsCarry.m64 - y - b) % Extern.MathBitsCarry.m64) (if x < y + b then 1 else 0))
theorem run_sub64 {P : Program} (x y c : Int) (hx : 0 ≤ x) (hy : 0 ≤ y) (hx1 : x < 18446744073709551616) (hy1 : y < 18446744073709551616) (hc0 : 0 ≤ c) (hc : c ≤ 1) (w : World) :
    (sub64Entry #[.int .u64 x, .int .u64 y, .int .u64 c]).run P w =
      .ok (.tuple #[.int .u64 ((x - y - c) % 18446744073709551616), .int .u64 (if x < y + c then 1 else 0)]) w := by
  have key : ∀ k : Nat, k ≤ 1 → (sub64Entry #[.int .u64 x, .int .u64 y, .int .u64 (k : Int)]).run P w =
      .ok (Extern.MathBitsCarry.pair ((x.toNat + Extern.MathBitsCarry.m64 - y.toNat - k) % Extern.MathBitsCarry.m64) (if x.toNat < y.toNat + k then 1 else 0)) w := by
    intro k hk
    have : k = 0 ∨ k = 1 := by omega
    rcases this with rfl | rfl <;> rfl
  obtain ⟨k, rfl⟩ := Int.eq_ofNat_of_zero_le hc0
  rw [key k (by omega)]
  obtain ⟨A, rfl⟩ := Int.eq_ofNat_of_zero_le hx
  obtain ⟨B, rfl⟩ := Int.eq_ofNat_of_zero_le hy
  have e1 : (((A + 18446744073709551616 - B - k) % 18446744073709551616 : Nat) : Int) = ((A : Int) - B - k) % 18446744073709551616 := by omega
  have e2 : ((if A < B + k then 1 else 0 : Nat) : Int) = if (A : Int) < (B : Int) + k then 1 else 0 := by
    by_cases h : A < B + k
    · rw [if_pos h, if_pos (by omega)]; rfl
    · rw [if_neg h, if_neg (by omega)]; rfl
  show Result.ok (Value.tuple #[.int .u64 (((A + 18446744073709551616 - B - k) % 18446744073709551616 : Nat) : Int), .int .u64 ((if A < B + k then 1 else 0 : Nat) : Int)]) w = _
  rw [e1, e2]
/-- A difference, and whether something was borrowed. -/
def sub64S : Spec := fun args => match args with
  | [.int .u64 x, .int .u64 y, .int .u64 c] => .req (decide (0 ≤ x) && decide (0 ≤ y) && decide (x < 18446744073709551616) && decide (y < 18446744073709551616) && decide (0 ≤ c) && decide (c ≤ 1))
      (.leaf (.tup [.int .u64 ((x - y - c) % 18446744073709551616), .int .u64 (cond (decide (x < y + c)) 1 0)]))
  | _ => .fail
theorem sub64S_ok {P : Program} {f : Nat} {fn : Func} (hf : P.funcs[f]? = some fn) (hname : (fn.name == "runtime.NumGoroutine") = false) (hb : fn.body.isNone = true) (hn : Extern.findNext fn = none)
    (he : Extern.find fn = some sub64Entry) : XSound P f sub64S := by
  intro args out h
  unfold sub64S at h
  split at h
  rotate_left
  · cases h
  rename_i x y c
  obtain ⟨h1, h⟩ := req_run h
  cases h
  simp only [Bool.and_eq_true, decide_eq_true_eq] at h1
  obtain ⟨⟨⟨⟨⟨h1, h2⟩, h3⟩, h4⟩, h5⟩, h6⟩ := h1
  refine xcall_of hf hname hb hn he fun w X β rargs hl hr => ?_
  rw [three_args hl hr]
  refine ⟨_, run_sub64 x y c h1 h2 h3 h4 h5 h6 w, ?_⟩
  have e : (if x < y + c then (1 : Int) else 0) = cond (decide (x < y + c)) 1 0 := by
    by_cases h : x < y + c
    · rw [if_pos h, decide_eq_true h]; rfl
    · rw [if_neg h, decide_eq_false h]; rfl
  rw [e]
  exact pair_R _ _

end Go.Ab
