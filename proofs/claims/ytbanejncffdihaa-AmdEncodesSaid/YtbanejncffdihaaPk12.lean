/-
  An instruction's bytes are bytes, one to ten; no instruction's bytes are the front of another's. Conditions: none.
-/
import Derived.Test.YtbanejncffdihaaPk11
import Derived.Test.YtbanejncffdihaaPk10
import Derived.Laws.Externs
import Derived.Lib.Bytealg
import Derived.Maps.RangeRun
import Derived.LoopN
set_option linter.unusedVariables false
set_option linter.unusedSimpArgs false
namespace Go.Amd
open Go Go.Ab Go.Proofs
theorem w8_b (x : Int) : IsB (w8 x) := by
  unfold w8
  rw [Go.Wd.wrap_u8]
  exact ⟨Int.emod_nonneg _ (by decide), Int.emod_lt_of_pos _ (by decide)⟩
def AllB (l : List Int) : Prop := ∀ c ∈ l, IsB c
theorem allB_nil : AllB [] := fun c h => by cases h
theorem allB_cons {c : Int} {l : List Int} (h : IsB c) (hl : AllB l) : AllB (c :: l) := fun d hd => by
  rcases List.mem_cons.1 hd with rfl | hd
  · exact h
  · exact hl d hd
theorem allB_app {l m : List Int} (hl : AllB l) (hm : AllB m) : AllB (l ++ m) := fun d hd => (List.mem_append.1 hd).elim (hl d) (hm d)
theorem im1_b (n : Int) : AllB (im1 n) := allB_cons (imB_b n 0) allB_nil
theorem im4_b (n : Int) : AllB (im4 n) := allB_cons (imB_b n 0) (allB_cons (imB_b n 8) (allB_cons (imB_b n 16) (allB_cons (imB_b n 24) allB_nil)))
theorem im8_b (n : Int) : AllB (im8 n) := allB_cons (imB_b n 0) (allB_cons (imB_b n 8) (allB_cons (imB_b n 16) (allB_cons (imB_b n 24) (allB_cons (imB_b n 32) (allB_cons (imB_b n 40) (allB_cons (imB_b n 48) (allB_cons (imB_b n 56) allB_nil)))))))
theorem immS_b (n : Int) : AllB (immS n) := by
  unfold immS
  cases fitsF n
  · exact im4_b n
  · exact im1_b n
theorem or8_b (a b : Int) : IsB (or8 a b) := w8_b _
theorem mrB_b (m a b : Int) : IsB (mrB m a b) := w8_b _
theorem mode_b {b n mod : Int} {imm : List Int} (h : ModeOk b n mod imm) : AllB imm ∧ imm.length ≤ 4 := by
  rcases h with ⟨-, rfl, -⟩ | ⟨-, rfl, -⟩ | ⟨-, rfl, -⟩
  · exact ⟨allB_nil, by simp⟩
  · exact ⟨im1_b n, by simp [im1]⟩
  · exact ⟨im4_b n, by simp [im4]⟩
theorem memP_b {a b c d n : Int} (hp : placeF b c d = true) : AllB (memP a b c d n).2 ∧ (memP a b c d n).2.length ≤ 6 ∧ 1 ≤ (memP a b c d n).2.length := by
  have key : ∀ {b c d : Int}, 0 ≤ b → b < 16 → AllB (memP a b c d n).2 ∧ (memP a b c d n).2.length ≤ 6 ∧ 1 ≤ (memP a b c d n).2.length := by
    intro b c d b0 b1
    obtain ⟨mod, imm, hm, e⟩ := memP_mode (a := a) (c := c) (d := d) (n := n) b0 b1
    obtain ⟨h1, h2⟩ := mode_b hm
    rw [e]
    unfold modP
    cases cond (c == 16) (andi b 7 != 4) false
    · rw [cond_false]
      refine ⟨allB_app (allB_app (allB_cons (mrB_b _ _ _) allB_nil) (allB_cons (mrB_b _ _ _) allB_nil)) h1, ?_, ?_⟩ <;> simp only [List.length_append, List.length_cons, List.length_nil] <;> omega
    · rw [cond_true]
      refine ⟨allB_app (allB_cons (mrB_b _ _ _) allB_nil) h1, ?_, ?_⟩ <;> simp only [List.length_append, List.length_cons, List.length_nil] <;> omega
  rcases place_rng hp with ⟨rfl, rfl, rfl⟩ | ⟨b0, rfl, rfl⟩ | ⟨b0, -, -, -⟩
  · exact ⟨allB_app (allB_cons (mrB_b 0 a 5) allB_nil) (im4_b n), show (1 + 4 : Nat) ≤ 6 by decide, show 1 ≤ (1 + 4 : Nat) by decide⟩
  · exact key b0.1 b0.2
  · exact key b0.1 b0.2
theorem rows_2 : rowsL.all (fun x => cond (formR x == 2) (decide (x.2.2.1 ≤ 255)) true) = true := by kernel_rfl
theorem front_b {x : RowT} (hx : x ∈ rowsL) {i : InsT} (h : okF x i.2.1 i.2.2.1 i.2.2.2.1 i.2.2.2.2.1 = true) : AllB (frontI x i) := by
  refine allB_app (allB_app ?_ ?_) ?_
  · unfold fsF
    cases (formR x == 10)
    · exact allB_nil
    · exact allB_cons ⟨by decide, by decide⟩ allB_nil
  · unfold rexL
    cases (x.2.1 == 0)
    · exact allB_cons (or8_b _ _) allB_nil
    · cases (rI x i != 0)
      · exact allB_nil
      · exact allB_cons (or8_b _ _) allB_nil
  · rcases (head_ok hx h).2 with ⟨e, -, hb⟩ | ⟨e, hb, -⟩
    · rw [e]; exact allB_cons hb allB_nil
    · rw [e]; exact allB_cons ⟨by decide, by decide⟩ (allB_cons hb allB_nil)
theorem tail_b {x : RowT} (hx : x ∈ rowsL) {i : InsT} (hf : faultyF x i = 0) : AllB (tailI x i) ∧ ((tailI x i).length ≤ 6 ∨ (formR x = 2 ∧ (tailI x i).length = 8)) := by
  have h := faulty_ok hf
  have hfm : formR x ∈ forms := by simpa [formOk] using List.all_eq_true.1 rows_forms x hx
  unfold forms at hfm
  simp only [List.mem_cons, List.not_mem_nil, or_false] at hfm
  have mr : ∀ (m a b : Int) {l : List Int}, AllB l → AllB (mrB m a b :: l) := fun m a b _ hl => allB_cons (mrB_b m a b) hl
  rcases hfm with e | e | e | e | e | e | e | e | e | e | e | e | e
  · rw [tail_0 e]; exact ⟨allB_nil, .inl (by decide)⟩
  · rw [tail_1 e]; exact ⟨allB_nil, .inl (by decide)⟩
  · rw [tail_2 e]; exact ⟨im8_b _, .inr ⟨e, rfl⟩⟩
  · rw [tail_3 e]; exact ⟨mr _ _ _ allB_nil, .inl (by simp)⟩
  · rw [tail_4 e]; exact ⟨mr _ _ _ (im4_b _), .inl (by simp [im4])⟩
  · rw [tail_5 e]; exact ⟨mr _ _ _ (im1_b _), .inl (by simp [im1])⟩
  · rw [tail_6 e]; refine ⟨mr _ _ _ (immS_b _), .inl ?_⟩
    unfold immS
    cases fitsF i.2.2.2.2.2 <;> simp [im1, im4]
  · rw [tail_7 e]; exact ⟨mr _ _ _ allB_nil, .inl (by simp)⟩
  · rw [tail_8 e]; exact ⟨mr _ _ _ allB_nil, .inl (by simp)⟩
  · rw [tail_9 e]
    have hp : placeF i.2.2.1 i.2.2.2.1 i.2.2.2.2.1 = true := by
      rcases ok_parts h with ⟨-, -, h3⟩ | ⟨h1, -⟩
      · exact h3
      · unfold uM at h1; rw [e] at h1; cases h1
    obtain ⟨h1, h2, -⟩ := memP_b (a := i.2.1) (n := i.2.2.2.2.2) hp
    exact ⟨h1, .inl h2⟩
  · rw [tail_10 e]; exact ⟨mr _ _ _ (allB_cons ⟨by decide, by decide⟩ (im4_b _)), .inl (by simp [im4])⟩
  · rw [tail_11 e]; exact ⟨im4_b _, .inl (by simp [im4])⟩
  · rw [tail_12 e]; exact ⟨im1_b _, .inl (by simp [im1])⟩
theorem enc_bytes {i : InsT} (he : encE i = 0) : AllB (encL i) ∧ 1 ≤ (encL i).length ∧ (encL i).length ≤ 10 := by
  obtain ⟨hx, hn, hf⟩ := enc_row he
  rw [enc_split]
  generalize frow i.1 = x at hx hn hf
  have h := faulty_ok hf
  obtain ⟨t1, t2⟩ := tail_b hx hf
  have hl := front_len hx i
  have h10 := (rex_of hx).2.2
  refine ⟨allB_app (front_b hx h) t1, ?_, ?_⟩
  · rw [List.length_append]
    have : 1 ≤ takN x i := by
      unfold takN
      cases takF x
      · rw [cond_false]
        cases takH x i <;> cases decide (255 < x.2.2.1) <;> decide
      · rw [cond_true]; omega
    omega
  · rw [List.length_append]
    have h3 : takN x i ≤ 3 ∧ (formR x = 2 → takN x i ≤ 2) := by
      unfold takN takF
      by_cases e : formR x = 10
      · rw [e]; exact ⟨show (3 : Int) ≤ 3 by omega, fun h => by omega⟩
      · rw [beq_eq_false_iff_ne.2 e, cond_false]
        refine ⟨?_, fun h2 => ?_⟩
        · cases takH x i <;> cases decide (255 < x.2.2.1) <;> decide
        · have := List.all_eq_true.1 rows_2 x hx
          rw [h2] at this
          have hle : x.2.2.1 ≤ 255 := of_decide_eq_true this
          rw [decide_eq_false (by omega)]
          cases takH x i <;> decide
    rcases t2 with t2 | ⟨t2, t3⟩
    · omega
    · have := h3.2 t2
      omega
end Go.Amd

namespace Go.Ab
structure Fi where
  f : Nat
  fn : Func
  keeps : List Nat
  refs : List Nat := []
  fuel : Nat := 0
  lz : List Nat := []
structure Tabs where
  tab : List (Nat × Spec) := []
  mtab : List (Nat × MSpec) := []
  rtab : List (Nat × RSpec) := []
  globs : List (Nat × List V) := []
  nums : List Nat := []
def Tabs.Ok (P : Program) (T : Tabs) : Prop := TabOk P T.tab ∧ MTabOk P T.mtab ∧ RTabOk P T.rtab ∧ ∀ p ∈ T.globs, p ∈ globsOf P
def Fi.cx (P : Program) (T : Tabs) (i : Fi) : Cx := { P := P, n := i.fn.ntmps, tab := T.tab, mtab := T.mtab, refs := i.refs, keeps := i.keeps, fuel := i.fuel, rtab := T.rtab, globs := T.globs, lz := i.lz, nums := T.nums }
def Fi.spec (P : Program) (T : Tabs) (i : Fi) : Nat × Spec := (i.f, fun args => .req (Nat.ble args.length i.fn.ntmps) (dfun (i.cx P T) i.fn args))
def Fi.mspec (P : Program) (T : Tabs) (i : Fi) : Nat × MSpec := (i.f, fun args H => .req (Nat.ble args.length i.fn.ntmps) (mfun (i.cx P T) i.fn args H))
def deep (P : Program) (T : Tabs) (ps ms : List Fi) : Nat → Tabs
  | 0 => T
  | d + 1 => { tab := ps.map (Fi.spec P (deep P T ps ms d)) ++ T.tab, mtab := ms.map (Fi.mspec P (deep P T ps ms d)) ++ T.mtab, rtab := T.rtab, globs := T.globs, nums := T.nums }
def FisOk (P : Program) : List Fi → Prop
  | [] => True
  | i :: r => (P.funcs[i.f]? = some i.fn ∧ (i.fn.name == "runtime.NumGoroutine") = false) ∧ FisOk P r
theorem FisOk.get {P : Program} : ∀ {l : List Fi}, FisOk P l → ∀ i ∈ l, P.funcs[i.f]? = some i.fn ∧ (i.fn.name == "runtime.NumGoroutine") = false
  | [], _, i, h => by cases h
  | j :: r, h, i, hi => by
    rcases List.mem_cons.1 hi with rfl | hi
    · exact h.1
    · exact FisOk.get h.2 i hi
theorem deep_ok {P : Program} {T : Tabs} {ps ms : List Fi} (hT : T.Ok P) (hps : FisOk P ps) (hms : FisOk P ms) : ∀ d, (deep P T ps ms d).Ok P
  | 0 => hT
  | d + 1 => by
    have ih := deep_ok hT hps hms d
    refine ⟨fun p hp => ?_, fun p hp => ?_, hT.2.2⟩
    · rcases List.mem_append.1 hp with hp | hp
      · obtain ⟨i, hi, rfl⟩ := List.mem_map.1 hp
        obtain ⟨h1, h2⟩ := hps.get i hi
        exact .inl (sound_fun (cx := i.cx P (deep P T ps ms d)) ih h1 h2)
      · exact hT.1 p hp
    · rcases List.mem_append.1 hp with hp | hp
      · obtain ⟨i, hi, rfl⟩ := List.mem_map.1 hp
        obtain ⟨h1, h2⟩ := hms.get i hi
        exact msound_fun (cx := i.cx P (deep P T ps ms d)) ih h1 h2
      · exact hT.2.1 p hp
end Go.Ab

namespace Go.Ab
open Go
noncomputable def Tree.fin {α : Type} (t : Tree α) : Option α :=
  Tree.rec (motive := fun _ => Option α) (fun b => some b) none (fun c _ _ x y => Bool.rec (motive := fun _ => Option α) y x c) t
theorem Tree.fin_run {α : Type} : ∀ t : Tree α, t.fin = t.run
  | .leaf _ => rfl
  | .fail => rfl
  | .br true x _ => Tree.fin_run x
  | .br false _ y => Tree.fin_run y
end Go.Ab

namespace Go.Amd
open Go Go.Ab Go.Proofs
def bO (b : Bool) : Option V := some (.bool b)
noncomputable def cx37 : Cx := { P := Try.prog, n := 15, tab := [], mtab := [], refs := [], keeps := [0, 1, 4, 6] }
noncomputable def cx39 : Cx := { P := Try.prog, n := 17, tab := [], mtab := [], refs := [], keeps := [0, 2] }
noncomputable def cx40 : Cx := { P := Try.prog, n := 9, tab := [], mtab := [], refs := [], keeps := [0, 2] }
noncomputable def cx41 : Cx := { P := Try.prog, n := 9, tab := [], mtab := [], refs := [], keeps := [0, 2] }
def regX (u : Bool) (n : Int) : Bool := cond u (cond (decide (0 ≤ n)) (decide (n ≤ 15)) false) (n == 0)
def condX (d : Int) : Bool := cond (cond (decide (0 ≤ d)) (decide (d ≤ 9)) false) true (cond (decide (12 ≤ d)) (decide (d ≤ 15)) false)
def longX (n : Int) : Bool := cond (decide (-2147483648 ≤ n)) (decide (n < 2147483648)) false
def shortX (n : Int) : Bool := cond (decide (-128 ≤ n)) (decide (n < 128)) false
theorem regX_eq (u : Bool) (n : Int) : (dfun cx37 Try.f37 [.bool u, .int .i64 n]).fin = cond (!u) (bO (n == 0)) (cond (decide (0 ≤ n)) (bO (decide (n ≤ 15))) (bO false)) := by kernel_rfl
theorem condX_eq (d : Int) : (dfun cx39 Try.f39 [.int .i64 d]).fin = cond (decide (0 ≤ d)) (cond (decide (d ≤ 9)) (bO true) (cond (decide (12 ≤ d)) (bO (decide (d ≤ 15))) (bO false))) (cond (decide (12 ≤ d)) (bO (decide (d ≤ 15))) (bO false)) := by kernel_rfl
theorem longX_eq (n : Int) : (dfun cx40 Try.f40 [.int .i64 n]).fin = cond (decide (-2147483648 ≤ n)) (bO (decide (n < 2147483648))) (bO false) := by kernel_rfl
theorem shortX_eq (n : Int) : (dfun cx41 Try.f41 [.int .i64 n]).fin = cond (decide (-128 ≤ n)) (bO (decide (n < 128))) (bO false) := by kernel_rfl
def regXS : Ab.Spec := fun args => match args with
  | [.bool u, .int .i64 n] => .leaf (.bool (regX u n))
  | _ => .fail
def condXS : Ab.Spec := fun args => match args with
  | [.int .i64 d] => .leaf (.bool (condX d))
  | _ => .fail
def longXS : Ab.Spec := fun args => match args with
  | [.int .i64 n] => .leaf (.bool (longX n))
  | _ => .fail
def shortXS : Ab.Spec := fun args => match args with
  | [.int .i64 n] => .leaf (.bool (shortX n))
  | _ => .fail
theorem regXS_ok : Sound Try.prog 37 regXS := by
  intro args out h
  unfold regXS at h
  split at h
  rotate_left
  · cases h
  rename_i u n
  cases h
  refine pcall_fun' (cx := cx37) (fn := Try.f37) (cx0_ok rfl rfl) (by kernel_rfl) (by kernel_rfl) (by kernel_rfl) ?_
  rw [← Tree.fin_run, regX_eq]
  unfold regX
  cases u <;> cases decide (0 ≤ n) <;> rfl
theorem condXS_ok : Sound Try.prog 39 condXS := by
  intro args out h
  unfold condXS at h
  split at h
  rotate_left
  · cases h
  rename_i d
  cases h
  refine pcall_fun' (cx := cx39) (fn := Try.f39) (cx0_ok rfl rfl) (by kernel_rfl) (by kernel_rfl) (by kernel_rfl) ?_
  rw [← Tree.fin_run, condX_eq]
  unfold condX
  cases decide (0 ≤ d) <;> cases decide (d ≤ 9) <;> cases decide (12 ≤ d) <;> rfl
theorem longXS_ok : Sound Try.prog 40 longXS := by
  intro args out h
  unfold longXS at h
  split at h
  rotate_left
  · cases h
  rename_i n
  cases h
  refine pcall_fun' (cx := cx40) (fn := Try.f40) (cx0_ok rfl rfl) (by kernel_rfl) (by kernel_rfl) (by kernel_rfl) ?_
  rw [← Tree.fin_run, longX_eq]
  unfold longX
  cases decide (-2147483648 ≤ n) <;> rfl
theorem shortXS_ok : Sound Try.prog 41 shortXS := by
  intro args out h
  unfold shortXS at h
  split at h
  rotate_left
  · cases h
  rename_i n
  cases h
  refine pcall_fun' (cx := cx41) (fn := Try.f41) (cx0_ok rfl rfl) (by kernel_rfl) (by kernel_rfl) (by kernel_rfl) ?_
  rw [← Tree.fin_run, shortX_eq]
  unfold shortX
  cases decide (-128 ≤ n) <;> rfl
noncomputable def cx38 : Cx := { P := Try.prog, n := 52, tab := [(37, regXS)], mtab := [], refs := [], keeps := [0, 1, 2, 5, 22, 25] }
def placeX (b c d : Int) : Bool := cond (b == 17) (cond (c == 16) (d == 0) false) (cond (regX true b) (cond (c == 4) false (cond (c == 16) (d == 0) (cond (regX true c) (cond (d == 1) true (cond (d == 2) true (cond (d == 4) true (d == 8)))) false))) false)
def placeXT (_nm : List UInt8) (_a b c d _n : Int) : Tree V :=
  (.br (b == 17) (.br (c == 16) (.leaf (.bool (d == 0))) (.leaf (.bool false))) (.br (!regX true b) (.leaf (.bool false)) (.br (c == 4) (.leaf (.bool false)) (.br (c == 16) (.leaf (.bool (d == 0))) (.br (regX true c) (.br (d == 1) (.leaf (.bool true)) (.br (d == 2) (.leaf (.bool true)) (.br (d == 4) (.leaf (.bool true)) (.leaf (.bool (d == 8)))))) (.leaf (.bool false)))))))
theorem placeXT_eq (nm : List UInt8) (a b c d n : Int) : (dfun cx38 Try.f38 [.agg [.str nm, .int .i64 a, .int .i64 b, .int .i64 c, .int .i64 d, .int .i64 n]]).run = (placeXT nm a b c d n).run :=
  (show (dfun cx38 Try.f38 [.agg [.str nm, .int .i64 a, .int .i64 b, .int .i64 c, .int .i64 d, .int .i64 n]]).run = (placeXT nm a b c d n).out by kernel_rfl).trans (Tree.out_run _)
end Go.Amd

namespace Go.Amd
open Go Go.Ab Go.Proofs
theorem placeXT_run (nm : List UInt8) (a b c d n : Int) : (placeXT nm a b c d n).run = some (.bool (placeX b c d)) := by
  unfold placeXT placeX
  simp only [br_run]
  cases b == 17
  · cases regX true b
    · rfl
    · cases c == 4
      · cases c == 16
        · cases regX true c
          · rfl
          · cases d == 1 <;> cases d == 2 <;> cases d == 4 <;> rfl
        · rfl
      · rfl
  · cases c == 16 <;> rfl
def placeXS : Ab.Spec := fun args => match args with
  | [.agg [.str _, .int .i64 _, .int .i64 b, .int .i64 c, .int .i64 d, .int .i64 _]] => .leaf (.bool (placeX b c d))
  | _ => .fail
theorem placeXS_ok : Sound Try.prog 38 placeXS := by
  intro args out h
  unfold placeXS at h
  split at h
  rotate_left
  · cases h
  rename_i nm a b c d n
  cases h
  exact pcall_fun' (cx := cx38) (fn := Try.f38) (cx1_ok (ok1 regXS_ok) (.nil _) rfl rfl) (by kernel_rfl) (by kernel_rfl) (by kernel_rfl) ((placeXT_eq nm a b c d n).trans (placeXT_run nm a b c d n))
def findF (q : List UInt8 → Bool) (f : Int) (x : List UInt8) (op : List Int) (dg rx : Int) : Ab.Spec := fun args => match args with
  | [.str nm] => .req (q nm) (.leaf (.tup [.agg [.str x, .int .i64 f, .sl (.int .u8) op [] .ro, .int .i64 dg, .int .i64 rx], .bool true]))
  | _ => .fail
noncomputable def cxCk (q : List UInt8 → Bool) (f : Int) (x : List UInt8) (op : List Int) (dg rx : Int) : Cx := { P := Try.prog, n := Try.f19.ntmps, tab := [(36, findF q f x op dg rx), (37, regXS), (39, condXS), (40, longXS), (41, shortXS), (38, placeXS)], mtab := [], refs := [], keeps := [0, 1, 2, 3, 4, 5, 6, 7, 8, 16, 52, 79, 93, 94, 97, 98, 100, 110, 120, 127] }
noncomputable abbrev ckE (q : List UInt8 → Bool) (f : Int) (x : List UInt8) (op : List Int) (dg rx : Int) (nm : List UInt8) (a b c d n : Int) : Tree V := dfun (cxCk q f x op dg rx) Try.f19 [.agg [.str nm, .int .i64 a, .int .i64 b, .int .i64 c, .int .i64 d, .int .i64 n]]
def e13 : Option V := some (.int .i64 13)
def e3 : Option V := some (.int .i64 3)
def e0 : Option V := some (.int .i64 0)
def hasA (f : Int) : Bool := !(f == 9 || (f == 13 || (f == 14 || (f == 15 || f == 16))))
def twoX (f : Int) : Bool := f == 1 || (f == 7 || f == 11)
def cndX (f : Int) : Bool := f == 11 || (f == 15 || f == 16)
def noneX (f : Int) : Bool := f == 1 || (f == 7 || (f == 8 || (f == 9 || (f == 11 || f == 12))))
def shrtX (f : Int) : Bool := f == 14 || f == 16
def goodK (f a b c d : Int) (k : Option V) : Option V :=
  cond (regX (hasA f) a) (cond (f == 4) (cond (!placeX b c d) e13 k) (cond (regX (twoX f) b) (cond (c == 0) (cond (cndX f) (cond (!condX d) e13 k) (cond (!(d == 0)) e13 k)) e13) e13)) e13
def tailK (f n : Int) : Option V :=
  cond (noneX f) (cond (n != 0) e13 e0) (cond (f == 2) e0 (cond (f == 10) (cond (decide (0 ≤ n)) (cond (!decide (n ≤ 63)) e3 e0) e3) (cond (shrtX f) (cond (!shortX n) e3 e0) (cond (!longX n) e3 e0))))
def formsX : List Int := [1, 2, 3, 4, 5, 6, 7, 8, 9, 10, 11, 12, 13, 14, 15, 16]
noncomputable def ckO (q : List UInt8 → Bool) (f : Int) (x : List UInt8) (op : List Int) (dg rx : Int) (nm : List UInt8) (a b c d n : Int) : Option V := (ckE q f x op dg rx nm a b c d n).fin
def ckP (q : List UInt8 → Bool) (f : Int) (_ : List UInt8) (_ : List Int) (_ _ : Int) (nm : List UInt8) (a b c d n : Int) : Option V := cond (q nm) (goodK f a b c d (tailK f n)) none
theorem ck_all (q : List UInt8 → Bool) : formsX.map (ckO q) = formsX.map (ckP q) := by kernel_rfl
def okX (f a b c d : Int) : Bool := regX (hasA f) a && (cond (f == 4) (placeX b c d) (regX (twoX f) b && ((c == 0) && cond (cndX f) (condX d) (d == 0))))
def numX (f n : Int) : Int := cond (noneX f) (cond (n != 0) 13 0) (cond (f == 2) 0 (cond (f == 10) (cond (decide (0 ≤ n) && decide (n ≤ 63)) 0 3) (cond (cond (shrtX f) (shortX n) (longX n)) 0 3)))
def chkX (f a b c d n : Int) : Int := cond (okX f a b c d) (numX f n) 13
theorem goodK_eq (f a b c d n : Int) : goodK f a b c d (tailK f n) = some (.int .i64 (chkX f a b c d n)) := by
  unfold goodK tailK chkX okX numX e13 e3 e0
  cases regX (hasA f) a
  · rfl
  cases f == 4
  · cases regX (twoX f) b
    · rfl
    cases c == 0
    · rfl
    cases cndX f
    · cases d == 0
      · rfl
      cases noneX f
      · cases f == 2
        · cases f == 10
          · cases shrtX f
            · cases longX n <;> rfl
            · cases shortX n <;> rfl
          · cases decide (0 ≤ n) <;> cases decide (n ≤ 63) <;> rfl
        · rfl
      · cases n != 0 <;> rfl
    · cases condX d
      · rfl
      cases noneX f
      · cases f == 2
        · cases f == 10
          · cases shrtX f
            · cases longX n <;> rfl
            · cases shortX n <;> rfl
          · cases decide (0 ≤ n) <;> cases decide (n ≤ 63) <;> rfl
        · rfl
      · cases n != 0 <;> rfl
  · cases placeX b c d
    · rfl
    cases noneX f
    · cases f == 2
      · cases f == 10
        · cases shrtX f
          · cases longX n <;> rfl
          · cases shortX n <;> rfl
        · cases decide (0 ≤ n) <;> cases decide (n ≤ 63) <;> rfl
      · rfl
    · cases n != 0 <;> rfl
theorem formX_in : rowsX.all (fun x => formsX.contains x.2.1 && x.2.2.1.isSome) = true := by kernel_rfl
theorem row_op {y : RowX} (hy : y ∈ rowsX) : ∃ op, y.2.2.1 = some op ∧ y.2.1 ∈ formsX := by
  have h := List.all_eq_true.1 formX_in _ hy
  obtain ⟨h1, h2⟩ := Bool.and_eq_true_iff.1 h
  obtain ⟨op, ho⟩ := Option.isSome_iff_exists.1 h2
  exact ⟨op, ho, by simpa using h1⟩
theorem findF_ok {y : RowX} {op : List Int} (ho : y.2.2.1 = some op) : Sound Try.prog 36 (findF (fun nm => isRow nm y) y.2.1 y.1 op y.2.2.2.1 y.2.2.2.2) := by
  intro args out h
  unfold findF at h
  split at h
  rotate_left
  · cases h
  rename_i nm
  refine findAt_ok y _ _ ?_
  rw [← h]
  show (Tree.req _ (.leaf (V.tup [.agg [.str y.1, .int .i64 y.2.1, slO y.2.2.1, .int .i64 y.2.2.2.1, .int .i64 y.2.2.2.2], .bool true]))).run = _
  rw [ho]
  rfl
noncomputable def cxCn : Cx := { P := Try.prog, n := Try.f19.ntmps, tab := [(36, findNo), (37, regXS), (39, condXS), (40, longXS), (41, shortXS), (38, placeXS)], mtab := [], refs := [], keeps := [0, 1, 2, 3, 4, 5, 6, 7, 8, 16, 52, 79, 93, 94, 97, 98, 100, 110, 120, 127] }
theorem ckNo_eq (nm : List UInt8) (a b c d n : Int) : (dfun cxCn Try.f19 [.agg [.str nm, .int .i64 a, .int .i64 b, .int .i64 c, .int .i64 d, .int .i64 n]]).fin = cond (!fokX nm) (some (.int .i64 7)) none := by kernel_rfl
def checkX (i : InsT) : Int := cond (fokX i.1) (chkX (frowX i.1).2.1 i.2.1 i.2.2.1 i.2.2.2.1 i.2.2.2.2.1 i.2.2.2.2.2) 7
def checkS : Ab.Spec := fun args => match args with
  | [.agg [.str nm, .int .i64 a, .int .i64 b, .int .i64 c, .int .i64 d, .int .i64 n]] => .leaf (.int .i64 (checkX (nm, a, b, c, d, n)))
  | _ => .fail
theorem tab_ok {s : Ab.Spec} (h : Sound Try.prog 36 s) : TabOk Try.prog [(36, s), (37, regXS), (39, condXS), (40, longXS), (41, shortXS), (38, placeXS)] :=
  .cons h (.cons regXS_ok (.cons condXS_ok (.cons longXS_ok (.cons shortXS_ok (ok1 placeXS_ok)))))
theorem checkS_ok : Sound Try.prog 19 checkS := by
  intro args out h
  unfold checkS at h
  split at h
  rotate_left
  · cases h
  rename_i nm a b c d n
  cases h
  unfold checkX
  cases hf : fokX nm
  · refine pcall_fun' (cx := cxCn) (fn := Try.f19) (cx1_ok (tab_ok findNo_ok) (.nil _) rfl rfl) (by kernel_rfl) (by kernel_rfl) (by kernel_rfl) ?_
    rw [← Tree.fin_run, ckNo_eq, hf]
    rfl
  · obtain ⟨_, hx, hr⟩ := row_of hf
    obtain ⟨op, ho, hm⟩ := row_op hx
    generalize frowX nm = y at hx hr ho hm
    refine pcall_fun' (cx := cxCk (fun nm => isRow nm y) y.2.1 y.1 op y.2.2.2.1 y.2.2.2.2) (fn := Try.f19) (cx1_ok (tab_ok (findF_ok ho)) (.nil _) rfl rfl) (by kernel_rfl) (by kernel_rfl) (by kernel_rfl) ?_
    rw [← Tree.fin_run]
    have key := of_map_eq (ck_all (fun nm => isRow nm y)) hm
    have k2 := congrFun (congrFun (congrFun (congrFun (congrFun (congrFun (congrFun (congrFun (congrFun (congrFun key y.1) op) y.2.2.2.1) y.2.2.2.2) nm) a) b) c) d) n
    unfold ckO ckP at k2
    refine k2.trans ?_
    rw [goodK_eq]
    show cond (isRow nm y) _ none = _
    rw [hr]
    rfl
end Go.Amd

namespace Go.Amd
open Go Go.Ab Go.Proofs
theorem regX_eq' (u : Bool) (n : Int) : regX u n = regF n u := by
  unfold regX regF
  by_cases h0 : n = 0
  · subst h0
    cases u <;> rfl
  · have e : (n == 0) = false := by simpa using h0
    rw [e]
    cases u
    · rfl
    · by_cases h1 : 0 < n
      · rw [decide_eq_true h1, decide_eq_true (show 0 ≤ n by omega)]
        rfl
      · rw [decide_eq_false h1, decide_eq_false (show ¬ 0 ≤ n by omega)]
        rfl
theorem condX_eq' (d : Int) : condX d = condF d := rfl
theorem placeX_eq' (b c d : Int) : placeX b c d = placeF b c d := by
  unfold placeX placeF baseF
  rw [regX_eq', regX_eq']
  by_cases hb : b = 17
  · subst hb
    by_cases hc : c = 16
    · subst hc
      rfl
    · have e : (c == 16) = false := by simpa using hc
      rw [e]
      rfl
  · have e : (b == 17) = false := by simpa using hb
    have e2 : (b != 17) = true := by simpa using hb
    have er : regF b true = cond (decide (0 ≤ b)) (decide (b ≤ 15)) false := by
      rw [← regX_eq']
      rfl
    have ec : regF c true = cond (decide (0 ≤ c)) (decide (c ≤ 15)) false := by
      rw [← regX_eq']
      rfl
    rw [e, e2, er, ec]
    simp only [cond_false, cond_true]
    by_cases h0 : 0 ≤ b <;> by_cases h1 : b ≤ 15
    all_goals
      first | rw [decide_eq_true h0] | rw [decide_eq_false h0]
      first | rw [decide_eq_true h1] | rw [decide_eq_false h1]
      simp only [cond_false, cond_true]
    · by_cases hc : c = 16
      · subst hc
        rfl
      have e3 : (c == 16) = false := by simpa using hc
      rw [e3]
      unfold scaleF bne
      cases c == 4 <;> cases decide (0 ≤ c) <;> cases decide (c ≤ 15) <;> rfl
    all_goals
      cases c == 16 <;> rfl
theorem longX_eq' (n : Int) : longX n = (!decide (n < -2147483648) && !decide (2147483647 < n)) := by
  unfold longX
  by_cases h0 : -2147483648 ≤ n
  · rw [decide_eq_true h0, decide_eq_false (show ¬ n < -2147483648 by omega)]
    by_cases h1 : n < 2147483648
    · rw [decide_eq_true h1, decide_eq_false (show ¬ 2147483647 < n by omega)]
      rfl
    · rw [decide_eq_false h1, decide_eq_true (show 2147483647 < n by omega)]
      rfl
  · rw [decide_eq_false h0, decide_eq_true (show n < -2147483648 by omega)]
    rfl
theorem shortX_eq' (n : Int) : shortX n = (!decide (n < -128) && !decide (127 < n)) := by
  unfold shortX
  by_cases h0 : -128 ≤ n
  · rw [decide_eq_true h0, decide_eq_false (show ¬ n < -128 by omega)]
    by_cases h1 : n < 128
    · rw [decide_eq_true h1, decide_eq_false (show ¬ 127 < n by omega)]
      rfl
    · rw [decide_eq_false h1, decide_eq_true (show 127 < n by omega)]
      rfl
  · rw [decide_eq_false h0, decide_eq_true (show n < -128 by omega)]
    rfl
def i64r (n : Int) : Bool := decide (-9223372036854775808 ≤ n) && decide (n ≤ 9223372036854775807)
theorem range_eq (n lo hi : Int) : cond (!decide (n < lo) && !decide (hi < n)) (0 : Int) 3 = cond (decide (n < lo)) 3 (cond (decide (hi < n)) 3 0) := by
  cases decide (n < lo) <;> cases decide (hi < n) <;> rfl
def okP (m hA hB cn : Bool) (a b c d : Int) : Bool := cond m (cond (regF a hA) (placeF b c d) false) (cond (regF a hA) (cond (regF b hB) (cond (c == 0) (cond (d == 0) true (cond cn (condF d) false)) false) false) false)
theorem okX_eq (f a b c d : Int) : okX f a b c d = okP (f == 4) (hasA f) (twoX f) (cndX f) a b c d := by
  unfold okX okP
  rw [regX_eq', regX_eq', placeX_eq', condX_eq']
  by_cases hd : d = 0
  · subst hd
    cases f == 4 <;> cases regF a (hasA f) <;> cases regF b (twoX f) <;> cases c == 0 <;> cases cndX f <;> rfl
  · have e : (d == 0) = false := by simpa using hd
    rw [e]
    cases f == 4 <;> cases regF a (hasA f) <;> cases regF b (twoX f) <;> cases c == 0 <;> cases cndX f <;> rfl
theorem okF_conv {f : Int} (hf : f ∈ formsX) (nm : List UInt8) (op : Option (List Int)) (dg rx a b c d : Int) : okF (conv (nm, f, op, dg, rx)) a b c d = okX f a b c d := by
  rw [okX_eq]
  simp only [formsX, List.mem_cons, List.not_mem_nil, or_false] at hf
  rcases hf with rfl | rfl | rfl | rfl | rfl | rfl | rfl | rfl | rfl | rfl | rfl | rfl | rfl | rfl | rfl | rfl <;> rfl
theorem chk_form : ∀ f ∈ formsX, ∀ (nm : List UInt8) (op : Option (List Int)) (dg rx : Int) (i : InsT), i64r i.2.2.2.2.2 = true → chkX f i.2.1 i.2.2.1 i.2.2.2.1 i.2.2.2.2.1 i.2.2.2.2.2 = faultyF (conv (nm, f, op, dg, rx)) i := by
  intro f hf nm op dg rx i hn
  unfold chkX
  have h63 : (decide (0 ≤ i.2.2.2.2.2) && decide (i.2.2.2.2.2 ≤ 63)) = (!decide (i.2.2.2.2.2 < 0) && !decide (63 < i.2.2.2.2.2)) := by
    by_cases h0 : 0 ≤ i.2.2.2.2.2
    · rw [decide_eq_true h0, decide_eq_false (show ¬ i.2.2.2.2.2 < 0 by omega)]
      by_cases h1 : i.2.2.2.2.2 ≤ 63
      · rw [decide_eq_true h1, decide_eq_false (show ¬ 63 < i.2.2.2.2.2 by omega)]
        rfl
      · rw [decide_eq_false h1, decide_eq_true (show 63 < i.2.2.2.2.2 by omega)]
        rfl
    · rw [decide_eq_false h0, decide_eq_true (show i.2.2.2.2.2 < 0 by omega)]
      rfl
  have hw : cond (decide (i.2.2.2.2.2 < -9223372036854775808)) (3 : Int) (cond (decide (9223372036854775807 < i.2.2.2.2.2)) 3 0) = 0 := by
    unfold i64r at hn
    simp only [Bool.and_eq_true, decide_eq_true_eq] at hn
    rw [decide_eq_false (by omega), decide_eq_false (by omega)]
    rfl
  unfold numX
  rw [longX_eq', shortX_eq', h63]
  unfold faultyF tailF
  rw [okF_conv hf]
  generalize okX f i.2.1 i.2.2.1 i.2.2.2.1 i.2.2.2.2.1 = o
  cases o
  · rfl
  simp only [formsX, List.mem_cons, List.not_mem_nil, or_false] at hf
  rcases hf with rfl | rfl | rfl | rfl | rfl | rfl | rfl | rfl | rfl | rfl | rfl | rfl | rfl | rfl | rfl | rfl
  all_goals
    first
      | rfl
      | exact hw.symm
      | exact range_eq _ _ _
theorem check_eq {i : InsT} (hn : i64r i.2.2.2.2.2 = true) : checkX i = encE i := by
  unfold checkX encE
  rw [fok_eq]
  cases hf : fokX i.1
  · rfl
  · obtain ⟨h1, h2⟩ := frow_eq hf
    obtain ⟨op, ho, hm⟩ := row_op h2
    rw [h1]
    exact chk_form _ hm (frowX i.1).1 (frowX i.1).2.2.1 (frowX i.1).2.2.2.1 (frowX i.1).2.2.2.2 i hn
end Go.Amd

namespace Go.Amd
open Go Go.Ab Go.Proofs
noncomputable def cx42 : Cx := { P := Try.prog, n := 20, tab := [], mtab := [], refs := [], keeps := [0, 1, 4, 5, 6, 9], fuel := 9 }
noncomputable def cx43 : Cx := { P := Try.prog, n := 15, tab := [], mtab := [], refs := [], keeps := [0, 1, 4] }
def sh8 (n : Int) : Int := Int.fdiv n (2 ^ 8)
def u8 (n : Int) : Int := IntKind.wrap .u8 n
def fx4 (n : Int) : List Int := [u8 n, u8 (sh8 n), u8 (sh8 (sh8 n)), u8 (sh8 (sh8 (sh8 n)))]
def fx8 (n : Int) : List Int := fx4 n ++ fx4 (sh8 (sh8 (sh8 (sh8 n))))
theorem fix4_eq (n : Int) : (dfun cx42 Try.f42 [.int .u64 n, .int .i64 4]).fin = some (.sl (.int .u8) (fx4 n) [] .ro) := by kernel_rfl
theorem fix8_eq (n : Int) : (dfun cx42 Try.f42 [.int .u64 n, .int .i64 8]).fin = some (.sl (.int .u8) (fx8 n) [] .ro) := by kernel_rfl
def fixS : Ab.Spec := fun args => match args with
  | [.int .u64 n, .int .i64 4] => .leaf (.sl (.int .u8) (fx4 n) [] .ro)
  | [.int .u64 n, .int .i64 8] => .leaf (.sl (.int .u8) (fx8 n) [] .ro)
  | _ => .fail
theorem fixS_ok : Sound Try.prog 42 fixS := by
  intro args out h
  unfold fixS at h
  split at h
  · rename_i n
    cases h
    refine pcall_fun' (cx := cx42) (fn := Try.f42) (cx0_ok rfl rfl) (by kernel_rfl) (by kernel_rfl) (by kernel_rfl) ?_
    rw [← Tree.fin_run]
    exact fix4_eq n
  · rename_i n
    cases h
    refine pcall_fun' (cx := cx42) (fn := Try.f42) (cx0_ok rfl rfl) (by kernel_rfl) (by kernel_rfl) (by kernel_rfl) ?_
    rw [← Tree.fin_run]
    exact fix8_eq n
  · cases h
def sl8 (x : Int) (k : Nat) : Int := IntKind.wrap .u8 (x * 2 ^ k)
def orB (a b : Int) : Int := IntKind.wrap .u8 (((BitVec.ofInt 8 a ||| BitVec.ofInt 8 b).toNat : Nat) : Int)
def dirB (r m : Int) : Int := orB (orB 192 (sl8 (u8 (Int.tmod r 8)) 3)) (u8 (Int.tmod m 8))
theorem dir_eq (r m : Int) : (dfun cx43 Try.f43 [.int .i64 r, .int .i64 m]).fin = some (.sl (.int .u8) [dirB r m] [] .full) := by kernel_rfl
def dirS : Ab.Spec := fun args => match args with
  | [.int .i64 r, .int .i64 m] => .leaf (.sl (.int .u8) [dirB r m] [] .full)
  | _ => .fail
theorem dirS_ok : Sound Try.prog 43 dirS := by
  intro args out h
  unfold dirS at h
  split at h
  rotate_left
  · cases h
  rename_i r m
  cases h
  refine pcall_fun' (cx := cx43) (fn := Try.f43) (cx0_ok rfl rfl) (by kernel_rfl) (by kernel_rfl) (by kernel_rfl) ?_
  rw [← Tree.fin_run]
  exact dir_eq r m
section
variable (q : List UInt8 → Bool) (f : Int) (x : List UInt8) (op : List Int) (dg rx : Int)
noncomputable def bdB : Tabs := { tab := [(36, findF q f x op dg rx), (42, fixS), (43, dirS), (41, shortXS)] }
end
section
variable (q : List UInt8 → Bool) (f : Int) (x : List UInt8) (op : List Int) (dg rx : Int)
noncomputable def bdT_ps : List Fi := []
theorem bdT_ps_ok : FisOk Try.prog bdT_ps := trivial
noncomputable def bdT_ms : List Fi := [⟨44, Try.f44, [0, 1, 3, 4, 5, 6, 7, 8, 9, 10, 17, 44, 52, 64, 80, 94], [], 5, []⟩]
theorem bdT_ms_ok : FisOk Try.prog bdT_ms := ⟨⟨by kernel_rfl, by kernel_rfl⟩, trivial⟩
noncomputable def bdT (d : Nat) : Tabs := deep Try.prog (bdB q f x op dg rx) bdT_ps bdT_ms d
noncomputable def cxBd : Cx := { P := Try.prog, n := Try.f20.ntmps, tab := (bdT q f x op dg rx 1).tab, mtab := (bdT q f x op dg rx 1).mtab, refs := [17], keeps := [0, 1, 2, 3, 5, 6, 7, 8, 25, 40, 41, 63, 103, 131, 155, 174, 188, 214, 233, 244, 269, 294, 344] }
end
noncomputable abbrev Bbd : Code := bodyOf Try.f20
noncomputable def bdOps : Array Oper := regOps (c1 (tailN 1 Bbd))
def insOb (nm : List UInt8) (a b c d n : Int) : O := .cells [.str nm, .int .i64 a, .int .i64 b, .int .i64 c, .int .i64 d, .int .i64 n] 29
def rowOb (f : Int) (x : List UInt8) (op : List Int) (dg rx : Int) : O := .cells [.str x, .int .i64 f, .sl (.int .u8) op [] .ro, .int .i64 dg, .int .i64 rx] 78
end Go.Amd

namespace Go.Ab
open Go
def rnd (n : Nat) (κ ks : List Nat) (s : St) : Tree St := match dropS n κ s with
  | some (e, t, H) => .leaf (e, keep ks t, H)
  | none => .fail
section
variable {P : Program} {n : Nat} {cx : Cx} {Q : AEx → T → List O → Prop}
theorem rnd_spec {m : Nat} {κ ks : List Nat} {s : St} {R : St → Prop} (h : (rnd m κ ks s).all R) : ∃ s', dropS m κ s = some s' ∧ R (s'.1, keep ks s'.2.1, s'.2.2) := by
  unfold rnd at h
  split at h
  · rename_i e t H hd
    exact ⟨_, hd, h⟩
  · exact h.elim
theorem AWP_codeK (hP : cx.P = P) (hn : cx.n = n) (hT : CxOk cx) (κ ks : List Nat) {c : Code} {t : T} {H : List O}
    (h : ((dcode cx c t H).bind (rnd H.length κ ks)).all (fun s => ∀ t, s.2.1 = keep ks t → Q s.1 t s.2.2)) : AWP P n c Q t H := by
  refine AWP_scope (AWP_code hP hn hT c _ _ _ (Tree.all_mono (Tree.all_bind h) fun s hs => ?_))
  obtain ⟨s', h1, h2⟩ := rnd_spec hs
  exact ⟨κ, s', h1, h2 _ rfl⟩
theorem get_told {ks : List Nat} {t s : T} (h : s = keep ks t) (d : Nat) : get d s = get d t ∨ get d s = .any := by
  subst h
  exact TLe.keep ks t d
theorem tle_told {ks : List Nat} {t s : T} (h : s = keep ks t) : TLe t s := fun d => get_told h d
end
end Go.Ab

namespace Go.Ab
def firmB (cx : Cx) (ops : Array Oper) (ah : List (List Nat)) (listed : Array Bool) (i : Nat) : Bool :=
  (List.range ops.size).all fun j => listed.getD j false || (Nat.beq j i || (hasN i (ah.getD j []) || (match ops[i]?, ops[j]? with
    | some x, some y => x.apart ops y && mayTurn cx x y
    | _, _ => true)))
def ordsP (cx : Cx) (ops : Array Oper) (ah : List (List Nat)) : Nat → Array Bool → T × List O → Option (List (T × List O))
  | 0, listed, p => cond (Region.ready .any ops listed).isEmpty (some [p]) none
  | fuel + 1, listed, p => match (Region.ready .any ops listed).find? (firmB cx ops ah listed) with
    | some i => match ops[i]? with
      | some o => match step1 cx ops o p with
        | some q => ordsP cx ops ah fuel (listed.setIfInBounds i true) q
        | none => none
      | none => none
    | none => cond (Region.ready .any ops listed).isEmpty none
      ((Region.ready .any ops listed).foldr (fun i acc => match acc, ops[i]? with
        | some l, some o => match step1 cx ops o p with
          | some q => match ordsP cx ops ah fuel (listed.setIfInBounds i true) q with
            | some m => some (m ++ l)
            | none => none
          | none => none
        | _, _ => none) (some []))
inductive Compl (ops : Array Oper) : Array Bool → List Nat → Prop
  | nil {listed : Array Bool} : Region.ready .any ops listed = [] → Compl ops listed []
  | cons {listed : Array Bool} {i : Nat} {l : List Nat} : i ∈ Region.ready .any ops listed → Compl ops (listed.setIfInBounds i true) l → Compl ops listed (i :: l)
section
variable {cx : Cx} {ops : Array Oper}
def isIn (listed : Array Bool) : Nat → Bool := fun j => listed.getD j false
theorem isIn_set {listed : Array Bool} {i : Nat} (hi : i < listed.size) : isIn (listed.setIfInBounds i true) = with1 (isIn listed) i := by
  funext j
  unfold with1 isIn
  by_cases hj : j = i
  · subst hj
    simp [Array.getD_eq_getD_getElem?, hi]
  · have hji : (j == i) = false := by simpa using hj
    rw [getD_set_ne false (fun e => hj e.symm), hji, Bool.or_false]
theorem ready_lt {listed : Array Bool} {i : Nat} (h : i ∈ Region.ready .any ops listed) : i < ops.size := by
  obtain ⟨_, o, ho, _⟩ := mem_ready.1 h
  exact (Array.getElem?_eq_some_iff.1 ho).1
theorem ready_out {listed : Array Bool} {i : Nat} (hs : listed.size = ops.size) (h : i ∈ Region.ready .any ops listed) : isIn listed i = false := by
  have hlt := ready_lt h
  obtain ⟨h1, _⟩ := mem_ready.1 h
  unfold isIn
  rw [Array.getD_eq_getD_getElem?] at h1 ⊢
  have : i < listed.size := by omega
  simp [this] at h1 ⊢
  exact h1
theorem closed_set {listed : Array Bool} {i : Nat} (hs : listed.size = ops.size) (hc : Closed ops (isIn listed)) (h : i ∈ Region.ready .any ops listed) : Closed ops (isIn (listed.setIfInBounds i true)) := by
  rw [isIn_set (by rw [hs]; exact ready_lt h)]
  obtain ⟨_, o, ho, h3⟩ := mem_ready.1 h
  exact closed_with hc fun o' ho' e he hb => by
    rw [ho] at ho'
    simp only [Option.some.injEq] at ho'
    subst ho'
    exact h3 e he hb
theorem ready_stays {listed : Array Bool} {i j : Nat} (h : i ∈ Region.ready .any ops listed) (hj : j ≠ i) : i ∈ Region.ready .any ops (listed.setIfInBounds j true) := by
  obtain ⟨h1, o, ho, h3⟩ := mem_ready.1 h
  exact mem_ready.2 ⟨by rw [getD_set_ne true hj]; exact h1, o, ho, fun e he hb => getD_set_true (h3 e he hb)⟩
theorem ready_not {listed : Array Bool} {i j : Nat} (hs : listed.size = ops.size) (hc : Closed ops (isIn listed)) (hi : i ∈ Region.ready .any ops listed) (hj : j ∈ Region.ready .any ops listed) (hne : j ≠ i) : ¬ Anc ops i j := by
  intro ha
  have := ha _ (closed_set hs hc hj) (by rw [isIn_set (by rw [hs]; exact ready_lt hj)]; simp [with1])
  rw [isIn_set (by rw [hs]; exact ready_lt hj)] at this
  unfold with1 at this
  rw [ready_out hs hi, Bool.false_or] at this
  exact hne (by simpa using this : i = j).symm
theorem compl_split {listed : Array Bool} {l : List Nat} (h : Compl ops listed l) : ∀ {i : Nat}, listed.size = ops.size → Closed ops (isIn listed) → i ∈ Region.ready .any ops listed →
    ∃ A B, l = A ++ i :: B ∧ Compl ops (listed.setIfInBounds i true) (A ++ B) ∧ ∀ j ∈ A, j ≠ i ∧ j < ops.size ∧ isIn listed j = false ∧ ¬ Anc ops i j := by
  induction h with
  | nil h0 =>
    intro i _ _ hi
    rw [h0] at hi; cases hi
  | @cons listed j l hj hc ih =>
    intro i hs hcl hi
    by_cases hji : j = i
    · subst hji
      exact ⟨[], l, rfl, hc, fun j hj => by cases hj⟩
    · obtain ⟨A, B, rfl, h2, h3⟩ := ih (i := i) (by simpa using hs) (closed_set hs hcl hj) (ready_stays hi hji)
      refine ⟨j :: A, B, rfl, .cons (ready_stays hj (fun e => hji e.symm)) ?_, fun k hk => ?_⟩
      · rw [Array.setIfInBounds_comm _ _ (fun e => hji e.symm)]
        exact h2
      · rcases List.mem_cons.1 hk with rfl | hk
        · exact ⟨hji, ready_lt hj, ready_out hs hj, ready_not hs hcl hi hj hji⟩
        · obtain ⟨g1, g2, g3, g4⟩ := h3 k hk
          refine ⟨g1, g2, ?_, g4⟩
          rw [isIn_set (by rw [hs]; exact ready_lt hj)] at g3
          unfold with1 at g3
          exact (Bool.or_eq_false_iff.1 g3).1
theorem firm_turns {ah : List (List Nat)} {listed : Array Bool} {i : Nat} (hah : ∀ (j : Nat) a, ah[j]? = some a → ∀ k ∈ a, Anc ops k j) (h : firmB cx ops ah listed i = true) {j : Nat} (hj : j < ops.size) (hne : j ≠ i)
    (ho : isIn listed j = false) (hn : ¬ Anc ops i j) : Turns cx ops (fun _ => True) i j := by
  intro x y hx hy
  have := List.all_eq_true.1 h j (List.mem_range.2 hj)
  rw [hx, hy] at this
  have h1 : listed.getD j false = false := ho
  have h2 : Nat.beq j i = false := by
    cases hb : Nat.beq j i
    · rfl
    · exact absurd (Nat.eq_of_beq_eq_true hb) hne
  have h3 : hasN i (ah.getD j []) = false := by
    cases hb : hasN i (ah.getD j [])
    · rfl
    · have hm := hasN_mem hb
      rw [List.getD_eq_getElem?_getD] at hm
      cases ha : ah[j]? with
      | none => rw [ha] at hm; cases hm
      | some a => rw [ha] at hm; exact absurd (hah j a ha i hm) hn
  rw [h1, h2, h3, Bool.false_or, Bool.false_or, Bool.false_or, Bool.and_eq_true] at this
  exact ⟨this.1, .inl this.2⟩
theorem keeps_true : Keeps cx ops (fun _ => True) := fun _ _ _ _ _ _ _ => trivial
theorem ordsP_step {ah : List (List Nat)} {fuel : Nat} {listed : Array Bool} {p : T × List O} : ∀ (is : List Nat) (l : List (T × List O)),
    is.foldr (fun i acc => match acc, ops[i]? with
      | some l, some o => match step1 cx ops o p with
        | some q => match ordsP cx ops ah fuel (listed.setIfInBounds i true) q with
          | some m => some (m ++ l)
          | none => none
        | none => none
      | _, _ => none) (some []) = some l →
    ∀ i ∈ is, ∃ o q m, ops[i]? = some o ∧ step1 cx ops o p = some q ∧ ordsP cx ops ah fuel (listed.setIfInBounds i true) q = some m ∧ ∀ s ∈ m, s ∈ l
  | [], _, _, i, hi => by cases hi
  | j :: is, l, h, i, hi => by
    rw [List.foldr_cons] at h
    split at h
    rotate_left
    · cases h
    rename_i l' o h1 h2
    split at h
    rotate_left
    · cases h
    rename_i q hq
    split at h
    rotate_left
    · cases h
    rename_i m hm
    simp only [Option.some.injEq] at h
    subst h
    rcases List.mem_cons.1 hi with rfl | hi
    · exact ⟨o, q, m, h2, hq, hm, fun s hs => List.mem_append_left _ hs⟩
    · obtain ⟨o', q', m', g1, g2, g3, g4⟩ := ordsP_step is l' h1 i hi
      exact ⟨o', q', m', g1, g2, g3, fun s hs => List.mem_append_right _ (g4 s hs)⟩
theorem runI_cons {i : Nat} {o : Oper} (ho : ops[i]? = some o) {p q : T × List O} (h : step1 cx ops o p = some q) (l : List Nat) : runI cx ops (i :: l) p = runI cx ops l q := by
  simp only [runI, ho, h]
theorem ordsP_all {ah : List (List Nat)} (hah : ∀ (j : Nat) a, ah[j]? = some a → ∀ k ∈ a, Anc ops k j) : ∀ (fuel : Nat) (listed : Array Bool) (p : T × List O) (L : List (T × List O)), ordsP cx ops ah fuel listed p = some L → listed.size = ops.size → Closed ops (isIn listed) →
    ∀ l, Compl ops listed l → ∃ r, runI cx ops l p = some r ∧ ∃ s ∈ L, Like s r
  | 0, listed, p, L, h, hs, hc, l, hl => by
    unfold ordsP at h
    cases hr : (Region.ready .any ops listed).isEmpty
    · rw [hr] at h; cases h
    rw [hr] at h
    simp only [cond_true, Option.some.injEq] at h
    subst h
    cases hl with
    | nil _ => exact ⟨p, rfl, p, List.mem_cons_self, .refl p⟩
    | cons hi _ =>
      rw [List.isEmpty_iff.1 hr] at hi; cases hi
  | fuel + 1, listed, p, L, h, hs, hc, l, hl => by
    unfold ordsP at h
    split at h
    · rename_i i hf
      have hfirm := List.find?_some hf
      have hi := List.mem_of_find?_eq_some hf
      split at h
      rotate_left
      · cases h
      rename_i o ho
      split at h
      rotate_left
      · cases h
      rename_i q hq
      obtain ⟨A, B, rfl, h2, h3⟩ := compl_split hl hs hc hi
      obtain ⟨r, hr, s, hsL, hlk⟩ := ordsP_all hah fuel _ q L h (by simpa using hs) (closed_set hs hc hi) _ h2
      have hr' : runI cx ops ((i :: A) ++ B) p = some r := by rw [List.cons_append, runI_cons ho hq]; exact hr
      rw [runI_append] at hr'
      obtain ⟨m, hm, hB⟩ := Option.bind_eq_some_iff.1 hr'
      obtain ⟨m', hm', hlm⟩ := move_end (I := fun _ => True) keeps_true A trivial (fun j hj => by
        obtain ⟨g1, g2, g3, g4⟩ := h3 j hj
        exact firm_turns hah hfirm g2 g1 g3 g4) hm
      obtain ⟨r', hr2, hlr⟩ := runI_like B hlm hB
      refine ⟨r', ?_, s, hsL, hlk.trans hlr⟩
      rw [show A ++ i :: B = (A ++ [i]) ++ B from by simp, runI_append, hm']
      exact hr2
    · cases hr : (Region.ready .any ops listed).isEmpty
      rotate_left
      · rw [hr] at h; cases h
      rw [hr, cond_false] at h
      cases hl with
      | nil h0 => rw [h0] at hr; cases hr
      | @cons _ i l hi hl =>
        obtain ⟨o, q, m, g1, g2, g3, g4⟩ := ordsP_step _ L h i hi
        obtain ⟨r, h1, s, h2, h4⟩ := ordsP_all hah fuel _ q m g3 (by simpa using hs) (closed_set hs hc hi) l hl
        exact ⟨r, by rw [runI_cons g1 g2]; exact h1, s, g4 s h2, h4⟩
theorem ready_some (hb : ∀ (j : Nat) o, ops[j]? = some o → ∀ e ∈ o.after, Region.binds .any e = true → e.on < j) {listed : Array Bool} (hs : listed.size = ops.size) (h : 0 < missing ops.size (isIn listed)) : ∃ i, i ∈ Region.ready .any ops listed := by
  obtain ⟨i, h1, h2, h3⟩ := first_missing h
  obtain ⟨o, ho⟩ : ∃ o, ops[i]? = some o := ⟨ops[i], by simp [h1]⟩
  refine ⟨i, mem_ready.2 ⟨?_, o, ho, fun e he hbb => h3 _ (hb i o ho e he hbb)⟩⟩
  unfold isIn at h2
  rw [Array.getD_eq_getD_getElem?] at h2 ⊢
  have : i < listed.size := by omega
  simp [this] at h2 ⊢
  exact h2
theorem ready_none {listed : Array Bool} (hs : listed.size = ops.size) (h : missing ops.size (isIn listed) = 0) : Region.ready .any ops listed = [] := by
  apply List.eq_nil_iff_forall_not_mem.2
  intro i hi
  have h1 := ready_out hs hi
  have hin : i ∈ (List.range ops.size).filter fun i => !(isIn listed i) := List.mem_filter.2 ⟨List.mem_range.2 (ready_lt hi), by simp [h1]⟩
  have h0 := List.length_eq_zero_iff.1 h
  rw [h0] at hin; cases hin
theorem compl_some (hb : ∀ (j : Nat) o, ops[j]? = some o → ∀ e ∈ o.after, Region.binds .any e = true → e.on < j) : ∀ (fuel : Nat) (listed : Array Bool), listed.size = ops.size → missing ops.size (isIn listed) = fuel → ∃ l, Compl ops listed l
  | 0, listed, hs, hm => ⟨[], .nil (ready_none hs hm)⟩
  | fuel + 1, listed, hs, hm => by
    obtain ⟨i, hi⟩ := ready_some hb hs (by omega)
    have := missing_with (S := isIn listed) (ready_lt hi) (ready_out hs hi)
    obtain ⟨l, hl⟩ := compl_some hb fuel (listed.setIfInBounds i true) (by simpa using hs) (by rw [isIn_set (by rw [hs]; exact ready_lt hi)]; omega)
    exact ⟨i :: l, .cons hi hl⟩
theorem compl_sound (hT : CxOk cx) {E H0 β0 w0 D} (hs0 : StartOk cx.P E H0 β0 w0) (hb : ∀ (j : Nat) o, ops[j]? = some o → ∀ e ∈ o.after, Region.binds .any e = true → e.on < j) {Q : AEx → T → List O → Prop} :
    ∀ (fuel : Nat) (listed : Array Bool) (p : T × List O) (β : List Loc) (a : Act) (w : World), listed.size = ops.size → missing ops.size (isIn listed) = fuel →
      (∀ l, Compl ops listed l → ∃ r, runI cx ops l p = some r ∧ ∃ s : T × List O, Q .normal s.1 s.2 ∧ Like s r) → Good E H0 β0 w0 cx.n D p.1 p.2 β a w →
      wpAny cx.P .any ops (Post E H0 β0 w0 cx.n D Q) fuel listed a w
  | 0, listed, p, β, a, w, hs, hm, h, hg => by
    have hr := ready_none hs hm
    obtain ⟨r, h1, s, h2, h3⟩ := h [] (.nil hr)
    simp only [runI, Option.some.injEq] at h1
    subst h1
    refine ⟨hr, s.1, s.2, β, h2, ?_⟩
    have := hg.like h3.1
    rw [h3.2]
    exact this
  | fuel + 1, listed, p, β, a, w, hs, hm, h, hg => by
    refine ⟨fun hr => ?_, fun i hi => ?_⟩
    · obtain ⟨i, hi⟩ := ready_some hb hs (by omega)
      rw [hr] at hi; cases hi
    · obtain ⟨_, o, ho, _⟩ := mem_ready.1 hi
      have hmw := missing_with (S := isIn listed) (ready_lt hi) (ready_out hs hi)
      have hm' : missing ops.size (isIn (listed.setIfInBounds i true)) = fuel := by rw [isIn_set (by rw [hs]; exact ready_lt hi)]; omega
      obtain ⟨l, hl⟩ := compl_some hb fuel (listed.setIfInBounds i true) (by simpa using hs) hm'
      obtain ⟨r, h1, _⟩ := h (i :: l) (.cons hi hl)
      cases hst : step1 cx ops o p with
      | none => simp only [runI, ho, hst] at h1; cases h1
      | some q =>
        refine step1_sound hT hs0 ho (t := p.1) (H := p.2) hg hst ?_
        intro β' a' w' hg'
        refine compl_sound hT hs0 hb fuel _ q β' a' w' (by simpa using hs) hm' (fun l hl => ?_) hg'
        obtain ⟨r, h1, h2⟩ := h (i :: l) (.cons hi hl)
        rw [runI_cons ho hst] at h1
        exact ⟨r, h1, h2⟩
end
section
variable {P : Program} {n : Nat} {Q : AEx → T → List O → Prop} {t : T} {H : List O} {cx : Cx} {ops : Array Oper}
def nothing (ops : Array Oper) : Array Bool := Array.replicate ops.size false
def allOrds (cx : Cx) (ops : Array Oper) (p : T × List O) : Option (List (T × List O)) :=
  cond (cx.P.follows .mixedOrders && backs 0 ops.toList) (ordsP cx ops (aheads ops.toList []) ops.size (nothing ops) p) none
theorem AWP_ordersP (hP : cx.P = P) (hn : cx.n = n) (hT : CxOk cx) {id : Nat} {l : List (T × List O)}
    (h : allOrds cx ops (t, H) = some l) (hq : ∀ s ∈ l, Q .normal s.1 s.2) : AWP P n (.region id ops true) Q t H := by
  subst hP
  subst hn
  unfold allOrds at h
  cases hf : (cx.P.follows .mixedOrders && backs 0 ops.toList)
  · rw [hf] at h; cases h
  rw [hf, cond_true] at h
  obtain ⟨hm, hb⟩ := Bool.and_eq_true_iff.1 hf
  intro E H0 β0 w0 D β a w hs hg
  refine wp_region_any hm ?_
  have st := Step.heap_same (w' := { w with drawn := w.drawn + 1 }) hg.step.rel rfl rfl rfl rfl
  have hsz : (nothing ops).size = ops.size := by simp [nothing]
  have hno : isIn (nothing ops) = fun _ => false := by
    funext j
    unfold isIn nothing
    simp only [Array.getD_eq_getD_getElem?, Array.getElem?_replicate]
    split <;> rfl
  have hcl : Closed ops (isIn (nothing ops)) := by rw [hno]; intro j o ho hj; cases hj
  refine compl_sound hT hs (backs_spec hb) ops.size (nothing ops) (t, H) β a _ hsz ?_ (fun l' hl' => ?_) ⟨hg.step.trans st, hg.fr.step st, hg.defers⟩
  · rw [hno]
    unfold missing
    have e : (List.range ops.size).filter (fun i => !(fun _ => false) i) = List.range ops.size := List.filter_eq_self.2 fun _ _ => rfl
    rw [e, List.length_range]
  · obtain ⟨r, h1, s, h2, h3⟩ := ordsP_all (aheads_ok (ops := ops) ops.toList 0 [] rfl rfl (fun j a h => by simp at h)) _ _ _ _ h hsz hcl l' hl'
    exact ⟨r, h1, s, hq s h2, h3⟩
theorem AWP.keepQ (l : List Nat) {c : Code} (h : AWP P n c (fun e t H => Q e (keep l t) H) t H) : AWP P n c Q t H := by
  intro E H0 β0 w0 D β a w hs hg
  refine wp_mono (h E H0 β0 w0 D β a w hs hg) fun e a w hp => ?_
  have le : ∀ {t H β a w}, Good E H0 β0 w0 n D t H β a w → Good E H0 β0 w0 n D (keep l t) H β a w := fun hg => ⟨hg.step, hg.fr.le (TLe.keep l _), hg.defers⟩
  cases e with
  | normal => obtain ⟨t, H, β, h1, h2⟩ := hp; exact ⟨_, H, β, h1, le h2⟩
  | exit id => obtain ⟨t, H, β, h1, h2⟩ := hp; exact ⟨_, H, β, h1, le h2⟩
  | ret => obtain ⟨t, H, β, h1, h2⟩ := hp; exact ⟨_, H, β, h1, le h2⟩
  | panic ch => obtain ⟨t, H, β, v, x, h1, h2, h3, h4⟩ := hp; exact ⟨_, H, β, v, x, h1, le h2, h3, h4⟩
  | goto l => exact hp.elim
  | outgrown => exact hp.elim
end
end Go.Ab

namespace Go.Ab
open Go.ChangeMaps (setBlock)
section
variable {E : Nat → Nat → Prop} {H0 H H' : List O} {β0 β β' : List Loc} {w0 w w' : World} {n : Nat} {D : List Deferred} {t : T} {a : Act}
theorem Step.same {b : Nat} (s : Step E H β w H' β' w') (hu : ∀ o, ¬ Own H β b o) (hb : b < w.heap.size) : w'.heap[b]? = w.heap[b]? := by
  rcases s.pres b hb with h | ⟨⟨o, h⟩, _⟩ | ⟨⟨o, h⟩, _⟩
  · exact h
  · exact absurd h (hu o)
  · exact absurd h (hu o)
structure Side (H : List O) (β : List Loc) (r : Nat) (w w' : World) : Prop where
  other : ∀ b, b ≠ r → w'.heap[b]? = w.heap[b]?
  size : w.heap.size ≤ w'.heap.size
  spec : ∀ x, w.heap[r]? = some x → special x = true
  unowned : ∀ o, ¬ Own H β r o
  os : w'.os = w.os
  tape : w'.tape = w.tape
  output : w'.output = w.output
theorem Side.stab {r : Nat} {X : Nat → Nat → Prop} (h : Side H β r w w') : Stab w X w' X := by
  refine ⟨fun b o v hx hv => ⟨hx, ?_⟩, fun b cs e hb => ?_⟩
  · by_cases hb : b = r
    · subst hb
      exfalso
      cases hc : w.heap[b]? with
      | none =>
        have := cell_lt hv
        simp only [Array.getElem?_eq_none_iff] at hc
        omega
      | some x => rw [cell_special hc (h.spec x hc)] at hv; cases hv
    · rw [cell_heap (h.other b hb)]; exact hv
  · have hne : b ≠ r := fun e' => by
      subst e'
      have := h.spec _ hb
      cases this
    exact ⟨cs, e, by rw [h.other b hne]; exact hb⟩
theorem Side.rel {r : Nat} (h : Side H β r w w') (hR : Rel w (Xs E H β) H β) : Rel w' (Xs E H β) H β := by
  have ne : ∀ {id loc}, live H id → β[id]? = some loc → loc.block ≠ r := by
    intro id loc h1 h2 e
    obtain ⟨o, ho⟩ := live_own h1 h2
    rw [e] at ho
    exact h.unowned o ho
  refine ⟨hR.len, fun id cs e loc h1 h2 => ?_, fun id m sz loc h1 h2 => ?_, fun id sh vs loc h1 h2 => ?_, hR.disj⟩
  · obtain ⟨a1, c, e', a2, a3, a4, a5⟩ := hR.cells id cs e loc h1 h2
    exact ⟨a1, c, e', by rw [h.other _ (ne (live_cells h1) h2)]; exact a2, a3, a4, fun k v hv => let ⟨x, hx, hr⟩ := a5 k v hv; ⟨x, hx, hr.stab h.stab β (.refl _)⟩⟩
  · obtain ⟨a1, a2, c, e', a3, a4⟩ := hR.tok id m sz loc h1 h2
    exact ⟨a1, a2, c, e', by rw [h.other _ (ne (live_tok h1) h2)]; exact a3, a4⟩
  · obtain ⟨a1, a2, ob, xs, a3, a4, a5⟩ := hR.objs id sh vs loc h1 h2
    exact ⟨a1, a2, ob, xs, by rw [h.other _ (ne (live_obj h1) h2)]; exact a3, a4, fun k v hv => let ⟨x, hx, hr⟩ := a5 k v hv; ⟨x, hx, hr.stab h.stab β (.refl _)⟩⟩
theorem Good.show {mid : Nat} {sh : Shape} {vs : List V} {loc : Loc} {ob : Obj} {xs : List Value} (hg : Good E H0 β0 w0 n D t H β a w) (hm : H[mid]? = some .dead) (hl : β[mid]? = some loc)
    (hk : loc.kind = false) (hb : loc.base = 0) (ho : w.heap[loc.block]? = some ob) (hs : Shp sh ob xs) (hv : ∀ (k : Nat) v, vs[k]? = some v → ∃ x, xs[k]? = some x ∧ R w (Xs E H β) β v x)
    (hu : ∀ o, ¬ Own H β loc.block o) (hown : w0.heap.size ≤ loc.block ∨ ∀ o, Own H0 β0 loc.block o) (hp : sh.isPage = false := by rfl) : Good E H0 β0 w0 n D t (H.set mid (.obj sh vs)) β a w := by
  have hlt : mid < H.length := (List.getElem?_eq_some_iff.1 hm).1
  have get : ∀ id : Nat, (H.set mid (.obj sh vs))[id]? = if mid = id then some (.obj sh vs) else H[id]? := by
    intro id
    rw [get_set]
    by_cases e : mid = id
    · subst e; simp [hlt]
    · simp [e]
  have own2 : ∀ b o, Own (H.set mid (.obj sh vs)) β b o → Own H β b o ∨ b = loc.block := by
    rintro b o ⟨id, l, h1, h2, h3⟩
    by_cases e : mid = id
    · subst e
      rw [hl] at h1
      cases h1
      exact .inr h2.symm
    · refine .inl ⟨id, l, h1, h2, ?_⟩
      simp only [get, e, if_false] at h3
      exact h3
  have st : Stab w (Xs E H β) w (Xs E (H.set mid (.obj sh vs)) β) := by
    refine ⟨fun b o v hx hv => ⟨fun h => ?_, hv⟩, fun b cs e h => ⟨cs, e, h⟩⟩
    rcases h with h | h
    · exact hx (.inl h)
    · rcases own2 b o h with h | h
      · exact hx (.inr h)
      · subst h
        rw [cell_special ho (hs.special hp)] at hv
        cases hv
  have hR := hg.step.rel
  have up : ∀ {v x}, R w (Xs E H β) β v x → R w (Xs E (H.set mid (.obj sh vs)) β) β v x := fun h => h.stab st β (.refl _)
  refine ⟨⟨⟨by rw [List.length_set]; exact hR.len, fun id cs e l h1 h2 => ?_, fun id m sz l h1 h2 => ?_, fun id sh' vs' l h1 h2 => ?_, fun i j l l' h1 h2 h3 h4 h5 => ?_⟩, hg.step.os, hg.step.tape, hg.step.output, hg.step.size, hg.step.pres,
    fun b o h => ?_, hg.step.locs⟩, ⟨hg.fr.size, fun d => up (hg.fr.slot d)⟩, hg.defers⟩
  · rw [get] at h1
    split at h1
    · cases h1
    · obtain ⟨a1, c, e', a2, a3, a4, a5⟩ := hR.cells id cs e l h1 h2
      exact ⟨a1, c, e', a2, a3, a4, fun k v hv => let ⟨x, hx, hr⟩ := a5 k v hv; ⟨x, hx, up hr⟩⟩
  · rw [get] at h1
    split at h1
    · cases h1
    · exact hR.tok id m sz l h1 h2
  · rw [get] at h1
    split at h1
    · rename_i e
      subst e
      cases h1
      rw [hl] at h2
      cases h2
      exact ⟨hk, hb, ob, xs, ho, hs, fun k v h => let ⟨x, hx, hr⟩ := hv k v h; ⟨x, hx, up hr⟩⟩
    · obtain ⟨a1, a2, ob', xs', a3, a4, a5⟩ := hR.objs id sh' vs' l h1 h2
      exact ⟨a1, a2, ob', xs', a3, a4, fun k v hv => let ⟨x, hx, hr⟩ := a5 k v hv; ⟨x, hx, up hr⟩⟩
  · have cl : ∀ {i l}, live (H.set mid (.obj sh vs)) i → β[i]? = some l → (i = mid ∧ l = loc) ∨ (i ≠ mid ∧ live H i ∧ l.block ≠ loc.block) := by
      rintro i l ⟨o, g1, g2⟩ g3
      by_cases e : mid = i
      · subst e
        rw [hl] at g3
        cases g3
        exact .inl ⟨rfl, rfl⟩
      · simp only [get, e, if_false] at g1
        refine .inr ⟨fun h => e h.symm, ⟨o, g1, g2⟩, fun he => ?_⟩
        obtain ⟨o', ho'⟩ := live_own ⟨o, g1, g2⟩ g3
        rw [he] at ho'
        exact hu o' ho'
    rcases cl h1 h3 with ⟨e1, e2⟩ | ⟨e1, e2, e3⟩ <;> rcases cl h2 h4 with ⟨f1, f2⟩ | ⟨f1, f2, f3⟩
    · rw [e1, f1]
    · rw [e2] at h5; exact absurd h5.symm f3
    · rw [f2] at h5; exact absurd h5 e3
    · exact hR.disj i j l l' e2 f2 h3 h4 h5
  · rcases own2 b o h with h | h
    · exact hg.step.own b o h
    · subst h
      rcases hown with h | h
      · exact .inr h
      · exact .inl (h o)
def LeftOk (w : World) (X : Nat → Nat → Prop) (β : List Loc) (es : Array MapEntry) (seen : Array Nat) (left : List (Int × V)) : Prop :=
  ∃ l : List MapEntry, l.Perm (leftOf es seen).toList ∧ l.map (·.key) = left.map (fun p => Value.int .u64 p.1) ∧ ∀ (k : Nat) p e, left[k]? = some p → l[k]? = some e → R w X β p.2 e.val
theorem LeftOk.stab {X X' : Nat → Nat → Prop} {es : Array MapEntry} {seen : Array Nat} {left : List (Int × V)} (h : LeftOk w X β es seen left) (s : Stab w X w' X') (hl : LocLe β β') : LeftOk w' X' β' es seen left := by
  obtain ⟨l, h1, h2, h3⟩ := h
  exact ⟨l, h1, h2, fun k p e a b => (h3 k p e a b).stab s β' hl⟩
theorem filter_drop {e : MapEntry} : ∀ {l1 l2 : List MapEntry}, ((l1 ++ e :: l2).map (·.born)).Nodup → (l1 ++ e :: l2).filter (fun x => !(x.born == e.born)) = l1 ++ l2 := by
  intro l1 l2 h
  simp only [List.map_append, List.map_cons] at h
  obtain ⟨h1, h2, h3⟩ := List.nodup_append.1 h
  obtain ⟨h4, h5⟩ := List.nodup_cons.1 h2
  rw [List.filter_append, List.filter_cons]
  have e1 : l1.filter (fun x => !(x.born == e.born)) = l1 := List.filter_eq_self.2 fun x hx => by
    have := h3 x.born (List.mem_map_of_mem hx) e.born List.mem_cons_self
    simpa using this
  have e2 : l2.filter (fun x => !(x.born == e.born)) = l2 := List.filter_eq_self.2 fun x hx => by
    have : x.born ≠ e.born := fun he => h4 (he ▸ List.mem_map_of_mem hx)
    simpa using this
  rw [e1, e2]
  simp
theorem LeftOk.take {X : Nat → Nat → Prop} {es : Array MapEntry} {clock : Nat} {seen : Array Nat} {left : List (Int × V)} (hs : Go.MapKept.Stamped es clock) (h : LeftOk w X β es seen left) {e : MapEntry} (he : e ∈ (leftOf es seen).toList) :
    ∃ A p B, left = A ++ p :: B ∧ e.key = .int .u64 p.1 ∧ R w X β p.2 e.val ∧ LeftOk w X β es (seen.push e.born) (A ++ B) := by
  obtain ⟨l, h1, h2, h3⟩ := h
  have hm : e ∈ l := h1.mem_iff.2 he
  obtain ⟨l1, l2, rfl⟩ := List.append_of_mem hm
  have hlen : left.length = (l1 ++ e :: l2).length := by
    have := congrArg List.length h2
    simpa using this.symm
  have hlt : l1.length < left.length := by rw [hlen]; simp
  refine ⟨left.take l1.length, left[l1.length], left.drop (l1.length + 1), ?_, ?_, ?_, l1 ++ l2, ?_, ?_, ?_⟩
  · rw [← List.drop_eq_getElem_cons hlt, List.take_append_drop]
  · have := congrArg (fun x => x[l1.length]?) h2
    simp only [List.getElem?_map] at this
    rw [List.getElem?_append_right (Nat.le_refl _), Nat.sub_self, List.getElem?_eq_getElem hlt] at this
    simpa using this
  · refine h3 l1.length _ _ (List.getElem?_eq_getElem hlt) ?_
    rw [List.getElem?_append_right (Nat.le_refl _), Nat.sub_self]
    rfl
  · have hn : ((l1 ++ e :: l2).map (·.born)).Nodup := by
      have := (h1.map (·.born)).nodup_iff.2 ?_
      · exact this
      · unfold leftOf
        rw [Array.toList_filter]
        exact (List.filter_sublist.map _).nodup hs.2.1
    rw [← filter_drop hn]
    refine (h1.filter _).trans ?_
    have : (leftOf es (seen.push e.born)).toList = (leftOf es seen).toList.filter (fun x => !(x.born == e.born)) := by
      unfold leftOf
      rw [Array.toList_filter, Array.toList_filter, List.filter_filter]
      congr 1
      funext x
      rw [Array.contains_push]
      cases seen.contains x.born <;> cases x.born == e.born <;> rfl
    rw [this]
  · have e1 := congrArg (List.take l1.length) h2
    have e2 := congrArg (List.drop (l1.length + 1)) h2
    simp only [List.map_append, List.map_cons] at e1 e2
    rw [List.take_left' (by simp)] at e1
    have e2' : (l1.map (·.key) ++ e.key :: l2.map (·.key)).drop (l1.length + 1) = l2.map (·.key) := by
      rw [show l1.length + 1 = (l1.map (·.key)).length + 1 by simp, ← List.drop_drop, List.drop_left]
      rfl
    rw [e2'] at e2
    rw [List.map_append, List.map_append, e1, e2, List.map_take, List.map_drop]
  · intro k p e' hp he'
    by_cases hk : k < l1.length
    · rw [List.getElem?_append_left (by rw [List.length_take]; omega), List.getElem?_take, if_pos hk] at hp
      rw [List.getElem?_append_left hk] at he'
      exact h3 k p e' hp (by rw [List.getElem?_append_left hk]; exact he')
    · have hmin : (left.take l1.length).length = l1.length := by rw [List.length_take]; omega
      rw [List.getElem?_append_right (by omega), List.getElem?_drop, hmin] at hp
      rw [List.getElem?_append_right (by omega)] at he'
      refine h3 (l1.length + 1 + (k - l1.length)) p e' hp ?_
      rw [List.getElem?_append_right (by omega), show l1.length + 1 + (k - l1.length) - l1.length = (k - l1.length) + 1 by omega, List.getElem?_cons_succ]
      exact he'
theorem LeftOk.none {X : Nat → Nat → Prop} {es : Array MapEntry} {seen : Array Nat} {left : List (Int × V)} (h : LeftOk w X β es seen left) (h0 : (leftOf es seen).size = 0) : left = [] := by
  obtain ⟨l, h1, h2, _⟩ := h
  have : l.length = 0 := by rw [h1.length_eq]; simpa using h0
  have e := congrArg List.length h2
  simp only [List.length_map] at e
  exact List.length_eq_zero_iff.1 (by omega)
end
end Go.Ab

namespace Go.Ab
open Go.ChangeMaps (setBlock)
section
variable {P : Program} {n : Nat} {t : T} {H : List O}
end
section
variable {cx : Cx} {n : Nat} {E : Nat → Nat → Prop} {H0 : List O} {β0 : List Loc} {w0 : World} {D : List Deferred}
variable {ops3 ops4 : Array Oper} {post4 : List Oper} {rest : Code} {o3a o3b o4 : Oper} {i3 i0 i1 i4 d18 d19 d20 d21 : Nat}
structure ForMap (cx : Cx) (ops3 ops4 : Array Oper) (post4 : List Oper) (o3a o3b o4 : Oper) (d18 d19 d20 d21 : Nat) : Prop where
  ops3 : ops3 = #[o3a, o3b]
  ops4 : ops4.toList = o4 :: post4
  next : o3a.op = .next (.tmp d18) false
  ok : o3b.op = .extract (.tmp d19) 0
  entry : o4.op = .entry (.tmp d18)
  g3a : o3a.guard = none
  g3b : o3b.guard = none
  g4 : o4.guard = none
  t3a : o3a.dst = some d19
  t3b : o3b.dst = some d20
  t4 : o4.dst = some d21
  l19 : Nat.blt d19 cx.n = true
  l20 : Nat.blt d20 cx.n = true
  l21 : Nat.blt d21 cx.n = true
  n1 : Nat.beq d18 d19 = false
  n2 : Nat.beq d18 d20 = false
end
end Go.Ab

namespace Go.Ab
theorem setC_out {k : IntKind} {o j : Nat} {x : Int} (h : j ≠ o) (v : V) : setC k o x j v = v := by
  have hb : Nat.beq j o = false := by
    cases hb : Nat.beq j o
    · rfl
    · exact absurd (Nat.eq_of_beq_eq_true hb) h
  cases v with
  | int l n =>
    show cond (decide (l = k)) (V.int k (cond (Nat.beq j o) x n)) (V.int l n) = V.int l n
    rw [hb, cond_false]
    by_cases hl : l = k
    · rw [decide_eq_true hl, cond_true, hl]
    · rw [decide_eq_false hl, cond_false]
  | _ => rfl
theorem setI_out {k : IntKind} {o : Nat} {x : Int} : ∀ (l : List V) (j : Nat), (o < j ∨ j + l.length ≤ o) → setI k o x j l = l
  | [], _, _ => rfl
  | v :: r, j, h => by
    simp only [List.length_cons] at h
    show setC k o x j v :: setI k o x (j + 1) r = v :: r
    rw [setC_out (by omega), setI_out r (j + 1) (by omega)]
theorem setI_in {k : IntKind} {o : Nat} {x : Int} : ∀ (l : List Int) (j : Nat), j ≤ o → o < j + l.length → setI k o x j (l.map (V.int k)) = (l.set (o - j) x).map (V.int k)
  | [], j, h1, h2 => by
    simp only [List.length_nil] at h2
    omega
  | n :: r, j, h1, h2 => by
    simp only [List.length_cons] at h2
    show setC k o x j (.int k n) :: setI k o x (j + 1) (r.map (V.int k)) = _
    by_cases h : j = o
    · subst h
      rw [setI_out _ _ (by omega), Nat.sub_self]
      show cond (decide (k = k)) (V.int k (cond (Nat.beq j j) x n)) (V.int k n) :: _ = _
      rw [decide_eq_true rfl, Nat.beq_refl]
      rfl
    · rw [setC_out h, setI_in r (j + 1) (by omega) (by omega)]
      obtain ⟨d, hd⟩ : ∃ d, o - j = d + 1 := ⟨o - j - 1, by omega⟩
      rw [hd, show o - (j + 1) = d by omega]
      rfl
theorem isIntAt_row {k : IntKind} {l m : List V} {xs : List Int} {o : Nat} (h1 : l.length ≤ o) (h2 : o < l.length + xs.length) : isIntAt k (l ++ (xs.map (V.int k) ++ m)) o = true := by
  unfold isIntAt
  rw [List.getElem?_append_right h1, List.getElem?_append_left (by rw [List.length_map]; omega), List.getElem?_map, List.getElem?_eq_getElem (by omega)]
  exact decide_eq_true rfl
end Go.Ab
