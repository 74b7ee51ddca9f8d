/-
  Small functions of the document's answer: has, find, sized, get, U. Conditions: none.
-/
import Derived.Test.YtffamklolgjjdaaAr22
import Derived.Test.YtffamklolgjjdaaAr12
namespace Go.Arm
open Go Go.Ab Go.Proofs Go.Wd

/-- The context of foundry/foundryref11.has. -/
noncomputable def cx39 : Cx := { P := Try.prog, n := 17, tab := [], mtab := [], refs := [], keeps := [0, 1, 4, 5, 9, 16] }
/-- The context of foundry/foundryref11.find. -/
noncomputable def cx35 : Cx := { P := Try.prog, n := 25, tab := [(19, tableS)], mtab := [], refs := [], keeps := [0, 2, 3, 4, 5, 10, 19] }
/-- The context of foundry/foundryref1.sized. -/
noncomputable def cx60 : Cx := { P := Try.prog, n := 17, tab := [], mtab := [], refs := [], keeps := [0, 2] }
def hasRound (s : List UInt8) (c k : Int) : Tree St :=
  (.br (decide (k < ↑(List.length s))) (.br (inside k (List.length s)) (.br (↑(UInt8.toNat (List.getD s (Int.toNat k) 0)) == c) (.leaf (.ret, [(0, (.str s)), (1, (.int .u8 c)), (4, (.bool true)), (5, (.int .i64 k)), (9, (.bool true)), (16, (.bool true))], [])) (.leaf (.normal, [(0, (.str s)), (1, (.int .u8 c)), (5, (.int .i64 (IntKind.wrap IntKind.i64 (k + 1)))), (9, (.bool true)), (16, (.bool false))], []))) .fail) (.leaf ((.exit 0), [(0, (.str s)), (1, (.int .u8 c)), (5, (.int .i64 k)), (9, (.bool false))], [])))

theorem hasRound_eq (s : List UInt8) (c k : Int) : (dcode cx39 (cin (cin (c2 (c1 (tailN 0 (bodyOf Try.f39)))))) [(0, .str s), (1, .int .u8 c), (5, .int .i64 k)] []).run = (hasRound s c k).run :=
  (show (dcode cx39 (cin (cin (c2 (c1 (tailN 0 (bodyOf Try.f39)))))) [(0, .str s), (1, .int .u8 c), (5, .int .i64 k)] []).run = (hasRound s c k).out by kernel_rfl).trans (Tree.out_run _)

def hasEnd  : Tree St :=
  (.leaf (.ret, [(4, (.bool false))], []))

theorem hasEnd_eq  : (dcode cx39 (tailN 1 (bodyOf Try.f39)) [] []).run = (hasEnd ).run :=
  (show (dcode cx39 (tailN 1 (bodyOf Try.f39)) [] []).run = (hasEnd ).out by kernel_rfl).trans (Tree.out_run _)

def findXRound (nm : List UInt8) (i : Int) (l : List rowXE.ty) : Tree St :=
  (.br (decide (i < ↑(List.length l))) (.br (inside i (List.length l)) (.br (strEq (tS (Prod.fst (List.getD l (Int.toNat i) (EC.dflt rowXE)))) nm) (.br (inside i (List.length l)) (.leaf (.ret, [(0, (.str nm)), (2, (.ptr 0 0)), (3, (.bool true)), (4, (.sl (.prod [.str, (.int .u32), .str, (.int .u64), (.int .u64), (.int .i64), (.int .u8), (.int .u64), (.int .u64), (.int .i64), (.int .i64), (.int .i64)]) (l) ([]) Fl.ro)), (5, (.int .i64 i)), (10, (.bool true)), (19, (.bool true))], [(.cells [(.str (tS (Prod.fst (List.getD l (Int.toNat i) (EC.dflt rowXE))))), (.int .u32 (tI (Prod.fst (Prod.snd (List.getD l (Int.toNat i) (EC.dflt rowXE)))))), (.str (tS (Prod.fst (Prod.snd (Prod.snd (List.getD l (Int.toNat i) (EC.dflt rowXE))))))), (.int .u64 (tI (Prod.fst (Prod.snd (Prod.snd (Prod.snd (List.getD l (Int.toNat i) (EC.dflt rowXE)))))))), (.int .u64 (tI (Prod.fst (Prod.snd (Prod.snd (Prod.snd (Prod.snd (List.getD l (Int.toNat i) (EC.dflt rowXE))))))))), (.int .i64 (tI (Prod.fst (Prod.snd (Prod.snd (Prod.snd (Prod.snd (Prod.snd (List.getD l (Int.toNat i) (EC.dflt rowXE)))))))))), (.int .u8 (tI (Prod.fst (Prod.snd (Prod.snd (Prod.snd (Prod.snd (Prod.snd (Prod.snd (List.getD l (Int.toNat i) (EC.dflt rowXE))))))))))), (.int .u64 (tI (Prod.fst (Prod.snd (Prod.snd (Prod.snd (Prod.snd (Prod.snd (Prod.snd (Prod.snd (List.getD l (Int.toNat i) (EC.dflt rowXE)))))))))))), (.int .u64 (tI (Prod.fst (Prod.snd (Prod.snd (Prod.snd (Prod.snd (Prod.snd (Prod.snd (Prod.snd (Prod.snd (List.getD l (Int.toNat i) (EC.dflt rowXE))))))))))))), (.int .i64 (tI (Prod.fst (Prod.snd (Prod.snd (Prod.snd (Prod.snd (Prod.snd (Prod.snd (Prod.snd (Prod.snd (Prod.snd (List.getD l (Int.toNat i) (EC.dflt rowXE)))))))))))))), (.int .i64 (tI (Prod.fst (Prod.snd (Prod.snd (Prod.snd (Prod.snd (Prod.snd (Prod.snd (Prod.snd (Prod.snd (Prod.snd (Prod.snd (List.getD l (Int.toNat i) (EC.dflt rowXE))))))))))))))), (.int .i64 (Prod.snd (Prod.snd (Prod.snd (Prod.snd (Prod.snd (Prod.snd (Prod.snd (Prod.snd (Prod.snd (Prod.snd (Prod.snd (List.getD l (Int.toNat i) (EC.dflt rowXE))))))))))))))] 48)])) .fail) (.leaf (.normal, [(0, (.str nm)), (2, (.ptr 0 0)), (4, (.sl (.prod [.str, (.int .u32), .str, (.int .u64), (.int .u64), (.int .i64), (.int .u8), (.int .u64), (.int .u64), (.int .i64), (.int .i64), (.int .i64)]) (l) ([]) Fl.ro)), (5, (.int .i64 (IntKind.wrap IntKind.i64 (i + 1)))), (10, (.bool true)), (19, (.bool false))], [(.cells [(.str []), (.int .u32 0), (.str []), (.int .u64 0), (.int .u64 0), (.int .i64 0), (.int .u8 0), (.int .u64 0), (.int .u64 0), (.int .i64 0), (.int .i64 0), (.int .i64 0)] 48)]))) .fail) (.leaf ((.exit 0), [(0, (.str nm)), (2, (.ptr 0 0)), (4, (.sl (.prod [.str, (.int .u32), .str, (.int .u64), (.int .u64), (.int .i64), (.int .u8), (.int .u64), (.int .u64), (.int .i64), (.int .i64), (.int .i64)]) (l) ([]) Fl.ro)), (5, (.int .i64 i)), (10, (.bool false))], [(.cells [(.str []), (.int .u32 0), (.str []), (.int .u64 0), (.int .u64 0), (.int .i64 0), (.int .u8 0), (.int .u64 0), (.int .u64 0), (.int .i64 0), (.int .i64 0), (.int .i64 0)] 48)])))

theorem findXRound_eq (nm : List UInt8) (i : Int) (l : List rowXE.ty) : (dcode cx35 (cin (cin (c2 (c1 (tailN 1 (bodyOf Try.f35)))))) [(0, .str nm), (2, .ptr 0 0), (4, .sl rowXE l [] .ro), (5, .int .i64 i)] [(.cells [.str [], .int .u32 0, .str [], .int .u64 0, .int .u64 0, .int .i64 0, .int .u8 0, .int .u64 0, .int .u64 0, .int .i64 0, .int .i64 0, .int .i64 0] 48)]).run = (findXRound nm i l).run :=
  (show (dcode cx35 (cin (cin (c2 (c1 (tailN 1 (bodyOf Try.f35)))))) [(0, .str nm), (2, .ptr 0 0), (4, .sl rowXE l [] .ro), (5, .int .i64 i)] [(.cells [.str [], .int .u32 0, .str [], .int .u64 0, .int .u64 0, .int .i64 0, .int .u8 0, .int .u64 0, .int .u64 0, .int .i64 0, .int .i64 0, .int .i64 0] 48)]).run = (findXRound nm i l).out by kernel_rfl).trans (Tree.out_run _)

def findXEnd (nm : List UInt8) : Tree St :=
  (.leaf (.ret, [(0, (.str nm)), (2, (.ptr 0 0)), (3, (.bool false))], [(.cells [(.str []), (.int .u32 0), (.str []), (.int .u64 0), (.int .u64 0), (.int .i64 0), (.int .u8 0), (.int .u64 0), (.int .u64 0), (.int .i64 0), (.int .i64 0), (.int .i64 0)] 48)]))

theorem findXEnd_eq (nm : List UInt8) : (dcode cx35 (tailN 2 (bodyOf Try.f35)) [(0, .str nm), (2, .ptr 0 0)] [(.cells [.str [], .int .u32 0, .str [], .int .u64 0, .int .u64 0, .int .i64 0, .int .u8 0, .int .u64 0, .int .u64 0, .int .i64 0, .int .i64 0, .int .i64 0] 48)]).run = (findXEnd nm).run :=
  (show (dcode cx35 (tailN 2 (bodyOf Try.f35)) [(0, .str nm), (2, .ptr 0 0)] [(.cells [.str [], .int .u32 0, .str [], .int .u64 0, .int .u64 0, .int .i64 0, .int .u8 0, .int .u64 0, .int .u64 0, .int .i64 0, .int .i64 0, .int .i64 0] 48)]).run = (findXEnd nm).out by kernel_rfl).trans (Tree.out_run _)

def sizedT (n : Int) : Tree V :=
  (.br (n == 1) (.leaf (.bool true)) (.br (n == 2) (.leaf (.bool true)) (.br (n == 4) (.leaf (.bool true)) (.leaf (.bool (n == 8))))))

theorem sizedT_eq (n : Int) : (dfun cx60 Try.f60 [.int .i64 n]).run = (sizedT n).run :=
  (show (dfun cx60 Try.f60 [.int .i64 n]).run = (sizedT n).out by kernel_rfl).trans (Tree.out_run _)


/-! Does a text have a letter? -/

def isL (c : Int) (b : UInt8) : Bool := ((UInt8.toNat b : Nat) : Int) == c
def hasX (s : List UInt8) (c : Int) : Bool := s.any (isL c)

theorem any_take_succ {α : Type} {p : α → Bool} {l : List α} {i : Nat} {d : α} (hi : i < l.length) : (l.take (i + 1)).any p = ((l.take i).any p || p (l.getD i d)) := by
  rw [List.take_add_one, List.getElem?_eq_getElem hi, getD_lt hi, List.any_append]
  simp

def hasSt (s : List UInt8) (c : Int) (i : { i : Nat // i ≤ s.length ∧ (s.take i).any (isL c) = false }) : T × List O := ([(0, .str s), (1, .int .u8 c), (5, .int .i64 i.1)], [])

set_option maxRecDepth 8000 in
theorem has_ok (s : List UInt8) (c : Int) (hl : s.length < 1000000000) : PCall Try.prog 39 [.str s, .int .u8 c] (.bool (hasX s c)) := by
  refine pcall_of' (c := bodyOf Try.f39) (fn := Try.f39) (by kernel_rfl) (by kernel_rfl) (by kernel_rfl) (by kernel_rfl) ?_
  have e : bodyOf Try.f39 = .seq (c1 (bodyOf Try.f39)) (.seq (.seq (c1 (c1 (tailN 0 (bodyOf Try.f39)))) (.block 0 (.loop (cin (cin (c2 (c1 (tailN 0 (bodyOf Try.f39)))))))))  (tailN 1 (bodyOf Try.f39))) := by kernel_rfl
  rw [e]
  generalize hQ : (fun e t H => (e = AEx.ret ∨ e = .normal) ∧ answerV Try.prog Try.f39.results.toList H t = some (.bool (hasX s c))) = Q
  have hok : CxOk cx39 := cx0_ok rfl rfl
  refine AWP_seq (AWP_run (cx := cx39) rfl rfl hok (s := (.normal, [(0, .str s), (1, .int .u8 c), (4, .bool false)], [])) (by kernel_rfl) ?_)
  refine AWP_seq (AWP_seq (AWP_run (cx := cx39) rfl rfl hok (s := (.normal, [(0, .str s), (1, .int .u8 c), (4, .bool false), (5, .int .i64 0)], [])) (by kernel_rfl) ?_))
  refine AWP_block ?_
  refine AWP.less (s := (hasSt s c ⟨0, Nat.zero_le _, rfl⟩).1) (Fits.tle ⟨rfl, rfl, rfl, trivial⟩) ?_
  refine AWP_rounds (cx := cx39) (P := Try.prog) (n := 17) rfl rfl hok (hasSt s c) (fun i => s.length - i.1) ?_ ⟨0, Nat.zero_le _, rfl⟩
  rintro ⟨i, hi, hnone⟩
  refine Tree.all_run_eq (hasRound_eq s c i) ?_
  refine ⟨fun hlt => ⟨fun hin => ⟨fun hm => ?_, fun hm => ?_⟩, fun hin => ?_⟩, fun hge => ?_⟩
  · have hlt : i < s.length := Int.ofNat_lt.1 (of_decide_eq_true hlt)
    refine ⟨[], _, rfl, ?_⟩
    subst hQ
    refine ⟨.inl rfl, ?_⟩
    have h1 : hasX s c = true := by
      unfold hasX
      rw [List.any_eq_true]
      exact ⟨s.getD i 0, by rw [getD_lt hlt]; exact List.getElem_mem hlt, hm⟩
    show answerV _ _ _ _ = some _
    rw [h1]
    kernel_rfl
  · have hlt : i < s.length := Int.ofNat_lt.1 (of_decide_eq_true hlt)
    have hn : (s.take (i + 1)).any (isL c) = false := by
      rw [any_take_succ (d := 0) hlt, hnone, Bool.false_or]
      exact hm
    refine ⟨[], _, rfl, ⟨i + 1, hlt, hn⟩, by show s.length - (i + 1) < s.length - i; omega, Fits.tle ⟨rfl, rfl, ?_, trivial⟩, rfl⟩
    show V.int .i64 (IntKind.wrap .i64 ((i : Int) + 1)) = V.int .i64 ((i + 1 : Nat) : Int)
    rw [wrap_i64 (by omega) (by omega)]
    rfl
  · exfalso
    have hlt : i < s.length := Int.ofNat_lt.1 (of_decide_eq_true hlt)
    exact Bool.noConfusion ((inside_of (Int.natCast_nonneg i) (Int.ofNat_lt.2 hlt)).symm.trans hin)
  · have hge : ¬ i < s.length := fun h => of_decide_eq_false hge (Int.ofNat_lt.2 h)
    have hi' : i = s.length := by omega
    refine ⟨[], _, rfl, ?_⟩
    show AWP _ _ _ _ _ _
    refine AWP.less (s := []) (Fits.tle trivial) ?_
    refine AWP_run (cx := cx39) rfl rfl hok (s := (.ret, [(4, .bool false)], [])) (by kernel_rfl) ?_
    subst hQ
    refine ⟨.inl rfl, ?_⟩
    have h1 : hasX s c = false := by unfold hasX; rw [← hnone, hi', List.take_length]
    show answerV _ _ _ _ = some _
    rw [h1]
    kernel_rfl

def hasS : Ab.Spec := fun args => match args with
  | [.str s, .int .u8 c] => .req (decide (s.length < 1000000000)) (.leaf (.bool (hasX s c)))
  | _ => .fail

theorem hasS_ok : Sound Try.prog 39 hasS := by
  intro args out h
  unfold hasS at h
  split at h
  rotate_left
  · cases h
  obtain ⟨h1, h2⟩ := req_run h
  simp only [Tree.run, Option.some.injEq] at h2
  subst h2
  exact has_ok _ _ (of_decide_eq_true h1)

def sizedX (n : Int) : Bool := cond (n == 1) true (cond (n == 2) true (cond (n == 4) true (n == 8)))
def sizedS : Ab.Spec := fun args => match args with
  | [.int .i64 n] => .leaf (.bool (sizedX n))
  | _ => .fail

theorem sizedS_ok : Sound Try.prog 60 sizedS := by
  intro args out h
  unfold sizedS at h
  split at h
  rotate_left
  · cases h
  rename_i n
  refine pcall_fun' (cx := cx60) (fn := Try.f60) (cx0_ok rfl rfl) (by kernel_rfl) (by kernel_rfl) (by kernel_rfl) ?_
  rw [sizedT_eq, ← h]
  unfold sizedT sizedX
  cases (n == 1) <;> cases (n == 2) <;> cases (n == 4) <;> rfl


/-- The context of foundry/foundryref1.get. -/
noncomputable def cx46 : Cx := { P := Try.prog, n := 39, tab := [(60, sizedS), (22, numS)], mtab := [], refs := [], keeps := [0, 1, 2, 3, 8, 9, 10, 13, 21, 27, 34] }
def getXT (l sp : List Int) (_fl : Fl) (at_ : Int) : Tree V :=
  (.br (decide (at_ < 0)) (.leaf (.tup [(.int .u64 0), (.int .i64 5)])) (.br (decide (↑(List.length l) < at_)) (.leaf (.tup [(.int .u64 0), (.int .i64 5)])) (.br (decide (IntKind.wrap IntKind.i64 (↑(List.length l) - at_) < 4)) (.leaf (.tup [(.int .u64 0), (.int .i64 2)])) (.br (decide (0 ≤ at_) && decide (at_ ≤ IntKind.wrap IntKind.i64 (at_ + 4)) && decide (IntKind.wrap IntKind.i64 (at_ + 4) ≤ ↑(List.length l + List.length sp))) (.br (decide (List.length (sub (l ++ sp) (Int.toNat at_) (Int.toNat (IntKind.wrap IntKind.i64 (at_ + 4)))) < 1000000000)) (.leaf (.tup [(.int .u64 (numL (sub (l ++ sp) (Int.toNat at_) (Int.toNat (IntKind.wrap IntKind.i64 (at_ + 4)))))), (.int .i64 0)])) .fail) .fail))))

theorem getXT_eq (l sp : List Int) (fl : Fl) (at_ : Int) : (dfun cx46 Try.f46 [.sl (.int .u8) l sp fl, .int .i64 at_, .int .i64 4, .bool false]).run = (getXT l sp fl at_).run :=
  (show (dfun cx46 Try.f46 [.sl (.int .u8) l sp fl, .int .i64 at_, .int .i64 4, .bool false]).run = (getXT l sp fl at_).out by kernel_rfl).trans (Tree.out_run _)

/-! A number out of bytes. -/

def uE (l : List Int) (at_ : Int) : Int := cond (outOf l at_) 5 (cond (shortOf l at_) 2 0)
def uV (l : List Int) (at_ : Int) : Int := cond (outOf l at_) 0 (cond (shortOf l at_) 0 (numL (sub l at_.toNat (at_.toNat + 4))))

theorem sub_left {l s : List Int} {a b : Nat} (h : b ≤ l.length) : sub (l ++ s) a b = sub l a b := by
  simp only [sub]
  rw [List.take_append_of_le_length h]

def getXS : Ab.Spec := fun args => match args with
  | [.sl (.int .u8) l _ _, .int .i64 at_, .int .i64 si, .bool big] => .req (decide (si = 4)) (.req (!big) (.req (decide (l.length < 1000000000)) (.leaf (.tup [.int .u64 (uV l at_), .int .i64 (uE l at_)]))))
  | _ => .fail

set_option maxRecDepth 8000 in
theorem getX_ok (l sp : List Int) (fl : Fl) (at_ : Int) (h3 : l.length < 1000000000) : PCall Try.prog 46 [.sl (.int .u8) l sp fl, .int .i64 at_, .int .i64 4, .bool false] (.tup [.int .u64 (uV l at_), .int .i64 (uE l at_)]) := by
  refine pcall_fun' (cx := cx46) (fn := Try.f46) (cx1_ok (.cons sizedS_ok (.cons numS_ok (.nil _))) (.nil _) rfl rfl) (by kernel_rfl) (by kernel_rfl) (by kernel_rfl) ?_
  refine (getXT_eq l sp fl at_).trans ?_
  unfold getXT uV uE outOf shortOf
  cases g1 : decide (at_ < 0)
  rotate_left
  · rfl
  cases g2 : decide ((l.length : Int) < at_)
  rotate_left
  · rfl
  cases g3 : decide (IntKind.wrap IntKind.i64 ((l.length : Int) - at_) < 4)
  rotate_left
  · rfl
  have g1 := of_decide_eq_false g1
  have g2 := of_decide_eq_false g2
  have g3 := of_decide_eq_false g3
  rw [wrap_i64 (by omega) (by omega)] at g3
  have e : IntKind.wrap IntKind.i64 (at_ + 4) = at_ + 4 := wrap_i64 (by omega) (by omega)
  rw [e, show (at_ + 4).toNat = at_.toNat + 4 from by omega, sub_left (by omega)]
  have c1 : (decide (0 ≤ at_) && decide (at_ ≤ at_ + 4) && decide (at_ + 4 ≤ ((l.length + sp.length : Nat) : Int))) = true := by
    simp only [Bool.and_eq_true, decide_eq_true_eq]
    omega
  have c2 : decide ((sub l at_.toNat (at_.toNat + 4)).length < 1000000000) = true := by
    refine decide_eq_true ?_
    simp only [sub, List.length_drop, List.length_take]
    omega
  rw [c1, c2]
  rfl

theorem getXS_ok : Sound Try.prog 46 getXS := by
  intro args out h
  unfold getXS at h
  split at h
  rotate_left
  · cases h
  rename_i l sp fl at_ si big
  obtain ⟨h1, ha⟩ := req_run h
  obtain ⟨h2, hb⟩ := req_run ha
  obtain ⟨h3, hc⟩ := req_run hb
  have h1 := of_decide_eq_true h1
  have h2 : big = false := by simpa using h2
  simp only [Tree.run, Option.some.injEq] at hc
  subst hc
  subst h1
  subst h2
  exact getX_ok l sp fl at_ (of_decide_eq_true h3)

/-- The context of foundry/foundryref1.U. -/
noncomputable def cx31 : Cx := { P := Try.prog, n := 14, tab := [(46, getXS)], mtab := [], refs := [], keeps := [0, 1, 2, 6, 7] }
def uS : Ab.Spec := fun args => match args with
  | [.sl (.int .u8) l _ _, .int .i64 at_, .int .i64 si] => .req (decide (si = 4)) (.req (decide (l.length < 1000000000)) (.leaf (.tup [.int .u64 (uV l at_), .int .i64 (uE l at_)])))
  | _ => .fail

def uT (l _sp : List Int) (_fl : Fl) (at_ si : Int) : Tree V :=
  (.br (decide (si = 4)) (.br (decide (List.length l < 1000000000)) (.leaf (.tup [(.int .u64 (uV l at_)), (.int .i64 (uE l at_))])) .fail) .fail)

theorem uT_eq (l sp : List Int) (fl : Fl) (at_ si : Int) : (dfun cx31 Try.f31 [.sl (.int .u8) l sp fl, .int .i64 at_, .int .i64 si]).run = (uT l sp fl at_ si).run :=
  (show (dfun cx31 Try.f31 [.sl (.int .u8) l sp fl, .int .i64 at_, .int .i64 si]).run = (uT l sp fl at_ si).out by kernel_rfl).trans (Tree.out_run _)


theorem u_ok (l sp : List Int) (fl : Fl) (at_ si : Int) (h1 : decide (si = 4) = true) (h2 : decide (l.length < 1000000000) = true) : PCall Try.prog 31 [.sl (.int .u8) l sp fl, .int .i64 at_, .int .i64 si] (.tup [.int .u64 (uV l at_), .int .i64 (uE l at_)]) := by
  refine pcall_fun' (cx := cx31) (fn := Try.f31) (cx1_ok (.cons getXS_ok (.nil _)) (.nil _) rfl rfl) (by kernel_rfl) (by kernel_rfl) (by kernel_rfl) ?_
  refine (uT_eq l sp fl at_ si).trans ?_
  unfold uT
  rw [h1, h2]
  rfl

theorem uS_ok : Sound Try.prog 31 uS := by
  intro args out h
  unfold uS at h
  split at h
  rotate_left
  · cases h
  rename_i l sp fl at_ si
  obtain ⟨h1, ha⟩ := req_run h
  obtain ⟨h2, hc⟩ := req_run ha
  simp only [Tree.run, Option.some.injEq] at hc
  subst hc
  exact u_ok l sp fl at_ si h1 h2

/-! A name's row. -/

theorem cxX35_ok : CxOk cx35 := cx1_ok (.cons tableS_ok (.nil _)) (.nil _) rfl rfl

def zeroX : RowX := ([], 0, [], 0, 0, 0, 0, 0, 0, 0, 0, 0)
def findLX (nm : List UInt8) (l : List RowX) : Option RowX := l.find? fun r => strEq r.1 nm
def frowX (nm : List UInt8) : RowX := (findLX nm rowsX).getD zeroX
def fokX (nm : List UInt8) : Bool := (findLX nm rowsX).isSome
abbrev rowXL (r : RowX) : List V := [.str r.1, .int .u32 r.2.1, .str r.2.2.1, .int .u64 r.2.2.2.1, .int .u64 r.2.2.2.2.1, .int .i64 r.2.2.2.2.2.1, .int .u8 r.2.2.2.2.2.2.1, .int .u64 r.2.2.2.2.2.2.2.1, .int .u64 r.2.2.2.2.2.2.2.2.1, .int .i64 r.2.2.2.2.2.2.2.2.2.1, .int .i64 r.2.2.2.2.2.2.2.2.2.2.1, .int .i64 r.2.2.2.2.2.2.2.2.2.2.2]
def rowV (r : RowX) : V := .agg (rowXL r)

def findXS : Ab.Spec := fun args => match args with
  | [.str nm] => .leaf (.tup [.agg (rowXL (frowX nm)), .bool (fokX nm)])
  | _ => .fail

def findXSt (nm : List UInt8) (i : { i : Nat // i ≤ rowsX.length ∧ findLX nm (rowsX.take i) = none }) : T × List O :=
  ([(0, .str nm), (2, .ptr 0 0), (4, .sl rowXE rowsX [] .ro), (5, .int .i64 i.1)], [(.cells [.str [], .int .u32 0, .str [], .int .u64 0, .int .u64 0, .int .i64 0, .int .u8 0, .int .u64 0, .int .u64 0, .int .i64 0, .int .i64 0, .int .i64 0] 48)])

set_option maxRecDepth 8000 in
theorem findX_ok (nm : List UInt8) : PCall Try.prog 35 [.str nm] (.tup [rowV (frowX nm), .bool (fokX nm)]) := by
  refine pcall_of' (c := bodyOf Try.f35) (fn := Try.f35) (by kernel_rfl) (by kernel_rfl) (by kernel_rfl) (by kernel_rfl) ?_
  have e : bodyOf Try.f35 = .seq (c1 (bodyOf Try.f35)) (.seq (c1 (tailN 0 (bodyOf Try.f35))) (.seq (.seq (c1 (c1 (tailN 1 (bodyOf Try.f35)))) (.block 0 (.loop (cin (cin (c2 (c1 (tailN 1 (bodyOf Try.f35))))))))) (tailN 2 (bodyOf Try.f35)))) := by kernel_rfl
  rw [e]
  generalize hQ : (fun e t H => (e = AEx.ret ∨ e = .normal) ∧ answerV Try.prog Try.f35.results.toList H t = some (.tup [rowV (frowX nm), .bool (fokX nm)])) = Q
  have hlen := rowsX_len
  refine AWP_seq (AWP_run (cx := cx35) rfl rfl cxX35_ok (s := (.normal, [(0, .str nm), (2, .ptr 0 0), (3, .bool false)], [(.cells [.str [], .int .u32 0, .str [], .int .u64 0, .int .u64 0, .int .i64 0, .int .u8 0, .int .u64 0, .int .u64 0, .int .i64 0, .int .i64 0, .int .i64 0] 48)])) (by kernel_rfl) ?_)
  refine AWP_seq (AWP_run (cx := cx35) rfl rfl cxX35_ok (s := (.normal, [(0, .str nm), (2, .ptr 0 0), (3, .bool false), (4, .sl rowXE rowsX [] .ro)], [(.cells [.str [], .int .u32 0, .str [], .int .u64 0, .int .u64 0, .int .i64 0, .int .u8 0, .int .u64 0, .int .u64 0, .int .i64 0, .int .i64 0, .int .i64 0] 48)])) (by kernel_rfl) ?_)
  refine AWP_seq (AWP_seq (AWP_run (cx := cx35) rfl rfl cxX35_ok (s := (.normal, [(0, .str nm), (2, .ptr 0 0), (3, .bool false), (4, .sl rowXE rowsX [] .ro), (5, .int .i64 0)], [(.cells [.str [], .int .u32 0, .str [], .int .u64 0, .int .u64 0, .int .i64 0, .int .u8 0, .int .u64 0, .int .u64 0, .int .i64 0, .int .i64 0, .int .i64 0] 48)])) (by kernel_rfl) ?_))
  refine AWP_block ?_
  refine AWP.less (s := (findXSt nm ⟨0, Nat.zero_le _, rfl⟩).1) (Fits.tle ⟨rfl, rfl, rfl, rfl, trivial⟩) ?_
  refine AWP_rounds (cx := cx35) (P := Try.prog) (n := 25) rfl rfl cxX35_ok (findXSt nm) (fun i => 54 - i.1) ?_ ⟨0, Nat.zero_le _, rfl⟩
  rintro ⟨i, hi, hnone⟩
  refine Tree.all_run_eq (findXRound_eq nm i rowsX) ?_
  refine ⟨fun hlt => ⟨fun hin => ⟨fun hp => ⟨fun hin2 => ?_, fun hin2 => Bool.noConfusion (hin.symm.trans hin2)⟩, fun hp => ?_⟩, fun hin => ?_⟩, fun hge => ?_⟩
  · have hlt : i < rowsX.length := Int.ofNat_lt.1 (of_decide_eq_true hlt)
    have hf : findLX nm rowsX = some (rowsX.getD i zeroX) := take_some hlt hnone hp
    refine ⟨[], _, rfl, ?_⟩
    subst hQ
    refine ⟨.inl rfl, ?_⟩
    have h1 : frowX nm = rowsX.getD i zeroX := by unfold frowX; rw [hf]; rfl
    have h2 : fokX nm = true := by unfold fokX; rw [hf]; rfl
    show answerV _ _ _ _ = some _
    rw [h1, h2]
    kernel_rfl
  · have hlt : i < rowsX.length := Int.ofNat_lt.1 (of_decide_eq_true hlt)
    have hf : findLX nm (rowsX.take (i + 1)) = none := take_none hlt hnone hp
    refine ⟨[], _, rfl, ⟨i + 1, hlt, hf⟩, by show 54 - (i + 1) < 54 - i; omega, Fits.tle ⟨rfl, rfl, rfl, ?_, trivial⟩, rfl⟩
    show V.int .i64 (IntKind.wrap .i64 ((i : Int) + 1)) = V.int .i64 ((i + 1 : Nat) : Int)
    rw [wrap_i64 (by omega) (by omega)]
    rfl
  · exfalso
    have hlt : i < rowsX.length := Int.ofNat_lt.1 (of_decide_eq_true hlt)
    exact Bool.noConfusion ((inside_of (Int.natCast_nonneg i) (Int.ofNat_lt.2 hlt)).symm.trans hin)
  · have hge : ¬ ((i : Int) < rowsX.length) := of_decide_eq_false hge
    have hi' : i = rowsX.length := by omega
    refine ⟨[], _, rfl, ?_⟩
    show AWP _ _ _ _ _ _
    refine AWP.less (s := [(0, .str nm), (2, .ptr 0 0)]) (Fits.tle ⟨rfl, rfl, trivial⟩) ?_
    refine AWP_run (cx := cx35) rfl rfl cxX35_ok (findXEnd_eq nm) ?_
    subst hQ
    refine ⟨.inl rfl, ?_⟩
    have hf : findLX nm rowsX = none := by rw [← hnone, hi', List.take_length]
    have h1 : frowX nm = zeroX := by unfold frowX; rw [hf]; rfl
    have h2 : fokX nm = false := by unfold fokX; rw [hf]; rfl
    show answerV _ _ _ _ = some _
    rw [h1, h2]
    kernel_rfl

theorem findXS_ok : Sound Try.prog 35 findXS := by
  intro args out h
  unfold findXS at h
  split at h
  rotate_left
  · cases h
  simp only [Tree.run, Option.some.injEq] at h
  subst h
  exact findX_ok _


end Go.Arm
