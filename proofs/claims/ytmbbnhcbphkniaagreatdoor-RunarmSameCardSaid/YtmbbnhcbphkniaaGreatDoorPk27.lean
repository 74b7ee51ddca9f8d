/-
  Small functions of the document's answer: has, find, sized, get, U. Conditions: none.
-/
import Derived.Test.YtmbbnhcbphkniaaGreatDoorPk26
import Derived.Test.YtmbbnhcbphkniaaGreatDoorPk25
import Derived.Test.YtmbbnhcbphkniaaGreatDoorPk24
set_option linter.unusedVariables false
set_option linter.unusedSimpArgs false
namespace Go.Rk
open Go Go.Ab Go.Proofs Go.Ra Go.Wd
noncomputable def cx84 : Cx := { P := Tryz.prog, n := 17, tab := [], mtab := [], refs := [], keeps := [0, 1, 4, 5, 9, 16] }
noncomputable def cx83 : Cx := { P := Tryz.prog, n := 25, tab := [(104, tableS)], mtab := [], refs := [], keeps := [0, 2, 3, 4, 5, 10, 19] }
noncomputable def cx189 : Cx := { P := Tryz.prog, n := 17, tab := [], mtab := [], refs := [], keeps := [0, 2] }
def hasRound (s : List UInt8) (c k : Int) : Tree St :=
  (.br (decide (k < ↑(List.length s))) (.br (inside k (List.length s)) (.br (↑(UInt8.toNat (List.getD s (Int.toNat k) 0)) == c) (.leaf (.ret, [(0, (.str s)), (1, (.int .u8 c)), (4, (.bool true)), (5, (.int .i64 k)), (9, (.bool true)), (16, (.bool true))], [])) (.leaf (.normal, [(0, (.str s)), (1, (.int .u8 c)), (5, (.int .i64 (IntKind.wrap IntKind.i64 (k + 1)))), (9, (.bool true)), (16, (.bool false))], []))) .fail) (.leaf ((.exit 0), [(0, (.str s)), (1, (.int .u8 c)), (5, (.int .i64 k)), (9, (.bool false))], [])))
theorem hasRound_eq (s : List UInt8) (c k : Int) : (dcode cx84 (cin (cin (c2 (c1 (tailN 0 (bodyOf Tryz.f84)))))) [(0, .str s), (1, .int .u8 c), (5, .int .i64 k)] []).run = (hasRound s c k).run :=
  (show (dcode cx84 (cin (cin (c2 (c1 (tailN 0 (bodyOf Tryz.f84)))))) [(0, .str s), (1, .int .u8 c), (5, .int .i64 k)] []).run = (hasRound s c k).out by kernel_rfl).trans (Tree.out_run _)
def findXRound (nm : List UInt8) (i : Int) (l : List rowXE.ty) : Tree St :=
  (.br (decide (i < ↑(List.length l))) (.br (inside i (List.length l)) (.br (strEq (tS (Prod.fst (List.getD l (Int.toNat i) (EC.dflt Go.Rk.rowXE)))) nm) (.br (inside i (List.length l)) (.leaf (.ret, [(0, (.str nm)), (2, (.ptr 0 0)), (3, (.bool true)), (4, (.sl (.prod [.str, (.int .u32), .str, (.int .u64), (.int .u64), (.int .i64), (.int .u8), (.int .u64), (.int .u64), (.int .i64), (.int .i64), (.int .i64)]) (l) ([]) Fl.ro)), (5, (.int .i64 i)), (10, (.bool true)), (19, (.bool true))], [(.cells [(.str (tS (Prod.fst (List.getD l (Int.toNat i) (EC.dflt Go.Rk.rowXE))))), (.int .u32 (tI (Prod.fst (Prod.snd (List.getD l (Int.toNat i) (EC.dflt Go.Rk.rowXE)))))), (.str (tS (Prod.fst (Prod.snd (Prod.snd (List.getD l (Int.toNat i) (EC.dflt Go.Rk.rowXE))))))), (.int .u64 (tI (Prod.fst (Prod.snd (Prod.snd (Prod.snd (List.getD l (Int.toNat i) (EC.dflt Go.Rk.rowXE)))))))), (.int .u64 (tI (Prod.fst (Prod.snd (Prod.snd (Prod.snd (Prod.snd (List.getD l (Int.toNat i) (EC.dflt Go.Rk.rowXE))))))))), (.int .i64 (tI (Prod.fst (Prod.snd (Prod.snd (Prod.snd (Prod.snd (Prod.snd (List.getD l (Int.toNat i) (EC.dflt Go.Rk.rowXE)))))))))), (.int .u8 (tI (Prod.fst (Prod.snd (Prod.snd (Prod.snd (Prod.snd (Prod.snd (Prod.snd (List.getD l (Int.toNat i) (EC.dflt Go.Rk.rowXE))))))))))), (.int .u64 (tI (Prod.fst (Prod.snd (Prod.snd (Prod.snd (Prod.snd (Prod.snd (Prod.snd (Prod.snd (List.getD l (Int.toNat i) (EC.dflt Go.Rk.rowXE)))))))))))), (.int .u64 (tI (Prod.fst (Prod.snd (Prod.snd (Prod.snd (Prod.snd (Prod.snd (Prod.snd (Prod.snd (Prod.snd (List.getD l (Int.toNat i) (EC.dflt Go.Rk.rowXE))))))))))))), (.int .i64 (tI (Prod.fst (Prod.snd (Prod.snd (Prod.snd (Prod.snd (Prod.snd (Prod.snd (Prod.snd (Prod.snd (Prod.snd (List.getD l (Int.toNat i) (EC.dflt Go.Rk.rowXE)))))))))))))), (.int .i64 (tI (Prod.fst (Prod.snd (Prod.snd (Prod.snd (Prod.snd (Prod.snd (Prod.snd (Prod.snd (Prod.snd (Prod.snd (Prod.snd (List.getD l (Int.toNat i) (EC.dflt Go.Rk.rowXE))))))))))))))), (.int .i64 (Prod.snd (Prod.snd (Prod.snd (Prod.snd (Prod.snd (Prod.snd (Prod.snd (Prod.snd (Prod.snd (Prod.snd (Prod.snd (List.getD l (Int.toNat i) (EC.dflt Go.Rk.rowXE))))))))))))))] 126)])) .fail) (.leaf (.normal, [(0, (.str nm)), (2, (.ptr 0 0)), (4, (.sl (.prod [.str, (.int .u32), .str, (.int .u64), (.int .u64), (.int .i64), (.int .u8), (.int .u64), (.int .u64), (.int .i64), (.int .i64), (.int .i64)]) (l) ([]) Fl.ro)), (5, (.int .i64 (IntKind.wrap IntKind.i64 (i + 1)))), (10, (.bool true)), (19, (.bool false))], [(.cells [(.str []), (.int .u32 0), (.str []), (.int .u64 0), (.int .u64 0), (.int .i64 0), (.int .u8 0), (.int .u64 0), (.int .u64 0), (.int .i64 0), (.int .i64 0), (.int .i64 0)] 126)]))) .fail) (.leaf ((.exit 0), [(0, (.str nm)), (2, (.ptr 0 0)), (4, (.sl (.prod [.str, (.int .u32), .str, (.int .u64), (.int .u64), (.int .i64), (.int .u8), (.int .u64), (.int .u64), (.int .i64), (.int .i64), (.int .i64)]) (l) ([]) Fl.ro)), (5, (.int .i64 i)), (10, (.bool false))], [(.cells [(.str []), (.int .u32 0), (.str []), (.int .u64 0), (.int .u64 0), (.int .i64 0), (.int .u8 0), (.int .u64 0), (.int .u64 0), (.int .i64 0), (.int .i64 0), (.int .i64 0)] 126)])))
theorem findXRound_eq (nm : List UInt8) (i : Int) (l : List rowXE.ty) : (dcode cx83 (cin (cin (c2 (c1 (tailN 1 (bodyOf Tryz.f83)))))) [(0, .str nm), (2, .ptr 0 0), (4, .sl rowXE l [] .ro), (5, .int .i64 i)] [(.cells [.str [], .int .u32 0, .str [], .int .u64 0, .int .u64 0, .int .i64 0, .int .u8 0, .int .u64 0, .int .u64 0, .int .i64 0, .int .i64 0, .int .i64 0] 126)]).run = (findXRound nm i l).run :=
  (show (dcode cx83 (cin (cin (c2 (c1 (tailN 1 (bodyOf Tryz.f83)))))) [(0, .str nm), (2, .ptr 0 0), (4, .sl rowXE l [] .ro), (5, .int .i64 i)] [(.cells [.str [], .int .u32 0, .str [], .int .u64 0, .int .u64 0, .int .i64 0, .int .u8 0, .int .u64 0, .int .u64 0, .int .i64 0, .int .i64 0, .int .i64 0] 126)]).run = (findXRound nm i l).out by kernel_rfl).trans (Tree.out_run _)
def findXEnd (nm : List UInt8) : Tree St :=
  (.leaf (.ret, [(0, (.str nm)), (2, (.ptr 0 0)), (3, (.bool false))], [(.cells [(.str []), (.int .u32 0), (.str []), (.int .u64 0), (.int .u64 0), (.int .i64 0), (.int .u8 0), (.int .u64 0), (.int .u64 0), (.int .i64 0), (.int .i64 0), (.int .i64 0)] 126)]))
theorem findXEnd_eq (nm : List UInt8) : (dcode cx83 (tailN 2 (bodyOf Tryz.f83)) [(0, .str nm), (2, .ptr 0 0)] [(.cells [.str [], .int .u32 0, .str [], .int .u64 0, .int .u64 0, .int .i64 0, .int .u8 0, .int .u64 0, .int .u64 0, .int .i64 0, .int .i64 0, .int .i64 0] 126)]).run = (findXEnd nm).run :=
  (show (dcode cx83 (tailN 2 (bodyOf Tryz.f83)) [(0, .str nm), (2, .ptr 0 0)] [(.cells [.str [], .int .u32 0, .str [], .int .u64 0, .int .u64 0, .int .i64 0, .int .u8 0, .int .u64 0, .int .u64 0, .int .i64 0, .int .i64 0, .int .i64 0] 126)]).run = (findXEnd nm).out by kernel_rfl).trans (Tree.out_run _)
def sizedT (n : Int) : Tree V :=
  (.br (n == 1) (.leaf (.bool true)) (.br (n == 2) (.leaf (.bool true)) (.br (n == 4) (.leaf (.bool true)) (.leaf (.bool (n == 8))))))
theorem sizedT_eq (n : Int) : (dfun cx189 Tryz.f189 [.int .i64 n]).run = (sizedT n).run :=
  (show (dfun cx189 Tryz.f189 [.int .i64 n]).run = (sizedT n).out by kernel_rfl).trans (Tree.out_run _)
def isL (c : Int) (b : UInt8) : Bool := ((UInt8.toNat b : Nat) : Int) == c
def hasX (s : List UInt8) (c : Int) : Bool := s.any (isL c)
theorem any_take_succ {α : Type} {p : α → Bool} {l : List α} {i : Nat} {d : α} (hi : i < l.length) : (l.take (i + 1)).any p = ((l.take i).any p || p (l.getD i d)) := by
  rw [List.take_add_one, List.getElem?_eq_getElem hi, getD_lt hi, List.any_append]
  simp
def hasSt (s : List UInt8) (c : Int) (i : { i : Nat // i ≤ s.length ∧ (s.take i).any (isL c) = false }) : T × List O := ([(0, .str s), (1, .int .u8 c), (5, .int .i64 i.1)], [])
set_option maxRecDepth 8000 in
theorem has_ok (s : List UInt8) (c : Int) (hl : s.length < 1000000000) : PCall Tryz.prog 84 [.str s, .int .u8 c] (.bool (hasX s c)) := by
  refine pcall_of' (c := bodyOf Tryz.f84) (fn := Tryz.f84) (by kernel_rfl) (by kernel_rfl) (by kernel_rfl) (by kernel_rfl) ?_
  have e : bodyOf Tryz.f84 = .seq (c1 (bodyOf Tryz.f84)) (.seq (.seq (c1 (c1 (tailN 0 (bodyOf Tryz.f84)))) (.block 0 (.loop (cin (cin (c2 (c1 (tailN 0 (bodyOf Tryz.f84)))))))))  (tailN 1 (bodyOf Tryz.f84))) := by kernel_rfl
  rw [e]
  generalize hQ : (fun e t H => (e = AEx.ret ∨ e = .normal) ∧ answerV Tryz.prog Tryz.f84.results.toList H t = some (.bool (hasX s c))) = Q
  have hok : CxOk cx84 := cx0_ok rfl rfl
  refine AWP_seq (AWP_run (cx := cx84) rfl rfl hok (s := (.normal, [(0, .str s), (1, .int .u8 c), (4, .bool false)], [])) (by kernel_rfl) ?_)
  refine AWP_seq (AWP_seq (AWP_run (cx := cx84) rfl rfl hok (s := (.normal, [(0, .str s), (1, .int .u8 c), (4, .bool false), (5, .int .i64 0)], [])) (by kernel_rfl) ?_))
  refine AWP_block ?_
  refine AWP.less (s := (hasSt s c ⟨0, Nat.zero_le _, rfl⟩).1) (Fits.tle ⟨rfl, rfl, rfl, trivial⟩) ?_
  refine AWP_rounds (cx := cx84) (P := Tryz.prog) (n := 17) rfl rfl hok (hasSt s c) (fun i => s.length - i.1) ?_ ⟨0, Nat.zero_le _, rfl⟩
  rintro ⟨i, hi, hnone⟩
  refine Tree.all_run_eq (hasRound_eq s c i) ?_
  refine ⟨fun hlt => ⟨fun hin => ⟨fun hm => ?_, fun hm => ?_⟩, fun hin => ?_⟩, fun hge => ?_⟩
  · have hlt : i < s.length := Int.ofNat_lt.1 (of_decide_eq_true hlt)
    refine ⟨[], _, rfl, ?_⟩
    subst hQ
    refine ⟨.inl rfl, ?_⟩
    have h1 : hasX s c = true := by
      unfold hasX
      rw [List.any_eq_true]
      exact ⟨s.getD i 0, by rw [getD_lt hlt]; exact List.getElem_mem hlt, hm⟩
    show answerV _ _ _ _ = some _
    rw [h1]
    kernel_rfl
  · have hlt : i < s.length := Int.ofNat_lt.1 (of_decide_eq_true hlt)
    have hn : (s.take (i + 1)).any (isL c) = false := by
      rw [any_take_succ (d := 0) hlt, hnone, Bool.false_or]
      exact hm
    refine ⟨[], _, rfl, ⟨i + 1, hlt, hn⟩, by show s.length - (i + 1) < s.length - i; omega, Fits.tle ⟨rfl, rfl, ?_, trivial⟩, rfl⟩
    show V.int .i64 (IntKind.wrap .i64 ((i : Int) + 1)) = V.int .i64 ((i + 1 : Nat) : Int)
    rw [wrap_i64 (by omega) (by omega)]
    rfl
  · exfalso
    have hlt : i < s.length := Int.ofNat_lt.1 (of_decide_eq_true hlt)
    exact Bool.noConfusion ((inside_of (Int.natCast_nonneg i) (Int.ofNat_lt.2 hlt)).symm.trans hin)
  · have hge : ¬ i < s.length := fun h => of_decide_eq_false hge (Int.ofNat_lt.2 h)
    have hi' : i = s.length := by omega
    refine ⟨[], _, rfl, ?_⟩
    show AWP _ _ _ _ _ _
    refine AWP.less (s := []) (Fits.tle trivial) ?_
    refine AWP_run (cx := cx84) rfl rfl hok (s := (.ret, [(4, .bool false)], [])) (by kernel_rfl) ?_
    subst hQ
    refine ⟨.inl rfl, ?_⟩
    have h1 : hasX s c = false := by unfold hasX; rw [← hnone, hi', List.take_length]
    show answerV _ _ _ _ = some _
    rw [h1]
    kernel_rfl
def hasS : Ab.Spec := fun args => match args with
  | [.str s, .int .u8 c] => .req (decide (s.length < 1000000000)) (.leaf (.bool (hasX s c)))
  | _ => .fail
theorem hasS_ok : Sound Tryz.prog 84 hasS := by
  intro args out h
  unfold hasS at h
  split at h
  rotate_left
  · cases h
  obtain ⟨h1, h2⟩ := req_run h
  simp only [Tree.run, Option.some.injEq] at h2
  subst h2
  exact has_ok _ _ (of_decide_eq_true h1)
def sizedX (n : Int) : Bool := cond (n == 1) true (cond (n == 2) true (cond (n == 4) true (n == 8)))
def sizedS : Ab.Spec := fun args => match args with
  | [.int .i64 n] => .leaf (.bool (sizedX n))
  | _ => .fail
theorem sizedS_ok : Sound Tryz.prog 189 sizedS := by
  intro args out h
  unfold sizedS at h
  split at h
  rotate_left
  · cases h
  rename_i n
  refine pcall_fun' (cx := cx189) (fn := Tryz.f189) (cx0_ok rfl rfl) (by kernel_rfl) (by kernel_rfl) (by kernel_rfl) ?_
  rw [sizedT_eq, ← h]
  unfold sizedT sizedX
  cases (n == 1) <;> cases (n == 2) <;> cases (n == 4) <;> rfl
noncomputable def cx139 : Cx := { P := Tryz.prog, n := 39, tab := [(189, sizedS), (134, numS)], mtab := [], refs := [], keeps := [0, 1, 2, 3, 8, 9, 10, 13, 21, 27, 34] }
def getXT (l sp : List Int) (_fl : Fl) (at_ : Int) : Tree V :=
  (.br (decide (at_ < 0)) (.leaf (.tup [(.int .u64 0), (.int .i64 5)])) (.br (decide (↑(List.length l) < at_)) (.leaf (.tup [(.int .u64 0), (.int .i64 5)])) (.br (decide (IntKind.wrap IntKind.i64 (↑(List.length l) - at_) < 4)) (.leaf (.tup [(.int .u64 0), (.int .i64 2)])) (.br (decide (0 ≤ at_) && decide (at_ ≤ IntKind.wrap IntKind.i64 (at_ + 4)) && decide (IntKind.wrap IntKind.i64 (at_ + 4) ≤ ↑(List.length l + List.length sp))) (.br (decide (List.length (sub (l ++ sp) (Int.toNat at_) (Int.toNat (IntKind.wrap IntKind.i64 (at_ + 4)))) < 1000000000)) (.leaf (.tup [(.int .u64 (numL (sub (l ++ sp) (Int.toNat at_) (Int.toNat (IntKind.wrap IntKind.i64 (at_ + 4)))))), (.int .i64 0)])) .fail) .fail))))
theorem getXT_eq (l sp : List Int) (fl : Fl) (at_ : Int) : (dfun cx139 Tryz.f139 [.sl (.int .u8) l sp fl, .int .i64 at_, .int .i64 4, .bool false]).run = (getXT l sp fl at_).run :=
  (show (dfun cx139 Tryz.f139 [.sl (.int .u8) l sp fl, .int .i64 at_, .int .i64 4, .bool false]).run = (getXT l sp fl at_).out by kernel_rfl).trans (Tree.out_run _)
def uE (l : List Int) (at_ : Int) : Int := cond (outOf l at_) 5 (cond (shortOf l at_) 2 0)
def uV (l : List Int) (at_ : Int) : Int := cond (outOf l at_) 0 (cond (shortOf l at_) 0 (numL (sub l at_.toNat (at_.toNat + 4))))
theorem sub_left {l s : List Int} {a b : Nat} (h : b ≤ l.length) : sub (l ++ s) a b = sub l a b := by
  simp only [sub]
  rw [List.take_append_of_le_length h]
def getXS : Ab.Spec := fun args => match args with
  | [.sl (.int .u8) l _ _, .int .i64 at_, .int .i64 si, .bool big] => .req (decide (si = 4)) (.req (!big) (.req (decide (l.length < 1000000000)) (.leaf (.tup [.int .u64 (uV l at_), .int .i64 (uE l at_)]))))
  | _ => .fail
set_option maxRecDepth 8000 in
theorem getX_ok (l sp : List Int) (fl : Fl) (at_ : Int) (h3 : l.length < 1000000000) : PCall Tryz.prog 139 [.sl (.int .u8) l sp fl, .int .i64 at_, .int .i64 4, .bool false] (.tup [.int .u64 (uV l at_), .int .i64 (uE l at_)]) := by
  refine pcall_fun' (cx := cx139) (fn := Tryz.f139) (cx1_ok (.cons sizedS_ok (.cons numS_ok (.nil _))) (.nil _) rfl rfl) (by kernel_rfl) (by kernel_rfl) (by kernel_rfl) ?_
  refine (getXT_eq l sp fl at_).trans ?_
  unfold getXT uV uE outOf shortOf
  cases g1 : decide (at_ < 0)
  rotate_left
  · rfl
  cases g2 : decide ((l.length : Int) < at_)
  rotate_left
  · rfl
  cases g3 : decide (IntKind.wrap IntKind.i64 ((l.length : Int) - at_) < 4)
  rotate_left
  · rfl
  have g1 := of_decide_eq_false g1
  have g2 := of_decide_eq_false g2
  have g3 := of_decide_eq_false g3
  rw [wrap_i64 (by omega) (by omega)] at g3
  have e : IntKind.wrap IntKind.i64 (at_ + 4) = at_ + 4 := wrap_i64 (by omega) (by omega)
  rw [e, show (at_ + 4).toNat = at_.toNat + 4 from by omega, sub_left (by omega)]
  have c1 : (decide (0 ≤ at_) && decide (at_ ≤ at_ + 4) && decide (at_ + 4 ≤ ((l.length + sp.length : Nat) : Int))) = true := by
    simp only [Bool.and_eq_true, decide_eq_true_eq]
    omega
  have c2 : decide ((sub l at_.toNat (at_.toNat + 4)).length < 1000000000) = true := by
    refine decide_eq_true ?_
    simp only [sub, List.length_drop, List.length_take]
    omega
  rw [c1, c2]
  rfl
theorem getXS_ok : Sound Tryz.prog 139 getXS := by
  intro args out h
  unfold getXS at h
  split at h
  rotate_left
  · cases h
  rename_i l sp fl at_ si big
  obtain ⟨h1, ha⟩ := req_run h
  obtain ⟨h2, hb⟩ := req_run ha
  obtain ⟨h3, hc⟩ := req_run hb
  have h1 := of_decide_eq_true h1
  have h2 : big = false := by simpa using h2
  simp only [Tree.run, Option.some.injEq] at hc
  subst hc
  subst h1
  subst h2
  exact getX_ok l sp fl at_ (of_decide_eq_true h3)
noncomputable def cx103 : Cx := { P := Tryz.prog, n := 14, tab := [(139, getXS)], mtab := [], refs := [], keeps := [0, 1, 2, 6, 7] }
def uS : Ab.Spec := fun args => match args with
  | [.sl (.int .u8) l _ _, .int .i64 at_, .int .i64 si] => .req (decide (si = 4)) (.req (decide (l.length < 1000000000)) (.leaf (.tup [.int .u64 (uV l at_), .int .i64 (uE l at_)])))
  | _ => .fail
def uT (l _sp : List Int) (_fl : Fl) (at_ si : Int) : Tree V :=
  (.br (decide (si = 4)) (.br (decide (List.length l < 1000000000)) (.leaf (.tup [(.int .u64 (Go.Rk.uV l at_)), (.int .i64 (Go.Rk.uE l at_))])) .fail) .fail)
theorem uT_eq (l sp : List Int) (fl : Fl) (at_ si : Int) : (dfun cx103 Tryz.f103 [.sl (.int .u8) l sp fl, .int .i64 at_, .int .i64 si]).run = (uT l sp fl at_ si).run :=
  (show (dfun cx103 Tryz.f103 [.sl (.int .u8) l sp fl, .int .i64 at_, .int .i64 si]).run = (uT l sp fl at_ si).out by kernel_rfl).trans (Tree.out_run _)
theorem u_ok (l sp : List Int) (fl : Fl) (at_ si : Int) (h1 : decide (si = 4) = true) (h2 : decide (l.length < 1000000000) = true) : PCall Tryz.prog 103 [.sl (.int .u8) l sp fl, .int .i64 at_, .int .i64 si] (.tup [.int .u64 (uV l at_), .int .i64 (uE l at_)]) := by
  refine pcall_fun' (cx := cx103) (fn := Tryz.f103) (cx1_ok (.cons getXS_ok (.nil _)) (.nil _) rfl rfl) (by kernel_rfl) (by kernel_rfl) (by kernel_rfl) ?_
  refine (uT_eq l sp fl at_ si).trans ?_
  unfold uT
  rw [h1, h2]
  rfl
theorem uS_ok : Sound Tryz.prog 103 uS := by
  intro args out h
  unfold uS at h
  split at h
  rotate_left
  · cases h
  rename_i l sp fl at_ si
  obtain ⟨h1, ha⟩ := req_run h
  obtain ⟨h2, hc⟩ := req_run ha
  simp only [Tree.run, Option.some.injEq] at hc
  subst hc
  exact u_ok l sp fl at_ si h1 h2
theorem cxX35_ok : CxOk cx83 := cx1_ok (.cons tableS_ok (.nil _)) (.nil _) rfl rfl
def zeroX : RowX := ([], 0, [], 0, 0, 0, 0, 0, 0, 0, 0, 0)
def findLX (nm : List UInt8) (l : List RowX) : Option RowX := l.find? fun r => strEq r.1 nm
def frowX (nm : List UInt8) : RowX := (findLX nm rowsX).getD zeroX
def fokX (nm : List UInt8) : Bool := (findLX nm rowsX).isSome
abbrev rowXL (r : RowX) : List V := [.str r.1, .int .u32 r.2.1, .str r.2.2.1, .int .u64 r.2.2.2.1, .int .u64 r.2.2.2.2.1, .int .i64 r.2.2.2.2.2.1, .int .u8 r.2.2.2.2.2.2.1, .int .u64 r.2.2.2.2.2.2.2.1, .int .u64 r.2.2.2.2.2.2.2.2.1, .int .i64 r.2.2.2.2.2.2.2.2.2.1, .int .i64 r.2.2.2.2.2.2.2.2.2.2.1, .int .i64 r.2.2.2.2.2.2.2.2.2.2.2]
def rowV (r : RowX) : V := .agg (rowXL r)
def findXSt (nm : List UInt8) (i : { i : Nat // i ≤ rowsX.length ∧ findLX nm (rowsX.take i) = none }) : T × List O :=
  ([(0, .str nm), (2, .ptr 0 0), (4, .sl rowXE rowsX [] .ro), (5, .int .i64 i.1)], [(.cells [.str [], .int .u32 0, .str [], .int .u64 0, .int .u64 0, .int .i64 0, .int .u8 0, .int .u64 0, .int .u64 0, .int .i64 0, .int .i64 0, .int .i64 0] 126)])
set_option maxRecDepth 8000 in
theorem findX_ok (nm : List UInt8) : PCall Tryz.prog 83 [.str nm] (.tup [rowV (frowX nm), .bool (fokX nm)]) := by
  refine pcall_of' (c := bodyOf Tryz.f83) (fn := Tryz.f83) (by kernel_rfl) (by kernel_rfl) (by kernel_rfl) (by kernel_rfl) ?_
  have e : bodyOf Tryz.f83 = .seq (c1 (bodyOf Tryz.f83)) (.seq (c1 (tailN 0 (bodyOf Tryz.f83))) (.seq (.seq (c1 (c1 (tailN 1 (bodyOf Tryz.f83)))) (.block 0 (.loop (cin (cin (c2 (c1 (tailN 1 (bodyOf Tryz.f83))))))))) (tailN 2 (bodyOf Tryz.f83)))) := by kernel_rfl
  rw [e]
  generalize hQ : (fun e t H => (e = AEx.ret ∨ e = .normal) ∧ answerV Tryz.prog Tryz.f83.results.toList H t = some (.tup [rowV (frowX nm), .bool (fokX nm)])) = Q
  have hlen := rowsX_len
  refine AWP_seq (AWP_run (cx := cx83) rfl rfl cxX35_ok (s := (.normal, [(0, .str nm), (2, .ptr 0 0), (3, .bool false)], [(.cells [.str [], .int .u32 0, .str [], .int .u64 0, .int .u64 0, .int .i64 0, .int .u8 0, .int .u64 0, .int .u64 0, .int .i64 0, .int .i64 0, .int .i64 0] 126)])) (by kernel_rfl) ?_)
  refine AWP_seq (AWP_run (cx := cx83) rfl rfl cxX35_ok (s := (.normal, [(0, .str nm), (2, .ptr 0 0), (3, .bool false), (4, .sl rowXE rowsX [] .ro)], [(.cells [.str [], .int .u32 0, .str [], .int .u64 0, .int .u64 0, .int .i64 0, .int .u8 0, .int .u64 0, .int .u64 0, .int .i64 0, .int .i64 0, .int .i64 0] 126)])) (by kernel_rfl) ?_)
  refine AWP_seq (AWP_seq (AWP_run (cx := cx83) rfl rfl cxX35_ok (s := (.normal, [(0, .str nm), (2, .ptr 0 0), (3, .bool false), (4, .sl rowXE rowsX [] .ro), (5, .int .i64 0)], [(.cells [.str [], .int .u32 0, .str [], .int .u64 0, .int .u64 0, .int .i64 0, .int .u8 0, .int .u64 0, .int .u64 0, .int .i64 0, .int .i64 0, .int .i64 0] 126)])) (by kernel_rfl) ?_))
  refine AWP_block ?_
  refine AWP.less (s := (findXSt nm ⟨0, Nat.zero_le _, rfl⟩).1) (Fits.tle ⟨rfl, rfl, rfl, rfl, trivial⟩) ?_
  refine AWP_rounds (cx := cx83) (P := Tryz.prog) (n := 25) rfl rfl cxX35_ok (findXSt nm) (fun i => 54 - i.1) ?_ ⟨0, Nat.zero_le _, rfl⟩
  rintro ⟨i, hi, hnone⟩
  refine Tree.all_run_eq (findXRound_eq nm i rowsX) ?_
  refine ⟨fun hlt => ⟨fun hin => ⟨fun hp => ⟨fun hin2 => ?_, fun hin2 => Bool.noConfusion (hin.symm.trans hin2)⟩, fun hp => ?_⟩, fun hin => ?_⟩, fun hge => ?_⟩
  · have hlt : i < rowsX.length := Int.ofNat_lt.1 (of_decide_eq_true hlt)
    have hf : findLX nm rowsX = some (rowsX.getD i zeroX) := take_some hlt hnone hp
    refine ⟨[], _, rfl, ?_⟩
    subst hQ
    refine ⟨.inl rfl, ?_⟩
    have h1 : frowX nm = rowsX.getD i zeroX := by unfold frowX; rw [hf]; rfl
    have h2 : fokX nm = true := by unfold fokX; rw [hf]; rfl
    show answerV _ _ _ _ = some _
    rw [h1, h2]
    kernel_rfl
  · have hlt : i < rowsX.length := Int.ofNat_lt.1 (of_decide_eq_true hlt)
    have hf : findLX nm (rowsX.take (i + 1)) = none := take_none hlt hnone hp
    refine ⟨[], _, rfl, ⟨i + 1, hlt, hf⟩, by show 54 - (i + 1) < 54 - i; omega, Fits.tle ⟨rfl, rfl, rfl, ?_, trivial⟩, rfl⟩
    show V.int .i64 (IntKind.wrap .i64 ((i : Int) + 1)) = V.int .i64 ((i + 1 : Nat) : Int)
    rw [wrap_i64 (by omega) (by omega)]
    rfl
  · exfalso
    have hlt : i < rowsX.length := Int.ofNat_lt.1 (of_decide_eq_true hlt)
    exact Bool.noConfusion ((inside_of (Int.natCast_nonneg i) (Int.ofNat_lt.2 hlt)).symm.trans hin)
  · have hge : ¬ ((i : Int) < rowsX.length) := of_decide_eq_false hge
    have hi' : i = rowsX.length := by omega
    refine ⟨[], _, rfl, ?_⟩
    show AWP _ _ _ _ _ _
    refine AWP.less (s := [(0, .str nm), (2, .ptr 0 0)]) (Fits.tle ⟨rfl, rfl, trivial⟩) ?_
    refine AWP_run (cx := cx83) rfl rfl cxX35_ok (findXEnd_eq nm) ?_
    subst hQ
    refine ⟨.inl rfl, ?_⟩
    have hf : findLX nm rowsX = none := by rw [← hnone, hi', List.take_length]
    have h1 : frowX nm = zeroX := by unfold frowX; rw [hf]; rfl
    have h2 : fokX nm = false := by unfold fokX; rw [hf]; rfl
    show answerV _ _ _ _ = some _
    rw [h1, h2]
    kernel_rfl
end Go.Rk

namespace Go.Rk
open Go Go.Ab Go.Proofs Go.Ra Go.Wd
def sizeD (m : Int) : Int := cond (decide (m < 2)) 1 (cond (decide (m < 4)) 2 (cond (decide (m < 8)) 3 (cond (decide (m < 16)) 4 (cond (decide (m < 32)) 5 6))))
def hasD (ops : List UInt8) : Bool := hasX ops 115 || (hasX ops 68 || hasX ops 99)
def cA (x : RowX) : NumT := cond (hasX x.2.2.1 65) (0, 5, 1, 1, 0, 31) zeroN
def cB (x : RowX) : NumT := cond (hasX x.2.2.1 66) (5, 5, 1, 1, 0, 31) zeroN
def cC (x : RowX) : NumT := cond (hasX x.2.2.1 116) (x.2.2.2.1, 6, 1, 1, 0, 63) (cond (hasX x.2.2.1 67) (x.2.2.2.1, 5, 1, 1, 0, 31) zeroN)
def cD (x : RowX) : NumT := cond (hasD x.2.2.1) (x.2.2.2.2.1, sizeD x.2.2.2.2.2.1, 1, 1, 0, x.2.2.2.2.2.1) zeroN
def cI (x : RowX) : NumT := cond (x.2.2.2.2.2.2.1 == 105) (x.2.2.2.2.2.2.2.1, x.2.2.2.2.2.2.2.2.1, 1, x.2.2.2.2.2.2.2.2.2.2.2, x.2.2.2.2.2.2.2.2.2.1, x.2.2.2.2.2.2.2.2.2.2.1)
  (cond (x.2.2.2.2.2.2.1 == 109) maskNm (cond (x.2.2.2.2.2.2.1 == 97) aparN zeroN))
def conv (x : RowX) : RowT := (x.1, x.2.1, cA x, cB x, cC x, cD x, cI x, x.2.2.1)
theorem rows_conv : rowsX.map conv = rowsL := by kernel_rfl
theorem find_conv (nm : List UInt8) : findL nm rowsL = (findLX nm rowsX).map conv := by
  unfold findL findLX
  rw [← rows_conv, List.find?_map]
  rfl
theorem fok_eq (nm : List UInt8) : fok nm = fokX nm := by
  unfold fok fokX
  rw [find_conv]
  cases findLX nm rowsX <;> rfl
theorem frow_eq {nm : List UInt8} (h : fokX nm = true) : frow nm = conv (frowX nm) ∧ frowX nm ∈ rowsX := by
  unfold fokX at h
  obtain ⟨r, hr⟩ := Option.isSome_iff_exists.1 h
  have h1 : frowX nm = r := by unfold frowX; rw [hr]; rfl
  refine ⟨?_, by rw [h1]; exact List.mem_of_find?_eq_some hr⟩
  unfold frow
  rw [find_conv, hr, h1]
  rfl
end Go.Rk

namespace Go.Rk
open Go Go.Ab Go.Proofs Go.Ra Go.Wd
def lowF (e : Int) : Int := cond (e == 64) 18446744073709551615 (IntKind.wrap .u64 (IntKind.wrap .u64 (1 * 2 ^ Min.min (Int.toNat (IntKind.wrap .u64 e)) 64) - 1))
def turnF (x e : Int) : Int := and64 (or64 (IntKind.wrap .u64 (x * 2 ^ 1)) (Int.fdiv x (2 ^ Min.min (Int.toNat (IntKind.wrap .u64 (IntKind.wrap .i64 (e - 1)))) 64))) (lowF e)
def turnS : Ab.Spec := fun args => match args with
  | [.int .u64 x, .int .i64 e] => .leaf (.int .u64 (turnF x e))
  | _ => .fail
noncomputable def cx132 : Cx := { P := Tryz.prog, n := 22, tab := [], mtab := [], refs := [], keeps := [0, 1, 4, 5, 11] }
def turnT (x e : Int) : Tree V :=
  (.br (decide (0 ≤ IntKind.wrap IntKind.u64 e)) (.br (e == 64) (.br (decide (0 ≤ IntKind.wrap IntKind.u64 (IntKind.wrap IntKind.i64 (e - 1)))) (.leaf (.int .u64 (IntKind.wrap IntKind.u64 ↑(BitVec.toNat (BitVec.ofInt 64 (IntKind.wrap IntKind.u64 ↑(BitVec.toNat (BitVec.ofInt 64 (IntKind.wrap IntKind.u64 (x * 2 ^ 1)) ||| BitVec.ofInt 64 (Int.fdiv x (2 ^ Min.min (Int.toNat (IntKind.wrap IntKind.u64 (IntKind.wrap IntKind.i64 (e - 1)))) 64))))) &&& BitVec.ofInt 64 18446744073709551615))))) .fail) (.br (decide (0 ≤ IntKind.wrap IntKind.u64 (IntKind.wrap IntKind.i64 (e - 1)))) (.leaf (.int .u64 (IntKind.wrap IntKind.u64 ↑(BitVec.toNat (BitVec.ofInt 64 (IntKind.wrap IntKind.u64 ↑(BitVec.toNat (BitVec.ofInt 64 (IntKind.wrap IntKind.u64 (x * 2 ^ 1)) ||| BitVec.ofInt 64 (Int.fdiv x (2 ^ Min.min (Int.toNat (IntKind.wrap IntKind.u64 (IntKind.wrap IntKind.i64 (e - 1)))) 64))))) &&& BitVec.ofInt 64 (IntKind.wrap IntKind.u64 (IntKind.wrap IntKind.u64 (1 * 2 ^ Min.min (Int.toNat (IntKind.wrap IntKind.u64 e)) 64) - 1))))))) .fail)) .fail)
theorem turnT_eq (x e : Int) : (dfun cx132 Tryz.f132 [.int .u64 x, .int .i64 e]).run = (turnT x e).run :=
  (show (dfun cx132 Tryz.f132 [.int .u64 x, .int .i64 e]).run = (turnT x e).out by kernel_rfl).trans (Tree.out_run _)
theorem wrap64_nonneg (e : Int) : decide (0 ≤ IntKind.wrap IntKind.u64 e) = true := by
  rw [wrap_u64]
  exact decide_eq_true (by omega)
theorem turnS_ok : Sound Tryz.prog 132 turnS := by
  intro args out h
  unfold turnS at h
  split at h
  rotate_left
  · cases h
  rename_i x e
  have h := leaf_out h
  subst h
  refine pcall_fun' (cx := cx132) (fn := Tryz.f132) (cx0_ok rfl rfl) (by kernel_rfl) (by kernel_rfl) (by kernel_rfl) ?_
  rw [turnT_eq]
  unfold turnT turnF lowF
  rw [wrap64_nonneg, wrap64_nonneg]
  cases (e == 64) <;> rfl
noncomputable def cx86 : Cx := { P := Tryz.prog, n := 73, tab := [(131, highS), (132, turnS)], mtab := [], refs := [], keeps := [0, 2, 3, 4, 5, 6, 7, 8, 9, 10, 11, 12, 13, 15, 23, 28, 44, 47, 52, 60, 62] }
noncomputable abbrev DB : Code := bodyOf Tryz.f86
noncomputable abbrev L0 : Code := cin (cin (c2 (c1 (tailN 0 DB))))
noncomputable abbrev BO : Code := cin (c1 (c2 L0))
noncomputable abbrev KL : Code := cin (cin (c2 (c1 (tailN 3 BO))))
noncomputable abbrev RL : Code := cin (cin (c2 (c1 (tailN 5 BO))))
noncomputable abbrev RB : Code := cin (c1 (c2 RL))
noncomputable abbrev OL : Code := cin (cin (c2 (c1 RB)))
def xPre (m : Int) : Tree St :=
  (.leaf (.normal, [(0, (.int .u64 m)), (2, (.int .i64 0)), (3, (.int .i64 0)), (4, (.int .i64 0)), (5, (.bool false)), (6, (.int .i64 2))], []))
theorem xPre_eq (m : Int) : (dcode cx86 (.seq (c1 DB) (c1 (c1 (tailN 0 DB)))) (initT 0 [.int .u64 m]) []).run = (xPre m).run :=
  (show (dcode cx86 (.seq (c1 DB) (c1 (c1 (tailN 0 DB)))) (initT 0 [.int .u64 m]) []).run = (xPre m).out by kernel_rfl).trans (Tree.out_run _)
def xHead (m e : Int) : Tree St :=
  (.br (decide (e ≤ 64)) (.leaf (.normal, [(0, (.int .u64 m)), (6, (.int .i64 e)), (15, (.bool true))], [])) (.leaf ((.exit 0), [(0, (.int .u64 m)), (6, (.int .i64 e)), (15, (.bool false))], [])))
theorem xHead_eq (m e : Int) : (dcode cx86 (c1 L0) [(0, .int .u64 m), (6, .int .i64 e)] []).run = (xHead m e).run :=
  (show (dcode cx86 (c1 L0) [(0, .int .u64 m), (6, .int .i64 e)] []).run = (xHead m e).out by kernel_rfl).trans (Tree.out_run _)
def xNext (m e : Int) : Tree St :=
  (.leaf (.normal, [(0, (.int .u64 m)), (6, (.int .i64 (IntKind.wrap IntKind.i64 (2 * e))))], []))
theorem xNext_eq (m e : Int) : (dcode cx86 (c2 (c2 L0)) [(0, .int .u64 m), (6, .int .i64 e)] []).run = (xNext m e).run :=
  (show (dcode cx86 (c2 (c2 L0)) [(0, .int .u64 m), (6, .int .i64 e)] []).run = (xNext m e).out by kernel_rfl).trans (Tree.out_run _)
def xLow (m e : Int) : Tree St :=
  (.br (decide (0 ≤ IntKind.wrap IntKind.u64 e)) (.br (e == 64) (.leaf (.normal, [(0, (.int .u64 m)), (6, (.int .i64 e)), (7, (.int .u64 18446744073709551615)), (8, (.int .u64 (IntKind.wrap IntKind.u64 ↑(BitVec.toNat (BitVec.ofInt 64 m &&& BitVec.ofInt 64 18446744073709551615))))), (9, (.bool true)), (23, (.bool true))], [])) (.leaf (.normal, [(0, (.int .u64 m)), (6, (.int .i64 e)), (7, (.int .u64 (IntKind.wrap IntKind.u64 (IntKind.wrap IntKind.u64 (1 * 2 ^ Min.min (Int.toNat (IntKind.wrap IntKind.u64 e)) 64) - 1)))), (8, (.int .u64 (IntKind.wrap IntKind.u64 ↑(BitVec.toNat (BitVec.ofInt 64 m &&& BitVec.ofInt 64 (IntKind.wrap IntKind.u64 (IntKind.wrap IntKind.u64 (1 * 2 ^ Min.min (Int.toNat (IntKind.wrap IntKind.u64 e)) 64) - 1))))))), (9, (.bool true)), (23, (.bool false))], []))) .fail)
theorem xLow_eq (m e : Int) : (dcode cx86 (headN 3 BO) [(0, .int .u64 m), (6, .int .i64 e)] []).run = (xLow m e).run :=
  (show (dcode cx86 (headN 3 BO) [(0, .int .u64 m), (6, .int .i64 e)] []).run = (xLow m e).out by kernel_rfl).trans (Tree.out_run _)
def xK0 (m e l x : Int) (b : Bool) : Tree St :=
  (.leaf (.normal, [(0, (.int .u64 m)), (6, (.int .i64 e)), (7, (.int .u64 l)), (8, (.int .u64 x)), (9, (.bool b)), (10, (.int .i64 0))], []))
theorem xK0_eq (m e l x : Int) (b : Bool) : (dcode cx86 (c1 (c1 (tailN 3 BO))) [(0, .int .u64 m), (6, .int .i64 e), (7, .int .u64 l), (8, .int .u64 x), (9, .bool b)] []).run = (xK0 m e l x b).run :=
  (show (dcode cx86 (c1 (c1 (tailN 3 BO))) [(0, .int .u64 m), (6, .int .i64 e), (7, .int .u64 l), (8, .int .u64 x), (9, .bool b)] []).run = (xK0 m e l x b).out by kernel_rfl).trans (Tree.out_run _)
def xKL (m e l x k : Int) (b : Bool) : Tree St :=
  (.br (decide (k < 64)) (.br b (.br (decide (0 ≤ IntKind.wrap IntKind.u64 k)) (.leaf (.normal, [(0, (.int .u64 m)), (6, (.int .i64 e)), (7, (.int .u64 l)), (8, (.int .u64 x)), (9, (.bool (IntKind.wrap IntKind.u64 ↑(BitVec.toNat (BitVec.ofInt 64 (Int.fdiv m (2 ^ Min.min (Int.toNat (IntKind.wrap IntKind.u64 k)) 64)) &&& BitVec.ofInt 64 l)) == x))), (10, (.int .i64 (IntKind.wrap IntKind.i64 (k + e)))), (28, (.bool true))], [])) .fail) (.leaf (.normal, [(0, (.int .u64 m)), (6, (.int .i64 e)), (7, (.int .u64 l)), (8, (.int .u64 x)), (9, (.bool false)), (10, (.int .i64 (IntKind.wrap IntKind.i64 (k + e)))), (28, (.bool true))], []))) (.leaf ((.exit 2), [(0, (.int .u64 m)), (6, (.int .i64 e)), (7, (.int .u64 l)), (8, (.int .u64 x)), (9, (.bool b)), (10, (.int .i64 k)), (28, (.bool false))], [])))
theorem xKL_eq (m e l x k : Int) (b : Bool) : (dcode cx86 KL [(0, .int .u64 m), (6, .int .i64 e), (7, .int .u64 l), (8, .int .u64 x), (9, .bool b), (10, .int .i64 k)] []).run = (xKL m e l x k b).run :=
  (show (dcode cx86 KL [(0, .int .u64 m), (6, .int .i64 e), (7, .int .u64 l), (8, .int .u64 x), (9, .bool b), (10, .int .i64 k)] []).run = (xKL m e l x k b).out by kernel_rfl).trans (Tree.out_run _)
def xAg (m e x : Int) (b : Bool) : Tree St :=
  (.br (!b) (.leaf ((.exit 1), [(0, (.int .u64 m)), (6, (.int .i64 e)), (8, (.int .u64 x)), (9, (.bool b)), (44, (.bool true))], [])) (.leaf (.normal, [(0, (.int .u64 m)), (6, (.int .i64 e)), (8, (.int .u64 x)), (9, (.bool b)), (44, (.bool false))], [])))
theorem xAg_eq (m e x : Int) (b : Bool) : (dcode cx86 (c1 (tailN 4 BO)) [(0, .int .u64 m), (6, .int .i64 e), (8, .int .u64 x), (9, .bool b)] []).run = (xAg m e x b).run :=
  (show (dcode cx86 (c1 (tailN 4 BO)) [(0, .int .u64 m), (6, .int .i64 e), (8, .int .u64 x), (9, .bool b)] []).run = (xAg m e x b).out by kernel_rfl).trans (Tree.out_run _)
def xR0 (e x : Int) : Tree St :=
  (.leaf (.normal, [(6, (.int .i64 e)), (8, (.int .u64 x)), (11, (.int .i64 0))], []))
theorem xR0_eq (e x : Int) : (dcode cx86 (c1 (c1 (tailN 5 BO))) [(6, .int .i64 e), (8, .int .u64 x)] []).run = (xR0 e x).run :=
  (show (dcode cx86 (c1 (c1 (tailN 5 BO))) [(6, .int .i64 e), (8, .int .u64 x)] []).run = (xR0 e x).out by kernel_rfl).trans (Tree.out_run _)
def xRH (e x r : Int) : Tree St :=
  (.br (decide (r < e)) (.leaf (.normal, [(6, (.int .i64 e)), (8, (.int .u64 x)), (11, (.int .i64 r)), (47, (.bool true))], [])) (.leaf ((.exit 4), [(6, (.int .i64 e)), (8, (.int .u64 x)), (11, (.int .i64 r)), (47, (.bool false))], [])))
theorem xRH_eq (e x r : Int) : (dcode cx86 (c1 RL) [(6, .int .i64 e), (8, .int .u64 x), (11, .int .i64 r)] []).run = (xRH e x r).run :=
  (show (dcode cx86 (c1 RL) [(6, .int .i64 e), (8, .int .u64 x), (11, .int .i64 r)] []).run = (xRH e x r).out by kernel_rfl).trans (Tree.out_run _)
def xO0 (e x r : Int) : Tree St :=
  (.leaf (.normal, [(6, (.int .i64 e)), (8, (.int .u64 x)), (11, (.int .i64 r)), (12, (.int .i64 1))], []))
theorem xO0_eq (e x r : Int) : (dcode cx86 (c1 (c1 RB)) [(6, .int .i64 e), (8, .int .u64 x), (11, .int .i64 r)] []).run = (xO0 e x r).run :=
  (show (dcode cx86 (c1 (c1 RB)) [(6, .int .i64 e), (8, .int .u64 x), (11, .int .i64 r)] []).run = (xO0 e x r).out by kernel_rfl).trans (Tree.out_run _)
def xOL (e x r o : Int) : Tree St :=
  (.br (decide (o < e)) (.br (decide (0 ≤ IntKind.wrap IntKind.u64 o)) (.br (x == IntKind.wrap IntKind.u64 (IntKind.wrap IntKind.u64 (1 * 2 ^ Min.min (Int.toNat (IntKind.wrap IntKind.u64 o)) 64) - 1)) (.br (e == 64) (.leaf (.ret, [(2, (.int .i64 1)), (3, (.int .i64 r)), (4, (.int .i64 (IntKind.wrap IntKind.i64 (IntKind.wrap IntKind.i64 (Go.Rk.highF e + o) - 1)))), (5, (.bool true)), (6, (.int .i64 e)), (8, (.int .u64 x)), (11, (.int .i64 r)), (12, (.int .i64 o)), (13, (.int .i64 1)), (52, (.bool true)), (60, (.bool true)), (62, (.bool true))], [])) (.leaf (.ret, [(2, (.int .i64 0)), (3, (.int .i64 r)), (4, (.int .i64 (IntKind.wrap IntKind.i64 (IntKind.wrap IntKind.i64 (Go.Rk.highF e + o) - 1)))), (5, (.bool true)), (6, (.int .i64 e)), (8, (.int .u64 x)), (11, (.int .i64 r)), (12, (.int .i64 o)), (13, (.int .i64 0)), (52, (.bool true)), (60, (.bool true)), (62, (.bool false))], []))) (.leaf (.normal, [(6, (.int .i64 e)), (8, (.int .u64 x)), (11, (.int .i64 r)), (12, (.int .i64 (IntKind.wrap IntKind.i64 (o + 1)))), (52, (.bool true)), (60, (.bool false))], []))) .fail) (.leaf ((.exit 6), [(6, (.int .i64 e)), (8, (.int .u64 x)), (11, (.int .i64 r)), (12, (.int .i64 o)), (52, (.bool false))], [])))
theorem xOL_eq (e x r o : Int) : (dcode cx86 OL [(6, .int .i64 e), (8, .int .u64 x), (11, .int .i64 r), (12, .int .i64 o)] []).run = (xOL e x r o).run :=
  (show (dcode cx86 OL [(6, .int .i64 e), (8, .int .u64 x), (11, .int .i64 r), (12, .int .i64 o)] []).run = (xOL e x r o).out by kernel_rfl).trans (Tree.out_run _)
def xRT (e x r : Int) : Tree St :=
  (.leaf (.normal, [(6, (.int .i64 e)), (8, (.int .u64 (Go.Rk.turnF x e))), (11, (.int .i64 r))], []))
theorem xRT_eq (e x r : Int) : (dcode cx86 (c2 RB) [(6, .int .i64 e), (8, .int .u64 x), (11, .int .i64 r)] []).run = (xRT e x r).run :=
  (show (dcode cx86 (c2 RB) [(6, .int .i64 e), (8, .int .u64 x), (11, .int .i64 r)] []).run = (xRT e x r).out by kernel_rfl).trans (Tree.out_run _)
def xRN (e x r : Int) : Tree St :=
  (.leaf (.normal, [(6, (.int .i64 e)), (8, (.int .u64 x)), (11, (.int .i64 (IntKind.wrap IntKind.i64 (r + 1))))], []))
theorem xRN_eq (e x r : Int) : (dcode cx86 (c2 (c2 RL)) [(6, .int .i64 e), (8, .int .u64 x), (11, .int .i64 r)] []).run = (xRN e x r).run :=
  (show (dcode cx86 (c2 (c2 RL)) [(6, .int .i64 e), (8, .int .u64 x), (11, .int .i64 r)] []).run = (xRN e x r).out by kernel_rfl).trans (Tree.out_run _)
def xRE  : Tree St :=
  (.leaf (.ret, [(2, (.int .i64 0)), (3, (.int .i64 0)), (4, (.int .i64 0)), (5, (.bool false))], []))
theorem xRE_eq  : (dcode cx86 (tailN 6 BO) [] []).run = (xRE ).run :=
  (show (dcode cx86 (tailN 6 BO) [] []).run = (xRE ).out by kernel_rfl).trans (Tree.out_run _)
end Go.Rk

namespace Go.Rk
open Go Go.Ab Go.Proofs Go.Ra Go.Wd
theorem onesN_eq {e : Nat} (h : e ≤ 64) : onesN e = 2 ^ e - 1 := by
  unfold onesN
  by_cases h' : 64 ≤ e
  · rw [Nat.ble_eq_true_of_le h', show e = 64 from by omega]; rfl
  · cases hb : Nat.ble 64 e
    · rfl
    · exact absurd (Nat.le_of_ble_eq_true hb) h'
theorem eL_cases {e : Nat} (h : e ∈ eL) : 2 ≤ e ∧ e ≤ 64 := by
  simp only [eL, List.mem_cons, List.not_mem_nil, or_false] at h
  omega
def agI (m e i : Nat) : Bool := Nat.beq ((m >>> (i * e)) &&& onesN e) (m &&& onesN e)
def agN (m e : Nat) : Bool := (List.range (64 / e)).all (agI m e)
def turnX (x e : Nat) : Nat := ((x <<< 1) % 2 ^ 64 ||| x >>> (e - 1)) &&& onesN e
def turnK (e : Nat) : Nat → Nat → Nat
  | 0, x => x
  | r + 1, x => turnX (turnK e r x) e
def oP (x o : Nat) : Bool := Nat.blt 0 o && Nat.beq x (onesN o)
def oF (x e : Nat) : Option Nat := (List.range e).find? (oP x)
def lowX (m e : Nat) : Nat := m &&& onesN e
def rF (m e : Nat) : Option Nat := (List.range e).find? fun r => (oF (turnK e r (lowX m e)) e).isSome
def xE (m : Nat) : Option Nat := eL.find? (agN m)
def xOf (m : Nat) : Option (Nat × Nat × Nat) := (xE m).bind fun e => (rF m e).bind fun r => (oF (turnK e r (lowX m e)) e).map fun o => (e, r, o)
def imsX (e o : Nat) : Int := IntKind.wrap .i64 (IntKind.wrap .i64 (highF (e : Int) + (o : Int)) - 1)
def xOfV (m : Nat) : V := match xOf m with
  | none => .tup [.int .i64 0, .int .i64 0, .int .i64 0, .bool false]
  | some a => .tup [.int .i64 (cond (Nat.beq a.1 64) 1 0), .int .i64 (a.2.1 : Nat), .int .i64 (imsX a.1 a.2.2), .bool true]
theorem turnX_bit {x e i : Nat} (he : e ≤ 64) (h : i + 1 < e) (hx : x < 2 ^ e) : (turnX x e).testBit (i + 1) = x.testBit i := by
  unfold turnX
  rw [onesN_eq he, Nat.testBit_and, Nat.testBit_or, Nat.testBit_two_pow_sub_one, Nat.testBit_mod_two_pow, Nat.testBit_shiftLeft, Nat.testBit_shiftRight]
  have hb : x.testBit (e - 1 + (i + 1)) = false := Nat.testBit_lt_two_pow (Nat.lt_of_lt_of_le hx (Nat.pow_le_pow_right (by omega) (by omega)))
  rw [hb, decide_eq_true (show i + 1 < 64 by omega), decide_eq_true (show i + 1 ≥ 1 by omega), decide_eq_true h]
  simp
theorem turnX_bit0 {x e : Nat} (he : e ≤ 64) (h : 1 ≤ e) : (turnX x e).testBit 0 = x.testBit (e - 1) := by
  unfold turnX
  rw [onesN_eq he, Nat.testBit_and, Nat.testBit_or, Nat.testBit_two_pow_sub_one, Nat.testBit_mod_two_pow, Nat.testBit_shiftLeft, Nat.testBit_shiftRight]
  rw [decide_eq_false (show ¬ (0 : Nat) ≥ 1 by omega), decide_eq_true (show 0 < e by omega)]
  simp
theorem turnX_lt {x e : Nat} (he : e ≤ 64) : turnX x e < 2 ^ e := by
  unfold turnX
  rw [onesN_eq he]
  exact Nat.and_lt_two_pow _ (by have := Nat.two_pow_pos e; omega)
theorem turnX_inj {x y e : Nat} (he : e ≤ 64) (h1 : 1 ≤ e) (hx : x < 2 ^ e) (hy : y < 2 ^ e) (h : turnX x e = turnX y e) : x = y := by
  apply Nat.eq_of_testBit_eq
  intro i
  by_cases hi : i + 1 < e
  · rw [← turnX_bit he hi hx, ← turnX_bit he hi hy, h]
  · by_cases hi' : i = e - 1
    · rw [hi', ← turnX_bit0 (x := x) he h1, ← turnX_bit0 (x := y) he h1, h]
    · rw [Nat.testBit_lt_two_pow (Nat.lt_of_lt_of_le hx (Nat.pow_le_pow_right (by omega) (show e ≤ i by omega))),
        Nat.testBit_lt_two_pow (Nat.lt_of_lt_of_le hy (Nat.pow_le_pow_right (by omega) (show e ≤ i by omega)))]
theorem turnK_lt {e : Nat} (he : e ≤ 64) : ∀ (r x : Nat), x < 2 ^ e → turnK e r x < 2 ^ e
  | 0, _, h => h
  | _ + 1, _, _ => turnX_lt he
theorem turnK_inj {e : Nat} (he : e ≤ 64) (h1 : 1 ≤ e) : ∀ (r x y : Nat), x < 2 ^ e → y < 2 ^ e → turnK e r x = turnK e r y → x = y
  | 0, _, _, _, _, h => h
  | r + 1, x, y, hx, hy, h => turnK_inj he h1 r x y hx hy (turnX_inj he h1 (turnK_lt he r x hx) (turnK_lt he r y hy) h)
def elemT (e c r : Nat) : Nat := turnedN (onesN c) e r
def isOnes (x e : Nat) : Bool := !Nat.beq x 0 && (Nat.beq ((x + 1) &&& x) 0 && !Nat.beq x (onesN e))
theorem step_all : allT (fun e c r => Nat.beq (lowX (maskM e c r) e) (elemT e c r) && (Nat.beq r 0 || (Nat.beq (turnX (elemT e c r) e) (elemT e c (r - 1)) && !isOnes (elemT e c r) e))) = true := by kernel_rfl
theorem zero_all : allT (fun e c r => Nat.blt 0 r || (Nat.beq (elemT e c 0) (onesN c) && decide (imsX e c = imsI e c))) = true := by kernel_rfl
theorem ag_all : allT (fun e c r => agN (maskM e c r) e && (Nat.beq (ofE (maskM e c r)) e && (pR (ofX (maskM e c r)) e (ofC (maskM e c r)) r && !(Nat.beq (maskM e c r) 0 || Nat.beq (maskM e c r) 18446744073709551615)))) = true := by kernel_rfl
theorem less_all : allT (fun e c r => eL.all fun d => Nat.ble e d || !agN (maskM e c r) d) = true := by kernel_rfl
theorem oF_all : eL.all (fun e => (List.range e).all fun c => Nat.beq c 0 || decide (oF (onesN c) e = some c)) = true := by kernel_rfl
theorem ones_all : eL.all (fun e => (List.range e).all fun c => Nat.beq c 0 || isOnes (onesN c) e) = true := by kernel_rfl
theorem oF_some {x e o : Nat} (h : oF x e = some o) : 0 < o ∧ o < e ∧ x = onesN o := by
  unfold oF at h
  have h1 := List.find?_some h
  have h2 := List.mem_range.1 (List.mem_of_find?_eq_some h)
  obtain ⟨a, b⟩ := Bool.and_eq_true_iff.1 h1
  exact ⟨Nat.le_of_ble_eq_true a, h2, Nat.eq_of_beq_eq_true b⟩
theorem oF_none {x e : Nat} (he : e ∈ eL) (h : isOnes x e = false) : oF x e = none := by
  cases ho : oF x e
  · rfl
  · rename_i o
    obtain ⟨a, b, c⟩ := oF_some ho
    have hc := List.all_eq_true.1 (List.all_eq_true.1 ones_all e he) o (List.mem_range.2 b)
    rcases Bool.or_eq_true_iff.1 hc with g | g
    · have := Nat.eq_of_beq_eq_true g; omega
    · rw [c, g] at h; cases h
theorem oF_ones {e c : Nat} (he : e ∈ eL) (h0 : 0 < c) (h1 : c < e) : oF (onesN c) e = some c := by
  have hc := List.all_eq_true.1 (List.all_eq_true.1 oF_all e he) c (List.mem_range.2 h1)
  rcases Bool.or_eq_true_iff.1 hc with g | g
  · have := Nat.eq_of_beq_eq_true g; omega
  · exact of_decide_eq_true g
section
variable {e c r : Nat} (he : e ∈ eL) (c0 : 0 < c) (c1 : c < e) (r1 : r < e)
include he c0 c1 r1
theorem low_mask : lowX (maskM e c r) e = elemT e c r := Nat.eq_of_beq_eq_true (Bool.and_eq_true_iff.1 (allT_spec step_all he c0 c1 r1)).1
theorem elem_step (h : 0 < r) : turnX (elemT e c r) e = elemT e c (r - 1) ∧ isOnes (elemT e c r) e = false := by
  have := (Bool.and_eq_true_iff.1 (allT_spec step_all he c0 c1 r1)).2
  rcases Bool.or_eq_true_iff.1 this with g | g
  · have := Nat.eq_of_beq_eq_true g; omega
  · obtain ⟨a, b⟩ := Bool.and_eq_true_iff.1 g
    exact ⟨Nat.eq_of_beq_eq_true a, by simpa using b⟩
end
theorem elem_zero {e c : Nat} (he : e ∈ eL) (c0 : 0 < c) (c1 : c < e) : elemT e c 0 = onesN c ∧ imsX e c = imsI e c := by
  have := allT_spec zero_all he c0 c1 (r := 0) (by have := eL_cases he; omega)
  rcases Bool.or_eq_true_iff.1 this with g | g
  · cases g
  · obtain ⟨a, b⟩ := Bool.and_eq_true_iff.1 g
    exact ⟨Nat.eq_of_beq_eq_true a, of_decide_eq_true b⟩
theorem turnK_elem {e c r : Nat} (he : e ∈ eL) (c0 : 0 < c) (c1 : c < e) (r1 : r < e) : ∀ k, k ≤ r → turnK e k (elemT e c r) = elemT e c (r - k)
  | 0, _ => rfl
  | k + 1, h => by
    show turnX (turnK e k (elemT e c r)) e = _
    rw [turnK_elem he c0 c1 r1 k (by omega), (elem_step he c0 c1 (r := r - k) (by omega) (by omega)).1]
    congr 1
theorem rF_mask {e c r : Nat} (he : e ∈ eL) (c0 : 0 < c) (c1 : c < e) (r1 : r < e) : rF (maskM e c r) e = some r := by
  unfold rF
  rw [List.find?_range_eq_some, low_mask he c0 c1 r1]
  refine ⟨?_, List.mem_range.2 r1, fun j hj => ?_⟩
  · rw [turnK_elem he c0 c1 r1 r (Nat.le_refl _), Nat.sub_self, (elem_zero he c0 c1).1, oF_ones he c0 c1]
    rfl
  · rw [turnK_elem he c0 c1 r1 j (by omega), oF_none he (elem_step he c0 c1 (r := r - j) (by omega) (by omega)).2]
    rfl
theorem xE_mask {e c r : Nat} (he : e ∈ eL) (c0 : 0 < c) (c1 : c < e) (r1 : r < e) : xE (maskM e c r) = some e := by
  have h1 := (Bool.and_eq_true_iff.1 (allT_spec ag_all he c0 c1 r1)).1
  have h2 := allT_spec less_all he c0 c1 r1
  have hl : ∀ d ∈ eL, d < e → agN (maskM e c r) d = false := by
    intro d hd hlt
    have := List.all_eq_true.1 h2 d hd
    rcases Bool.or_eq_true_iff.1 this with g | g
    · have := Nat.le_of_ble_eq_true g; omega
    · simpa using g
  unfold xE
  generalize maskM e c r = m at *
  simp only [eL, List.mem_cons, List.not_mem_nil, or_false] at he
  have f2 := hl 2 (by simp [eL])
  have f4 := hl 4 (by simp [eL])
  have f8 := hl 8 (by simp [eL])
  have f16 := hl 16 (by simp [eL])
  have f32 := hl 32 (by simp [eL])
  rcases he with rfl | rfl | rfl | rfl | rfl | rfl
  · simp [eL, h1]
  · simp [eL, h1, f2 (by omega)]
  · simp [eL, h1, f2 (by omega), f4 (by omega)]
  · simp [eL, h1, f2 (by omega), f4 (by omega), f8 (by omega)]
  · simp [eL, h1, f2 (by omega), f4 (by omega), f8 (by omega), f16 (by omega)]
  · simp [eL, h1, f2 (by omega), f4 (by omega), f8 (by omega), f16 (by omega), f32 (by omega)]
theorem xOf_mask {e c r : Nat} (he : e ∈ eL) (c0 : 0 < c) (c1 : c < e) (r1 : r < e) : xOf (maskM e c r) = some (e, r, c) := by
  unfold xOf
  rw [xE_mask he c0 c1 r1, Option.bind_some, rF_mask he c0 c1 r1, Option.bind_some, low_mask he c0 c1 r1, turnK_elem he c0 c1 r1 r (Nat.le_refl _), Nat.sub_self,
    (elem_zero he c0 c1).1, oF_ones he c0 c1]
  rfl
theorem ag_bit {m e : Nat} (he : e ∈ eL) (h : agN m e = true) {k : Nat} (hk : k < 64) : m.testBit k = (lowX m e).testBit (k % e) := by
  obtain ⟨e2, e64⟩ := eL_cases he
  have hd : k / e < 64 / e := by
    simp only [eL, List.mem_cons, List.not_mem_nil, or_false] at he
    rcases he with rfl | rfl | rfl | rfl | rfl | rfl <;> omega
  have h1 := Nat.eq_of_beq_eq_true (List.all_eq_true.1 h (k / e) (List.mem_range.2 hd))
  have hm : k % e < e := Nat.mod_lt _ (by omega)
  unfold lowX
  rw [← h1, onesN_eq e64, Nat.testBit_and, Nat.testBit_shiftRight, Nat.testBit_two_pow_sub_one, decide_eq_true hm, Bool.and_true]
  congr 1
  rw [Nat.mul_comm]
  exact (Nat.div_add_mod k e).symm
theorem ag_eq {m n e : Nat} (he : e ∈ eL) (hm : m < 2 ^ 64) (hn : n < 2 ^ 64) (h1 : agN m e = true) (h2 : agN n e = true) (hl : lowX m e = lowX n e) : m = n := by
  apply Nat.eq_of_testBit_eq
  intro k
  by_cases hk : k < 64
  · rw [ag_bit he h1 hk, ag_bit he h2 hk, hl]
  · rw [Nat.testBit_lt_two_pow (Nat.lt_of_lt_of_le hm (Nat.pow_le_pow_right (by omega) (show 64 ≤ k by omega))),
        Nat.testBit_lt_two_pow (Nat.lt_of_lt_of_le hn (Nat.pow_le_pow_right (by omega) (show 64 ≤ k by omega)))]
theorem maskM_all : allT (fun e c r => Nat.blt (maskM e c r) (2 ^ 64)) = true := by kernel_rfl
theorem xOf_some {m e r o : Nat} (hm : m < 2 ^ 64) (h : xOf m = some (e, r, o)) : e ∈ eL ∧ 0 < o ∧ o < e ∧ r < e ∧ m = maskM e o r := by
  unfold xOf at h
  cases hE : xE m
  · rw [hE] at h; cases h
  rename_i e'
  rw [hE, Option.bind_some] at h
  cases hR : rF m e'
  · rw [hR] at h; cases h
  rename_i r'
  rw [hR, Option.bind_some] at h
  cases hO : oF (turnK e' r' (lowX m e')) e'
  · rw [hO] at h; cases h
  rename_i o'
  rw [hO] at h
  obtain ⟨rfl, rfl, rfl⟩ : e' = e ∧ r' = r ∧ o' = o := by simpa using h
  have he : e' ∈ eL := List.mem_of_find?_eq_some hE
  have hag : agN m e' = true := List.find?_some hE
  have hr : r' < e' := List.mem_range.1 (List.mem_of_find?_eq_some hR)
  obtain ⟨o0, o1, hx⟩ := oF_some hO
  obtain ⟨e2, e64⟩ := eL_cases he
  refine ⟨he, o0, o1, hr, ?_⟩
  have hp := Nat.two_pow_pos e'
  have l1 : lowX m e' < 2 ^ e' := by unfold lowX; rw [onesN_eq e64]; exact Nat.and_lt_two_pow _ (by omega)
  have l2 : lowX (maskM e' o' r') e' < 2 ^ e' := by unfold lowX; rw [onesN_eq e64]; exact Nat.and_lt_two_pow _ (by omega)
  have hl : lowX m e' = lowX (maskM e' o' r') e' := by
    refine turnK_inj e64 (by omega) r' _ _ l1 l2 ?_
    rw [hx, low_mask he o0 o1 hr, turnK_elem he o0 o1 hr r' (Nat.le_refl _), Nat.sub_self, (elem_zero he o0 o1).1]
  exact ag_eq he hm (Nat.le_of_ble_eq_true (allT_spec maskM_all he o0 o1 hr)) hag (Bool.and_eq_true_iff.1 (allT_spec ag_all he o0 o1 hr)).1 hl
theorem xOfV_eq {m : Nat} (hm : m < 2 ^ 64) : xOfV m = ofV m := by
  cases hf : ofFind m
  · rw [ofV_none hf]
    unfold xOfV
    cases hx : xOf m
    · rfl
    · rename_i a
      obtain ⟨e, r, o⟩ := a
      obtain ⟨he, o0, o1, hr, hme⟩ := xOf_some hm hx
      have hb := (Bool.and_eq_true_iff.1 (allT_spec ag_all he o0 o1 hr)).2
      rw [← hme] at hb
      obtain ⟨b1, hb⟩ := Bool.and_eq_true_iff.1 hb
      obtain ⟨b2, b3⟩ := Bool.and_eq_true_iff.1 hb
      have b3 : (Nat.beq m 0 || Nat.beq m 18446744073709551615) = false := by simpa using b3
      have b1 := Nat.eq_of_beq_eq_true b1
      unfold ofFind at hf
      rw [b3, cond_false, List.find?_range_eq_none] at hf
      have := hf r (by rw [b1]; exact hr)
      rw [b1, b2] at this
      cases this
  · rename_i r
    rw [ofV_some hf]
    obtain ⟨g1, g2, g3, g4⟩ := of_mask hm hf
    have hx := xOf_mask (ofE_mem m) g1 g2 g3
    rw [g4] at hx
    unfold xOfV
    rw [hx]
    simp only
    rw [(elem_zero (ofE_mem m) g1 g2).2]
end Go.Rk
