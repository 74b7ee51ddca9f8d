/-
  Numbers, bytes and names of the document's answer. Conditions: none.
-/
import Derived.Test.YtegieioiofggbaaRv17
namespace Go.Rv
open Go Go.Ab Go.Proofs

/-- The context of foundry/foundryref8.signed. -/
noncomputable def cx45 : Cx := { P := Try.prog, n := 20, tab := [(33, bitsS)], mtab := [], refs := [], keeps := [0, 1, 4, 5, 14] }
/-- The context of foundry/foundryref8.Reg. -/
noncomputable def cx40 : Cx := { P := Try.prog, n := 19, tab := [(32, hasS)], mtab := [], refs := [], keeps := [0, 1, 2, 6, 10] }
def signedXT (n si : Int) : Tree V :=
  (.br (decide (0 ≤ si)) (.br (decide (0 ≤ IntKind.wrap IntKind.u64 (si - 1))) (.br (decide (IntKind.wrap IntKind.i64 (1 * 2 ^ Min.min (Int.toNat (IntKind.wrap IntKind.u64 (si - 1))) 64) ≤ IntKind.wrap IntKind.i64 (bitX n 0 si))) (.br (decide (0 ≤ si)) (.leaf (.int .i64 (IntKind.wrap IntKind.i64 (IntKind.wrap IntKind.i64 (bitX n 0 si) - IntKind.wrap IntKind.i64 (1 * 2 ^ Min.min (Int.toNat si) 64))))) .fail) (.leaf (.int .i64 (IntKind.wrap IntKind.i64 (bitX n 0 si))))) .fail) .fail)

theorem signedXT_eq (n si : Int) : (dfun cx45 Try.f45 [.int .u32 n, .int .u64 si]).run = (signedXT n si).run :=
  (show (dfun cx45 Try.f45 [.int .u32 n, .int .u64 si]).run = (signedXT n si).out by kernel_rfl).trans (Tree.out_run _)

def regT (s : List UInt8) (c n : Int) : Tree V :=
  (.br (decide (List.length s < 1000000000)) (.br (!hasX s c) (.leaf (.bool (n == 0))) (.br (decide (0 ≤ n)) (.leaf (.bool (decide (n ≤ 31)))) (.leaf (.bool false)))) .fail)

theorem regT_eq (s : List UInt8) (c n : Int) : (dfun cx40 Try.f40 [.str s, .int .u8 c, .int .i64 n]).run = (regT s c n).run :=
  (show (dfun cx40 Try.f40 [.str s, .int .u8 c, .int .i64 n]).run = (regT s c n).out by kernel_rfl).trans (Tree.out_run _)

/-- The context of foundry/foundryref1.get. -/
noncomputable def cx44 : Cx := { P := Try.prog, n := 39, tab := [(49, sizedS), (21, numS)], mtab := [], refs := [], keeps := [0, 1, 2, 3, 8, 9, 10, 13, 21, 27, 34] }
def getT (l sp : List Int) (_fl : Fl) (at_ : Int) : Tree V :=
  (.br (decide (at_ < 0)) (.leaf (.tup [(.int .u64 0), (.int .i64 5)])) (.br (decide (↑(List.length l) < at_)) (.leaf (.tup [(.int .u64 0), (.int .i64 5)])) (.br (decide (IntKind.wrap IntKind.i64 (↑(List.length l) - at_) < 4)) (.leaf (.tup [(.int .u64 0), (.int .i64 2)])) (.br (decide (0 ≤ at_) && decide (at_ ≤ IntKind.wrap IntKind.i64 (at_ + 4)) && decide (IntKind.wrap IntKind.i64 (at_ + 4) ≤ ↑(List.length l + List.length sp))) (.br (decide (List.length (sub (l ++ sp) (Int.toNat at_) (Int.toNat (IntKind.wrap IntKind.i64 (at_ + 4)))) < 1000000000)) (.leaf (.tup [(.int .u64 (numL (sub (l ++ sp) (Int.toNat at_) (Int.toNat (IntKind.wrap IntKind.i64 (at_ + 4)))))), (.int .i64 0)])) .fail) .fail))))

theorem getT_eq (l sp : List Int) (fl : Fl) (at_ : Int) : (dfun cx44 Try.f44 [.sl (.int .u8) l sp fl, .int .i64 at_, .int .i64 4, .bool false]).run = (getT l sp fl at_).run :=
  (show (dfun cx44 Try.f44 [.sl (.int .u8) l sp fl, .int .i64 at_, .int .i64 4, .bool false]).run = (getT l sp fl at_).out by kernel_rfl).trans (Tree.out_run _)

/-- The context of foundry/foundryref8.find. -/
noncomputable def cx35 : Cx := { P := Try.prog, n := 25, tab := [(18, tableS)], mtab := [], refs := [], keeps := [0, 2, 3, 4, 5, 10, 19] }
def findXRound (nm : List UInt8) (i : Int) (l : List rowXE.ty) : Tree St :=
  (.br (decide (i < ↑(List.length l))) (.br (inside i (List.length l)) (.br (strEq (tS (Prod.fst (Prod.snd (List.getD l (Int.toNat i) (EC.dflt rowXE))))) nm) (.br (inside i (List.length l)) (.leaf (.ret, [(0, (.str nm)), (2, (.ptr 0 0)), (3, (.bool true)), (4, (.sl (.prod [(.int .u8), .str, (.int .u32), (.int .u32), (.int .u32)]) l [] Fl.ro)), (5, (.int .i64 i)), (10, (.bool true)), (19, (.bool true))], [(.cells [(.int .u8 (tI (Prod.fst (List.getD l (Int.toNat i) (EC.dflt rowXE))))), (.str (tS (Prod.fst (Prod.snd (List.getD l (Int.toNat i) (EC.dflt rowXE)))))), (.int .u32 (tI (Prod.fst (Prod.snd (Prod.snd (List.getD l (Int.toNat i) (EC.dflt rowXE))))))), (.int .u32 (tI (Prod.fst (Prod.snd (Prod.snd (Prod.snd (List.getD l (Int.toNat i) (EC.dflt rowXE)))))))), (.int .u32 (Prod.snd (Prod.snd (Prod.snd (Prod.snd (List.getD l (Int.toNat i) (EC.dflt rowXE)))))))] 47)])) .fail) (.leaf (.normal, [(0, (.str nm)), (2, (.ptr 0 0)), (4, (.sl (.prod [(.int .u8), .str, (.int .u32), (.int .u32), (.int .u32)]) l [] Fl.ro)), (5, (.int .i64 (IntKind.wrap IntKind.i64 (i + 1)))), (10, (.bool true)), (19, (.bool false))], [(.cells [(.int .u8 0), (.str []), (.int .u32 0), (.int .u32 0), (.int .u32 0)] 47)]))) .fail) (.leaf ((.exit 0), [(0, (.str nm)), (2, (.ptr 0 0)), (4, (.sl (.prod [(.int .u8), .str, (.int .u32), (.int .u32), (.int .u32)]) l [] Fl.ro)), (5, (.int .i64 i)), (10, (.bool false))], [(.cells [(.int .u8 0), (.str []), (.int .u32 0), (.int .u32 0), (.int .u32 0)] 47)])))

theorem findXRound_eq (nm : List UInt8) (i : Int) (l : List rowXE.ty) : (dcode cx35 (cin (cin (c2 (c1 (tailN 1 (bodyOf Try.f35)))))) [(0, .str nm), (2, .ptr 0 0), (4, .sl rowXE l [] .ro), (5, .int .i64 i)] [(.cells [.int .u8 0, .str [], .int .u32 0, .int .u32 0, .int .u32 0] 47)]).run = (findXRound nm i l).run :=
  (show (dcode cx35 (cin (cin (c2 (c1 (tailN 1 (bodyOf Try.f35)))))) [(0, .str nm), (2, .ptr 0 0), (4, .sl rowXE l [] .ro), (5, .int .i64 i)] [(.cells [.int .u8 0, .str [], .int .u32 0, .int .u32 0, .int .u32 0] 47)]).run = (findXRound nm i l).out by kernel_rfl).trans (Tree.out_run _)

def findXEnd (nm : List UInt8) : Tree St :=
  (.leaf (.ret, [(0, (.str nm)), (2, (.ptr 0 0)), (3, (.bool false))], [(.cells [(.int .u8 0), (.str []), (.int .u32 0), (.int .u32 0), (.int .u32 0)] 47)]))

theorem findXEnd_eq (nm : List UInt8) : (dcode cx35 (tailN 2 (bodyOf Try.f35)) [(0, .str nm), (2, .ptr 0 0)] [(.cells [.int .u8 0, .str [], .int .u32 0, .int .u32 0, .int .u32 0] 47)]).run = (findXEnd nm).run :=
  (show (dcode cx35 (tailN 2 (bodyOf Try.f35)) [(0, .str nm), (2, .ptr 0 0)] [(.cells [.int .u8 0, .str [], .int .u32 0, .int .u32 0, .int .u32 0] 47)]).run = (findXEnd nm).out by kernel_rfl).trans (Tree.out_run _)


/-- A number's lowest bits as a signed number. -/
def signX (n si : Int) : Int :=
  cond (decide (IntKind.wrap IntKind.i64 (1 * 2 ^ Min.min (Int.toNat (IntKind.wrap IntKind.u64 (si - 1))) 64) ≤ IntKind.wrap IntKind.i64 (bitX n 0 si)))
    (IntKind.wrap IntKind.i64 (IntKind.wrap IntKind.i64 (bitX n 0 si) - IntKind.wrap IntKind.i64 (1 * 2 ^ Min.min (Int.toNat si) 64))) (IntKind.wrap IntKind.i64 (bitX n 0 si))

def signedXS : Ab.Spec := fun args => match args with
  | [.int .u32 n, .int .u64 si] => .req (decide (0 ≤ si)) (.req (decide (0 ≤ IntKind.wrap IntKind.u64 (si - 1))) (.leaf (.int .i64 (signX n si))))
  | _ => .fail

theorem signedXS_ok : Sound Try.prog 45 signedXS := by
  intro args out h
  unfold signedXS at h
  split at h
  rotate_left
  · cases h
  rename_i n si
  obtain ⟨h1, h⟩ := req_run h
  obtain ⟨h2, h⟩ := req_run h
  refine pcall_fun' (cx := cx45) (fn := Try.f45) (cx1_ok (.cons bitsS_ok (.nil _)) (.nil _) rfl rfl) (by kernel_rfl) (by kernel_rfl) (by kernel_rfl) ?_
  rw [signedXT_eq, ← h]
  unfold signedXT signX
  rw [h1, h2]
  generalize decide (IntKind.wrap IntKind.i64 (1 * 2 ^ Min.min (Int.toNat (IntKind.wrap IntKind.u64 (si - 1))) 64) ≤ IntKind.wrap IntKind.i64 (bitX n 0 si)) = e
  cases e <;> rfl

def regX (s : List UInt8) (c n : Int) : Bool := cond (!hasX s c) (n == 0) (cond (decide (0 ≤ n)) (decide (n ≤ 31)) false)

def regS : Ab.Spec := fun args => match args with
  | [.str s, .int .u8 c, .int .i64 n] => .req (decide (s.length < 1000000000)) (.leaf (.bool (regX s c n)))
  | _ => .fail

theorem regS_ok : Sound Try.prog 40 regS := by
  intro args out h
  unfold regS at h
  split at h
  rotate_left
  · cases h
  rename_i s c n
  obtain ⟨h1, h⟩ := req_run h
  refine pcall_fun' (cx := cx40) (fn := Try.f40) (cx1_ok (.cons hasS_ok (.nil _)) (.nil _) rfl rfl) (by kernel_rfl) (by kernel_rfl) (by kernel_rfl) ?_
  rw [regT_eq, ← h]
  unfold regT regX
  rw [h1]
  cases (!hasX s c)
  · cases decide (0 ≤ n) <;> rfl
  · rfl

/-! A number out of bytes. -/

def uE (l : List Int) (at_ : Int) : Int := cond (outOf l at_) 5 (cond (shortOf l at_) 2 0)
def uV (l : List Int) (at_ : Int) : Int := cond (outOf l at_) 0 (cond (shortOf l at_) 0 (numL (sub l at_.toNat (at_.toNat + 4))))

theorem sub_left {l s : List Int} {a b : Nat} (h : b ≤ l.length) : sub (l ++ s) a b = sub l a b := by
  simp only [sub]
  rw [List.take_append_of_le_length h]

def getS : Ab.Spec := fun args => match args with
  | [.sl (.int .u8) l _ _, .int .i64 at_, .int .i64 si, .bool big] => .req (decide (si = 4)) (.req (!big) (.req (decide (l.length < 1000000000)) (.leaf (.tup [.int .u64 (uV l at_), .int .i64 (uE l at_)]))))
  | _ => .fail

theorem get_ok (l sp : List Int) (fl : Fl) (at_ : Int) (h3 : l.length < 1000000000) : PCall Try.prog 44 [.sl (.int .u8) l sp fl, .int .i64 at_, .int .i64 4, .bool false] (.tup [.int .u64 (uV l at_), .int .i64 (uE l at_)]) := by
  refine pcall_fun' (cx := cx44) (fn := Try.f44) (cx1_ok (.cons sizedS_ok (.cons numS_ok (.nil _))) (.nil _) rfl rfl) (by kernel_rfl) (by kernel_rfl) (by kernel_rfl) ?_
  refine (getT_eq l sp fl at_).trans ?_
  unfold getT uV uE outOf shortOf
  cases g1 : decide (at_ < 0)
  rotate_left
  · rfl
  cases g2 : decide ((l.length : Int) < at_)
  rotate_left
  · rfl
  cases g3 : decide (IntKind.wrap IntKind.i64 ((l.length : Int) - at_) < 4)
  rotate_left
  · rfl
  have g1 := of_decide_eq_false g1
  have g2 := of_decide_eq_false g2
  have g3 := of_decide_eq_false g3
  rw [wrap_i64 (by omega) (by omega)] at g3
  have e : IntKind.wrap IntKind.i64 (at_ + 4) = at_ + 4 := wrap_i64 (by omega) (by omega)
  rw [e, show (at_ + 4).toNat = at_.toNat + 4 from by omega, sub_left (by omega)]
  have c1 : (decide (0 ≤ at_) && decide (at_ ≤ at_ + 4) && decide (at_ + 4 ≤ ((l.length + sp.length : Nat) : Int))) = true := by
    simp only [Bool.and_eq_true, decide_eq_true_eq]
    omega
  have c2 : decide ((sub l at_.toNat (at_.toNat + 4)).length < 1000000000) = true := by
    refine decide_eq_true ?_
    simp only [sub, List.length_drop, List.length_take]
    omega
  rw [c1, c2]
  rfl

theorem getS_ok : Sound Try.prog 44 getS := by
  intro args out h
  unfold getS at h
  split at h
  rotate_left
  · cases h
  rename_i l sp fl at_ si big
  obtain ⟨h1, ha⟩ := req_run h
  obtain ⟨h2, hb⟩ := req_run ha
  obtain ⟨h3, hc⟩ := req_run hb
  have h1 := of_decide_eq_true h1
  have h2 : big = false := by simpa using h2
  simp only [Tree.run, Option.some.injEq] at hc
  subst hc
  subst h1
  subst h2
  exact get_ok l sp fl at_ (of_decide_eq_true h3)

/-- The context of foundry/foundryref1.U. -/
noncomputable def cx30 : Cx := { P := Try.prog, n := 14, tab := [(44, getS)], mtab := [], refs := [], keeps := [0, 1, 2, 6, 7] }
def uS : Ab.Spec := fun args => match args with
  | [.sl (.int .u8) l _ _, .int .i64 at_, .int .i64 si] => .req (decide (si = 4)) (.req (decide (l.length < 1000000000)) (.leaf (.tup [.int .u64 (uV l at_), .int .i64 (uE l at_)])))
  | _ => .fail

def uT (l _sp : List Int) (_fl : Fl) (at_ si : Int) : Tree V :=
  (.br (decide (si = 4)) (.br (decide (List.length l < 1000000000)) (.leaf (.tup [(.int .u64 (uV l at_)), (.int .i64 (uE l at_))])) .fail) .fail)

theorem uT_eq (l sp : List Int) (fl : Fl) (at_ si : Int) : (dfun cx30 Try.f30 [.sl (.int .u8) l sp fl, .int .i64 at_, .int .i64 si]).run = (uT l sp fl at_ si).run :=
  (show (dfun cx30 Try.f30 [.sl (.int .u8) l sp fl, .int .i64 at_, .int .i64 si]).run = (uT l sp fl at_ si).out by kernel_rfl).trans (Tree.out_run _)


theorem u_ok (l sp : List Int) (fl : Fl) (at_ si : Int) (h1 : decide (si = 4) = true) (h2 : decide (l.length < 1000000000) = true) : PCall Try.prog 30 [.sl (.int .u8) l sp fl, .int .i64 at_, .int .i64 si] (.tup [.int .u64 (uV l at_), .int .i64 (uE l at_)]) := by
  refine pcall_fun' (cx := cx30) (fn := Try.f30) (cx1_ok (.cons getS_ok (.nil _)) (.nil _) rfl rfl) (by kernel_rfl) (by kernel_rfl) (by kernel_rfl) ?_
  refine (uT_eq l sp fl at_ si).trans ?_
  unfold uT
  rw [h1, h2]
  rfl

theorem uS_ok : Sound Try.prog 30 uS := by
  intro args out h
  unfold uS at h
  split at h
  rotate_left
  · cases h
  rename_i l sp fl at_ si
  obtain ⟨h1, ha⟩ := req_run h
  obtain ⟨h2, hc⟩ := req_run ha
  simp only [Tree.run, Option.some.injEq] at hc
  subst hc
  exact u_ok l sp fl at_ si h1 h2

/-! A name's row. -/

theorem cx35_ok : CxOk cx35 := cx1_ok (.cons tableS_ok (.nil _)) (.nil _) rfl rfl

def findLX (nm : List UInt8) (l : List RowX) : Option RowX := l.find? fun r => strEq r.2.1 nm
def frowX (nm : List UInt8) : RowX := (findLX nm rowsX).getD (0, [], 0, 0, 0)
def fokX (nm : List UInt8) : Bool := (findLX nm rowsX).isSome
def rowV (r : RowX) : V := .agg [.int .u8 r.1, .str r.2.1, .int .u32 r.2.2.1, .int .u32 r.2.2.2.1, .int .u32 r.2.2.2.2]

def findXS : Ab.Spec := fun args => match args with
  | [.str nm] => .leaf (.tup [.agg [.int .u8 (frowX nm).1, .str (frowX nm).2.1, .int .u32 (frowX nm).2.2.1, .int .u32 (frowX nm).2.2.2.1, .int .u32 (frowX nm).2.2.2.2], .bool (fokX nm)])
  | _ => .fail

def findXSt (nm : List UInt8) (i : { i : Nat // i ≤ rowsX.length ∧ findLX nm (rowsX.take i) = none }) : T × List O :=
  ([(0, .str nm), (2, .ptr 0 0), (4, .sl rowXE rowsX [] .ro), (5, .int .i64 i.1)], [(.cells [.int .u8 0, .str [], .int .u32 0, .int .u32 0, .int .u32 0] 47)])

theorem findX_ok (nm : List UInt8) : PCall Try.prog 35 [.str nm] (.tup [rowV (frowX nm), .bool (fokX nm)]) := by
  refine pcall_of' (c := bodyOf Try.f35) (fn := Try.f35) (by kernel_rfl) (by kernel_rfl) (by kernel_rfl) (by kernel_rfl) ?_
  have e : bodyOf Try.f35 = .seq (c1 (bodyOf Try.f35)) (.seq (c1 (tailN 0 (bodyOf Try.f35))) (.seq (.seq (c1 (c1 (tailN 1 (bodyOf Try.f35)))) (.block 0 (.loop (cin (cin (c2 (c1 (tailN 1 (bodyOf Try.f35))))))))) (tailN 2 (bodyOf Try.f35)))) := by kernel_rfl
  rw [e]
  generalize hQ : (fun e t H => (e = AEx.ret ∨ e = .normal) ∧ answerV Try.prog Try.f35.results.toList H t = some (.tup [rowV (frowX nm), .bool (fokX nm)])) = Q
  have hlen := rowsX_len
  refine AWP_seq (AWP_run (cx := cx35) rfl rfl cx35_ok (s := (.normal, [(0, .str nm), (2, .ptr 0 0), (3, .bool false)], [(.cells [.int .u8 0, .str [], .int .u32 0, .int .u32 0, .int .u32 0] 47)])) (by kernel_rfl) ?_)
  refine AWP_seq (AWP_run (cx := cx35) rfl rfl cx35_ok (s := (.normal, [(0, .str nm), (2, .ptr 0 0), (3, .bool false), (4, .sl rowXE rowsX [] .ro)], [(.cells [.int .u8 0, .str [], .int .u32 0, .int .u32 0, .int .u32 0] 47)])) (by kernel_rfl) ?_)
  refine AWP_seq (AWP_seq (AWP_run (cx := cx35) rfl rfl cx35_ok (s := (.normal, [(0, .str nm), (2, .ptr 0 0), (3, .bool false), (4, .sl rowXE rowsX [] .ro), (5, .int .i64 0)], [(.cells [.int .u8 0, .str [], .int .u32 0, .int .u32 0, .int .u32 0] 47)])) (by kernel_rfl) ?_))
  refine AWP_block ?_
  refine AWP.less (s := (findXSt nm ⟨0, Nat.zero_le _, rfl⟩).1) (Fits.tle ⟨rfl, rfl, rfl, rfl, trivial⟩) ?_
  refine AWP_rounds (cx := cx35) (P := Try.prog) (n := 25) rfl rfl cx35_ok (findXSt nm) (fun i => 64 - i.1) ?_ ⟨0, Nat.zero_le _, rfl⟩
  rintro ⟨i, hi, hnone⟩
  refine Tree.all_run_eq (findXRound_eq nm i rowsX) ?_
  refine ⟨fun hlt => ⟨fun hin => ⟨fun hp => ⟨fun hin2 => ?_, fun hin2 => Bool.noConfusion (hin.symm.trans hin2)⟩, fun hp => ?_⟩, fun hin => ?_⟩, fun hge => ?_⟩
  · have hlt : i < rowsX.length := Int.ofNat_lt.1 (of_decide_eq_true hlt)
    have hf : findLX nm rowsX = some (rowsX.getD i (0, [], 0, 0, 0)) := take_some hlt hnone hp
    refine ⟨[], _, rfl, ?_⟩
    subst hQ
    refine ⟨.inl rfl, ?_⟩
    have h1 : frowX nm = rowsX.getD i (0, [], 0, 0, 0) := by unfold frowX; rw [hf]; rfl
    have h2 : fokX nm = true := by unfold fokX; rw [hf]; rfl
    show answerV _ _ _ _ = some _
    rw [h1, h2]
    kernel_rfl
  · have hlt : i < rowsX.length := Int.ofNat_lt.1 (of_decide_eq_true hlt)
    have hf : findLX nm (rowsX.take (i + 1)) = none := take_none hlt hnone hp
    refine ⟨[], _, rfl, ⟨i + 1, hlt, hf⟩, by show 64 - (i + 1) < 64 - i; omega, Fits.tle ⟨rfl, rfl, rfl, ?_, trivial⟩, rfl⟩
    show V.int .i64 (IntKind.wrap .i64 ((i : Int) + 1)) = V.int .i64 ((i + 1 : Nat) : Int)
    rw [wrap_i64 (by omega) (by omega)]
    rfl
  · exfalso
    have hlt : i < rowsX.length := Int.ofNat_lt.1 (of_decide_eq_true hlt)
    exact Bool.noConfusion ((inside_of (Int.natCast_nonneg i) (Int.ofNat_lt.2 hlt)).symm.trans hin)
  · have hge : ¬ ((i : Int) < rowsX.length) := of_decide_eq_false hge
    have hi' : i = rowsX.length := by omega
    refine ⟨[], _, rfl, ?_⟩
    show AWP _ _ _ _ _ _
    refine AWP.less (s := [(0, .str nm), (2, .ptr 0 0)]) (Fits.tle ⟨rfl, rfl, trivial⟩) ?_
    refine AWP_run (cx := cx35) rfl rfl cx35_ok (findXEnd_eq nm) ?_
    subst hQ
    refine ⟨.inl rfl, ?_⟩
    have hf : findLX nm rowsX = none := by rw [← hnone, hi', List.take_length]
    have h1 : frowX nm = (0, [], 0, 0, 0) := by unfold frowX; rw [hf]; rfl
    have h2 : fokX nm = false := by unfold fokX; rw [hf]; rfl
    show answerV _ _ _ _ = some _
    rw [h1, h2]
    kernel_rfl

theorem findXS_ok : Sound Try.prog 35 findXS := by
  intro args out h
  unfold findXS at h
  split at h
  rotate_left
  · cases h
  simp only [Tree.run, Option.some.injEq] at h
  subst h
  exact findX_ok _

end Go.Rv
