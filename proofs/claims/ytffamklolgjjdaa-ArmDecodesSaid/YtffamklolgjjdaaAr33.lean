/-
  ArmDecodes: its call answers true. Conditions: none.
-/
import Derived.Test.YtffamklolgjjdaaAr32
import Derived.Test.YtffamklolgjjdaaAr13
import Derived.Test.YtffamklolgjjdaaAr18
namespace Go.Arm
open Go Go.Ab Go.Proofs Go.Wd

def bytesB (l : List Int) : Bool := l.all fun b => decide (0 ≤ b) && decide (b < 256)
theorem bytesB_of {l : List Int} (h : Bytes l) : bytesB l = true := by
  unfold bytesB
  rw [List.all_eq_true]
  intro x hx
  have := h x hx
  simp [this.1, this.2]
theorem bytesB_to {l : List Int} (h : bytesB l = true) : Bytes l := by
  intro x hx
  have := List.all_eq_true.1 h x hx
  simpa using this

/-- The mark behind a twin. -/
abbrev mark : List Int := [90]
def eqL (a b : List Int) : Bool := decide (a = b)

def decXS : Ab.Spec := fun args => match args with
  | [.sl (.int .u8) l _ _, .int .i64 at_] => .req (decide (l.length < 1000000000)) (.req (bytesB l) (.leaf (.tup [insV (dI l at_), .int .i64 (dN l at_), .int .i64 (dE l at_)])))
  | _ => .fail
def twinS : Ab.Spec := fun args => match args with
  | [.sl (.int .u8) l _ _] => .req (decide (l.length < 1000000000)) (.leaf (.sl (.int .u8) l mark .ro))
  | _ => .fail
def keptS : Ab.Spec := fun args => match args with
  | [.sl (.int .u8) l sp _, .sl (.int .u8) b _ _] => .req (decide (l.length < 1000000000)) (.req (eqL l b) (.req (eqL sp mark) (.leaf (.bool true))))
  | _ => .fail

/-- The context of foundry/foundrylaw1.Twin. -/
noncomputable def cx14 : Cx := { P := Try.prog, n := 10, tab := [], mtab := [], refs := [], keeps := [0, 2] }
/-- The context of foundry/foundrylaw1.Kept. -/
noncomputable def cx17 : Cx := { P := Try.prog, n := 22, tab := [], mtab := [], refs := [], keeps := [0, 1, 4] }
/-- The context of foundry/foundrylaw11.ArmDecodes. -/
noncomputable def cx4 : Cx := { P := Try.prog, n := 58, tab := [(9, begunS), (14, twinS), (15, decodeS), (16, decXS), (17, keptS)], mtab := [], refs := [], keeps := [0, 1, 4, 5, 6, 7, 8, 9, 10, 11, 12, 14, 17, 21, 50] }
noncomputable abbrev B4 : Code := bodyOf Try.f4
def twinT (l _sp : List Int) (_fl : Fl) : Tree V :=
  (.br (List.isEmpty l) (.br (true && decide (0 ≤ tI ↑(List.length l)) && decide (tI ↑(List.length l) ≤ ↑1)) (.leaf (.sl (.int .u8) ((sub mark 0 (Int.toNat ↑(List.length l)))) ((List.drop (Int.toNat ↑(List.length l)) mark)) Fl.ro)) .fail) (.br (roomy (List.length l) 1) (.br (decide (List.length l = List.length l) && roomy (List.length l + 1) 1) (.br (true && decide (0 ≤ tI ↑(List.length l)) && decide (tI ↑(List.length l) ≤ ↑(List.length (l ++ mark)))) (.leaf (.sl (.int .u8) ((sub (l ++ mark) 0 (Int.toNat ↑(List.length l)))) ((List.drop (Int.toNat ↑(List.length l)) (l ++ mark))) Fl.ro)) .fail) .fail) .fail))

theorem twinT_eq (l sp : List Int) (fl : Fl) : (dfun cx14 Try.f14 [.sl (.int .u8) l sp fl]).run = (twinT l sp fl).run :=
  (show (dfun cx14 Try.f14 [.sl (.int .u8) l sp fl]).run = (twinT l sp fl).out by kernel_rfl).trans (Tree.out_run _)

def keptT (l _sp : List Int) (_f2 _fl : Fl) : Tree V :=
  (.br (strEq (List.map (fun n => UInt8.ofNat (Int.toNat n)) l) (List.map (fun n => UInt8.ofNat (Int.toNat n)) l)) (.br (true && decide (0 ≤ IntKind.wrap IntKind.i64 (↑(List.length l) + 1)) && decide (IntKind.wrap IntKind.i64 (↑(List.length l) + 1) ≤ ↑(List.length l + 1))) (.br (inside (↑(List.length l)) (List.length (sub (l ++ mark) 0 (Int.toNat (IntKind.wrap IntKind.i64 (↑(List.length l) + 1)))))) (.leaf (.bool (tI (List.getD (sub (l ++ mark) 0 (Int.toNat (IntKind.wrap IntKind.i64 (↑(List.length l) + 1)))) (Int.toNat ↑(List.length l)) (tI (EC.dflt (EC.int IntKind.u8)))) == 90))) .fail) .fail) (.leaf (.bool false)))

theorem keptT_eq (l sp : List Int) (f2 fl : Fl) : (dfun cx17 Try.f17 [.sl (.int .u8) l mark f2, .sl (.int .u8) l sp fl]).run = (keptT l sp f2 fl).run :=
  (show (dfun cx17 Try.f17 [.sl (.int .u8) l mark f2, .sl (.int .u8) l sp fl]).run = (keptT l sp f2 fl).out by kernel_rfl).trans (Tree.out_run _)

def lawDPre (b : List Int) (at_ : Int) : Tree St :=
  (.br (decide (400 < tI ↑(List.length b))) (.leaf (.ret, [(0, (.sl (.int .u8) (b) ([]) Fl.may)), (1, (.int .i64 at_)), (4, (.bool true)), (14, (.bool false)), (17, (.bool true))], [])) (.br (decide (List.length b < 1000000000)) (.leaf (.normal, [(0, (.sl (.int .u8) (b) ([]) Fl.may)), (1, (.int .i64 at_)), (4, (.bool false)), (5, (.sl (.int .u8) (b) (mark) Fl.ro)), (14, (.bool false)), (17, (.bool false))], [])) .fail))

theorem lawDPre_eq (b : List Int) (at_ : Int) : (dcode cx4 (headN 3 B4) (initT 0 [.sl (.int .u8) b [] .may, .int .i64 at_]) []).run = (lawDPre b at_).run :=
  (show (dcode cx4 (headN 3 B4) (initT 0 [.sl (.int .u8) b [] .may, .int .i64 at_]) []).run = (lawDPre b at_).out by kernel_rfl).trans (Tree.out_run _)

def lawDRound (b : List Int) (at_ k : Int) : Tree St :=
  (.br (decide (k < 12)) (.br (decide (List.length b < 1000000000)) (.br (decide (List.length b < 1000000000)) (.br (bytesB b) (.br (!(strEq (Prod.fst (dI b at_)) (Prod.fst (dI b at_)) && (Prod.fst (Prod.snd (dI b at_)) == Prod.fst (Prod.snd (dI b at_)) && (Prod.fst (Prod.snd (Prod.snd (dI b at_))) == Prod.fst (Prod.snd (Prod.snd (dI b at_))) && (Prod.fst (Prod.snd (Prod.snd (Prod.snd (dI b at_)))) == Prod.fst (Prod.snd (Prod.snd (Prod.snd (dI b at_)))) && (Prod.fst (Prod.snd (Prod.snd (Prod.snd (Prod.snd (dI b at_))))) == Prod.fst (Prod.snd (Prod.snd (Prod.snd (Prod.snd (dI b at_))))) && (Prod.snd (Prod.snd (Prod.snd (Prod.snd (Prod.snd (dI b at_))))) == Prod.snd (Prod.snd (Prod.snd (Prod.snd (Prod.snd (dI b at_))))) && true))))))) (.leaf (.ret, [(0, (.sl (.int .u8) (b) ([]) Fl.may)), (1, (.int .i64 at_)), (4, (.bool false)), (5, (.sl (.int .u8) (b) (mark) Fl.ro)), (6, (.int .i64 k)), (7, (.ptr 0 0)), (8, (.int .i64 (dN b at_))), (9, (.int .i64 (dE b at_))), (10, (.ptr 1 0)), (11, (.int .i64 (dN b at_))), (12, (.int .i64 (dE b at_))), (21, (.bool true)), (50, (.bool true))], [(.cells [(.str (Prod.fst (dI b at_))), (.int .i64 (Prod.fst (Prod.snd (dI b at_)))), (.int .i64 (Prod.fst (Prod.snd (Prod.snd (dI b at_))))), (.int .i64 (Prod.fst (Prod.snd (Prod.snd (Prod.snd (dI b at_)))))), (.int .i64 (Prod.fst (Prod.snd (Prod.snd (Prod.snd (Prod.snd (dI b at_))))))), (.int .i64 (Prod.snd (Prod.snd (Prod.snd (Prod.snd (Prod.snd (dI b at_)))))))] 29), (.cells [(.str (Prod.fst (dI b at_))), (.int .i64 (Prod.fst (Prod.snd (dI b at_)))), (.int .i64 (Prod.fst (Prod.snd (Prod.snd (dI b at_))))), (.int .i64 (Prod.fst (Prod.snd (Prod.snd (Prod.snd (dI b at_)))))), (.int .i64 (Prod.fst (Prod.snd (Prod.snd (Prod.snd (Prod.snd (dI b at_))))))), (.int .i64 (Prod.snd (Prod.snd (Prod.snd (Prod.snd (Prod.snd (dI b at_)))))))] 29)])) (.br (dN b at_ != dN b at_) (.leaf (.ret, [(0, (.sl (.int .u8) (b) ([]) Fl.may)), (1, (.int .i64 at_)), (4, (.bool false)), (5, (.sl (.int .u8) (b) (mark) Fl.ro)), (6, (.int .i64 k)), (7, (.ptr 0 0)), (8, (.int .i64 (dN b at_))), (9, (.int .i64 (dE b at_))), (10, (.ptr 1 0)), (11, (.int .i64 (dN b at_))), (12, (.int .i64 (dE b at_))), (21, (.bool true)), (50, (.bool true))], [(.cells [(.str (Prod.fst (dI b at_))), (.int .i64 (Prod.fst (Prod.snd (dI b at_)))), (.int .i64 (Prod.fst (Prod.snd (Prod.snd (dI b at_))))), (.int .i64 (Prod.fst (Prod.snd (Prod.snd (Prod.snd (dI b at_)))))), (.int .i64 (Prod.fst (Prod.snd (Prod.snd (Prod.snd (Prod.snd (dI b at_))))))), (.int .i64 (Prod.snd (Prod.snd (Prod.snd (Prod.snd (Prod.snd (dI b at_)))))))] 29), (.cells [(.str (Prod.fst (dI b at_))), (.int .i64 (Prod.fst (Prod.snd (dI b at_)))), (.int .i64 (Prod.fst (Prod.snd (Prod.snd (dI b at_))))), (.int .i64 (Prod.fst (Prod.snd (Prod.snd (Prod.snd (dI b at_)))))), (.int .i64 (Prod.fst (Prod.snd (Prod.snd (Prod.snd (Prod.snd (dI b at_))))))), (.int .i64 (Prod.snd (Prod.snd (Prod.snd (Prod.snd (Prod.snd (dI b at_)))))))] 29)])) (.br (dE b at_ != dE b at_) (.leaf (.ret, [(0, (.sl (.int .u8) (b) ([]) Fl.may)), (1, (.int .i64 at_)), (4, (.bool false)), (5, (.sl (.int .u8) (b) (mark) Fl.ro)), (6, (.int .i64 k)), (7, (.ptr 0 0)), (8, (.int .i64 (dN b at_))), (9, (.int .i64 (dE b at_))), (10, (.ptr 1 0)), (11, (.int .i64 (dN b at_))), (12, (.int .i64 (dE b at_))), (21, (.bool true)), (50, (.bool true))], [(.cells [(.str (Prod.fst (dI b at_))), (.int .i64 (Prod.fst (Prod.snd (dI b at_)))), (.int .i64 (Prod.fst (Prod.snd (Prod.snd (dI b at_))))), (.int .i64 (Prod.fst (Prod.snd (Prod.snd (Prod.snd (dI b at_)))))), (.int .i64 (Prod.fst (Prod.snd (Prod.snd (Prod.snd (Prod.snd (dI b at_))))))), (.int .i64 (Prod.snd (Prod.snd (Prod.snd (Prod.snd (Prod.snd (dI b at_)))))))] 29), (.cells [(.str (Prod.fst (dI b at_))), (.int .i64 (Prod.fst (Prod.snd (dI b at_)))), (.int .i64 (Prod.fst (Prod.snd (Prod.snd (dI b at_))))), (.int .i64 (Prod.fst (Prod.snd (Prod.snd (Prod.snd (dI b at_)))))), (.int .i64 (Prod.fst (Prod.snd (Prod.snd (Prod.snd (Prod.snd (dI b at_))))))), (.int .i64 (Prod.snd (Prod.snd (Prod.snd (Prod.snd (Prod.snd (dI b at_)))))))] 29)])) (.leaf (.normal, [(0, (.sl (.int .u8) (b) ([]) Fl.may)), (1, (.int .i64 (IntKind.wrap IntKind.i64 (at_ + if 1 > dN b at_ then 1 else dN b at_)))), (5, (.sl (.int .u8) (b) (mark) Fl.ro)), (6, (.int .i64 (IntKind.wrap IntKind.i64 (k + 1)))), (7, (.ptr 0 0)), (8, (.int .i64 (dN b at_))), (9, (.int .i64 (dE b at_))), (10, (.ptr 1 0)), (11, (.int .i64 (dN b at_))), (12, (.int .i64 (dE b at_))), (21, (.bool true)), (50, (.bool false))], [(.cells [(.str (Prod.fst (dI b at_))), (.int .i64 (Prod.fst (Prod.snd (dI b at_)))), (.int .i64 (Prod.fst (Prod.snd (Prod.snd (dI b at_))))), (.int .i64 (Prod.fst (Prod.snd (Prod.snd (Prod.snd (dI b at_)))))), (.int .i64 (Prod.fst (Prod.snd (Prod.snd (Prod.snd (Prod.snd (dI b at_))))))), (.int .i64 (Prod.snd (Prod.snd (Prod.snd (Prod.snd (Prod.snd (dI b at_)))))))] 29), (.cells [(.str (Prod.fst (dI b at_))), (.int .i64 (Prod.fst (Prod.snd (dI b at_)))), (.int .i64 (Prod.fst (Prod.snd (Prod.snd (dI b at_))))), (.int .i64 (Prod.fst (Prod.snd (Prod.snd (Prod.snd (dI b at_)))))), (.int .i64 (Prod.fst (Prod.snd (Prod.snd (Prod.snd (Prod.snd (dI b at_))))))), (.int .i64 (Prod.snd (Prod.snd (Prod.snd (Prod.snd (Prod.snd (dI b at_)))))))] 29)]))))) .fail) .fail) .fail) (.leaf ((.exit 0), [(0, (.sl (.int .u8) (b) ([]) Fl.may)), (1, (.int .i64 at_)), (5, (.sl (.int .u8) (b) (mark) Fl.ro)), (6, (.int .i64 k)), (21, (.bool false))], [])))

theorem lawDRound_eq (b : List Int) (at_ k : Int) : (dcode cx4 (cin (cin (c2 (c1 (tailN 3 B4))))) [(0, .sl (.int .u8) b [] .may), (1, .int .i64 at_), (5, .sl (.int .u8) b mark .ro), (6, .int .i64 k)] []).run = (lawDRound b at_ k).run :=
  (show (dcode cx4 (cin (cin (c2 (c1 (tailN 3 B4))))) [(0, .sl (.int .u8) b [] .may), (1, .int .i64 at_), (5, .sl (.int .u8) b mark .ro), (6, .int .i64 k)] []).run = (lawDRound b at_ k).out by kernel_rfl).trans (Tree.out_run _)

def lawDEnd (b : List Int) : Tree St :=
  (.br (decide (List.length b < 1000000000)) (.br (eqL b b) (.leaf (.ret, [(0, (.sl (.int .u8) (b) ([]) Fl.may)), (4, (.bool true)), (5, (.sl (.int .u8) (b) (mark) Fl.ro))], [])) .fail) .fail)

theorem lawDEnd_eq (b : List Int) : (dcode cx4 (tailN 4 B4) [(0, .sl (.int .u8) b [] .may), (5, .sl (.int .u8) b mark .ro)] []).run = (lawDEnd b).run :=
  (show (dcode cx4 (tailN 4 B4) [(0, .sl (.int .u8) b [] .may), (5, .sl (.int .u8) b mark .ro)] []).run = (lawDEnd b).out by kernel_rfl).trans (Tree.out_run _)


theorem sub_all {l s : List Int} : sub (l ++ s) 0 l.length = l := by
  simp only [sub, List.drop_zero]
  exact List.take_left

theorem sl_congr {l l' s s' : List Int} {fl : Fl} (h : l = l') (k : s = s') : V.sl (.int .u8) l s fl = V.sl (.int .u8) l' s' fl := by subst h; subst k; rfl
theorem eqL_to {a b : List Int} (h : eqL a b = true) : a = b := of_decide_eq_true h

theorem twin_ok (l sp : List Int) (fl : Fl) (hl : l.length < 1000000000) : PCall Try.prog 14 [.sl (.int .u8) l sp fl] (.sl (.int .u8) l mark .ro) := by
  refine pcall_fun' (cx := cx14) (fn := Try.f14) (cx0_ok rfl rfl) (by kernel_rfl) (by kernel_rfl) (by kernel_rfl) ?_
  refine (twinT_eq l sp fl).trans ?_
  have room : ∀ {k : Nat}, k ≤ 1000000001 → roomy k 1 = true := fun hk => decide_eq_true (by omega)
  unfold twinT
  cases he : l.isEmpty
  · rw [room (by omega), room (by omega)]
    have c1 : (decide (l.length = l.length) && true) = true := by simp
    have c2 : (true && decide (0 ≤ tI (l.length : Int)) && decide (tI (l.length : Int) ≤ ((l ++ mark).length : Nat))) = true := by
      simp only [Bool.true_and, Bool.and_eq_true, decide_eq_true_eq, List.length_append]
      show (0 : Int) ≤ (l.length : Int) ∧ (l.length : Int) ≤ ((l.length + 1 : Nat) : Int)
      omega
    rw [c1, c2]
    have e1 : sub (l ++ mark) 0 (Int.toNat (l.length : Int)) = l := by rw [Int.toNat_natCast]; exact sub_all
    have e2 : List.drop (Int.toNat (l.length : Int)) (l ++ mark) = mark := by rw [Int.toNat_natCast]; exact List.drop_left
    exact congrArg some (sl_congr e1 e2)
  · have hn : l = [] := List.isEmpty_iff.1 he
    subst hn
    rfl

theorem twinS_ok : Sound Try.prog 14 twinS := by
  intro args out h
  unfold twinS at h
  split at h
  rotate_left
  · cases h
  rename_i l sp fl
  obtain ⟨h1, hc⟩ := req_run h
  simp only [Tree.run, Option.some.injEq] at hc
  subst hc
  exact twin_ok l sp fl (of_decide_eq_true h1)

theorem kept_ok (l sp : List Int) (f2 fl : Fl) (hl : l.length < 1000000000) : PCall Try.prog 17 [.sl (.int .u8) l mark f2, .sl (.int .u8) l sp fl] (.bool true) := by
  refine pcall_fun' (cx := cx17) (fn := Try.f17) (cx0_ok rfl rfl) (by kernel_rfl) (by kernel_rfl) (by kernel_rfl) ?_
  refine (keptT_eq l sp f2 fl).trans ?_
  unfold keptT
  have e : IntKind.wrap IntKind.i64 ((l.length : Int) + 1) = (l.length : Int) + 1 := wrap_i64 (by omega) (by omega)
  have e3 : sub (l ++ mark) 0 (Int.toNat ((l.length : Int) + 1)) = l ++ mark := by
    rw [show ((l.length : Int) + 1).toNat = l.length + 1 from by omega]
    simp only [sub, List.drop_zero]
    exact List.take_of_length_le (by simp)
  rw [e, e3]
  have c0 : strEq (List.map (fun n => UInt8.ofNat (Int.toNat n)) l) (List.map (fun n => UInt8.ofNat (Int.toNat n)) l) = true := beq_self_eq_true _
  have c1 : (true && decide (0 ≤ (l.length : Int) + 1) && decide ((l.length : Int) + 1 ≤ ((l.length + 1 : Nat) : Int))) = true := by
    simp only [Bool.true_and, Bool.and_eq_true, decide_eq_true_eq]
    omega
  have c2 : inside (l.length : Int) (l ++ mark).length = true := inside_of (by omega) (by simp; omega)
  have c3 : List.getD (l ++ mark) (Int.toNat (l.length : Int)) (0 : Int) = 90 := by
    rw [Int.toNat_natCast, getD_lt (by simp), List.getElem_append_right (Nat.le_refl _)]
    simp
  rw [c0, c1, c2]
  show some (V.bool (List.getD (l ++ mark) (Int.toNat (l.length : Int)) (0 : Int) == 90)) = _
  rw [c3]
  rfl

theorem keptS_ok : Sound Try.prog 17 keptS := by
  intro args out h
  unfold keptS at h
  split at h
  rotate_left
  · cases h
  rename_i l s2 f2 b sp fl
  obtain ⟨h1, ha⟩ := req_run h
  obtain ⟨h2, hb⟩ := req_run ha
  obtain ⟨h3, hc⟩ := req_run hb
  have h2 := eqL_to h2
  have h3 := eqL_to h3
  simp only [Tree.run, Option.some.injEq] at hc
  subst hc
  subst h2
  subst h3
  exact kept_ok l sp f2 fl (of_decide_eq_true h1)

/-! The document's Decode. -/

theorem num4 {a b c d : Int} (ha : 0 ≤ a ∧ a < 256) (hb : 0 ≤ b ∧ b < 256) (hc : 0 ≤ c ∧ c < 256) (hd : 0 ≤ d ∧ d < 256) : numL [a, b, c, d] = a + 256 * b + 65536 * c + 16777216 * d := by
  simp only [numL]
  rw [num_step (a := 0) (b := d) (by omega) (by omega) (by omega) (by omega)]
  rw [num_step (a := 0 * 256 + d) (b := c) (by omega) (by omega) (by omega) (by omega)]
  rw [num_step (a := (0 * 256 + d) * 256 + c) (b := b) (by omega) (by omega) (by omega) (by omega)]
  rw [num_step (b := a) (by omega) (by omega) (by omega) (by omega)]
  omega

theorem decX_ok (l sp : List Int) (fl : Fl) (at_ : Int) (hl : l.length < 1000000000) (hb : Bytes l) :
    PCall Try.prog 16 [.sl (.int .u8) l sp fl, .int .i64 at_] (.tup [insV (dI l at_), .int .i64 (dN l at_), .int .i64 (dE l at_)]) := by
  refine pcall_of' (c := bodyOf Try.f16) (fn := Try.f16) (by kernel_rfl) (by kernel_rfl) (by kernel_rfl) (by kernel_rfl) ?_
  refine AWP_headE (cx := cx16) rfl rfl cxDX_ok 3 (by kernel_rfl) (decXPre_eq l sp fl at_) ?_
  refine all_t (decide_eq_true (by omega)) ⟨fun he => ?_, fun he => ?_⟩
  · have key : dI l at_ = zeroI ∧ dN l at_ = 0 ∧ dE l at_ = uE l at_ := by
      unfold uE at he ⊢
      unfold dI dN dE
      cases ho : outOf l at_
      · rw [ho] at he
        cases hs : shortOf l at_
        · rw [hs] at he; cases he
        · exact ⟨rfl, rfl, rfl⟩
      · exact ⟨rfl, rfl, rfl⟩
    obtain ⟨a1, a2, a3⟩ := key
    refine ⟨.inl rfl, ?_⟩
    show answerV _ _ _ _ = some _
    rw [a1, a2, a3]
    kernel_rfl
  · have ho : outOf l at_ = false ∧ shortOf l at_ = false := by
      unfold uE at he
      cases ho : outOf l at_
      · rw [ho] at he
        cases hs : shortOf l at_
        · exact ⟨rfl, rfl⟩
        · rw [hs] at he; cases he
      · rw [ho] at he; cases he
    obtain ⟨ho, hs⟩ := ho
    have g1 : 0 ≤ at_ ∧ at_ ≤ l.length := by
      simp only [outOf, Bool.or_eq_false_iff, decide_eq_false_iff_not] at ho
      omega
    have g2 : at_ + 4 ≤ l.length := by
      simp only [shortOf, decide_eq_false_iff_not] at hs
      rw [wrap_i64 (by omega) (by omega)] at hs
      omega
    have hw := w4_sum hb g1.1 g2 hl
    obtain ⟨r0, r1⟩ := sum4_rng hb at_.toNat
    have hu : uV l at_ = sum4 l at_.toNat := by
      unfold uV
      rw [ho, hs]
      show numL (sub l at_.toNat (at_.toNat + 4)) = _
      rw [sub4 (by omega)]
      exact num4 (bytes_getD hb _) (bytes_getD hb _) (bytes_getD hb _) (bytes_getD hb _)
    have a1 : dI l at_ = decI (sum4 l at_.toNat) := by unfold dI; rw [ho, hs, hw]; rfl
    have a2 : dN l at_ = cond (decOk (sum4 l at_.toNat)) 4 0 := by unfold dN; rw [ho, hs, hw]; rfl
    have a3 : dE l at_ = cond (decOk (sum4 l at_.toNat)) 0 22 := by unfold dE; rw [ho, hs, hw]; rfl
    show AWP _ _ _ _ _ _
    refine AWP.less (s := [(4, .ptr 0 0), (5, .int .i64 0), (6, .int .i64 0), (7, .int .u64 (((sum4 l at_.toNat).toNat : Nat) : Int)), (9, .sl rowXE rowsX [] .ro)]) (Fits.tle ⟨rfl, rfl, rfl, congrArg (V.int .u64) (by rw [hu]; omega), rfl, trivial⟩) ?_
    rw [a1, a2, a3]
    have hd := decX_loop (sum4 l at_.toNat).toNat (by omega)
    unfold decXQ at hd
    rw [show (((sum4 l at_.toNat).toNat : Nat) : Int) = sum4 l at_.toNat by omega] at hd ⊢
    exact hd

theorem decXS_ok : Sound Try.prog 16 decXS := by
  intro args out h
  unfold decXS at h
  split at h
  rotate_left
  · cases h
  rename_i l sp fl at_
  obtain ⟨h1, ha⟩ := req_run h
  obtain ⟨h2, hc⟩ := req_run ha
  simp only [Tree.run, Option.some.injEq] at hc
  subst hc
  exact decX_ok l sp fl at_ (of_decide_eq_true h1) (bytesB_to h2)

/-! The law. -/

theorem cxLD_ok : CxOk cx4 := cx1_ok (.cons begunS_ok (.cons twinS_ok (.cons decodeS_ok (.cons decXS_ok (.cons keptS_ok (.nil _)))))) (.nil _) rfl rfl

def lawDSt (b : List Int) (s : { s : Nat × Int // s.1 ≤ 12 }) : T × List O := ([(0, .sl (.int .u8) b [] .may), (1, .int .i64 s.1.2), (5, .sl (.int .u8) b mark .ro), (6, .int .i64 s.1.1)], [])
def lawDQ (e : AEx) (t : T) (H : List O) : Prop := (e = .ret ∨ e = .normal) ∧ answerV Try.prog Try.f4.results.toList H t = some (.bool true)

set_option maxRecDepth 8000 in
theorem lawD_ok (b : List Int) (at_ : Int) (hb : Bytes b) : PCall Try.prog 4 [.sl (.int .u8) b [] .may, .int .i64 at_] (.bool true) := by
  refine pcall_of' (c := bodyOf Try.f4) (fn := Try.f4) (by kernel_rfl) (by kernel_rfl) (by kernel_rfl) (by kernel_rfl) ?_
  refine AWP_headE (cx := cx4) rfl rfl cxLD_ok 3 (by kernel_rfl) (lawDPre_eq b at_) ?_
  refine ⟨fun _ => ⟨.inl rfl, by kernel_rfl⟩, fun hx => ?_⟩
  have lb : b.length ≤ 400 := by have : ¬ (400 : Int) < b.length := of_decide_eq_false hx; omega
  have hl : decide (List.length b < 1000000000) = true := decide_eq_true (by omega)
  refine all_t hl ?_
  show AWP _ _ _ lawDQ _ _
  have e : tailN 3 B4 = .seq (.seq (c1 (c1 (tailN 3 B4))) (.block 0 (.loop (cin (cin (c2 (c1 (tailN 3 B4)))))))) (tailN 4 B4) := by kernel_rfl
  rw [e]
  refine AWP.less (s := [(0, .sl (.int .u8) b [] .may), (1, .int .i64 at_), (5, .sl (.int .u8) b mark .ro)]) (Fits.tle ⟨rfl, rfl, rfl, trivial⟩) ?_
  refine AWP_seq (AWP_seq (AWP_run (cx := cx4) rfl rfl cxLD_ok (s := (.normal, (lawDSt b ⟨(0, at_), Nat.zero_le _⟩).1, [])) (by kernel_rfl) ?_))
  refine AWP_block ?_
  refine AWP_rounds (cx := cx4) (P := Try.prog) (n := 58) rfl rfl cxLD_ok (lawDSt b) (fun s => 12 - s.1.1) ?_ ⟨(0, at_), Nat.zero_le _⟩
  rintro ⟨⟨k, p⟩, hk⟩
  refine Tree.all_run_eq (lawDRound_eq b p k) ?_
  refine ⟨fun hlt => all_t hl (all_t hl (all_t (bytesB_of hb) (all_f ?_ (all_f (bne_self_eq_false _) (all_f (bne_self_eq_false _) ?_))))), fun hge => ?_⟩
  · simp [strEq]
  · have hlt : (k : Int) < 12 := of_decide_eq_true hlt
    refine ⟨[], _, rfl, ⟨(k + 1, _), by show k + 1 ≤ 12; omega⟩, by show 12 - (k + 1) < 12 - k; omega, Fits.tle ⟨rfl, rfl, rfl, ?_, trivial⟩, rfl⟩
    show V.int .i64 (IntKind.wrap .i64 ((k : Int) + 1)) = V.int .i64 ((k + 1 : Nat) : Int)
    rw [wrap_i64 (by omega) (by omega)]
    rfl
  · refine ⟨[], _, rfl, ?_⟩
    show AWP _ _ _ _ _ _
    refine AWP.less (s := [(0, .sl (.int .u8) b [] .may), (5, .sl (.int .u8) b mark .ro)]) (Fits.tle ⟨rfl, rfl, trivial⟩) ?_
    refine AWP_code (cx := cx4) rfl rfl cxLD_ok _ _ _ _ (Tree.all_run_eq (lawDEnd_eq b) ?_)
    refine all_t hl (all_t (decide_eq_true rfl) ⟨.inl rfl, by kernel_rfl⟩)

end Go.Arm
