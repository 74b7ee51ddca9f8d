/-
  The law Decodes: every call answers true. Conditions: none.
-/
import Derived.Test.YtaedihkgdmaofaaDoorCm34
import Derived.Test.YtaedihkgdmaofaaDoorCm22
namespace Go.Cmp
open Go Go.Ab Go.Proofs

/-- The mark behind a twin. -/
abbrev mark : List Int := [90]
def eqL (a b : List Int) : Bool := decide (a = b)

def twinS : Ab.Spec := fun args => match args with
  | [.sl (.int .u8) l _ _] => .req (decide (l.length < 1000000000)) (.leaf (.sl (.int .u8) l mark .ro))
  | _ => .fail
def keptS : Ab.Spec := fun args => match args with
  | [.sl (.int .u8) l sp _, .sl (.int .u8) b _ _] => .req (decide (l.length < 1000000000)) (.req (eqL l b) (.req (eqL sp mark) (.leaf (.bool true))))
  | _ => .fail

/-- The context of foundry/foundrylaw1.Twin. -/
noncomputable def cx14 : Cx := { P := Tryd.prog, n := 10, tab := [], mtab := [], refs := [], keeps := [0, 2] }
/-- The context of foundry/foundrylaw1.Kept. -/
noncomputable def cx17 : Cx := { P := Tryd.prog, n := 22, tab := [], mtab := [], refs := [], keeps := [0, 1, 4] }
/-- The context of foundry/foundrylaw9.CompactDecodes. -/
noncomputable def cx4 : Cx := { P := Tryd.prog, n := 58, tab := [(9, begunS), (14, twinS), (15, decodeS), (16, decXS), (17, keptS)], mtab := [], refs := [], keeps := [0, 1, 4, 5, 6, 7, 8, 9, 10, 11, 12, 14, 17, 21, 50] }
noncomputable abbrev B4 : Code := bodyOf Tryd.f4
def twinT (l _sp : List Int) (_fl : Fl) : Tree V :=
  (.br (List.isEmpty l) (.br (true && decide (0 ≤ tI ↑(List.length l)) && decide (tI ↑(List.length l) ≤ ↑1)) (.leaf (.sl (.int .u8) ((sub mark 0 (Int.toNat ↑(List.length l)))) ((List.drop (Int.toNat ↑(List.length l)) mark)) Fl.ro)) .fail) (.br (roomy (List.length l) 1) (.br (decide (List.length l = List.length l) && roomy (List.length l + 1) 1) (.br (true && decide (0 ≤ tI ↑(List.length l)) && decide (tI ↑(List.length l) ≤ ↑(List.length (l ++ mark)))) (.leaf (.sl (.int .u8) ((sub (l ++ mark) 0 (Int.toNat ↑(List.length l)))) ((List.drop (Int.toNat ↑(List.length l)) (l ++ mark))) Fl.ro)) .fail) .fail) .fail))

theorem twinT_eq (l sp : List Int) (fl : Fl) : (dfun cx14 Tryd.f14 [.sl (.int .u8) l sp fl]).run = (twinT l sp fl).run :=
  (show (dfun cx14 Tryd.f14 [.sl (.int .u8) l sp fl]).run = (twinT l sp fl).out by kernel_rfl).trans (Tree.out_run _)

def keptT (l _sp : List Int) (_f2 _fl : Fl) : Tree V :=
  (.br (strEq (List.map (fun n => UInt8.ofNat (Int.toNat n)) l) (List.map (fun n => UInt8.ofNat (Int.toNat n)) l)) (.br (true && decide (0 ≤ IntKind.wrap IntKind.i64 (↑(List.length l) + 1)) && decide (IntKind.wrap IntKind.i64 (↑(List.length l) + 1) ≤ ↑(List.length l + 1))) (.br (inside (↑(List.length l)) (List.length (sub (l ++ mark) 0 (Int.toNat (IntKind.wrap IntKind.i64 (↑(List.length l) + 1)))))) (.leaf (.bool (tI (List.getD (sub (l ++ mark) 0 (Int.toNat (IntKind.wrap IntKind.i64 (↑(List.length l) + 1)))) (Int.toNat ↑(List.length l)) (tI (EC.dflt (EC.int IntKind.u8)))) == 90))) .fail) .fail) (.leaf (.bool false)))

theorem keptT_eq (l sp : List Int) (f2 fl : Fl) : (dfun cx17 Tryd.f17 [.sl (.int .u8) l mark f2, .sl (.int .u8) l sp fl]).run = (keptT l sp f2 fl).run :=
  (show (dfun cx17 Tryd.f17 [.sl (.int .u8) l mark f2, .sl (.int .u8) l sp fl]).run = (keptT l sp f2 fl).out by kernel_rfl).trans (Tree.out_run _)

def lawDPre (b : List Int) (at_ : Int) : Tree St :=
  (.br (decide (400 < tI ↑(List.length b))) (.leaf (.ret, [(0, (.sl (.int .u8) (b) ([]) Fl.may)), (1, (.int .i64 at_)), (4, (.bool true)), (14, (.bool false)), (17, (.bool true))], [])) (.br (decide (List.length b < 1000000000)) (.leaf (.normal, [(0, (.sl (.int .u8) (b) ([]) Fl.may)), (1, (.int .i64 at_)), (4, (.bool false)), (5, (.sl (.int .u8) (b) (mark) Fl.ro)), (14, (.bool false)), (17, (.bool false))], [])) .fail))

theorem lawDPre_eq (b : List Int) (at_ : Int) : (dcode cx4 (headN 3 B4) (initT 0 [.sl (.int .u8) b [] .may, .int .i64 at_]) []).run = (lawDPre b at_).run :=
  (show (dcode cx4 (headN 3 B4) (initT 0 [.sl (.int .u8) b [] .may, .int .i64 at_]) []).run = (lawDPre b at_).out by kernel_rfl).trans (Tree.out_run _)

def lawDRound (b : List Int) (at_ k : Int) : Tree St :=
  (.br (decide (k < 12)) (.br (decide (List.length b < 1000000000)) (.br (decide (List.length b < 1000000000)) (.br (bytesB b) (.br (!(strEq (Prod.fst (dI b at_)) (Prod.fst (dI b at_)) && (Prod.fst (Prod.snd (dI b at_)) == Prod.fst (Prod.snd (dI b at_)) && (Prod.fst (Prod.snd (Prod.snd (dI b at_))) == Prod.fst (Prod.snd (Prod.snd (dI b at_))) && (Prod.fst (Prod.snd (Prod.snd (Prod.snd (dI b at_)))) == Prod.fst (Prod.snd (Prod.snd (Prod.snd (dI b at_)))) && (Prod.fst (Prod.snd (Prod.snd (Prod.snd (Prod.snd (dI b at_))))) == Prod.fst (Prod.snd (Prod.snd (Prod.snd (Prod.snd (dI b at_))))) && (Prod.snd (Prod.snd (Prod.snd (Prod.snd (Prod.snd (dI b at_))))) == Prod.snd (Prod.snd (Prod.snd (Prod.snd (Prod.snd (dI b at_))))) && true))))))) (.leaf (.ret, [(0, (.sl (.int .u8) (b) ([]) Fl.may)), (1, (.int .i64 at_)), (4, (.bool false)), (5, (.sl (.int .u8) (b) (mark) Fl.ro)), (6, (.int .i64 k)), (7, (.ptr 0 0)), (8, (.int .i64 (dN b at_))), (9, (.int .i64 (dE b at_))), (10, (.ptr 1 0)), (11, (.int .i64 (dN b at_))), (12, (.int .i64 (dE b at_))), (21, (.bool true)), (50, (.bool true))], [(.cells [(.str (Prod.fst (dI b at_))), (.int .i64 (Prod.fst (Prod.snd (dI b at_)))), (.int .i64 (Prod.fst (Prod.snd (Prod.snd (dI b at_))))), (.int .i64 (Prod.fst (Prod.snd (Prod.snd (Prod.snd (dI b at_)))))), (.int .i64 (Prod.fst (Prod.snd (Prod.snd (Prod.snd (Prod.snd (dI b at_))))))), (.int .i64 (Prod.snd (Prod.snd (Prod.snd (Prod.snd (Prod.snd (dI b at_)))))))] 29), (.cells [(.str (Prod.fst (dI b at_))), (.int .i64 (Prod.fst (Prod.snd (dI b at_)))), (.int .i64 (Prod.fst (Prod.snd (Prod.snd (dI b at_))))), (.int .i64 (Prod.fst (Prod.snd (Prod.snd (Prod.snd (dI b at_)))))), (.int .i64 (Prod.fst (Prod.snd (Prod.snd (Prod.snd (Prod.snd (dI b at_))))))), (.int .i64 (Prod.snd (Prod.snd (Prod.snd (Prod.snd (Prod.snd (dI b at_)))))))] 29)])) (.br (dN b at_ != dN b at_) (.leaf (.ret, [(0, (.sl (.int .u8) (b) ([]) Fl.may)), (1, (.int .i64 at_)), (4, (.bool false)), (5, (.sl (.int .u8) (b) (mark) Fl.ro)), (6, (.int .i64 k)), (7, (.ptr 0 0)), (8, (.int .i64 (dN b at_))), (9, (.int .i64 (dE b at_))), (10, (.ptr 1 0)), (11, (.int .i64 (dN b at_))), (12, (.int .i64 (dE b at_))), (21, (.bool true)), (50, (.bool true))], [(.cells [(.str (Prod.fst (dI b at_))), (.int .i64 (Prod.fst (Prod.snd (dI b at_)))), (.int .i64 (Prod.fst (Prod.snd (Prod.snd (dI b at_))))), (.int .i64 (Prod.fst (Prod.snd (Prod.snd (Prod.snd (dI b at_)))))), (.int .i64 (Prod.fst (Prod.snd (Prod.snd (Prod.snd (Prod.snd (dI b at_))))))), (.int .i64 (Prod.snd (Prod.snd (Prod.snd (Prod.snd (Prod.snd (dI b at_)))))))] 29), (.cells [(.str (Prod.fst (dI b at_))), (.int .i64 (Prod.fst (Prod.snd (dI b at_)))), (.int .i64 (Prod.fst (Prod.snd (Prod.snd (dI b at_))))), (.int .i64 (Prod.fst (Prod.snd (Prod.snd (Prod.snd (dI b at_)))))), (.int .i64 (Prod.fst (Prod.snd (Prod.snd (Prod.snd (Prod.snd (dI b at_))))))), (.int .i64 (Prod.snd (Prod.snd (Prod.snd (Prod.snd (Prod.snd (dI b at_)))))))] 29)])) (.br (dE b at_ != dE b at_) (.leaf (.ret, [(0, (.sl (.int .u8) (b) ([]) Fl.may)), (1, (.int .i64 at_)), (4, (.bool false)), (5, (.sl (.int .u8) (b) (mark) Fl.ro)), (6, (.int .i64 k)), (7, (.ptr 0 0)), (8, (.int .i64 (dN b at_))), (9, (.int .i64 (dE b at_))), (10, (.ptr 1 0)), (11, (.int .i64 (dN b at_))), (12, (.int .i64 (dE b at_))), (21, (.bool true)), (50, (.bool true))], [(.cells [(.str (Prod.fst (dI b at_))), (.int .i64 (Prod.fst (Prod.snd (dI b at_)))), (.int .i64 (Prod.fst (Prod.snd (Prod.snd (dI b at_))))), (.int .i64 (Prod.fst (Prod.snd (Prod.snd (Prod.snd (dI b at_)))))), (.int .i64 (Prod.fst (Prod.snd (Prod.snd (Prod.snd (Prod.snd (dI b at_))))))), (.int .i64 (Prod.snd (Prod.snd (Prod.snd (Prod.snd (Prod.snd (dI b at_)))))))] 29), (.cells [(.str (Prod.fst (dI b at_))), (.int .i64 (Prod.fst (Prod.snd (dI b at_)))), (.int .i64 (Prod.fst (Prod.snd (Prod.snd (dI b at_))))), (.int .i64 (Prod.fst (Prod.snd (Prod.snd (Prod.snd (dI b at_)))))), (.int .i64 (Prod.fst (Prod.snd (Prod.snd (Prod.snd (Prod.snd (dI b at_))))))), (.int .i64 (Prod.snd (Prod.snd (Prod.snd (Prod.snd (Prod.snd (dI b at_)))))))] 29)])) (.leaf (.normal, [(0, (.sl (.int .u8) (b) ([]) Fl.may)), (1, (.int .i64 (IntKind.wrap IntKind.i64 (at_ + if 1 > dN b at_ then 1 else dN b at_)))), (5, (.sl (.int .u8) (b) (mark) Fl.ro)), (6, (.int .i64 (IntKind.wrap IntKind.i64 (k + 1)))), (7, (.ptr 0 0)), (8, (.int .i64 (dN b at_))), (9, (.int .i64 (dE b at_))), (10, (.ptr 1 0)), (11, (.int .i64 (dN b at_))), (12, (.int .i64 (dE b at_))), (21, (.bool true)), (50, (.bool false))], [(.cells [(.str (Prod.fst (dI b at_))), (.int .i64 (Prod.fst (Prod.snd (dI b at_)))), (.int .i64 (Prod.fst (Prod.snd (Prod.snd (dI b at_))))), (.int .i64 (Prod.fst (Prod.snd (Prod.snd (Prod.snd (dI b at_)))))), (.int .i64 (Prod.fst (Prod.snd (Prod.snd (Prod.snd (Prod.snd (dI b at_))))))), (.int .i64 (Prod.snd (Prod.snd (Prod.snd (Prod.snd (Prod.snd (dI b at_)))))))] 29), (.cells [(.str (Prod.fst (dI b at_))), (.int .i64 (Prod.fst (Prod.snd (dI b at_)))), (.int .i64 (Prod.fst (Prod.snd (Prod.snd (dI b at_))))), (.int .i64 (Prod.fst (Prod.snd (Prod.snd (Prod.snd (dI b at_)))))), (.int .i64 (Prod.fst (Prod.snd (Prod.snd (Prod.snd (Prod.snd (dI b at_))))))), (.int .i64 (Prod.snd (Prod.snd (Prod.snd (Prod.snd (Prod.snd (dI b at_)))))))] 29)]))))) .fail) .fail) .fail) (.leaf ((.exit 0), [(0, (.sl (.int .u8) (b) ([]) Fl.may)), (1, (.int .i64 at_)), (5, (.sl (.int .u8) (b) (mark) Fl.ro)), (6, (.int .i64 k)), (21, (.bool false))], [])))

theorem lawDRound_eq (b : List Int) (at_ k : Int) : (dcode cx4 (cin (cin (c2 (c1 (tailN 3 B4))))) [(0, .sl (.int .u8) b [] .may), (1, .int .i64 at_), (5, .sl (.int .u8) b mark .ro), (6, .int .i64 k)] []).run = (lawDRound b at_ k).run :=
  (show (dcode cx4 (cin (cin (c2 (c1 (tailN 3 B4))))) [(0, .sl (.int .u8) b [] .may), (1, .int .i64 at_), (5, .sl (.int .u8) b mark .ro), (6, .int .i64 k)] []).run = (lawDRound b at_ k).out by kernel_rfl).trans (Tree.out_run _)

def lawDEnd (b : List Int) : Tree St :=
  (.br (decide (List.length b < 1000000000)) (.br (eqL b b) (.leaf (.ret, [(0, (.sl (.int .u8) (b) ([]) Fl.may)), (4, (.bool true)), (5, (.sl (.int .u8) (b) (mark) Fl.ro))], [])) .fail) .fail)

theorem lawDEnd_eq (b : List Int) : (dcode cx4 (tailN 4 B4) [(0, .sl (.int .u8) b [] .may), (5, .sl (.int .u8) b mark .ro)] []).run = (lawDEnd b).run :=
  (show (dcode cx4 (tailN 4 B4) [(0, .sl (.int .u8) b [] .may), (5, .sl (.int .u8) b mark .ro)] []).run = (lawDEnd b).out by kernel_rfl).trans (Tree.out_run _)


theorem sub_all {l s : List Int} : sub (l ++ s) 0 l.length = l := by
  simp only [sub, List.drop_zero]
  exact List.take_left

theorem sl_congr {l l' s s' : List Int} {fl : Fl} (h : l = l') (k : s = s') : V.sl (.int .u8) l s fl = V.sl (.int .u8) l' s' fl := by subst h; subst k; rfl
theorem eqL_to {a b : List Int} (h : eqL a b = true) : a = b := of_decide_eq_true h

theorem twin_ok (l sp : List Int) (fl : Fl) (hl : l.length < 1000000000) : PCall Tryd.prog 14 [.sl (.int .u8) l sp fl] (.sl (.int .u8) l mark .ro) := by
  refine pcall_fun' (cx := cx14) (fn := Tryd.f14) (cx0_ok rfl rfl) (by kernel_rfl) (by kernel_rfl) (by kernel_rfl) ?_
  refine (twinT_eq l sp fl).trans ?_
  have room : ∀ {k : Nat}, k ≤ 1000000001 → roomy k 1 = true := fun hk => decide_eq_true (by omega)
  unfold twinT
  cases he : l.isEmpty
  · rw [room (by omega), room (by omega)]
    have c1 : (decide (l.length = l.length) && true) = true := by simp
    have c2 : (true && decide (0 ≤ tI (l.length : Int)) && decide (tI (l.length : Int) ≤ ((l ++ mark).length : Nat))) = true := by
      simp only [Bool.true_and, Bool.and_eq_true, decide_eq_true_eq, List.length_append]
      show (0 : Int) ≤ (l.length : Int) ∧ (l.length : Int) ≤ ((l.length + 1 : Nat) : Int)
      omega
    rw [c1, c2]
    have e1 : sub (l ++ mark) 0 (Int.toNat (l.length : Int)) = l := by rw [Int.toNat_natCast]; exact sub_all
    have e2 : List.drop (Int.toNat (l.length : Int)) (l ++ mark) = mark := by rw [Int.toNat_natCast]; exact List.drop_left
    exact congrArg some (sl_congr e1 e2)
  · have hn : l = [] := List.isEmpty_iff.1 he
    subst hn
    rfl

theorem twinS_ok : Sound Tryd.prog 14 twinS := by
  intro args out h
  unfold twinS at h
  split at h
  rotate_left
  · cases h
  rename_i l sp fl
  obtain ⟨h1, hc⟩ := req_run h
  simp only [Tree.run, Option.some.injEq] at hc
  subst hc
  exact twin_ok l sp fl (of_decide_eq_true h1)

theorem kept_ok (l sp : List Int) (f2 fl : Fl) (hl : l.length < 1000000000) : PCall Tryd.prog 17 [.sl (.int .u8) l mark f2, .sl (.int .u8) l sp fl] (.bool true) := by
  refine pcall_fun' (cx := cx17) (fn := Tryd.f17) (cx0_ok rfl rfl) (by kernel_rfl) (by kernel_rfl) (by kernel_rfl) ?_
  refine (keptT_eq l sp f2 fl).trans ?_
  unfold keptT
  have e : IntKind.wrap IntKind.i64 ((l.length : Int) + 1) = (l.length : Int) + 1 := wrap_i64 (by omega) (by omega)
  have e3 : sub (l ++ mark) 0 (Int.toNat ((l.length : Int) + 1)) = l ++ mark := by
    rw [show ((l.length : Int) + 1).toNat = l.length + 1 from by omega]
    simp only [sub, List.drop_zero]
    exact List.take_of_length_le (by simp)
  rw [e, e3]
  have c0 : strEq (List.map (fun n => UInt8.ofNat (Int.toNat n)) l) (List.map (fun n => UInt8.ofNat (Int.toNat n)) l) = true := beq_self_eq_true _
  have c1 : (true && decide (0 ≤ (l.length : Int) + 1) && decide ((l.length : Int) + 1 ≤ ((l.length + 1 : Nat) : Int))) = true := by
    simp only [Bool.true_and, Bool.and_eq_true, decide_eq_true_eq]
    omega
  have c2 : inside (l.length : Int) (l ++ mark).length = true := inside_of (by omega) (by simp; omega)
  have c3 : List.getD (l ++ mark) (Int.toNat (l.length : Int)) (0 : Int) = 90 := by
    rw [Int.toNat_natCast, getD_lt (by simp), List.getElem_append_right (Nat.le_refl _)]
    simp
  rw [c0, c1, c2]
  show some (V.bool (List.getD (l ++ mark) (Int.toNat (l.length : Int)) (0 : Int) == 90)) = _
  rw [c3]
  rfl

theorem keptS_ok : Sound Tryd.prog 17 keptS := by
  intro args out h
  unfold keptS at h
  split at h
  rotate_left
  · cases h
  rename_i l s2 f2 b sp fl
  obtain ⟨h1, ha⟩ := req_run h
  obtain ⟨h2, hb⟩ := req_run ha
  obtain ⟨h3, hc⟩ := req_run hb
  have h2 := eqL_to h2
  have h3 := eqL_to h3
  simp only [Tree.run, Option.some.injEq] at hc
  subst hc
  subst h2
  subst h3
  exact kept_ok l sp f2 fl (of_decide_eq_true h1)

/-! The law. -/

theorem cxLD_ok : CxOk cx4 := cx1_ok (.cons begunS_ok (.cons twinS_ok (.cons decodeS_ok (.cons decXS_ok (.cons keptS_ok (.nil _)))))) (fun p h => by cases h) rfl rfl

def lawDSt (b : List Int) (s : { s : Nat × Int // s.1 ≤ 12 }) : T × List O := ([(0, .sl (.int .u8) b [] .may), (1, .int .i64 s.1.2), (5, .sl (.int .u8) b mark .ro), (6, .int .i64 s.1.1)], [])
def lawDQ (e : AEx) (t : T) (H : List O) : Prop := (e = .ret ∨ e = .normal) ∧ answerV Tryd.prog Tryd.f4.results.toList H t = some (.bool true)

set_option maxRecDepth 8000 in
theorem lawD_ok (b : List Int) (at_ : Int) (hb : Bytes b) : PCall Tryd.prog 4 [.sl (.int .u8) b [] .may, .int .i64 at_] (.bool true) := by
  refine pcall_of' (c := bodyOf Tryd.f4) (fn := Tryd.f4) (by kernel_rfl) (by kernel_rfl) (by kernel_rfl) (by kernel_rfl) ?_
  refine AWP_headE (cx := cx4) rfl rfl cxLD_ok 3 (by kernel_rfl) (lawDPre_eq b at_) ?_
  refine ⟨fun _ => ⟨.inl rfl, by kernel_rfl⟩, fun hx => ?_⟩
  have lb : b.length ≤ 400 := by have : ¬ (400 : Int) < b.length := of_decide_eq_false hx; omega
  have hl : decide (List.length b < 1000000000) = true := decide_eq_true (by omega)
  refine all_t hl ?_
  show AWP _ _ _ lawDQ _ _
  have e : tailN 3 B4 = .seq (.seq (c1 (c1 (tailN 3 B4))) (.block 0 (.loop (cin (cin (c2 (c1 (tailN 3 B4)))))))) (tailN 4 B4) := by kernel_rfl
  rw [e]
  refine AWP.less (s := [(0, .sl (.int .u8) b [] .may), (1, .int .i64 at_), (5, .sl (.int .u8) b mark .ro)]) (Fits.tle ⟨rfl, rfl, rfl, trivial⟩) ?_
  refine AWP_seq (AWP_seq (AWP_run (cx := cx4) rfl rfl cxLD_ok (s := (.normal, (lawDSt b ⟨(0, at_), Nat.zero_le _⟩).1, [])) (by kernel_rfl) ?_))
  refine AWP_block ?_
  refine AWP_rounds (cx := cx4) (P := Tryd.prog) (n := 58) rfl rfl cxLD_ok (lawDSt b) (fun s => 12 - s.1.1) ?_ ⟨(0, at_), Nat.zero_le _⟩
  rintro ⟨⟨k, p⟩, hk⟩
  refine Tree.all_run_eq (lawDRound_eq b p k) ?_
  refine ⟨fun hlt => all_t hl (all_t hl (all_t (bytesB_of hb) (all_f ?_ (all_f (bne_self_eq_false _) (all_f (bne_self_eq_false _) ?_))))), fun hge => ?_⟩
  · simp [strEq]
  · have hlt : (k : Int) < 12 := of_decide_eq_true hlt
    refine ⟨[], _, rfl, ⟨(k + 1, _), by show k + 1 ≤ 12; omega⟩, by show 12 - (k + 1) < 12 - k; omega, Fits.tle ⟨rfl, rfl, rfl, ?_, trivial⟩, rfl⟩
    show V.int .i64 (IntKind.wrap .i64 ((k : Int) + 1)) = V.int .i64 ((k + 1 : Nat) : Int)
    rw [wrap_i64 (by omega) (by omega)]
    rfl
  · refine ⟨[], _, rfl, ?_⟩
    show AWP _ _ _ _ _ _
    refine AWP.less (s := [(0, .sl (.int .u8) b [] .may), (5, .sl (.int .u8) b mark .ro)]) (Fits.tle ⟨rfl, rfl, trivial⟩) ?_
    refine AWP_code (cx := cx4) rfl rfl cxLD_ok _ _ _ _ (Tree.all_run_eq (lawDEnd_eq b) ?_)
    refine all_t hl (all_t (decide_eq_true rfl) ⟨.inl rfl, by kernel_rfl⟩)

end Go.Cmp
