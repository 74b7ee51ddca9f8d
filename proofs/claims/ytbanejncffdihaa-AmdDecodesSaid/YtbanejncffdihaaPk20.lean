/-
  AmdDecodes: its call answers true. Conditions: none.
-/
import Derived.Test.YtbanejncffdihaaPk19
import Derived.Test.YtbanejncffdihaaPk11
import Derived.Test.YtbanejncffdihaaPk09
import Derived.ProofKit
import Derived.Deep.Slices
import Derived.OpenShut
set_option linter.unusedVariables false
set_option linter.unusedSimpArgs false
namespace Go.Amd
open Go Go.Ab Go.Proofs
abbrev mark : List Int := [90]
def twinS : Ab.Spec := fun args => match args with
  | [.sl (.int .u8) l _ _] => .req (decide (l.length < 1000000000)) (.leaf (.sl (.int .u8) l mark .ro))
  | _ => .fail
def keptS : Ab.Spec := fun args => match args with
  | [.sl (.int .u8) l sp _, .sl (.int .u8) b _ _] => .req (decide (l.length < 1000000000)) (.req (eqL l b) (.req (eqL sp mark) (.leaf (.bool true))))
  | _ => .fail
noncomputable def cx10 : Cx := { P := Try.prog, n := 10, tab := [], mtab := [], refs := [], keeps := [0, 2] }
noncomputable def cx13 : Cx := { P := Try.prog, n := 22, tab := [], mtab := [], refs := [], keeps := [0, 1, 4] }
noncomputable def cx4 : Cx := { P := Try.prog, n := 58, tab := [(5, begunS), (10, twinS), (11, decodeT), (12, decodeT), (13, keptS)], mtab := [], refs := [], keeps := [0, 1, 4, 5, 6, 7, 8, 9, 10, 11, 12, 14, 17, 21, 50] }
noncomputable abbrev B4 : Code := bodyOf Try.f4
def twinT (l _sp : List Int) (_fl : Fl) : Tree V :=
  (.br (List.isEmpty l) (.br (true && decide (0 ≤ tI ↑(List.length l)) && decide (tI ↑(List.length l) ≤ ↑1)) (.leaf (.sl (.int .u8) ((sub mark 0 (Int.toNat ↑(List.length l)))) ((List.drop (Int.toNat ↑(List.length l)) mark)) Fl.ro)) .fail) (.br (roomy (List.length l) 1) (.br (decide (List.length l = List.length l) && roomy (List.length l + 1) 1) (.br (true && decide (0 ≤ tI ↑(List.length l)) && decide (tI ↑(List.length l) ≤ ↑(List.length (l ++ mark)))) (.leaf (.sl (.int .u8) ((sub (l ++ mark) 0 (Int.toNat ↑(List.length l)))) ((List.drop (Int.toNat ↑(List.length l)) (l ++ mark))) Fl.ro)) .fail) .fail) .fail))
theorem twinT_eq (l sp : List Int) (fl : Fl) : (dfun cx10 Try.f10 [.sl (.int .u8) l sp fl]).run = (twinT l sp fl).run :=
  (show (dfun cx10 Try.f10 [.sl (.int .u8) l sp fl]).run = (twinT l sp fl).out by kernel_rfl).trans (Tree.out_run _)
def keptT (l _sp : List Int) (_f2 _fl : Fl) : Tree V :=
  (.br (strEq (List.map (fun n => UInt8.ofNat (Int.toNat n)) l) (List.map (fun n => UInt8.ofNat (Int.toNat n)) l)) (.br (true && decide (0 ≤ IntKind.wrap IntKind.i64 (↑(List.length l) + 1)) && decide (IntKind.wrap IntKind.i64 (↑(List.length l) + 1) ≤ ↑(List.length l + 1))) (.br (inside (↑(List.length l)) (List.length (sub (l ++ mark) 0 (Int.toNat (IntKind.wrap IntKind.i64 (↑(List.length l) + 1)))))) (.leaf (.bool (tI (List.getD (sub (l ++ mark) 0 (Int.toNat (IntKind.wrap IntKind.i64 (↑(List.length l) + 1)))) (Int.toNat ↑(List.length l)) (tI (EC.dflt (EC.int IntKind.u8)))) == 90))) .fail) .fail) (.leaf (.bool false)))
theorem keptT_eq (l sp : List Int) (f2 fl : Fl) : (dfun cx13 Try.f13 [.sl (.int .u8) l mark f2, .sl (.int .u8) l sp fl]).run = (keptT l sp f2 fl).run :=
  (show (dfun cx13 Try.f13 [.sl (.int .u8) l mark f2, .sl (.int .u8) l sp fl]).run = (keptT l sp f2 fl).out by kernel_rfl).trans (Tree.out_run _)
def lawDPre (b : List Int) (at_ : Int) : Tree St :=
  (.br (decide (400 < tI ↑(List.length b))) (.leaf (.ret, [(0, (.sl (.int .u8) (b) ([]) Fl.may)), (1, (.int .i64 at_)), (4, (.bool true)), (14, (.bool false)), (17, (.bool true))], [])) (.br (decide (List.length b < 1000000000)) (.leaf (.normal, [(0, (.sl (.int .u8) (b) ([]) Fl.may)), (1, (.int .i64 at_)), (4, (.bool false)), (5, (.sl (.int .u8) (b) (mark) Fl.ro)), (14, (.bool false)), (17, (.bool false))], [])) .fail))
theorem lawDPre_eq (b : List Int) (at_ : Int) : (dcode cx4 (headN 3 B4) (initT 0 [.sl (.int .u8) b [] .may, .int .i64 at_]) []).run = (lawDPre b at_).run :=
  (show (dcode cx4 (headN 3 B4) (initT 0 [.sl (.int .u8) b [] .may, .int .i64 at_]) []).run = (lawDPre b at_).out by kernel_rfl).trans (Tree.out_run _)
def lawDRound (b : List Int) (at_ k : Int) : Tree St :=
  (.br (decide (k < 12)) (.br (decide (List.length b < 1000000000)) (.br (bytesB b) (.br (decide (List.length b < 1000000000)) (.br (bytesB b) (.br (!(strEq (Prod.fst (dI b at_)) (Prod.fst (dI b at_)) && (Prod.fst (Prod.snd (dI b at_)) == Prod.fst (Prod.snd (dI b at_)) && (Prod.fst (Prod.snd (Prod.snd (dI b at_))) == Prod.fst (Prod.snd (Prod.snd (dI b at_))) && (Prod.fst (Prod.snd (Prod.snd (Prod.snd (dI b at_)))) == Prod.fst (Prod.snd (Prod.snd (Prod.snd (dI b at_)))) && (Prod.fst (Prod.snd (Prod.snd (Prod.snd (Prod.snd (dI b at_))))) == Prod.fst (Prod.snd (Prod.snd (Prod.snd (Prod.snd (dI b at_))))) && (Prod.snd (Prod.snd (Prod.snd (Prod.snd (Prod.snd (dI b at_))))) == Prod.snd (Prod.snd (Prod.snd (Prod.snd (Prod.snd (dI b at_))))) && true))))))) (.leaf (.ret, [(0, (.sl (.int .u8) (b) ([]) Fl.may)), (1, (.int .i64 at_)), (4, (.bool false)), (5, (.sl (.int .u8) (b) (mark) Fl.ro)), (6, (.int .i64 k)), (7, (.ptr 0 0)), (8, (.int .i64 (dN b at_))), (9, (.int .i64 (dE b at_))), (10, (.ptr 1 0)), (11, (.int .i64 (dN b at_))), (12, (.int .i64 (dE b at_))), (21, (.bool true)), (50, (.bool true))], [(.cells [(.str (Prod.fst (dI b at_))), (.int .i64 (Prod.fst (Prod.snd (dI b at_)))), (.int .i64 (Prod.fst (Prod.snd (Prod.snd (dI b at_))))), (.int .i64 (Prod.fst (Prod.snd (Prod.snd (Prod.snd (dI b at_)))))), (.int .i64 (Prod.fst (Prod.snd (Prod.snd (Prod.snd (Prod.snd (dI b at_))))))), (.int .i64 (Prod.snd (Prod.snd (Prod.snd (Prod.snd (Prod.snd (dI b at_)))))))] 29), (.cells [(.str (Prod.fst (dI b at_))), (.int .i64 (Prod.fst (Prod.snd (dI b at_)))), (.int .i64 (Prod.fst (Prod.snd (Prod.snd (dI b at_))))), (.int .i64 (Prod.fst (Prod.snd (Prod.snd (Prod.snd (dI b at_)))))), (.int .i64 (Prod.fst (Prod.snd (Prod.snd (Prod.snd (Prod.snd (dI b at_))))))), (.int .i64 (Prod.snd (Prod.snd (Prod.snd (Prod.snd (Prod.snd (dI b at_)))))))] 29)])) (.br (dN b at_ != dN b at_) (.leaf (.ret, [(0, (.sl (.int .u8) (b) ([]) Fl.may)), (1, (.int .i64 at_)), (4, (.bool false)), (5, (.sl (.int .u8) (b) (mark) Fl.ro)), (6, (.int .i64 k)), (7, (.ptr 0 0)), (8, (.int .i64 (dN b at_))), (9, (.int .i64 (dE b at_))), (10, (.ptr 1 0)), (11, (.int .i64 (dN b at_))), (12, (.int .i64 (dE b at_))), (21, (.bool true)), (50, (.bool true))], [(.cells [(.str (Prod.fst (dI b at_))), (.int .i64 (Prod.fst (Prod.snd (dI b at_)))), (.int .i64 (Prod.fst (Prod.snd (Prod.snd (dI b at_))))), (.int .i64 (Prod.fst (Prod.snd (Prod.snd (Prod.snd (dI b at_)))))), (.int .i64 (Prod.fst (Prod.snd (Prod.snd (Prod.snd (Prod.snd (dI b at_))))))), (.int .i64 (Prod.snd (Prod.snd (Prod.snd (Prod.snd (Prod.snd (dI b at_)))))))] 29), (.cells [(.str (Prod.fst (dI b at_))), (.int .i64 (Prod.fst (Prod.snd (dI b at_)))), (.int .i64 (Prod.fst (Prod.snd (Prod.snd (dI b at_))))), (.int .i64 (Prod.fst (Prod.snd (Prod.snd (Prod.snd (dI b at_)))))), (.int .i64 (Prod.fst (Prod.snd (Prod.snd (Prod.snd (Prod.snd (dI b at_))))))), (.int .i64 (Prod.snd (Prod.snd (Prod.snd (Prod.snd (Prod.snd (dI b at_)))))))] 29)])) (.br (dE b at_ != dE b at_) (.leaf (.ret, [(0, (.sl (.int .u8) (b) ([]) Fl.may)), (1, (.int .i64 at_)), (4, (.bool false)), (5, (.sl (.int .u8) (b) (mark) Fl.ro)), (6, (.int .i64 k)), (7, (.ptr 0 0)), (8, (.int .i64 (dN b at_))), (9, (.int .i64 (dE b at_))), (10, (.ptr 1 0)), (11, (.int .i64 (dN b at_))), (12, (.int .i64 (dE b at_))), (21, (.bool true)), (50, (.bool true))], [(.cells [(.str (Prod.fst (dI b at_))), (.int .i64 (Prod.fst (Prod.snd (dI b at_)))), (.int .i64 (Prod.fst (Prod.snd (Prod.snd (dI b at_))))), (.int .i64 (Prod.fst (Prod.snd (Prod.snd (Prod.snd (dI b at_)))))), (.int .i64 (Prod.fst (Prod.snd (Prod.snd (Prod.snd (Prod.snd (dI b at_))))))), (.int .i64 (Prod.snd (Prod.snd (Prod.snd (Prod.snd (Prod.snd (dI b at_)))))))] 29), (.cells [(.str (Prod.fst (dI b at_))), (.int .i64 (Prod.fst (Prod.snd (dI b at_)))), (.int .i64 (Prod.fst (Prod.snd (Prod.snd (dI b at_))))), (.int .i64 (Prod.fst (Prod.snd (Prod.snd (Prod.snd (dI b at_)))))), (.int .i64 (Prod.fst (Prod.snd (Prod.snd (Prod.snd (Prod.snd (dI b at_))))))), (.int .i64 (Prod.snd (Prod.snd (Prod.snd (Prod.snd (Prod.snd (dI b at_)))))))] 29)])) (.leaf (.normal, [(0, (.sl (.int .u8) (b) ([]) Fl.may)), (1, (.int .i64 (IntKind.wrap IntKind.i64 (at_ + if 1 > dN b at_ then 1 else dN b at_)))), (5, (.sl (.int .u8) (b) (mark) Fl.ro)), (6, (.int .i64 (IntKind.wrap IntKind.i64 (k + 1)))), (7, (.ptr 0 0)), (8, (.int .i64 (dN b at_))), (9, (.int .i64 (dE b at_))), (10, (.ptr 1 0)), (11, (.int .i64 (dN b at_))), (12, (.int .i64 (dE b at_))), (21, (.bool true)), (50, (.bool false))], [(.cells [(.str (Prod.fst (dI b at_))), (.int .i64 (Prod.fst (Prod.snd (dI b at_)))), (.int .i64 (Prod.fst (Prod.snd (Prod.snd (dI b at_))))), (.int .i64 (Prod.fst (Prod.snd (Prod.snd (Prod.snd (dI b at_)))))), (.int .i64 (Prod.fst (Prod.snd (Prod.snd (Prod.snd (Prod.snd (dI b at_))))))), (.int .i64 (Prod.snd (Prod.snd (Prod.snd (Prod.snd (Prod.snd (dI b at_)))))))] 29), (.cells [(.str (Prod.fst (dI b at_))), (.int .i64 (Prod.fst (Prod.snd (dI b at_)))), (.int .i64 (Prod.fst (Prod.snd (Prod.snd (dI b at_))))), (.int .i64 (Prod.fst (Prod.snd (Prod.snd (Prod.snd (dI b at_)))))), (.int .i64 (Prod.fst (Prod.snd (Prod.snd (Prod.snd (Prod.snd (dI b at_))))))), (.int .i64 (Prod.snd (Prod.snd (Prod.snd (Prod.snd (Prod.snd (dI b at_)))))))] 29)]))))) .fail) .fail) .fail) .fail) (.leaf ((.exit 0), [(0, (.sl (.int .u8) (b) ([]) Fl.may)), (1, (.int .i64 at_)), (5, (.sl (.int .u8) (b) (mark) Fl.ro)), (6, (.int .i64 k)), (21, (.bool false))], [])))
theorem lawDRound_eq (b : List Int) (at_ k : Int) : (dcode cx4 (cin (cin (c2 (c1 (tailN 3 B4))))) [(0, .sl (.int .u8) b [] .may), (1, .int .i64 at_), (5, .sl (.int .u8) b mark .ro), (6, .int .i64 k)] []).run = (lawDRound b at_ k).run :=
  (show (dcode cx4 (cin (cin (c2 (c1 (tailN 3 B4))))) [(0, .sl (.int .u8) b [] .may), (1, .int .i64 at_), (5, .sl (.int .u8) b mark .ro), (6, .int .i64 k)] []).run = (lawDRound b at_ k).out by kernel_rfl).trans (Tree.out_run _)
def lawDEnd (b : List Int) : Tree St :=
  (.br (decide (List.length b < 1000000000)) (.br (eqL b b) (.leaf (.ret, [(0, (.sl (.int .u8) (b) ([]) Fl.may)), (4, (.bool true)), (5, (.sl (.int .u8) (b) (mark) Fl.ro))], [])) .fail) .fail)
theorem lawDEnd_eq (b : List Int) : (dcode cx4 (tailN 4 B4) [(0, .sl (.int .u8) b [] .may), (5, .sl (.int .u8) b mark .ro)] []).run = (lawDEnd b).run :=
  (show (dcode cx4 (tailN 4 B4) [(0, .sl (.int .u8) b [] .may), (5, .sl (.int .u8) b mark .ro)] []).run = (lawDEnd b).out by kernel_rfl).trans (Tree.out_run _)
theorem sub_all {l s : List Int} : sub (l ++ s) 0 l.length = l := by
  simp only [sub, List.drop_zero]
  exact List.take_left
theorem sl_congr {l l' s s' : List Int} {fl : Fl} (h : l = l') (k : s = s') : V.sl (.int .u8) l s fl = V.sl (.int .u8) l' s' fl := by subst h; subst k; rfl
theorem eqL_to {a b : List Int} (h : eqL a b = true) : a = b := of_decide_eq_true h
theorem twin_ok (l sp : List Int) (fl : Fl) (hl : l.length < 1000000000) : PCall Try.prog 10 [.sl (.int .u8) l sp fl] (.sl (.int .u8) l mark .ro) := by
  refine pcall_fun' (cx := cx10) (fn := Try.f10) (cx0_ok rfl rfl) (by kernel_rfl) (by kernel_rfl) (by kernel_rfl) ?_
  refine (twinT_eq l sp fl).trans ?_
  have room : ∀ {k : Nat}, k ≤ 1000000001 → roomy k 1 = true := fun hk => decide_eq_true (by omega)
  unfold twinT
  cases he : l.isEmpty
  · rw [room (by omega), room (by omega)]
    have c1 : (decide (l.length = l.length) && true) = true := by simp
    have c2 : (true && decide (0 ≤ tI (l.length : Int)) && decide (tI (l.length : Int) ≤ ((l ++ mark).length : Nat))) = true := by
      simp only [Bool.true_and, Bool.and_eq_true, decide_eq_true_eq, List.length_append]
      show (0 : Int) ≤ (l.length : Int) ∧ (l.length : Int) ≤ ((l.length + 1 : Nat) : Int)
      omega
    rw [c1, c2]
    have e1 : sub (l ++ mark) 0 (Int.toNat (l.length : Int)) = l := by rw [Int.toNat_natCast]; exact sub_all
    have e2 : List.drop (Int.toNat (l.length : Int)) (l ++ mark) = mark := by rw [Int.toNat_natCast]; exact List.drop_left
    exact congrArg some (sl_congr e1 e2)
  · have hn : l = [] := List.isEmpty_iff.1 he
    subst hn
    rfl
theorem twinS_ok : Sound Try.prog 10 twinS := by
  intro args out h
  unfold twinS at h
  split at h
  rotate_left
  · cases h
  rename_i l sp fl
  obtain ⟨h1, hc⟩ := req_run h
  simp only [Tree.run, Option.some.injEq] at hc
  subst hc
  exact twin_ok l sp fl (of_decide_eq_true h1)
theorem kept_ok (l sp : List Int) (f2 fl : Fl) (hl : l.length < 1000000000) : PCall Try.prog 13 [.sl (.int .u8) l mark f2, .sl (.int .u8) l sp fl] (.bool true) := by
  refine pcall_fun' (cx := cx13) (fn := Try.f13) (cx0_ok rfl rfl) (by kernel_rfl) (by kernel_rfl) (by kernel_rfl) ?_
  refine (keptT_eq l sp f2 fl).trans ?_
  unfold keptT
  have e : IntKind.wrap IntKind.i64 ((l.length : Int) + 1) = (l.length : Int) + 1 := wrap_i64 (by omega) (by omega)
  have e3 : sub (l ++ mark) 0 (Int.toNat ((l.length : Int) + 1)) = l ++ mark := by
    rw [show ((l.length : Int) + 1).toNat = l.length + 1 from by omega]
    simp only [sub, List.drop_zero]
    exact List.take_of_length_le (by simp)
  rw [e, e3]
  have c0 : strEq (List.map (fun n => UInt8.ofNat (Int.toNat n)) l) (List.map (fun n => UInt8.ofNat (Int.toNat n)) l) = true := beq_self_eq_true _
  have c1 : (true && decide (0 ≤ (l.length : Int) + 1) && decide ((l.length : Int) + 1 ≤ ((l.length + 1 : Nat) : Int))) = true := by
    simp only [Bool.true_and, Bool.and_eq_true, decide_eq_true_eq]
    omega
  have c2 : inside (l.length : Int) (l ++ mark).length = true := inside_of (by omega) (by simp; omega)
  have c3 : List.getD (l ++ mark) (Int.toNat (l.length : Int)) (0 : Int) = 90 := by
    rw [Int.toNat_natCast, getD_lt (by simp), List.getElem_append_right (Nat.le_refl _)]
    simp
  rw [c0, c1, c2]
  show some (V.bool (List.getD (l ++ mark) (Int.toNat (l.length : Int)) (0 : Int) == 90)) = _
  rw [c3]
  rfl
theorem keptS_ok : Sound Try.prog 13 keptS := by
  intro args out h
  unfold keptS at h
  split at h
  rotate_left
  · cases h
  rename_i l s2 f2 b sp fl
  obtain ⟨h1, ha⟩ := req_run h
  obtain ⟨h2, hb⟩ := req_run ha
  obtain ⟨h3, hc⟩ := req_run hb
  have h2 := eqL_to h2
  have h3 := eqL_to h3
  simp only [Tree.run, Option.some.injEq] at hc
  subst hc
  subst h2
  subst h3
  exact kept_ok l sp f2 fl (of_decide_eq_true h1)
theorem cx4_ok : CxOk cx4 := cx1_ok (.cons begunS_ok (.cons twinS_ok (.cons decodeT_ok (.cons decXT_ok (.cons keptS_ok (.nil _)))))) (.nil _) rfl rfl
def lawDSt (b : List Int) (s : { s : Nat × Int // s.1 ≤ 12 }) : T × List O := ([(0, .sl (.int .u8) b [] .may), (1, .int .i64 s.1.2), (5, .sl (.int .u8) b mark .ro), (6, .int .i64 s.1.1)], [])
def lawDQ (e : AEx) (t : T) (H : List O) : Prop := (e = .ret ∨ e = .normal) ∧ answerV Try.prog Try.f4.results.toList H t = some (.bool true)
set_option maxRecDepth 8000 in
theorem lawD_ok (b : List Int) (at_ : Int) (hb : AllB b) : PCall Try.prog 4 [.sl (.int .u8) b [] .may, .int .i64 at_] (.bool true) := by
  refine pcall_of' (c := bodyOf Try.f4) (fn := Try.f4) (by kernel_rfl) (by kernel_rfl) (by kernel_rfl) (by kernel_rfl) ?_
  refine AWP_headE (cx := cx4) rfl rfl cx4_ok 3 (by kernel_rfl) (lawDPre_eq b at_) ?_
  refine ⟨fun _ => ⟨.inl rfl, by kernel_rfl⟩, fun hx => ?_⟩
  have lb : b.length ≤ 400 := by have : ¬ (400 : Int) < b.length := of_decide_eq_false hx; omega
  have hl : decide (List.length b < 1000000000) = true := decide_eq_true (by omega)
  refine all_t hl ?_
  show AWP _ _ _ lawDQ _ _
  have e : tailN 3 B4 = .seq (.seq (c1 (c1 (tailN 3 B4))) (.block 0 (.loop (cin (cin (c2 (c1 (tailN 3 B4)))))))) (tailN 4 B4) := by kernel_rfl
  rw [e]
  refine AWP.less (s := [(0, .sl (.int .u8) b [] .may), (1, .int .i64 at_), (5, .sl (.int .u8) b mark .ro)]) (Fits.tle ⟨rfl, rfl, rfl, trivial⟩) ?_
  refine AWP_seq (AWP_seq (AWP_run (cx := cx4) rfl rfl cx4_ok (s := (.normal, (lawDSt b ⟨(0, at_), Nat.zero_le _⟩).1, [])) (by kernel_rfl) ?_))
  refine AWP_block ?_
  refine AWP_rounds (cx := cx4) (P := Try.prog) (n := Try.f4.ntmps) rfl rfl cx4_ok (lawDSt b) (fun s => 12 - s.1.1) ?_ ⟨(0, at_), Nat.zero_le _⟩
  rintro ⟨⟨k, p⟩, hk⟩
  refine Tree.all_run_eq (lawDRound_eq b p k) ?_
  refine ⟨fun hlt => all_t hl (all_t (bytesB_iff hb) (all_t hl (all_t (bytesB_iff hb) (all_f ?_ (all_f (bne_self_eq_false _) (all_f (bne_self_eq_false _) ?_)))))), fun hge => ?_⟩
  · simp [strEq]
  · have hlt : (k : Int) < 12 := of_decide_eq_true hlt
    refine ⟨[], _, rfl, ⟨(k + 1, _), by show k + 1 ≤ 12; omega⟩, by show 12 - (k + 1) < 12 - k; omega, Fits.tle ⟨rfl, rfl, rfl, ?_, trivial⟩, rfl⟩
    show V.int .i64 (IntKind.wrap .i64 ((k : Int) + 1)) = V.int .i64 ((k + 1 : Nat) : Int)
    rw [wrap_i64 (by omega) (by omega)]
    rfl
  · refine ⟨[], _, rfl, ?_⟩
    show AWP _ _ _ _ _ _
    refine AWP.less (s := [(0, .sl (.int .u8) b [] .may), (5, .sl (.int .u8) b mark .ro)]) (Fits.tle ⟨rfl, rfl, trivial⟩) ?_
    refine AWP_code (cx := cx4) rfl rfl cx4_ok _ _ _ _ (Tree.all_run_eq (lawDEnd_eq b) ?_)
    refine all_t hl (all_t (decide_eq_true rfl) ⟨.inl rfl, by kernel_rfl⟩)
end Go.Amd

namespace Go.Ab
open Go.ChangeShapes Go.WideShapes Go.ChangeAt Go.RowKit
def arrFs (P : Program) (n : Nat) (e : TypeId) : List Field := (List.range n).map fun i => { name := "", type := e, offset := i * P.cellsOf e, embedded := false, tag := "", pkgPath := "", byteOffset := 0 }
mutual
def lay (P : Program) : Nat → TypeId → Option EC
  | 0, _ => none
  | d + 1, t => match P.underlying t with
    | some (.int k) => some (.int k)
    | some .bool => some .bool
    | some .string => some .str
    | some (.struct fs) => match layF P d 0 fs.toList with
      | some cs => if P.cellsOf t = EC.sizes cs then some (.prod cs) else none
      | none => none
    | some (.array n e) => match layF P d 0 (arrFs P n e) with
      | some cs => if P.cellsOf t = EC.sizes cs then some (.prod cs) else none
      | none => none
    | _ => none
def layF (P : Program) : Nat → Nat → List Field → Option (List EC)
  | 0, _, _ => none
  | _ + 1, _, [] => some []
  | d + 1, off, f :: r => match lay P d f.type with
    | some c => if f.offset = off ∧ P.cellsOf f.type = c.size then (layF P d (off + c.size) r).map (c :: ·) else none
    | none => none
end
def layP (P : Program) (t : TypeId) : Option EC :=
  match P.underlying t with
  | some (.slice e) => match lay P 80 e with
    | some c => if P.cellsOf e = c.size ∧ 0 < c.size then some (.sl c) else none
    | none => none
  | _ => lay P 80 t
mutual
def okE : (c : EC) → c.ty → Prop
  | .int k, (n : Int) => k.has n
  | .bool, _ => True
  | .str, (s : List UInt8) => s.length ≤ maxLen
  | .sl _, none => True
  | .sl c, some l => l.length ≤ maxLen ∧ ∀ x ∈ l, okE c x
  | .prod cs, x => okEs cs x
def okEs : (cs : List EC) → EC.tys cs → Prop
  | [], _ => True
  | [c], x => okE c x
  | c :: d :: cs, x => okE c x.1 ∧ okEs (d :: cs) x.2
end
def argV : (c : EC) → c.ty → V
  | .int k, n => .int k n
  | .bool, b => .bool b
  | .str, s => .str s
  | .sl c, o => .sl c (o.getD []) [] .may
  | .prod cs, x => .agg (encs cs x)
def argVs : (cs : List EC) → EC.tys cs → List V
  | [], _ => []
  | [c], x => [argV c x]
  | c :: d :: cs, x => argV c x.1 :: argVs (d :: cs) x.2
section
variable {H : Type} {en : TypeId × Value → H} {P : Program} {w : World} {base : Nat} {sp : Nat → Bool} {hd : Bool} {X : Nat → Nat → Prop}
theorem wf_has {k : IntKind} {n : Int} (h : (Lit.int k n).wf = true) : k.has n := by
  simpa [Lit.wf, IntKind.has] using h
theorem take_get {α : Type} {l : List α} {off n k : Nat} {z : α} (h : ((l.drop off).take n)[k]? = some z) : l[off + k]? = some z := by
  rw [List.getElem?_take] at h
  split at h
  · rwa [List.getElem?_drop] at h
  · cases h
mutual
theorem trod_lay : ∀ (d : Nat) (t : TypeId) (c : EC) (fuel : Nat) (cs : List Value) (y : DataW H × List MemPlace), lay P d t = some c → DataW.trod en P w base sp hd fuel t cs = some y →
    ∃ x : c.ty, okE c x ∧ ∀ (k : Nat) v, (enc c x)[k]? = some v → ∃ z, cs[k]? = some z ∧ R w X [] v z
  | 0, t, c, fuel, cs, y, hl, ht => by simp [lay] at hl
  | d + 1, t, c, fuel, cs, y, hl, ht => by
    unfold lay at hl
    split at hl
    · rename_i k hu
      simp only [Option.some.injEq] at hl
      subst hl
      obtain ⟨n, rfl, _, hw⟩ := DataW.trod_int hu ht
      refine ⟨(n : Int), wf_has hw, ?_⟩
      intro k v hv
      match k, hv with
      | 0, hv =>
        simp only [enc, List.getElem?_cons_zero, Option.some.injEq] at hv
        subst hv
        exact ⟨_, rfl, .int _ _ _⟩
    · rename_i hu
      simp only [Option.some.injEq] at hl
      subst hl
      obtain ⟨b, rfl, _⟩ := DataW.trod_bool hu ht
      refine ⟨(b : Bool), trivial, ?_⟩
      intro k v hv
      match k, hv with
      | 0, hv =>
        simp only [enc, List.getElem?_cons_zero, Option.some.injEq] at hv
        subst hv
        exact ⟨_, rfl, .bool _ _⟩
    · rename_i hu
      simp only [Option.some.injEq] at hl
      subst hl
      obtain ⟨s, rfl, _, hs⟩ := DataW.trod_string hu ht
      refine ⟨(s.data.toList : List UInt8), by simpa [okE] using hs, ?_⟩
      intro k v hv
      match k, hv with
      | 0, hv =>
        simp only [enc, List.getElem?_cons_zero, Option.some.injEq] at hv
        subst hv
        refine ⟨_, rfl, ?_⟩
        have := R.str (w := w) (X := X) [] s.data.toList
        simpa using this
    · rename_i fs hu
      split at hl
      rotate_left
      · cases hl
      rename_i cs' hcs'
      split at hl
      rotate_left
      · cases hl
      simp only [Option.some.injEq] at hl
      subst hl
      obtain ⟨xs, n, _, _, hlen, hxs, hf⟩ := DataW.trod_struct hu ht
      obtain ⟨x, h1, h2⟩ := trod_layF d 0 fs.toList cs' n cs hcs' (fun f hf' => by
        obtain ⟨i, hi, hfi⟩ := List.getElem_of_mem hf'
        have h1 := hf i f (by simp at hi; rw [Array.getElem?_eq_getElem hi]; simpa using hfi)
        rw [List.getElem?_eq_getElem (by simp at hi; omega)] at h1
        exact ⟨_, h1⟩)
      exact ⟨x, by simpa [okE] using h1, fun k v hv => by simpa using h2 k v (by simpa [enc] using hv)⟩
    · rename_i n e hu
      split at hl
      rotate_left
      · cases hl
      rename_i cs' hcs'
      split at hl
      rotate_left
      · cases hl
      simp only [Option.some.injEq] at hl
      subst hl
      obtain ⟨xs, m, _, _, hlen, hxs, hf⟩ := DataW.trod_array hu ht
      obtain ⟨x, h1, h2⟩ := trod_layF d 0 (arrFs P n e) cs' m cs hcs' (fun f hf' => by
        obtain ⟨i, hi, rfl⟩ := List.mem_map.1 hf'
        have hi : i < n := List.mem_range.1 hi
        have h1 := hf i hi
        rw [List.getElem?_eq_getElem (by omega)] at h1
        exact ⟨_, h1⟩)
      exact ⟨x, by simpa [okE] using h1, fun k v hv => by simpa using h2 k v (by simpa [enc] using hv)⟩
    · cases hl
theorem trod_layF : ∀ (d off : Nat) (fs : List Field) (cs' : List EC) (n : Nat) (cs : List Value), layF P d off fs = some cs' →
    (∀ f ∈ fs, ∃ y, DataW.trod en P w base sp hd n f.type ((cs.drop f.offset).take (P.cellsOf f.type)) = some y) →
    ∃ x : EC.tys cs', okEs cs' x ∧ ∀ (k : Nat) v, (encs cs' x)[k]? = some v → ∃ z, cs[off + k]? = some z ∧ R w X [] v z
  | 0, off, fs, cs', n, cs, hl, h => by simp [layF] at hl
  | d + 1, off, [], cs', n, cs, hl, h => by
    simp only [layF, Option.some.injEq] at hl
    subst hl
    exact ⟨(), trivial, fun k v hv => by simp [encs] at hv⟩
  | d + 1, off, f :: r, cs', n, cs, hl, h => by
    unfold layF at hl
    split at hl
    rotate_left
    · cases hl
    rename_i c hc
    split at hl
    rotate_left
    · cases hl
    rename_i ho
    obtain ⟨ho, hz⟩ := ho
    obtain ⟨ds, hds, rfl⟩ := Option.map_eq_some_iff.1 hl
    obtain ⟨y, hy⟩ := h f List.mem_cons_self
    obtain ⟨x1, a1, a2⟩ := trod_lay d f.type c n _ y hc hy
    obtain ⟨x2, b1, b2⟩ := trod_layF d (off + c.size) r ds n cs hds (fun g hg => h g (List.mem_cons_of_mem _ hg))
    have hfirst : ∀ (k : Nat) v, (enc c x1)[k]? = some v → ∃ z, cs[off + k]? = some z ∧ R w X [] v z := fun k v hv => by
      obtain ⟨z, hz, hr⟩ := a2 k v hv
      rw [ho] at hz
      exact ⟨z, take_get hz, hr⟩
    match ds, x2, b1, b2 with
    | [], _, _, _ => exact ⟨x1, by simpa [okEs] using a1, fun k v hv => hfirst k v (by simpa [encs] using hv)⟩
    | e :: es, x2, b1, b2 =>
      refine ⟨(x1, x2), by simpa [okEs] using ⟨a1, b1⟩, fun k v hv => ?_⟩
      simp only [encs] at hv
      by_cases hk : k < (enc c x1).length
      · rw [List.getElem?_append_left hk] at hv
        exact hfirst k v hv
      · rw [List.getElem?_append_right (by omega)] at hv
        rw [enc_size] at hv hk
        obtain ⟨z, hz, hr⟩ := b2 (k - c.size) v hv
        rw [show off + c.size + (k - c.size) = off + k from by omega] at hz
        exact ⟨z, hz, hr⟩
end
theorem choose_lt' {α : Type} [Inhabited α] {p : Nat → α → Prop} {m : Nat} (h : ∀ i, i < m → ∃ x, p i x) : ∃ f : Nat → α, ∀ i, i < m → p i (f i) := by
  refine ⟨fun i => if hi : i < m then Classical.choose (h i hi) else default, fun i hi => ?_⟩
  simp only [hi, dif_pos]
  exact Classical.choose_spec (h i hi)
instance (c : EC) : Inhabited c.ty := ⟨c.dflt⟩
theorem flat_not_sl {d : Nat} {t : TypeId} {c : EC} (h : lay P d t = some (.sl c)) : False := by
  cases d with
  | zero => simp [lay] at h
  | succ d =>
    unfold lay at h
    split at h
    all_goals first | (simp at h; done) | skip
    all_goals (repeat' (split at h))
    all_goals first | (cases h; done) | (simp at h; done)
theorem cells_one {t : TypeId} {c : EC} {v : Value} {r : Reach} (hl : lay P 80 t = some c) (hv : Value.okWide P w r base t v) (hc : ∀ cs, c ≠ .prod cs) : v.cells = #[v] := by
  unfold lay at hl
  unfold Value.okWide at hv
  split at hl
  · rename_i k hu
    simp only [hu] at hv
    simp only [Cell.okWide, hu, Cell.ok] at hv
    cases v <;> first | rfl | (simp at hv; done)
  · rename_i hu
    simp only [hu] at hv
    simp only [Cell.okWide, hu, Cell.ok] at hv
    cases v <;> first | rfl | (simp at hv; done)
  · rename_i hu
    simp only [hu] at hv
    simp only [Cell.okWide, hu, Cell.ok] at hv
    cases v <;> first | rfl | (simp at hv; done)
  · split at hl
    rotate_left
    · cases hl
    split at hl
    rotate_left
    · cases hl
    simp only [Option.some.injEq] at hl
    exact absurd hl.symm (hc _)
  · split at hl
    rotate_left
    · cases hl
    split at hl
    rotate_left
    · cases hl
    simp only [Option.some.injEq] at hl
    exact absurd hl.symm (hc _)
  · cases hl
theorem cells_agg {t : TypeId} {cs : List EC} {v : Value} {r : Reach} (hl : lay P 80 t = some (.prod cs)) (hv : Value.okWide P w r base t v) : ∃ xs : Array Value, v = .agg xs ∧ xs.size = EC.sizes cs := by
  unfold lay at hl
  unfold Value.okWide at hv
  split at hl
  · simp at hl
  · simp at hl
  · simp at hl
  · rename_i fs hu
    simp only [hu] at hv
    split at hl
    rotate_left
    · cases hl
    split at hl
    rotate_left
    · cases hl
    rename_i hsz
    simp only [Option.some.injEq, EC.prod.injEq] at hl
    subst hl
    obtain ⟨xs, rfl, h1, _⟩ := hv
    exact ⟨xs, rfl, by rw [h1, hsz]⟩
  · rename_i n e hu
    simp only [hu] at hv
    split at hl
    rotate_left
    · cases hl
    split at hl
    rotate_left
    · cases hl
    rename_i hsz
    simp only [Option.some.injEq, EC.prod.injEq] at hl
    subst hl
    obtain ⟨xs, rfl, h1, _⟩ := hv
    exact ⟨xs, rfl, by rw [h1, hsz]⟩
  · cases hl
theorem okWide_sl {t e : TypeId} {v : Value} {r : Reach} (hu : P.underlying t = some (.slice e)) (hv : Value.okWide P w r base t v) :
    v = .slice none 0 0 ∨ ∃ b o len cap, v = .slice (some ⟨b, o, none⟩) len cap := by
  unfold Value.okWide at hv
  simp only [hu] at hv
  cases v
  case slice a len cap =>
    cases a with
    | none =>
      simp only [Cell.okWide, hu, Cell.ok] at hv
      split at hv
      all_goals first | (simp_all; done) | skip
    | some a =>
      simp only [Cell.okWide, hu, Cell.ok] at hv
      obtain ⟨_, _, _, hs, _⟩ := hv
      obtain ⟨b, o, s⟩ := a
      simp only at hs
      subst hs
      exact .inr ⟨b, o, len, cap, rfl⟩
  all_goals simp [Cell.okWide, hu, Cell.ok] at hv
theorem arg_R {t : TypeId} {c : EC} {v : Value} {d : DataW H} {ps : List MemPlace} {r : Reach} (hl : layP P t = some c) (hv : Value.okWide P w r base t v)
    (ht : DataW.Trod en P w 0 sp hd t v d ps) : ∃ x : c.ty, okE c x ∧ R w (fun _ _ => False) [] (argV c x) v := by
  obtain ⟨fuel, ht⟩ := ht
  unfold layP at hl
  split at hl
  · rename_i e hu
    split at hl
    rotate_left
    · cases hl
    rename_i c' hc'
    split at hl
    rotate_left
    · cases hl
    rename_i hsz
    simp only [Option.some.injEq] at hl
    subst hl
    rcases okWide_sl hu hv with rfl | ⟨b, o, len, cap, rfl⟩
    · exact ⟨(none : Option (List c'.ty)), trivial, .nil _ _⟩
    · rcases Go.Deep.open_slice hu ht with ⟨h0, _⟩ | ⟨a, len', cap', m, n, D, Pl, hcs, _, hle, hmax, hm, _, hx⟩
      · simp [Value.cells] at h0
      simp only [Value.cells, List.cons.injEq, Value.slice.injEq, Option.some.injEq, and_true] at hcs
      obtain ⟨rfl, rfl, rfl⟩ := hcs
      have hlm : len ≤ m := by rw [hm]; split <;> omega
      have hel : ∀ i, i < len → ∃ x : c'.ty, okE c' x ∧ ∀ (k : Nat) v, (enc c' x)[k]? = some v → ∃ z, w.cell? ⟨b, o + i * c'.size + k, none⟩ = some z ∧ R w (fun _ _ => False) [] v z := by
        intro i hi
        obtain ⟨cs', h1, h2⟩ := hx i (by omega)
        obtain ⟨x, x1, x2⟩ := trod_lay (X := fun _ _ => False) 80 e c' n cs' _ hc' h2
        obtain ⟨_, hlen, hcell⟩ := World.cells?_some h1
        refine ⟨x, x1, fun k v hv => ?_⟩
        obtain ⟨z, hz, hr⟩ := x2 k v hv
        refine ⟨z, ?_, hr⟩
        have hk : k < P.cellsOf e := by
          rw [← hlen]
          exact (List.getElem?_eq_some_iff.1 hz).1
        have := hcell k hk
        rw [hz, add_plain, add_plain, hsz.1] at this
        exact this
      obtain ⟨f, hf⟩ := choose_lt' hel
      have hg : ∀ i k, i < len → k < c'.size → ∃ z, w.cell? ⟨b, o + i * c'.size + k, none⟩ = some z := fun i k hi hk => by
        obtain ⟨z, hz, _⟩ := (hf i hi).2 k _ (List.getElem?_eq_getElem (by rw [enc_size]; exact hk))
        exact ⟨z, hz⟩
      refine ⟨(some ((List.range len).map f) : Option (List c'.ty)), ⟨by simp; omega, fun x hx => ?_⟩, ?_⟩
      · obtain ⟨i, hi, rfl⟩ := List.mem_map.1 hx
        exact (hf i (List.mem_range.1 hi)).1
      · have := R.sl (w := w) (X := fun _ _ => False) [] c' ((List.range len).map f) [] .may b o cap (fun i k => (w.cell? ⟨b, o + i * c'.size + k, none⟩).getD undef)
          (by simp; omega) (fun h => by cases h) (fun h => by cases h) (fun i k hi hk => ⟨fun h => h, by
            obtain ⟨z, hz⟩ := hg i k (by simpa using hi) hk
            rw [hz]; rfl⟩) (fun i x k v h1 h2 => by
            simp only [List.append_nil, List.getElem?_map, Option.map_eq_some_iff] at h1
            obtain ⟨j, hj, rfl⟩ := h1
            obtain ⟨hj1, hj2⟩ := List.getElem?_eq_some_iff.1 hj
            simp only [List.length_range] at hj1
            simp only [List.getElem_range] at hj2
            subst hj2
            obtain ⟨z, hz, hr⟩ := (hf i hj1).2 k v h2
            rw [hz]; exact hr)
        simp only [List.length_map, List.length_range] at this
        exact this
  · cases c with
    | prod cs =>
      obtain ⟨xs, rfl, hsz⟩ := cells_agg hl hv
      obtain ⟨x, x1, x2⟩ := trod_lay (X := fun _ _ => False) 80 t _ fuel _ _ hl ht
      refine ⟨x, x1, ?_⟩
      have := R.agg (w := w) (X := fun _ _ => False) [] (encs cs x) xs.toList (by rw [show (encs cs x).length = EC.sizes cs from enc_size (.prod cs) x]; simpa using hsz) (fun k v y h1 h2 => by
        obtain ⟨z, hz, hr⟩ := x2 k v (by simpa [enc] using h1)
        simp only [Value.cells] at hz
        rw [hz] at h2
        simp only [Option.some.injEq] at h2
        subst h2
        exact hr)
      simpa [argV] using this
    | sl c => exact (flat_not_sl hl).elim
    | int k =>
      have hc := cells_one hl hv (by simp)
      obtain ⟨x, x1, x2⟩ := trod_lay (X := fun _ _ => False) 80 t _ fuel _ _ hl ht
      obtain ⟨z, hz, hr⟩ := x2 0 _ rfl
      simp only [hc, List.getElem?_cons_zero, Option.some.injEq] at hz
      subst hz
      exact ⟨x, x1, hr⟩
    | bool =>
      have hc := cells_one hl hv (by simp)
      obtain ⟨x, x1, x2⟩ := trod_lay (X := fun _ _ => False) 80 t _ fuel _ _ hl ht
      obtain ⟨z, hz, hr⟩ := x2 0 _ rfl
      simp only [hc, List.getElem?_cons_zero, Option.some.injEq] at hz
      subst hz
      exact ⟨x, x1, hr⟩
    | str =>
      have hc := cells_one hl hv (by simp)
      obtain ⟨x, x1, x2⟩ := trod_lay (X := fun _ _ => False) 80 t _ fuel _ _ hl ht
      obtain ⟨z, hz, hr⟩ := x2 0 _ rfl
      simp only [hc, List.getElem?_cons_zero, Option.some.injEq] at hz
      subst hz
      exact ⟨x, x1, hr⟩
theorem okWide_of_get {ts : List TypeId} {vs : List Value} {t : TypeId} {v : Value} {r : Reach} (h : ∀ (j : Nat) t' v', (t :: ts)[j]? = some t' → (v :: vs)[j]? = some v' → Value.okWide P w r base t' v') :
    Value.okWide P w r base t v ∧ ∀ (j : Nat) t' v', ts[j]? = some t' → vs[j]? = some v' → Value.okWide P w r base t' v' :=
  ⟨h 0 t v rfl rfl, fun j t' v' h1 h2 => h (j + 1) t' v' (by simpa using h1) (by simpa using h2)⟩
def layPs (P : Program) : List TypeId → Option (List EC)
  | [] => some []
  | t :: r => match layP P t, layPs P r with
    | some c, some cs => some (c :: cs)
    | _, _ => none
theorem args_R {r : Reach} : ∀ {ts : List TypeId} {cs : List EC} {vs : List Value} {ds : List (DataW H)} {ps : List MemPlace}, layPs P ts = some cs →
    (∀ (j : Nat) t v, ts[j]? = some t → vs[j]? = some v → Value.okWide P w r base t v) → DataW.TrodAll en P w 0 sp hd ts vs ds ps →
    ∃ x : EC.tys cs, okEs cs x ∧ vs.length = (argVs cs x).length ∧ ds.length = ts.length ∧ ∀ (k : Nat) v z, (argVs cs x)[k]? = some v → vs[k]? = some z → R w (fun _ _ => False) [] v z
  | [], cs, vs, ds, ps, hl, hv, ht => by
    simp only [layPs, Option.some.injEq] at hl
    subst hl
    obtain ⟨rfl, rfl, rfl⟩ := trodAll_nil ht
    exact ⟨(), trivial, rfl, rfl, fun k v z h => by simp [argVs] at h⟩
  | t :: ts, cs, vs, ds, ps, hl, hv, ht => by
    unfold layPs at hl
    split at hl
    rotate_left
    · cases hl
    rename_i c cs' hc hcs
    simp only [Option.some.injEq] at hl
    subst hl
    obtain ⟨v, vs', d, ds', p, q, rfl, rfl, rfl, h1, h2⟩ := trodAll_cons ht
    obtain ⟨g1, g2⟩ := okWide_of_get hv
    obtain ⟨x1, a1, a2⟩ := arg_R hc g1 h1
    obtain ⟨x2, b1, b2, b3, b4⟩ := args_R hcs g2 h2
    match cs', x2, b1, b2, b4 with
    | [], x2, b1, b2, b4 =>
      refine ⟨x1, by simpa [okEs] using a1, by simpa [argVs] using b2, by simp [b3], fun k u z hu hz => ?_⟩
      match k, hu, hz with
      | 0, hu, hz =>
        simp only [argVs, List.getElem?_cons_zero, Option.some.injEq] at hu hz
        subst hu; subst hz
        exact a2
    | e :: es, x2, b1, b2, b4 =>
      refine ⟨(x1, x2), by simpa [okEs] using ⟨a1, b1⟩, by simpa [argVs] using b2, by simp [b3], fun k u z hu hz => ?_⟩
      cases k with
      | zero =>
        simp only [argVs, List.getElem?_cons_zero, Option.some.injEq] at hu hz
        subst hu; subst hz
        exact a2
      | succ k => exact b4 k u z (by simpa [argVs] using hu) (by simpa using hz)
def readable (P : Program) (ts : List TypeId) : Bool := ts.all fun t => P.readableRec t && decide (t < P.types.size)
theorem args_stay {W W' : World} (hlaid : laidOutB P = true) (hb : Below W.heap.size W W') : ∀ {ts : List TypeId} {vs : List Value} {ds : List (DataW H)} {ps : List MemPlace}, readable P ts = true →
    DataW.TrodAll en P W 0 (fun _ => true) true ts vs ds ps → (∀ x ∈ ps, x.block < W.heap.size) → DataW.TrodAll en P W' 0 (fun b => decide (b < W.heap.size)) true ts vs ds ps
  | [], vs, ds, ps, _, ht, _ => by
    obtain ⟨rfl, rfl, rfl⟩ := trodAll_nil ht
    rfl
  | t :: ts, vs, ds, ps, hr, ht, hlt => by
    obtain ⟨v, vs', d, ds', p, q, rfl, rfl, rfl, h1, h2⟩ := trodAll_cons ht
    simp only [readable, List.all_cons, Bool.and_eq_true, decide_eq_true_eq] at hr
    exact ⟨p, q, Below.trod hlaid hr.1.1 hr.1.2 h1 hb (fun x hx => hlt x (by simp [hx])), args_stay hlaid hb (by simpa [readable] using hr.2) h2 (fun x hx => hlt x (by simp [hx])), rfl⟩
theorem below_step {W W' : World} (s : Step (fun _ _ => False) [] [] W [] [] W') : Below W.heap.size W W' :=
  ⟨s.os, s.tape, s.output, s.size, fun b hb => by
    rcases s.pres b hb with h | ⟨⟨o, h⟩, _⟩ | ⟨⟨o, h⟩, _⟩
    · exact h
    · exact absurd h (own_nil b o)
    · exact absurd h (own_nil b o)⟩
def resBool (P : Program) (ts : List TypeId) : Bool :=
  match ts with
  | [t] => match P.underlying t with
    | some .bool => true
    | _ => false
  | _ => false
theorem resBool_some {ts : Array TypeId} (h : resBool P ts.toList = true) : ∃ t, ts = #[t] ∧ P.underlying t = some .bool := by
  unfold resBool at h
  split at h
  · rename_i t ht
    split at h
    · rename_i hu
      exact ⟨t, by apply Array.ext'; simpa using ht, hu⟩
    · cases h
  · cases h
theorem gs_nil (h : globsOf P = []) (W : World) : Gs P W fun _ _ => False := by
  intro p hp
  rw [h] at hp
  cases hp
theorem law_contract {f : FuncId} {fn : Func} {s : ChangeSpec} {cs : List EC} {apart fresh handsOn : Bool} (hlaid : laidOutB P = true) (hts : layPs P fn.params.toList = some cs) (hrd : readable P fn.params.toList = true)
    (hrb : resBool P fn.resultTypes.toList = true) (hvars : s.vars = [])
    (hs : ∀ ds : List (DataW H), ds.length = fn.params.toList.length → s.fn H ds = { results := [.lit (.bool true)], args := ds })
    (hpc : ∀ x : EC.tys cs, okEs cs x → PCall P f (argVs cs x) (.bool true))
    (W : World) (base : Nat) (args : Array Value) (ds gs : List (DataW H)) (before : List MemPlace) (hG : Gs P W fun _ _ => False)
    (hval : ∀ (j : Nat) t v, fn.params[j]? = some t → args[j]? = some v → Value.okWide P W .any base t v)
    (hW : DataW.Whole en P fn.params.toList s.vars apart W args.toList ds gs before) :
    Calls P f args W fun e W' => ∃ v, e = .returned v ∧ s.post en P fn apart fresh handsOn false W args v W' := by
  have hW0 := hW
  obtain ⟨tb, hres, htb⟩ := resBool_some hrb
  obtain ⟨p, q, hA, hV, rfl, hfz, hnd⟩ := hW
  rw [hvars] at hV
  obtain ⟨rfl, rfl⟩ : gs = [] ∧ q = [] := by
    cases gs with
    | nil => exact ⟨rfl, hV⟩
    | cons g gs => exact hV.elim
  obtain ⟨x, x1, x2, x3, x4⟩ := args_R hts (fun j t v h1 h2 => hval j t v (by simpa using h1) (by simpa using h2)) hA
  have hlt := hW0.lt
  simp only [List.append_nil] at hlt hW0
  have := (hpc x x1).2 W (fun _ _ => False) args.toList ⟨fun _ _ h => h.elim, hG⟩ x2 x4
  simp only [Array.toArray_toList] at this
  refine this.mono ?_
  rintro e W' ⟨y, rfl, st, hr⟩
  have hb := below_step st
  cases hr
  refine ⟨_, rfl, ds, [], p, [], p, [], hW0, ?_, ?_, ?_, ?_, fun h => by cases h⟩
  · rw [List.append_nil, hs ds x3, hres]
    exact trodAll_mk1 (shut_bool htb true)
  · rw [List.append_nil, hs ds x3]
    exact args_stay hlaid hb hrd hA hlt
  · rw [List.append_nil, hs ds x3, hvars]
    rfl
  · exact hb.frame _
end
end Go.Ab
