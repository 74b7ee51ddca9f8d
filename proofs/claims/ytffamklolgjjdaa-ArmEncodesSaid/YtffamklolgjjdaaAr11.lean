/-
  Names, Num. Conditions: none.
-/
import Derived.Test.YtffamklolgjjdaaAr10
namespace Go.Arm
open Go Go.Ab Go.Proofs Go.Wd

/-- The context of foundry/arm.Names. -/
noncomputable def cx18 : Cx := { P := Try.prog, n := 17, tab := [(29, rowsS)], mtab := [], refs := [], keeps := [0, 1, 3, 4, 5, 6, 7], fuel := 60 }
/-- The context of foundry/foundryref1.Num. -/
noncomputable def cx22 : Cx := { P := Try.prog, n := 21, tab := [], mtab := [], refs := [], keeps := [0, 2, 3, 4, 9] }
def numRound (l sp : List Int) (fl : Fl) (s i : Int) : Tree St :=
  (.br (decide (0 ≤ i)) (.br (inside i (List.length l)) (.leaf (.normal, [(0, (.sl (.int .u8) (l) (sp) fl)), (3, (.int .u64 (IntKind.wrap IntKind.u64 ↑(BitVec.toNat (BitVec.ofInt 64 (IntKind.wrap IntKind.u64 (s * 2 ^ 8)) ||| BitVec.ofInt 64 (IntKind.wrap IntKind.u64 (tI (List.getD l (Int.toNat i) (tI (EC.dflt (EC.int IntKind.u8))))))))))), (4, (.int .i64 (IntKind.wrap IntKind.i64 (i - 1)))), (9, (.bool true))], [])) .fail) (.leaf ((.exit 0), [(0, (.sl (.int .u8) (l) (sp) fl)), (3, (.int .u64 s)), (4, (.int .i64 i)), (9, (.bool false))], [])))

theorem numRound_eq (l sp : List Int) (fl : Fl) (s i : Int) : (dcode cx22 (cin (cin (c2 (c1 (c2 (c2 (bodyOf Try.f22))))))) [(0, .sl (.int .u8) l sp fl), (3, .int .u64 s), (4, .int .i64 i)] []).run = (numRound l sp fl s i).run :=
  (show (dcode cx22 (cin (cin (c2 (c1 (c2 (c2 (bodyOf Try.f22))))))) [(0, .sl (.int .u8) l sp fl), (3, .int .u64 s), (4, .int .i64 i)] []).run = (numRound l sp fl s i).out by kernel_rfl).trans (Tree.out_run _)

def numEnd (s : Int) : Tree St :=
  (.leaf (.ret, [(2, (.int .u64 s)), (3, (.int .u64 s))], []))

theorem numEnd_eq (s : Int) : (dcode cx22 (c2 (c2 (c2 (bodyOf Try.f22)))) [(3, .int .u64 s)] []).run = (numEnd s).run :=
  (show (dcode cx22 (c2 (c2 (c2 (bodyOf Try.f22)))) [(3, .int .u64 s)] []).run = (numEnd s).out by kernel_rfl).trans (Tree.out_run _)


/-! Names. -/

def namesL : List (List UInt8) := rowsL.map (fun r => r.1)
theorem names_run : (dfun cx18 Try.f18 []).run = some (.sl .str namesL [] .ro) := by kernel_rfl

def namesS : Ab.Spec := fun args => match args with
  | [] => .leaf (.sl .str namesL [] .ro)
  | _ => .fail

theorem namesS_ok : Sound Try.prog 18 namesS := by
  intro args out h
  unfold namesS at h
  split at h
  rotate_left
  · cases h
  have h := leaf_out h
  subst h
  exact pcall_fun' (cx := cx18) (fn := Try.f18) (cx1_ok (ok1 rowsS_ok) (.nil _) rfl rfl) (by kernel_rfl) (by kernel_rfl) (by kernel_rfl) names_run

theorem getD_lt {α : Type} {l : List α} {i : Nat} {d : α} (h : i < l.length) : l.getD i d = l[i] := by simp [List.getD, h]

/-! Num. -/

def numSt (l sp : List Int) (fl : Fl) (j : { j : Nat // j ≤ l.length }) : T × List O :=
  ([(0, .sl (.int .u8) l sp fl), (3, .int .u64 (numL (l.drop (l.length - j.1)))), (4, .int .i64 ((l.length : Int) - 1 - j.1))], [])

theorem num_ok (l sp : List Int) (fl : Fl) (hl : l.length < 1000000000) : PCall Try.prog 22 [.sl (.int .u8) l sp fl] (.int .u64 (numL l)) := by
  refine pcall_of' (c := bodyOf Try.f22) (fn := Try.f22) (by kernel_rfl) (by kernel_rfl) (by kernel_rfl) (by kernel_rfl) ?_
  have e : bodyOf Try.f22 = .seq (c1 (bodyOf Try.f22)) (.seq (c1 (c2 (bodyOf Try.f22))) (.seq (.seq (c1 (c1 (c2 (c2 (bodyOf Try.f22))))) (.block 0 (.loop (cin (cin (c2 (c1 (c2 (c2 (bodyOf Try.f22)))))))))) (c2 (c2 (c2 (bodyOf Try.f22)))))) := by kernel_rfl
  rw [e]
  generalize hQ : (fun e t H => (e = AEx.ret ∨ e = .normal) ∧ answerV Try.prog Try.f22.results.toList H t = some (.int .u64 (numL l))) = Q
  have hok : CxOk cx22 := cx0_ok rfl rfl
  refine AWP_seq (AWP_run (cx := cx22) rfl rfl hok (s := (.normal, [(0, .sl (.int .u8) l sp fl), (2, .int .u64 0)], [])) (by kernel_rfl) ?_)
  refine AWP_seq (AWP_run (cx := cx22) rfl rfl hok (s := (.normal, [(0, .sl (.int .u8) l sp fl), (2, .int .u64 0), (3, .int .u64 0)], [])) (by kernel_rfl) ?_)
  refine AWP_seq (AWP_seq (AWP_run (cx := cx22) rfl rfl hok (s := (.normal, [(0, .sl (.int .u8) l sp fl), (2, .int .u64 0), (3, .int .u64 0), (4, .int .i64 (IntKind.wrap .i64 ((l.length : Int) - 1)))], [])) (by kernel_rfl) ?_))
  refine AWP_block ?_
  refine AWP.less (s := (numSt l sp fl ⟨0, Nat.zero_le _⟩).1) (Fits.tle ⟨rfl, ?_, ?_, trivial⟩) ?_
  · show V.int .u64 0 = V.int .u64 (numL (l.drop (l.length - 0)))
    rw [Nat.sub_zero, List.drop_length]
    rfl
  · show V.int .i64 _ = V.int .i64 ((l.length : Int) - 1 - (0 : Nat))
    rw [wrap_i64 (by omega) (by omega)]
    simp
  refine AWP_rounds (cx := cx22) (P := Try.prog) (n := 21) rfl rfl hok (numSt l sp fl) (fun j => l.length - j.1) ?_ ⟨0, Nat.zero_le _⟩
  rintro ⟨j, hj⟩
  refine Tree.all_run_eq (numRound_eq l sp fl (numL (l.drop (l.length - j))) ((l.length : Int) - 1 - j)) ?_
  refine ⟨fun hlt => ⟨fun hin => ?_, fun hin => ?_⟩, fun hge => ?_⟩
  · have hlt : (0 : Int) ≤ (l.length : Int) - 1 - j := of_decide_eq_true hlt
    refine ⟨[], _, rfl, ⟨j + 1, by omega⟩, by show l.length - (j + 1) < l.length - j; omega, Fits.tle ⟨rfl, ?_, ?_, trivial⟩, rfl⟩
    · have hk : l.length - (j + 1) < l.length := by omega
      have hd : l.drop (l.length - (j + 1)) = l.getD (l.length - (j + 1)) 0 :: l.drop (l.length - j) := by
        rw [List.drop_eq_getElem_cons hk, getD_lt hk]
        congr 2
        omega
      have ht : ((l.length : Int) - 1 - j).toNat = l.length - (j + 1) := by omega
      show V.int .u64 _ = V.int .u64 (numL (l.drop (l.length - (j + 1))))
      rw [hd, ht]
      rfl
    · show V.int .i64 _ = V.int .i64 ((l.length : Int) - 1 - (j + 1 : Nat))
      rw [wrap_i64 (by omega) (by omega)]
      congr 1
      omega
  · exfalso
    have hlt : (0 : Int) ≤ (l.length : Int) - 1 - j := of_decide_eq_true hlt
    exact Bool.noConfusion ((inside_of hlt (by omega)).symm.trans hin)
  · have hge : ¬ (0 : Int) ≤ (l.length : Int) - 1 - j := of_decide_eq_false hge
    have hj' : l.length - j = 0 := by omega
    refine ⟨[], _, rfl, ?_⟩
    show AWP _ _ _ _ _ _
    rw [hj', List.drop_zero]
    refine AWP.less (s := [(3, .int .u64 (numL l))]) (Fits.tle ⟨rfl, trivial⟩) ?_
    refine AWP_run (cx := cx22) rfl rfl hok ((numEnd_eq (numL l)).trans rfl) ?_
    subst hQ
    refine ⟨.inl rfl, ?_⟩
    show answerV _ _ _ _ = some _
    kernel_rfl

def numS : Ab.Spec := fun args => match args with
  | [.sl (.int .u8) l _ _] => .req (decide (l.length < 1000000000)) (.leaf (.int .u64 (numL l)))
  | _ => .fail

theorem numS_ok : Sound Try.prog 22 numS := by
  intro args out h
  unfold numS at h
  split at h
  rotate_left
  · cases h
  rename_i l sp fl
  obtain ⟨h1, h2⟩ := req_run h
  simp only [Tree.run, Option.some.injEq] at h2
  subst h2
  exact num_ok l sp fl (of_decide_eq_true h1)

end Go.Arm
