/-
  pages: there, of the maps that a law makes. Conditions: none.
-/
import Derived.Test.YtmbbnhcbphkniaaGreatDoorBbYm
import Derived.Test.YtmbbnhcbphkniaaGreatDoorRa1
namespace Go.Ra
open Go Go.Ab Go.Proofs

/-- The context of foundry/pages.both. -/
noncomputable def cx113 : Cx := { P := Tryz.prog, n := 6, tab := [], mtab := [], refs := [], keeps := [0, 2] }
noncomputable def bothS : Ab.Spec := fun args => .req (Nat.ble args.length Tryz.f113.ntmps) (dfun cx113 Tryz.f113 args)
theorem bothS_ok : Sound Tryz.prog 113 bothS := sound_fun (cx := cx113) (fn := Tryz.f113) (cx0_ok rfl rfl) (by kernel_rfl) (by kernel_rfl)
/-- The context of (*foundry/pages.Pages).there. -/
noncomputable def cx65 : Cx := { P := Tryz.prog, n := 46, tab := [(113, bothS)], mtab := [], refs := [], keeps := [0, 1, 2, 3, 8, 9, 10, 11, 18, 20, 31] }
theorem cxTh_ok : CxOk cx65 := cx1_ok (ok1 bothS_ok) (fun p h => by cases h) rfl rfl
noncomputable abbrev Bth : Code := bodyOf Tryz.f65
noncomputable def thX : Code := c1 (tailN 1 Bth)
noncomputable def thBody : Code := cin (cin (c2 thX))
noncomputable def thOps2 : Array Oper := regOps (c1 thX)
noncomputable def thOps3 : Array Oper := regOps (c1 thBody)
noncomputable def thBlk : Code := cin (c2 (c2 thBody))
noncomputable def thOps4 : Array Oper := regOps (c1 thBlk)
noncomputable def thRest : Code := c2 thBlk
theorem th_eq : tailN 1 Bth = .seq (.seq (.region 2 thOps2 false) (.block 0 (.loop (.seq (.region 3 thOps3 false) (.seq (.cond (.tmp 20) .skip (.exit 0)) (.block 1 (.seq (.region 4 thOps4 false) thRest))))))) (tailN 2 Bth) := by kernel_rfl
noncomputable def thO3a : Oper := thOps3.getD 0 default
noncomputable def thO3b : Oper := thOps3.getD 1 default
noncomputable def thO4 : Oper := thOps4.getD 0 default
theorem th_F : ForMap cx65 thOps3 thOps4 (thOps4.toList.drop 1) thO3a thO3b thO4 18 19 20 21 where
  ops3 := by kernel_rfl
  ops4 := by kernel_rfl
  next := by kernel_rfl
  ok := by kernel_rfl
  entry := by kernel_rfl
  g3a := by kernel_rfl
  g3b := by kernel_rfl
  g4 := by kernel_rfl
  t3a := by kernel_rfl
  t3b := by kernel_rfl
  t4 := by kernel_rfl
  l19 := by kernel_rfl
  l20 := by kernel_rfl
  l21 := by kernel_rfl
  n1 := by kernel_rfl
  n2 := by kernel_rfl

/-- Both rights at once. -/
def bothF (r : Int) : Bool := IntKind.wrap .i64 (((BitVec.ofInt 64 r &&& BitVec.ofInt 64 3).toNat : Nat) : Int) == 3
/-- The calls that a law makes: pages from one to another, of a map with such keys. -/
def thL : List (Int × Int × List Int) := [(1, 2, []), (16, 17, [1, 2]), (32, 32, [1, 2, 16, 17])]
def thK : List (Int × Int × Int) := [(16, 17, 1), (16, 17, 2), (32, 32, 1), (32, 32, 2), (32, 32, 16), (32, 32, 17)]
theorem th_keys : ∀ x ∈ thL, ∀ k ∈ x.2.2, (x.1, x.2.1, k) ∈ thK := by decide
def thT (a z r : Int) (cl : Bool) (it : V) : T := [(0, .ptr 0 0), (1, .int .u64 a), (2, .int .u64 z), (3, .int .i64 r), (8, .int .i64 0), (9, .bool cl), (18, it)]
noncomputable def thD (x : Int × Int × Int) (r : Int) (cl : Bool) (it v : V) (H : List O) : Option St :=
  (druns cx65 thOps4 (thOps4.toList.drop 1) (put 21 (.tup [.int .u64 x.2.2, v]) (put 20 (.bool true) (put 19 .any (thT x.1 x.2.1 r cl it)))) H).fin
def thU (x : Int × Int × Int) (r : Int) (cl : Bool) (it v : V) : T :=
  [(0, .ptr 0 0), (1, .int .u64 x.1), (2, .int .u64 x.2.1), (3, .int .i64 r), (8, .int .i64 0), (9, .bool cl), (10, .int .u64 x.2.2), (11, v), (18, it), (20, .bool true)]
theorem th_d : thK.map thD = thK.map fun x r cl it v H => some (.normal, thU x r cl it v, H) := by kernel_rfl
noncomputable def thR (x : Int × Int × Int) (r : Int) (cl : Bool) (it v : V) (H : List O) : Option St := ((dcode cx65 thRest (thU x r cl it v) H).bind fun s => .leaf (s.1, keep [0, 1, 2, 3, 8, 9, 18] s.2.1, s.2.2)).fin
theorem th_r : thK.map thR = thK.map fun x r cl it v H => some (.normal, thT x.1 x.2.1 r cl it, H) := by kernel_rfl
def isTh (a z : Int) (keys : List Int) : Bool := thL.any fun x => x.1 == a && (x.2.1 == z && x.2.2 == keys)
theorem isTh_spec {a z : Int} {keys : List Int} (h : isTh a z keys = true) : (a, z, keys) ∈ thL := by
  obtain ⟨x, hx, h1⟩ := List.any_eq_true.1 h
  simp only [Bool.and_eq_true, beq_iff_eq] at h1
  obtain ⟨h1, h2, h3⟩ := h1
  obtain ⟨x1, x2, x3⟩ := x
  subst h1 h2 h3
  exact hx
def thereM : MSpec := fun args H => match args, H with
  | [.ptr 0 0, .int .u64 a, .int .u64 z, .int .i64 r], .cells [.bool true, .mp 1] t :: .obj (.map keys) vs :: rest =>
    .req (isTh a z keys && (Nat.beq vs.length keys.length && Nat.beq t 61)) (.leaf (.ok (.tup [.int .i64 0, .bool (bothF r)]) (.cells [.bool true, .mp 1] t :: .obj (.map keys) vs :: rest)))
  | _, _ => .fail
theorem th_head (a z r : Int) (H : List O) : (dcode cx65 (headN 1 Bth) (initT 0 [.ptr 0 0, .int .u64 a, .int .u64 z, .int .i64 r]) H).run.map (fun s => (s.1, keep [0, 1, 2, 3, 8, 9] s.2.1, s.2.2)) =
    some (.normal, [(0, .ptr 0 0), (1, .int .u64 a), (2, .int .u64 z), (3, .int .i64 r), (8, .int .i64 0), (9, .bool (bothF r))], H) := by kernel_rfl
theorem th_pre (a z r : Int) (cl : Bool) (keys : List Int) (vs : List V) (rest : List O) : (druns { cx65 with keeps := [0, 1, 2, 3, 8, 9, 17] } thOps2 (thOps2.toList.take 4) [(0, .ptr 0 0), (1, .int .u64 a), (2, .int .u64 z), (3, .int .i64 r), (8, .int .i64 0), (9, .bool cl)]
      (.cells [.bool true, .mp 1] 61 :: .obj (.map keys) vs :: rest)).run =
    some (.normal, [(0, .ptr 0 0), (1, .int .u64 a), (2, .int .u64 z), (3, .int .i64 r), (8, .int .i64 0), (9, .bool cl), (17, .mp 1)], .cells [.bool true, .mp 1] 61 :: .obj (.map keys) vs :: rest) := by kernel_rfl
theorem th_tail (a z r : Int) (cl : Bool) (it : V) (H : List O) : ((dcode cx65 (tailN 2 Bth) (put 20 (.bool false) (put 19 .any (thT a z r cl it))) H).bind (answerM Tryz.prog Tryz.f65.results.toList)).run = some (.ok (.tup [.int .i64 0, .bool cl]) H) := by kernel_rfl

theorem thereM_ok : MSound Tryz.prog 65 thereM := by
  intro args H out h
  unfold thereM at h
  split at h
  rotate_left
  · cases h
  rename_i a z r t keys vs rest
  obtain ⟨g0, h⟩ := req_run h
  cases h
  obtain ⟨g1, g2⟩ := Bool.and_eq_true_iff.1 g0
  obtain ⟨g2, g3⟩ := Bool.and_eq_true_iff.1 g2
  have h2 := Nat.eq_of_beq_eq_true g2
  have h3 := Nat.eq_of_beq_eq_true g3
  clear g0 g2 g3
  subst h3
  have hx := isTh_spec g1
  refine mcall_of' (c := Bth) (fn := Tryz.f65) (by kernel_rfl) (by kernel_rfl) (by kernel_rfl) (by kernel_rfl) ?_
  refine AWP_headK (cx := cx65) rfl rfl cxTh_ok 1 [0, 1, 2, 3, 8, 9] (by kernel_rfl) (th_head a z r _) ?_
  rw [th_eq]
  refine AWP_seq (AWP_forMap (cx := cx65) rfl rfl cxTh_ok th_F (pre := thOps2.toList.take 4) (o2 := thOps2.getD 4 default) (mt := 59) (kt := 22) (et := 76) (mop := .tmp 17) (by kernel_rfl) (by kernel_rfl) (by kernel_rfl) (by kernel_rfl) (by kernel_rfl) (by kernel_rfl)
    [0, 1, 2, 3, 8, 9, 17] (th_pre a z r (bothF r) keys vs rest) rfl (mid := 1) (keys := keys) (vs := vs) rfl h2
    (fun i left t H => (∀ p ∈ left, (a, z, p.1) ∈ thK) ∧ t = thT a z r (bothF r) (itV i) ∧ H = .cells [.bool true, .mp 1] 61 :: .dead :: rest) (fun i => ?_) ?_ ?_ ?_ ?_)
  · refine ⟨thT a z r (bothF r) (itV i), ?_, ?_, rfl, rfl⟩
    · exact TLe.keep [0, 1, 2, 3, 8, 9, 18] (put 18 (itV i) [(0, .ptr 0 0), (1, .int .u64 a), (2, .int .u64 z), (3, .int .i64 r), (8, .int .i64 0), (9, .bool (bothF r)), (17, .mp 1)])
    · intro p hp
      exact th_keys _ hx p.1 (List.of_mem_zip hp).1
  · rintro i left t H ⟨_, _, rfl⟩
    rfl
  · rintro i left t H ⟨_, rfl, _⟩
    rfl
  · rintro i A p B t H ⟨hk, rfl, rfl⟩
    have hp := hk p (by simp)
    have e1 := congrFun (congrFun (congrFun (congrFun (congrFun (List.map_inj_left.1 th_d _ hp) r) (bothF r)) (itV i)) p.2) (.cells [.bool true, .mp 1] 61 :: .dead :: rest)
    have e2 := congrFun (congrFun (congrFun (congrFun (congrFun (List.map_inj_left.1 th_r _ hp) r) (bothF r)) (itV i)) p.2) (.cells [.bool true, .mp 1] 61 :: .dead :: rest)
    unfold thD at e1
    unfold thR at e2
    rw [Tree.fin_run] at e1 e2
    obtain ⟨⟨e, t2, H2⟩, g1, g2⟩ := bind_run e2
    have g3 : e = .normal := congrArg Prod.fst (Option.some.inj g2)
    have g4 : keep [0, 1, 2, 3, 8, 9, 18] t2 = thT a z r (bothF r) (itV i) := congrArg (fun q => q.2.1) (Option.some.inj g2)
    have g5 : H2 = .cells [.bool true, .mp 1] 61 :: .dead :: rest := congrArg (fun q => q.2.2) (Option.some.inj g2)
    refine ⟨_, _, (e, t2, H2), e1, g1, .inl g3, _, TLe.keep [0, 1, 2, 3, 8, 9, 18] t2, fun q hq => hk q ?_, g4, g5⟩
    rcases List.mem_append.1 hq with hq | hq
    · exact List.mem_append_left _ hq
    · exact List.mem_append_right _ (List.mem_cons_of_mem _ hq)
  · rintro i t H ⟨_, rfl, rfl⟩
    show AWP _ _ _ _ _ _
    obtain ⟨s, g1, g2⟩ := bind_run (th_tail a z r (bothF r) (itV i) ((.cells [.bool true, .mp 1] 61 :: .dead :: rest : List O).set 1 (.obj (.map keys) vs)))
    refine AWP_run (cx := cx65) rfl rfl cxTh_ok g1 ?_
    exact answerM_post g2

end Go.Ra
