/-
  A memory copied. Conditions: none.
-/
import Derived.Test.YtmbbnhcbphkniaaGreatDoorBbYq
import Derived.Test.YtmbbnhcbphkniaaGreatDoorPk30
set_option linter.unusedVariables false
set_option linter.unusedSimpArgs false
namespace Go.Ra
open Go Go.Ab Go.Proofs
noncomputable def cpT0_ps : List Fi := []
theorem cpT0_ps_ok : FisOk Tryz.prog cpT0_ps := trivial
noncomputable def cpT0_ms : List Fi := [⟨13, Tryz.f13, [0], [], 0, []⟩]
theorem cpT0_ms_ok : FisOk Tryz.prog cpT0_ms := ⟨⟨by kernel_rfl, by kernel_rfl⟩, trivial⟩
noncomputable def cpT0 (d : Nat) : Tabs := deep Tryz.prog {} cpT0_ps cpT0_ms d
noncomputable def cxCp : Cx := { P := Tryz.prog, n := Tryz.f17.ntmps, tab := [], mtab := (34, noneM) :: (cpT0 1).mtab, refs := [], keeps := [0, 2, 3, 4, 5, 6, 8, 14, 16] }
theorem cxCp_ok : CxOk cxCp := ⟨.nil _, .cons noneM_ok (deep_ok (T := {}) ⟨.nil _, (fun p h => by cases h), .nil _, fun p h => by cases h⟩ cpT0_ps_ok cpT0_ms_ok 1).2.1, .nil _, fun p h => by cases h⟩
noncomputable abbrev Bcp : Code := bodyOf Tryz.f17
def cpKeys : List Int := [1, 2, 16, 17, 32]
def cpRt (k : Int) : Int := cond (k == 1) 5 (cond (k == 2) 5 (cond (k == 16) 6 (cond (k == 17) 6 4)))
def cpId (k : Int) : Nat := cond (k == 1) 2 (cond (k == 2) 3 (cond (k == 16) 4 (cond (k == 17) 5 6)))
def cpPg (a b c d e : List Int) (k : Int) : O := .obj (.page 1 .u8 (selF k a b c d e)) [.int .i64 (cpRt k)]
def cpAt (k : Int) : List Int → Nat
  | [] => 0
  | j :: r => cond (j == k) 0 (cpAt k r + 1)
def cpHas (d : List Int) (k : Int) : Bool := d.any (· == k)
def cpMap (d : List Int) : O := .obj (.map (cpKeys.filter (cpHas d))) ((cpKeys.filter (cpHas d)).map fun k => .ptr (9 + cpAt k d) 0)
def cpOld (a b c d e : List Int) : List O := [.cells [.bool true, .mp 1] 61, .dead, mO 5 a, mO 5 b, mO 6 c, mO 6 d, mO 4 e]
def cpH (q : List Int) (a b c d e : List Int) : List O := cpOld a b c d e ++ (cpMap q :: .cells [.bool true, .mp 7] 61 :: q.map (cpPg a b c d e))
def cpT (it : V) : T := [(3, .ptr 8 0), (14, it)]
noncomputable def cpLoop : Code := c1 (tailN 2 Bcp)
noncomputable def cpBody : Code := cin (cin (c2 cpLoop))
noncomputable def cpOps2 : Array Oper := regOps (c1 cpLoop)
noncomputable def cpOps3 : Array Oper := regOps (c1 cpBody)
noncomputable def cpBlk : Code := cin (c2 (c2 cpBody))
noncomputable def cpOps4 : Array Oper := regOps (c1 cpBlk)
noncomputable def cpRest : Code := c2 cpBlk
noncomputable def cpOps7 : Array Oper := regOps (c1 cpRest)
theorem cp_eq : tailN 2 Bcp = .seq (.seq (.region 4 cpOps2 false) (.block 0 (.loop (.seq (.region 5 cpOps3 false) (.seq (.cond (.tmp 16) .skip (.exit 0)) (.block 1 (.seq (.region 6 cpOps4 false) cpRest))))))) (tailN 3 Bcp) := by kernel_rfl
theorem cp_rest : cpRest = .seq (.region 7 cpOps7 false) (c2 cpRest) := by kernel_rfl
noncomputable def cpO3a : Oper := cpOps3.getD 0 default
noncomputable def cpO3b : Oper := cpOps3.getD 1 default
noncomputable def cpO4 : Oper := cpOps4.getD 0 default
theorem cp_F : ForMap cxCp cpOps3 cpOps4 (cpOps4.toList.drop 1) cpO3a cpO3b cpO4 14 15 16 17 where
  ops3 := by kernel_rfl
  ops4 := by kernel_rfl
  next := by kernel_rfl
  ok := by kernel_rfl
  entry := by kernel_rfl
  g3a := by kernel_rfl
  g3b := by kernel_rfl
  g4 := by kernel_rfl
  t3a := by kernel_rfl
  t3b := by kernel_rfl
  t4 := by kernel_rfl
  l19 := by kernel_rfl
  l20 := by kernel_rfl
  l21 := by kernel_rfl
  n1 := by kernel_rfl
  n2 := by kernel_rfl
theorem cp_head (a b c d e : List Int) : ((dcode cxCp (headN 2 Bcp) (initT 0 [.ptr 0 0]) (memO a b c d e)).bind (cutK [0, 3])).run =
    some (.normal, [(0, .ptr 0 0), (3, .ptr 8 0)], memO a b c d e ++ [.obj (.map []) [], .cells [.bool true, .mp 7] 61]) := by kernel_rfl
theorem cp_pre (H : List O) (it : V) (a b c d e : List Int) (Z : List O) : (druns { cxCp with keeps := [0, 3, 13] } cpOps2 (cpOps2.toList.take 4) [(0, .ptr 0 0), (3, .ptr 8 0)] (memO a b c d e ++ Z)).run =
    some (.normal, [(0, .ptr 0 0), (3, .ptr 8 0), (13, .mp 1)], memO a b c d e ++ Z) := by kernel_rfl
theorem cp_d (k : Int) (v it : V) (H : List O) : (druns cxCp cpOps4 (cpOps4.toList.drop 1) (put 17 (.tup [.int .u64 k, v]) (put 16 (.bool true) (put 15 .any (cpT it)))) H).run =
    some (.normal, [(3, .ptr 8 0), (4, .int .u64 k), (5, v), (14, it), (16, .bool true)], H) := by kernel_rfl
theorem cp_7 (k : Int) (id : Nat) (it : V) (H : List O) : (druns { cxCp with keeps := [3, 4, 14, 21] } cpOps7 (cpOps7.toList.take 2) [(3, .ptr 8 0), (4, .int .u64 k), (5, .ptr id 0), (14, it), (16, .bool true)] H).run =
    some (.normal, [(3, .ptr 8 0), (4, .int .u64 k), (14, it), (21, .ptr id 0)], H) := by kernel_rfl
def cpLv : Nat → List (List Int)
  | 0 => [[]]
  | n + 1 => (cpLv n).flatMap fun q => (cpKeys.filter fun k => !cpHas q k).map fun k => q ++ [k]
def cpPairs (n : Nat) : List (List Int × Int) := (cpLv n).flatMap fun q => (cpKeys.filter fun k => !cpHas q k).map fun k => (q, k)
noncomputable def cpE (x : List Int × Int) (it : V) (a b c d e : List Int) : Option St := ((dcode cxCp (c2 cpRest) [(3, .ptr 8 0), (4, .int .u64 x.2), (6, .ptr (9 + x.1.length) 0), (14, it)] (cpH x.1 a b c d e ++ [cpPg a b c d e x.2])).bind (cutK [3, 14])).fin
def cpX (x : List Int × Int) (it : V) (a b c d e : List Int) : Option St := some (.normal, cpT it, cpH (x.1 ++ [x.2]) a b c d e)
theorem cp_0 : (cpPairs 0).map cpE = (cpPairs 0).map cpX := by kernel_rfl
theorem cp_1 : (cpPairs 1).map cpE = (cpPairs 1).map cpX := by kernel_rfl
theorem cp_2 : (cpPairs 2).map cpE = (cpPairs 2).map cpX := by kernel_rfl
theorem cp_3 : (cpPairs 3).map cpE = (cpPairs 3).map cpX := by kernel_rfl
theorem cp_4 : (cpPairs 4).map cpE = (cpPairs 4).map cpX := by kernel_rfl
def cpNew (a b c d e : List Int) : List O := [.cells [.bool true, .mp 8] 61, .obj (.map [1, 2, 16, 17, 32]) [.ptr 9 0, .ptr 10 0, .ptr 11 0, .ptr 12 0, .ptr 13 0], mO 5 a, mO 5 b, mO 6 c, mO 6 d, mO 4 e]
def cpFull (q : List Int) (a b c d e : List Int) : List O := (cpH q a b c d e).set 1 (.obj (.map [1, 2, 16, 17, 32]) [.ptr 2 0, .ptr 3 0, .ptr 4 0, .ptr 5 0, .ptr 6 0])
def cpOrd (q : List Int) : List Nat := 8 :: 7 :: cpKeys.map fun k => 9 + cpAt k q
noncomputable def ansD (n : Nat) (κ : List Nat) (rs : List ResultVar) (s : St) : Tree Res := match dropS n κ s with
  | some s' => answerM Tryz.prog rs s'
  | none => .fail
noncomputable def cpEnd (q : List Int) (a b c d e : List Int) : Option Res := ((dcode cxCp (tailN 3 Bcp) [(3, .ptr 8 0)] (cpFull q a b c d e)).bind (ansD 7 (cpOrd q) Tryz.f17.results.toList)).fin
def cpRes (a b c d e : List Int) : Res := .ok (.ptr 7 0) (memO a b c d e ++ cpNew a b c d e)
theorem cp_5 : (cpLv 5).map cpEnd = (cpLv 5).map fun _ a b c d e => some (cpRes a b c d e) := by kernel_rfl
theorem mem_filter_keys {q : List Int} {k : Int} (hk : k ∈ cpKeys) (hn : cpHas q k = false) : k ∈ cpKeys.filter fun k => !cpHas q k := by
  rw [List.mem_filter, hn]
  exact ⟨hk, rfl⟩
theorem cpLv_more {n : Nat} {q : List Int} {k : Int} (hq : q ∈ cpLv n) (hk : k ∈ cpKeys) (hn : cpHas q k = false) : q ++ [k] ∈ cpLv (n + 1) :=
  List.mem_flatMap.2 ⟨q, hq, List.mem_map.2 ⟨k, mem_filter_keys hk hn, rfl⟩⟩
theorem cpPairs_mem {n : Nat} {q : List Int} {k : Int} (hq : q ∈ cpLv n) (hk : k ∈ cpKeys) (hn : cpHas q k = false) : (q, k) ∈ cpPairs n :=
  List.mem_flatMap.2 ⟨q, hq, List.mem_map.2 ⟨k, mem_filter_keys hk hn, rfl⟩⟩
theorem cp_step {n : Nat} (hn : n < 5) {q : List Int} {k : Int} (hq : q ∈ cpLv n) (hk : k ∈ cpKeys) (hn2 : cpHas q k = false) (it : V) (a b c d e : List Int) : cpE (q, k) it a b c d e = cpX (q, k) it a b c d e := by
  have hm := cpPairs_mem hq hk hn2
  have key : (cpPairs n).map cpE = (cpPairs n).map cpX := by
    match n, hn with
    | 0, _ => exact cp_0
    | 1, _ => exact cp_1
    | 2, _ => exact cp_2
    | 3, _ => exact cp_3
    | 4, _ => exact cp_4
  exact congrFun (congrFun (congrFun (congrFun (congrFun (congrFun (List.map_inj_left.1 key _ hm) it) a) b) c) d) e
structure CpLeft (left : List (Int × V)) (q : List Int) : Prop where
  keys : ∀ p ∈ left, p.1 ∈ cpKeys ∧ p.2 = .ptr (cpId p.1) 0 ∧ cpHas q p.1 = false
  nodup : (left.map Prod.fst).Nodup
  lv : q ∈ cpLv q.length
  len : q.length + left.length = 5
theorem cpHas_app (q : List Int) (k j : Int) : cpHas (q ++ [k]) j = (cpHas q j || k == j) := by
  unfold cpHas
  rw [List.any_append]
  show (_ || ((k == j) || false)) = _
  rw [Bool.or_false]
theorem CpLeft.take {A B : List (Int × V)} {p : Int × V} {q : List Int} (h : CpLeft (A ++ p :: B) q) : CpLeft (A ++ B) (q ++ [p.1]) := by
  have hp := h.keys p (by simp)
  have hnd := h.nodup
  rw [List.map_append, List.map_cons] at hnd
  have hnd' := List.nodup_append.1 hnd
  have hnd2 := List.nodup_cons.1 hnd'.2.1
  have hlv := cpLv_more h.lv hp.1 hp.2.2
  refine ⟨fun r hr => ?_, ?_, ?_, ?_⟩
  · have hm : r ∈ A ++ p :: B := by
      rcases List.mem_append.1 hr with hr | hr
      · exact List.mem_append_left _ hr
      · exact List.mem_append_right _ (List.mem_cons_of_mem _ hr)
    obtain ⟨g1, g2, g3⟩ := h.keys r hm
    refine ⟨g1, g2, ?_⟩
    rw [cpHas_app, g3, Bool.false_or, beq_eq_false_iff_ne]
    rintro e
    rcases List.mem_append.1 hr with hr | hr
    · exact hnd'.2.2 r.1 (List.mem_map_of_mem hr) p.1 (by simp) e.symm
    · exact hnd2.1 (e ▸ List.mem_map_of_mem hr)
  · rw [List.map_append]
    exact List.nodup_append.2 ⟨hnd'.1, hnd2.2, fun x hx y hy => hnd'.2.2 x hx y (List.mem_cons_of_mem _ hy)⟩
  · rw [List.length_append]
    exact hlv
  · have := h.len
    simp only [List.length_append, List.length_cons, List.length_nil] at this ⊢
    omega
theorem cpH_page {k : Int} (hk : k ∈ cpKeys) (q : List Int) (a b c d e : List Int) : (cpH q a b c d e)[cpId k]? = some (cpPg a b c d e k) := by
  have hk : k = 1 ∨ k = 2 ∨ k = 16 ∨ k = 17 ∨ k = 32 := by simpa [cpKeys] using hk
  rcases hk with rfl | rfl | rfl | rfl | rfl <;> rfl
theorem cpH_len (q : List Int) (a b c d e : List Int) : (cpH q a b c d e).length = 9 + q.length := by
  unfold cpH cpOld
  simp only [List.length_append, List.length_cons, List.length_nil, List.length_map]
  omega
def pgTy : Nat := 79
theorem cp_ti : (ti Tryz.prog pgTy).map (fun i => aggTK i.k && (Nat.beq i.size 4097 && lenIs i.size i.zero)) = some true := by kernel_rfl
theorem cp_qL : cpOps7.toList = cpOps7.toList.take 2 ++ [cpOps7.getD 2 default, cpOps7.getD 3 default, cpOps7.getD 4 default] := by kernel_rfl
set_option maxRecDepth 8000 in
theorem copy_ok {a b c d e : List Int} (hl : lens5 a b c d e = true) : MCall Tryz.prog 17 [.ptr 0 0] (memO a b c d e) (cpRes a b c d e) := by
  refine mcall_of' (c := Bcp) (fn := Tryz.f17) (by kernel_rfl) (by kernel_rfl) (by kernel_rfl) (by kernel_rfl) ?_
  refine AWP_scope ?_
  refine AWP_headK (cx := cxCp) rfl rfl cxCp_ok 2 [0, 3] (by kernel_rfl) ((cutK_run _ _).symm.trans (cp_head a b c d e)) ?_
  rw [cp_eq]
  obtain ⟨i, hi, hi2⟩ := Option.map_eq_some_iff.1 cp_ti
  obtain ⟨hi3, hi4⟩ := Bool.and_eq_true_iff.1 hi2
  obtain ⟨hi4, hi5⟩ := Bool.and_eq_true_iff.1 hi4
  have hi4 := Nat.eq_of_beq_eq_true hi4
  refine AWP_seq (AWP_forMapW (cx := cxCp) rfl rfl cxCp_ok cp_F (pre := cpOps2.toList.take 4) (o2 := cpOps2.getD 4 default) (mt := 59) (kt := 22) (et := 76) (mop := .tmp 13) (by kernel_rfl) (by kernel_rfl) (by kernel_rfl) (by kernel_rfl) (by kernel_rfl) (by kernel_rfl)
    [0, 3, 13] (cp_pre [] .any a b c d e _) rfl (mid := 1) (keys := cpKeys) (vs := [.ptr 2 0, .ptr 3 0, .ptr 4 0, .ptr 5 0, .ptr 6 0]) rfl rfl
    (fun r left t H => ∃ q, CpLeft left q ∧ t = cpT (itV r) ∧ H = cpH q a b c d e) (fun r => ?_) ?_ ?_ ?_ ?_)
  · refine ⟨cpT (itV r), Fits.tle ⟨rfl, rfl, trivial⟩, [], ⟨?_, by decide, .head _, rfl⟩, rfl, rfl⟩
    intro p hp
    have hp : p = (1, .ptr 2 0) ∨ p = (2, .ptr 3 0) ∨ p = (16, .ptr 4 0) ∨ p = (17, .ptr 5 0) ∨ p = (32, .ptr 6 0) := by simpa [cpKeys] using hp
    rcases hp with rfl | rfl | rfl | rfl | rfl <;> exact ⟨by decide, rfl, rfl⟩
  · rintro r left t H ⟨q, _, _, rfl⟩
    rfl
  · rintro r left t H ⟨q, _, rfl, _⟩
    rfl
  · rintro r A p B t H ⟨q, hL, rfl, rfl⟩
    obtain ⟨k, v⟩ := p
    obtain ⟨hk, hv, hn⟩ := hL.keys (k, v) (by simp)
    simp only at hk hv hn
    subst hv
    have hlen := hL.len
    rw [List.length_append, List.length_cons] at hlen
    refine ⟨_, _, cp_d k _ (itV r) _, ?_⟩
    rw [cp_rest]
    have hsel : (selF k a b c d e).length = 4096 := selF_len hl k
    refine AWP_seq (AWP_copyRow (cx := cxCp) rfl rfl cxCp_ok cp_qL (ty := pgTy) (pa := 21) (dL := 22) (dA := 6) (by kernel_rfl) (by kernel_rfl) (by kernel_rfl) (by kernel_rfl) (by kernel_rfl) (by kernel_rfl) (by kernel_rfl) (by kernel_rfl) (by kernel_rfl) (by kernel_rfl) (by kernel_rfl) (by kernel_rfl)
      [3, 4, 14, 21] (cp_7 k (cpId k) (itV r) _) (n := 1) (k := .u8) (l := selF k a b c d e) (hd := [.int .i64 (cpRt k)]) rfl (cpH_page hk q a b c d e) hi hi3 (by rw [hsel, hi4]) hi5 rfl rfl ?_)
    show AWP _ _ _ _ _ _
    rw [cpH_len]
    refine AWP.less (s := [(3, .ptr 8 0), (4, .int .u64 k), (6, .ptr (9 + q.length) 0), (14, itV r)]) (Fits.tle ⟨rfl, rfl, rfl, rfl, trivial⟩) ?_
    have he := cp_step (by omega) hL.lv hk hn (itV r) a b c d e
    unfold cpE cpX at he
    rw [Tree.fin_run, cutK_run] at he
    obtain ⟨⟨ex, t2, H2⟩, g1, g2⟩ := Option.map_eq_some_iff.1 he
    simp only [Prod.mk.injEq] at g2
    obtain ⟨rfl, g2, rfl⟩ := g2
    refine AWP_run (cx := cxCp) rfl rfl cxCp_ok g1 ⟨.inl rfl, cpT (itV r), g2 ▸ TLe.keep _ _, q ++ [k], hL.take, rfl, rfl⟩
  · rintro r t H ⟨q, hL, rfl, rfl⟩
    show AWP _ _ _ _ _ _
    have hq5 : q.length = 5 := by have := hL.len; simpa using this
    have hq := hL.lv
    rw [hq5] at hq
    refine AWP.less (s := [(3, .ptr 8 0)]) (Fits.tle ⟨rfl, trivial⟩) ?_
    have he := congrFun (congrFun (congrFun (congrFun (congrFun (List.map_inj_left.1 cp_5 _ hq) a) b) c) d) e
    unfold cpEnd at he
    rw [Tree.fin_run] at he
    obtain ⟨s, g1, g2⟩ := bind_run he
    refine AWP_run (cx := cxCp) rfl rfl cxCp_ok g1 ?_
    unfold ansD at g2
    split at g2
    · rename_i s' hs'
      exact ⟨cpOrd q, s', hs', answerM_post g2⟩
    · cases g2
def copyM : MSpec := fun args H => match args with
  | [.ptr 0 0] => memM (fun a b c d e => .leaf (cpRes a b c d e)) H
  | _ => .fail
theorem copyM_ok : MSound Tryz.prog 17 copyM := by
  intro args H out h
  unfold copyM at h
  split at h
  rotate_left
  · cases h
  obtain ⟨a, b, c, d, e, rfl, hl, h⟩ := memM_run h
  cases h
  exact copy_ok hl
end Go.Ra
