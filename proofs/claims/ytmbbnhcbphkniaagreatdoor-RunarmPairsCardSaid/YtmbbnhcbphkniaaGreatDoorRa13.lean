/-
  runarm: the law Pairs, evaluated. Conditions: none.
-/
import Derived.Test.YtmbbnhcbphkniaaGreatDoorRm7
namespace Go.Ra
open Go Go.Ab Go.Proofs

noncomputable def prX : Tabs := { prD with tab := (10, begunS) :: prD.tab, mtab := (15, worldM) :: prD.mtab }
theorem prX_ok : prX.Ok Tryz.prog := ⟨.cons begunS_ok prD_ok.1, .cons worldM_ok prD_ok.2.1, prD_ok.2.2⟩
noncomputable def prZ_ps : List Fi := []
theorem prZ_ps_ok : FisOk Tryz.prog prZ_ps := trivial
noncomputable def prZ_ms : List Fi := [⟨14, Tryz.f14, [0, 1, 2, 3, 4, 5, 8, 9, 10, 11, 12, 13, 14, 18, 23, 40, 41, 55, 68, 75, 78, 86], [], 0, []⟩, ⟨25, Tryz.f25, [0, 2, 3, 4, 13, 14, 25, 37, 58, 81, 104, 125, 146, 161, 176, 191, 205, 218], [], 0, []⟩, ⟨26, Tryz.f26, [0, 2, 3, 4, 5, 6, 25, 30, 39, 48, 58, 68, 77, 86, 95, 106, 120, 134, 143, 154, 164, 174, 186, 198], [], 0, []⟩, ⟨59, Tryz.f59, [0, 1, 2, 6, 20, 30, 49], [], 0, []⟩, ⟨51, Tryz.f51, [0, 1, 2, 7], [], 0, []⟩]
theorem prZ_ms_ok : FisOk Tryz.prog prZ_ms := ⟨⟨by kernel_rfl, by kernel_rfl⟩, ⟨by kernel_rfl, by kernel_rfl⟩, ⟨by kernel_rfl, by kernel_rfl⟩, ⟨by kernel_rfl, by kernel_rfl⟩, ⟨by kernel_rfl, by kernel_rfl⟩, trivial⟩
noncomputable def prZ (d : Nat) : Tabs := deep Tryz.prog prX prZ_ps prZ_ms d
theorem prZ_ok (d : Nat) : (prZ d).Ok Tryz.prog := deep_ok prX_ok prZ_ps_ok prZ_ms_ok d
noncomputable def cxPr : Cx := { P := Tryz.prog, n := Tryz.f6.ntmps, tab := (prZ 3).tab, mtab := (prZ 3).mtab, rtab := (prZ 3).rtab, refs := [], keeps := [0, 1, 2, 6, 7, 9, 10, 12, 13, 14, 15, 16, 17, 18, 20, 22, 54] }
theorem cxPr_ok : CxOk cxPr := prZ_ok 3
noncomputable abbrev Bp : Code := bodyOf Tryz.f6
def prPg (r : Int) (l : List Int) : O := .obj (.page 1 .u8 l) [.int .i64 r]
def prCpu (a b x : Int) : O := .cells (cpuL 0 (0 :: a :: b :: x :: List.replicate 28 0) false false false false 0) 25
/-- Both memories, the program's pages told; the state of the processor. -/
def prH (A B C D E : List Int) (a b x : Int) : List O := [.obj (.map [1, 2, 16, 17, 32]) [.ptr 3 0, .ptr 4 0, .ptr 11 0, .ptr 12 0, .ptr 19 0], .cells [.bool true, .mp 0] 61, .cells [.ref 22 3 0 5, .int .i64 0] 70,
  prPg 5 A, prPg 5 B, wPr, .cells (wRow 1 5 5) (97 + 4294967296), .dead, wPr, .cells (wRow 2 5 8) (97 + 4294967296), .dead, prPg 6 C, prPg 6 D, wPr, .cells (wRow 16 6 13) (97 + 4294967296), .dead, wPr, .cells (wRow 17 6 16) (97 + 4294967296), .dead, prPg 4 E, wPr,
  .cells (wRow 32 4 20) (97 + 4294967296), .cells (wRow 1 5 5 ++ (wRow 2 5 8 ++ (wRow 16 6 13 ++ (wRow 17 6 16 ++ wRow 32 4 20)))) 0, prCpu a b x]
theorem pr_head (a b k : Int) : (dcode cxPr (headN 6 Bp) (initT 0 [.int .u64 a, .int .u64 b, .int .u16 k]) []).run.map (fun s => (s.1, keep [0, 1, 2, 7, 9] s.2.1, s.2.2)) =
    some (.normal, [(0, .int .u64 a), (1, .int .u64 b), (2, .int .u16 k), (7, .ptr 1 0), (9, .ptr 23 0)], prH zeros zeros zeros zeros zeros a b (IntKind.wrap .u64 (73728 - IntKind.wrap .u64 (Int.tmod k 40)))) := by kernel_rfl
noncomputable def pwL (i : Nat) (a b k : Int) (A B C D E : List Int) : Tree V := (dcode cxPr (tailN 6 Bp) [(0, .int .u64 a), (1, .int .u64 b), (2, .int .u16 k), (7, .ptr 1 0), (9, .ptr 23 0)] (prH A B C D E a b (73728 - (i : Int)))).bind (answer Tryz.prog Tryz.f6.results.toList)
noncomputable def prE (i : Nat) (a b k : Int) (A B C D E : List Int) : Option V := (pwL i a b k A B C D E).fin
def rL (c : Bool) (n : Nat) (v : Option V) : Option V := match n with
  | 0 => v
  | n + 1 => cond c (rL c n v) none
def prNo : Option V := some (.bool false)
def same2 (a b : Int) : Bool := and (and (a == a) (and (b == b) true)) true
def prLo (a b : Int) (A B C D E : List Int) : Option V := cond (same2 a b) (cond (ldN A B C D E 73712 8 0 == 0) (cond (ldN A B C D E 73704 8 0 == 0) (some (.bool (ldN A B C D E 73720 8 0 == 0))) prNo) prNo) prNo
def prHi (x a b : Int) (A B C D E : List Int) : Option V := cond (ldN A B C D E x 8 0 == a) (some (.bool (ldN A B C D E (x + 8) 8 0 == b))) prNo
/-- With the pair stored. -/
def prSt (x a b : Int) (A B C D E : List Int) (f : List Int → List Int → List Int → List Int → List Int → Option V) : Option V :=
  cond (lens5 A B C D E) (cond (lens5 (stN 1 x a 8 0 A) (stN 2 x a 8 0 B) (stN 16 x a 8 0 C) (stN 17 x a 8 0 D) (stN 32 x a 8 0 E))
    (f (stN 1 (x + 8) b 8 0 (stN 1 x a 8 0 A)) (stN 2 (x + 8) b 8 0 (stN 2 x a 8 0 B)) (stN 16 (x + 8) b 8 0 (stN 16 x a 8 0 C)) (stN 17 (x + 8) b 8 0 (stN 17 x a 8 0 D)) (stN 32 (x + 8) b 8 0 (stN 32 x a 8 0 E))) none) none
def prS (i : Nat) (a b k : Int) (A B C D E : List Int) : Option V :=
  cond (Nat.ble i 8) (rL (lens5 A B C D E) 2 (cond (decide (Int.tmod k 40 < 16)) (rL (lens5 A B C D E) 2 (prLo a b A B C D E)) (rL (lens5 A B C D E) (cond (Nat.beq i 8) 2 1) prNo)))
    (cond (Nat.ble i 15) (rL (lens5 A B C D E) 3 (cond (decide (Int.tmod k 40 < 16)) (rL (lens5 A B C D E) 2 (prLo a b A B C D E)) (rL (lens5 A B C D E) 2 prNo)))
      (rL (lens5 A B C D E) 2 (prSt (73728 - (i : Int)) a b A B C D E fun A' B' C' D' E' => rL (lens5 A' B' C' D' E') 1 (cond (decide (Int.tmod k 40 < 16)) (rL (lens5 A' B' C' D' E') 2 prNo) (rL (lens5 A' B' C' D' E') 2 (prHi (73728 - (i : Int)) a b A' B' C' D' E'))))))
theorem pr_0 : ((List.range 40).drop 0 |>.take 5).map prE = ((List.range 40).drop 0 |>.take 5).map prS := by kernel_rfl
theorem pr_1 : ((List.range 40).drop 5 |>.take 5).map prE = ((List.range 40).drop 5 |>.take 5).map prS := by kernel_rfl
theorem pr_2 : ((List.range 40).drop 10 |>.take 5).map prE = ((List.range 40).drop 10 |>.take 5).map prS := by kernel_rfl
theorem pr_3 : ((List.range 40).drop 15 |>.take 5).map prE = ((List.range 40).drop 15 |>.take 5).map prS := by kernel_rfl
theorem pr_4 : ((List.range 40).drop 20 |>.take 5).map prE = ((List.range 40).drop 20 |>.take 5).map prS := by kernel_rfl
theorem pr_5 : ((List.range 40).drop 25 |>.take 5).map prE = ((List.range 40).drop 25 |>.take 5).map prS := by kernel_rfl
theorem pr_6 : ((List.range 40).drop 30 |>.take 5).map prE = ((List.range 40).drop 30 |>.take 5).map prS := by kernel_rfl
theorem pr_7 : ((List.range 40).drop 35 |>.take 5).map prE = ((List.range 40).drop 35 |>.take 5).map prS := by kernel_rfl
theorem pr_all : ∀ i ∈ List.range 40, prE i = prS i := by
  have e : List.range 40 = ((List.range 40).drop 0 |>.take 5) ++ (((List.range 40).drop 5 |>.take 5) ++ (((List.range 40).drop 10 |>.take 5) ++ (((List.range 40).drop 15 |>.take 5) ++ (((List.range 40).drop 20 |>.take 5) ++ (((List.range 40).drop 25 |>.take 5) ++ (((List.range 40).drop 30 |>.take 5) ++ (((List.range 40).drop 35 |>.take 5)))))))) := by kernel_rfl
  have h : (List.range 40).map prE = (List.range 40).map prS := by
    rw [e]
    simp only [List.map_append, pr_0, pr_1, pr_2, pr_3, pr_4, pr_5, pr_6, pr_7]
  exact List.map_inj_left.1 h

end Go.Ra
