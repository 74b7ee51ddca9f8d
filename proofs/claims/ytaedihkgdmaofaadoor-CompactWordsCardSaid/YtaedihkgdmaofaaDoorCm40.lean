/-
  compact: the document's Check of a long one. Conditions: none.
-/
import Derived.Test.YtaedihkgdmaofaaDoorCm26
namespace Go.Cmp
open Go Go.Ab Go.Proofs

/-- The context of foundry/foundryref8.rows. -/
noncomputable def cx92 : Cx := { P := Tryd.prog, n := 51, tab := [], mtab := [], refs := [], keeps := [0, 1, 2, 3, 4, 5, 12, 13, 14, 18, 31, 40], fuel := 20 }
noncomputable def rows92S : MSpec := fun args H => .req (Nat.ble args.length Tryd.f92.ntmps) (mfun cx92 Tryd.f92 args H)
theorem rows92S_ok : MSound Tryd.prog 92 rows92S := msound_fun (cx := cx92) (fn := Tryd.f92) (cx0_ok rfl rfl) (by kernel_rfl) (by kernel_rfl)
/-- The context of foundry/foundryref8.Table. -/
noncomputable def cx79 : Cx := { P := Tryd.prog, n := 55, tab := [], mtab := [(92, rows92S)], refs := [], keeps := [0, 1] }
abbrev row8E : EC := .prod [.int .u8, .str, .int .u32, .int .u32, .int .u32]
/-- A row: its form, name, opcode, f3, f7. -/
abbrev Row8 := Int × List UInt8 × Int × Int × Int
/-- The document's rows. -/
def rows8L : List Row8 := [
  (82, [97, 100, 100], 51, 0, 0),
  (82, [115, 117, 98], 51, 0, 32),
  (82, [115, 108, 108], 51, 1, 0),
  (82, [115, 108, 116], 51, 2, 0),
  (82, [115, 108, 116, 117], 51, 3, 0),
  (82, [120, 111, 114], 51, 4, 0),
  (82, [115, 114, 108], 51, 5, 0),
  (82, [115, 114, 97], 51, 5, 32),
  (82, [111, 114], 51, 6, 0),
  (82, [97, 110, 100], 51, 7, 0),
  (82, [109, 117, 108], 51, 0, 1),
  (82, [109, 117, 108, 104], 51, 1, 1),
  (82, [109, 117, 108, 104, 115, 117], 51, 2, 1),
  (82, [109, 117, 108, 104, 117], 51, 3, 1),
  (82, [100, 105, 118], 51, 4, 1),
  (82, [100, 105, 118, 117], 51, 5, 1),
  (82, [114, 101, 109], 51, 6, 1),
  (82, [114, 101, 109, 117], 51, 7, 1),
  (82, [97, 100, 100, 119], 59, 0, 0),
  (82, [115, 117, 98, 119], 59, 0, 32),
  (82, [115, 108, 108, 119], 59, 1, 0),
  (82, [115, 114, 108, 119], 59, 5, 0),
  (82, [115, 114, 97, 119], 59, 5, 32),
  (82, [109, 117, 108, 119], 59, 0, 1),
  (82, [100, 105, 118, 119], 59, 4, 1),
  (82, [100, 105, 118, 117, 119], 59, 5, 1),
  (82, [114, 101, 109, 119], 59, 6, 1),
  (82, [114, 101, 109, 117, 119], 59, 7, 1),
  (73, [97, 100, 100, 105], 19, 0, 0),
  (73, [115, 108, 116, 105], 19, 2, 0),
  (73, [115, 108, 116, 105, 117], 19, 3, 0),
  (73, [120, 111, 114, 105], 19, 4, 0),
  (73, [111, 114, 105], 19, 6, 0),
  (73, [97, 110, 100, 105], 19, 7, 0),
  (73, [97, 100, 100, 105, 119], 27, 0, 0),
  (73, [108, 98], 3, 0, 0),
  (73, [108, 104], 3, 1, 0),
  (73, [108, 119], 3, 2, 0),
  (73, [108, 100], 3, 3, 0),
  (73, [108, 98, 117], 3, 4, 0),
  (73, [108, 104, 117], 3, 5, 0),
  (73, [108, 119, 117], 3, 6, 0),
  (73, [106, 97, 108, 114], 103, 0, 0),
  (104, [115, 108, 108, 105], 19, 1, 0),
  (104, [115, 114, 108, 105], 19, 5, 0),
  (104, [115, 114, 97, 105], 19, 5, 32),
  (119, [115, 108, 108, 105, 119], 27, 1, 0),
  (119, [115, 114, 108, 105, 119], 27, 5, 0),
  (119, [115, 114, 97, 105, 119], 27, 5, 32),
  (83, [115, 98], 35, 0, 0),
  (83, [115, 104], 35, 1, 0),
  (83, [115, 119], 35, 2, 0),
  (83, [115, 100], 35, 3, 0),
  (66, [98, 101, 113], 99, 0, 0),
  (66, [98, 110, 101], 99, 1, 0),
  (66, [98, 108, 116], 99, 4, 0),
  (66, [98, 103, 101], 99, 5, 0),
  (66, [98, 108, 116, 117], 99, 6, 0),
  (66, [98, 103, 101, 117], 99, 7, 0),
  (85, [108, 117, 105], 55, 0, 0),
  (85, [97, 117, 105, 112, 99], 23, 0, 0),
  (74, [106, 97, 108], 111, 0, 0),
  (120, [101, 99, 97, 108, 108], 115, 0, 0),
  (120, [101, 98, 114, 101, 97, 107], 1048691, 0, 0)]

theorem table8_run : (dfun cx79 Tryd.f79 []).run = some (.sl row8E rows8L [] .ro) := by kernel_rfl
def table8S : Ab.Spec := fun args => match args with
  | [] => .leaf (.sl row8E rows8L [] .ro)
  | _ => .fail
theorem table8S_ok : Sound Tryd.prog 79 table8S := by
  intro args out h
  unfold table8S at h
  split at h
  rotate_left
  · cases h
  have h := leaf_out h
  subst h
  exact pcall_fun' (cx := cx79) (fn := Tryd.f79) (cx1_ok (fun p h => by cases h) (.cons rows92S_ok (fun p h => by cases h)) rfl rfl) (by kernel_rfl) (by kernel_rfl) (by kernel_rfl) table8_run

/-- The context of foundry/foundryref8.find. -/
noncomputable def cx55 : Cx := { P := Tryd.prog, n := 25, tab := [(79, table8S)], mtab := [], refs := [], keeps := [0, 2, 3, 4, 5, 10, 19], fuel := 66 }
abbrev row8LV (r : Row8) : List V := [.int .u8 r.1, .str r.2.1, .int .u32 r.2.2.1, .int .u32 r.2.2.2.1, .int .u32 r.2.2.2.2]
def zero8 : Row8 := (0, [], 0, 0, 0)
def chain8 (nm : List UInt8) : List Row8 → Option V
  | [] => some (.tup [.agg (row8LV zero8), .bool false])
  | y :: r => cond (strEq y.2.1 nm) (some (.tup [.agg (row8LV y), .bool true])) (chain8 nm r)
theorem find8_eq (nm : List UInt8) : (dfun cx55 Tryd.f55 [.str nm]).fin = chain8 nm rows8L := by kernel_rfl
def find8 (nm : List UInt8) : Option Row8 := rows8L.find? fun r => strEq r.2.1 nm
def fok8 (nm : List UInt8) : Bool := (find8 nm).isSome
theorem chain8_eq (nm : List UInt8) : ∀ (l : List Row8), chain8 nm l = match l.find? (fun r => strEq r.2.1 nm) with
      | some x => some (.tup [.agg (row8LV x), .bool true])
      | none => some (.tup [.agg (row8LV zero8), .bool false])
  | [] => rfl
  | x :: r => by
    unfold chain8
    rw [chain8_eq nm r, List.find?_cons]
    cases strEq x.2.1 nm <;> rfl
theorem cx55_ok : CxOk cx55 := cx1_ok (ok1 table8S_ok) (fun p h => by cases h) rfl rfl
def findAt8 (x : Row8) : Ab.Spec := fun args => match args with
  | [.str nm] => .req (strEq x.2.1 nm) (.leaf (.tup [.agg (row8LV x), .bool true]))
  | _ => .fail
theorem names8_all : rows8L.map (fun x => (find8 x.2.1) == some x) = rows8L.map fun _ => true := by kernel_rfl
theorem find8_of {x : Row8} (hx : x ∈ rows8L) {nm : List UInt8} (h : strEq x.2.1 nm = true) : find8 nm = some x := by
  have e : x.2.1 = nm := eq_of_beq h
  subst e
  exact eq_of_beq (List.map_inj_left.1 names8_all _ hx)
theorem findAt8_ok {x : Row8} (hx : x ∈ rows8L) : Sound Tryd.prog 55 (findAt8 x) := by
  intro args out h
  unfold findAt8 at h
  split at h
  rotate_left
  · cases h
  obtain ⟨h1, h⟩ := req_run h
  have h := leaf_out h
  subst h
  refine pcall_fun' (cx := cx55) (fn := Tryd.f55) cx55_ok (by kernel_rfl) (by kernel_rfl) rfl ((Tree.fin_run _).symm.trans ((find8_eq _).trans ?_))
  have hf := find8_of hx h1
  unfold find8 at hf
  rw [chain8_eq, hf]
def findNo8 : Ab.Spec := fun args => match args with
  | [.str nm] => .req (!fok8 nm) (.leaf (.tup [.agg (row8LV zero8), .bool false]))
  | _ => .fail
theorem findNo8_ok : Sound Tryd.prog 55 findNo8 := by
  intro args out h
  unfold findNo8 at h
  split at h
  rotate_left
  · cases h
  obtain ⟨h1, h⟩ := req_run h
  have h := leaf_out h
  subst h
  refine pcall_fun' (cx := cx55) (fn := Tryd.f55) cx55_ok (by kernel_rfl) (by kernel_rfl) rfl ((Tree.fin_run _).symm.trans ((find8_eq _).trans ?_))
  have h1 : fok8 _ = false := (Bool.not_eq_true' _).mp h1
  unfold fok8 find8 at h1
  rw [chain8_eq, Option.isSome_eq_false_iff.1 h1 |> Option.isNone_iff_eq_none.1]

/-! A register. -/

def ops8 (f : Int) : List UInt8 := cond (f == 82) [65, 66, 67] (cond (f == 73 || (f == 104 || f == 119)) [65, 66, 105] (cond (f == 83) [67, 66, 105] (cond (f == 66) [66, 67, 106] (cond (f == 85) [65, 105] (cond (f == 74) [65, 106] [])))))
def lets8 : List (List UInt8 × Int) := [82, 73, 83, 66, 85, 74, 120].flatMap fun f => [65, 66, 67].map fun c => (ops8 f, c)
noncomputable def has8_ps : List Fi := [⟨59, Tryd.f59, [0, 1, 4, 5, 9, 16], [], 5⟩]
theorem has8_ps_ok : FisOk Tryd.prog has8_ps := ⟨⟨by kernel_rfl, by kernel_rfl⟩, trivial⟩
noncomputable def has8_ms : List Fi := []
theorem has8_ms_ok : FisOk Tryd.prog has8_ms := trivial
noncomputable def has8 (d : Nat) : Tabs := deep Tryd.prog {} has8_ps has8_ms d
noncomputable def cxR8 : Cx := { P := Tryd.prog, n := 19, tab := (has8 1).tab, mtab := [], refs := [], keeps := [0, 1, 2, 6, 10] }
theorem cxR8_ok : CxOk cxR8 := cx1_ok (deep_ok (tabs_ok (.nil _) (fun p h => by cases h)) has8_ps_ok has8_ms_ok 1).1 (fun p h => by cases h) rfl rfl
def reg8 (o : List UInt8) (c n : Int) : Bool := cond (o.contains (UInt8.ofNat c.toNat)) (decide (0 ≤ n) && decide (n ≤ 31)) (n == 0)
noncomputable def r8R (p : List UInt8 × Int) (n : Int) : Option V := (dfun cxR8 Tryd.f57 [.str p.1, .int .u8 p.2, .int .i64 n]).fin
def r8O (p : List UInt8 × Int) (n : Int) : Option V := cond (p.1.contains (UInt8.ofNat p.2.toNat)) (cond (decide (0 ≤ n)) (some (.bool (decide (n ≤ 31)))) (some (.bool false))) (some (.bool (n == 0)))
theorem r8_all : lets8.map r8R = lets8.map r8O := by kernel_rfl
def reg8S : Ab.Spec := fun args => match args with
  | [.str o, .int .u8 c, .int .i64 n] => .req (lets8.contains (o, c)) (.leaf (.bool (reg8 o c n)))
  | _ => .fail
theorem reg8S_ok : Sound Tryd.prog 57 reg8S := by
  intro args out h
  unfold reg8S at h
  split at h
  rotate_left
  · cases h
  rename_i o c n
  obtain ⟨h1, h⟩ := req_run h
  have h := leaf_out h
  subst h
  have hm : (o, c) ∈ lets8 := List.contains_iff_mem.1 h1
  have hw := congrFun (List.map_inj_left.1 r8_all _ hm) n
  refine pcall_fun' (cx := cxR8) (fn := Tryd.f57) cxR8_ok (by kernel_rfl) (by kernel_rfl) rfl ((Tree.fin_run _).symm.trans (hw.trans ?_))
  unfold r8O reg8
  simp only
  cases o.contains (UInt8.ofNat c.toNat)
  · rfl
  · cases decide (0 ≤ n) <;> rfl

/-! Check. -/

noncomputable def ck8A_ps : List Fi := [⟨56, Tryd.f56, [0, 2, 3, 4, 5, 12, 14, 15, 17, 21, 23, 25, 27], [], 0⟩, ⟨58, Tryd.f58, [0, 2, 3, 4, 5, 6, 9, 11, 13, 15, 17], [], 0⟩, ⟨59, Tryd.f59, [0, 1, 4, 5, 9, 16], [], 5⟩]
theorem ck8A_ps_ok : FisOk Tryd.prog ck8A_ps := ⟨⟨by kernel_rfl, by kernel_rfl⟩, ⟨by kernel_rfl, by kernel_rfl⟩, ⟨by kernel_rfl, by kernel_rfl⟩, trivial⟩
noncomputable def ck8A_ms : List Fi := []
theorem ck8A_ms_ok : FisOk Tryd.prog ck8A_ms := trivial
noncomputable def ck8A (d : Nat) : Tabs := deep Tryd.prog {} ck8A_ps ck8A_ms d
noncomputable def T8 (x : Row8) : Tabs := deep Tryd.prog { tab := [(55, findAt8 x)] } ck8A_ps ck8A_ms 1
noncomputable def cxC8 (x : Row8) : Cx := { P := Tryd.prog, n := 81, tab := (57, reg8S) :: (T8 x).tab, mtab := [], refs := [], keeps := [0, 1, 2, 3, 4, 5, 7, 8, 9, 17, 47, 62, 65, 75, 80] }
theorem cxC8_ok {x : Row8} (hx : x ∈ rows8L) : CxOk (cxC8 x) := cx1_ok (.cons reg8S_ok (deep_ok (tabs_ok (ok1 (findAt8_ok hx)) (fun p h => by cases h)) ck8A_ps_ok ck8A_ms_ok 1).1) (fun p h => by cases h) rfl rfl
def bnd8 (f : Int) : Int × Int × Int :=
  cond (f == 73 || f == 83) (-2048, 2047, 1) (cond (f == 104) (0, 63, 1) (cond (f == 119) (0, 31, 1) (cond (f == 66) (-4096, 4094, 2) (cond (f == 85) (-524288, 524287, 1) (cond (f == 74) (-1048576, 1048574, 2) (0, 0, 1))))))
def iO8 (n : Int) : Option V := some (.int .i64 n)
def num8 (x : Row8) (n : Int) : Int := cond (decide (n < (bnd8 x.1).1)) 3 (cond (decide ((bnd8 x.1).2.1 < n)) 3 (cond (Int.tmod n (bnd8 x.1).2.2 != 0) 10 0))
def chk8 (x : Row8) (i : InsT) : Int :=
  cond (!reg8 (ops8 x.1) 65 i.2.1) 13 (cond (!reg8 (ops8 x.1) 66 i.2.2.1) 13 (cond (!reg8 (ops8 x.1) 67 i.2.2.2.1) 13 (cond (i.2.2.2.2.1 != 0) 13
    (cond (!(ops8 x.1).contains 105 && !(ops8 x.1).contains 106) (cond (i.2.2.2.2.2 != 0) 13 0) (num8 x i.2.2.2.2.2)))))
def ck8O (x : Row8) (nm : List UInt8) (a b c d n : Int) : Option V :=
  cond (strEq x.2.1 nm) (cond (strEq x.2.1 nm) (cond (!reg8 (ops8 x.1) 65 a) (iO8 13) (cond (!reg8 (ops8 x.1) 66 b) (iO8 13) (cond (!reg8 (ops8 x.1) 67 c) (iO8 13) (cond (d != 0) (iO8 13)
    (cond (!(ops8 x.1).contains 105 && !(ops8 x.1).contains 106) (cond (n != 0) (iO8 13) (iO8 0)) (cond (decide (n < (bnd8 x.1).1)) (iO8 3) (cond (decide ((bnd8 x.1).2.1 < n)) (iO8 3) (cond (Int.tmod n (bnd8 x.1).2.2 != 0) (iO8 10) (iO8 0))))))))) none) none
noncomputable def ck8R (x : Row8) (nm : List UInt8) (a b c d n : Int) : Option V := (dfun (cxC8 x) Tryd.f38 [.agg [.str nm, .int .i64 a, .int .i64 b, .int .i64 c, .int .i64 d, .int .i64 n]]).fin
def part8 (k : Nat) : List Row8 := (rows8L.drop (11 * k)).take 11
theorem ck8_0 : (part8 0).map ck8R = (part8 0).map ck8O := by kernel_rfl
theorem ck8_1 : (part8 1).map ck8R = (part8 1).map ck8O := by kernel_rfl
theorem ck8_2 : (part8 2).map ck8R = (part8 2).map ck8O := by kernel_rfl
theorem ck8_3 : (part8 3).map ck8R = (part8 3).map ck8O := by kernel_rfl
theorem ck8_4 : (part8 4).map ck8R = (part8 4).map ck8O := by kernel_rfl
theorem ck8_5 : (part8 5).map ck8R = (part8 5).map ck8O := by kernel_rfl
theorem parts8 : rows8L = part8 0 ++ (part8 1 ++ (part8 2 ++ (part8 3 ++ (part8 4 ++ part8 5)))) := by kernel_rfl
theorem ck8_all {x : Row8} (hx : x ∈ rows8L) : ck8R x = ck8O x := by
  have h : rows8L.map ck8R = rows8L.map ck8O := by
    rw [parts8]
    simp only [List.map_append]
    rw [ck8_0, ck8_1, ck8_2, ck8_3, ck8_4, ck8_5]
  exact List.map_inj_left.1 h _ hx
noncomputable def cxN8 : Cx := { P := Tryd.prog, n := 81, tab := [(55, findNo8)], mtab := [], refs := [], keeps := [0, 1, 2, 3, 4, 5, 7, 8, 9, 17, 47, 62, 65, 75, 80] }
theorem ckN8_eq (nm : List UInt8) (a b c d n : Int) : (dfun cxN8 Tryd.f38 [.agg [.str nm, .int .i64 a, .int .i64 b, .int .i64 c, .int .i64 d, .int .i64 n]]).fin = cond (!fok8 nm) (iO8 7) none := by kernel_rfl
/-- The document's Check of a long one. -/
def chkL (i : InsT) : Int := match find8 i.1 with
  | some x => chk8 x i
  | none => 7
def check8S : Ab.Spec := fun args => match args with
  | [.agg [.str nm, .int .i64 a, .int .i64 b, .int .i64 c, .int .i64 d, .int .i64 n]] => .leaf (.int .i64 (chkL (nm, a, b, c, d, n)))
  | _ => .fail
theorem ck8O_eq {x : Row8} {nm : List UInt8} (h : strEq x.2.1 nm = true) (a b c d n : Int) : ck8O x nm a b c d n = some (.int .i64 (chk8 x (nm, a, b, c, d, n))) := by
  unfold ck8O chk8 num8
  rw [h]
  simp only [cond_true]
  cases (!reg8 (ops8 x.1) 65 a)
  rotate_left
  · rfl
  cases (!reg8 (ops8 x.1) 66 b)
  rotate_left
  · rfl
  cases (!reg8 (ops8 x.1) 67 c)
  rotate_left
  · rfl
  cases (d != 0)
  rotate_left
  · rfl
  cases (!(ops8 x.1).contains 105 && !(ops8 x.1).contains 106)
  rotate_left
  · cases (n != 0) <;> rfl
  cases decide (n < (bnd8 x.1).1)
  rotate_left
  · rfl
  cases decide ((bnd8 x.1).2.1 < n)
  rotate_left
  · rfl
  cases (Int.tmod n (bnd8 x.1).2.2 != 0) <;> rfl
theorem check8S_ok : Sound Tryd.prog 38 check8S := by
  intro args out h
  unfold check8S at h
  split at h
  rotate_left
  · cases h
  rename_i nm a b c d n
  have h := leaf_out h
  subst h
  cases hf : find8 nm with
  | none =>
    have e : chkL (nm, a, b, c, d, n) = 7 := by unfold chkL; simp only; rw [hf]
    rw [e]
    refine pcall_fun' (cx := cxN8) (fn := Tryd.f38) (cx1_ok (ok1 findNo8_ok) (fun p h => by cases h) rfl rfl) (by kernel_rfl) (by kernel_rfl) rfl ((Tree.fin_run _).symm.trans ((ckN8_eq nm a b c d n).trans ?_))
    have : fok8 nm = false := by unfold fok8; rw [hf]; rfl
    rw [this]
    rfl
  | some x =>
    have e : chkL (nm, a, b, c, d, n) = chk8 x (nm, a, b, c, d, n) := by unfold chkL; simp only; rw [hf]
    rw [e]
    have hx : x ∈ rows8L := List.mem_of_find?_eq_some hf
    have hn : strEq x.2.1 nm = true := List.find?_some (p := fun r : Row8 => strEq r.2.1 nm) hf
    have hw := congrFun (congrFun (congrFun (congrFun (congrFun (congrFun (ck8_all hx) nm) a) b) c) d) n
    rw [ck8O_eq hn] at hw
    exact pcall_fun' (cx := cxC8 x) (fn := Tryd.f38) (cxC8_ok hx) (by kernel_rfl) (by kernel_rfl) rfl ((Tree.fin_run _).symm.trans hw)

end Go.Cmp
