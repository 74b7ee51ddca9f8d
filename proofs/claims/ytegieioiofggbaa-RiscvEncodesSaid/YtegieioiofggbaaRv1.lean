/-
  The table of riscv: (*list).add and rows. Conditions: none.
-/
import Derived.Test.YtegieioiofggbaaAbY
import Derived.Test.YtegieioiofggbaaProg
import Derived.KernelRfl
namespace Go.Rv
open Go Go.Ab Go.Proofs

def or32 (a b : Int) : Int := IntKind.wrap .u32 ↑(BitVec.toNat (BitVec.ofInt 32 a ||| BitVec.ofInt 32 b))
def shl32 (a : Int) (n : Nat) : Int := IntKind.wrap .u32 (a * 2 ^ n)
abbrev namedE : EC := .prod [.str, .int .u32, .int .u32]
abbrev rowE : EC := .prod [.str, .int .i64, .int .u32]
abbrev RowT := List UInt8 × Int × Int
def mkRow (f op : Int) (x : namedE.ty) : rowE.ty := (x.1, f, or32 (or32 op (shl32 x.2.1 12)) (shl32 x.2.2 25))

def addS : MSpec := fun args H => match args, H with
  | [.ptr 0 0, .int .i64 f, .int .u32 op, .sl c ns _ _], [.cells [.gro 1 d l] 83, .tok n 3] => match EC.same c namedE, EC.same d rowE with
    | some ⟨h⟩, some ⟨k⟩ => .req (Nat.beq n l.length) (.req (roomy (l.length + ns.length) 32) (.leaf (.ok (.tup []) [.cells [.gro 1 rowE (castL k l ++ (castL h ns).map (mkRow f op))] 83, .tok (l.length + ns.length) 3])))
    | _, _ => .fail
  | _, _ => .fail

noncomputable def cxAdd : Cx := { P := Try.prog, n := 37, tab := [], mtab := [], refs := [], keeps := [0, 1, 2, 3, 9, 10, 11, 12, 13] }

theorem cxAdd_ok : CxOk cxAdd := ⟨.nil _, .nil _⟩

def addSt (f op : Int) (ns : List namedE.ty) (sp : List namedE.ty) (fl : Fl) (l : List rowE.ty) (i : { i : Nat // i ≤ ns.length }) : T × List O :=
  ([(0, .ptr 0 0), (1, .int .i64 f), (2, .int .u32 op), (10, .sl namedE ns sp fl), (11, .int .i64 ns.length), (12, .int .i64 i.1)],
   [.cells [.gro 1 rowE (l ++ (ns.take i.1).map (mkRow f op))] 83, .tok (l ++ (ns.take i.1).map (mkRow f op)).length 3])

/-- One round, as the evaluator has it. -/
theorem add_round (f op : Int) (ns sp : List namedE.ty) (fl : Fl) (l : List rowE.ty) (i : Int) :
    dcode cxAdd (cin (cin (c2 (bodyOf Try.f42)))) [(0, .ptr 0 0), (1, .int .i64 f), (2, .int .u32 op), (10, .sl namedE ns sp fl), (11, .int .i64 ns.length), (12, .int .i64 i)]
      [.cells [.gro 1 rowE l] 83, .tok l.length 3] =
    .br (decide (i < ns.length)) (.br (inside i ns.length) (.br true (.br true (.br (decide (l.length = l.length) && roomy (l.length + [mkRow f op (ns.getD i.toNat (EC.dflt namedE))].length) 32)
      (.leaf (.normal, [(0, .ptr 0 0), (1, .int .i64 f), (2, .int .u32 op), (9, .ptr 2 0), (10, .sl namedE ns sp fl), (11, .int .i64 ns.length), (12, .int .i64 (IntKind.wrap .i64 (i + 1))), (13, .bool true)],
        [.cells [.gro 1 rowE (l ++ [mkRow f op (ns.getD i.toNat (EC.dflt namedE))])] 83, .tok (l.length + [mkRow f op (ns.getD i.toNat (EC.dflt namedE))].length) 3,
          .cells [.str (ns.getD i.toNat (EC.dflt namedE)).1, .int .u32 (ns.getD i.toNat (EC.dflt namedE)).2.1, .int .u32 (ns.getD i.toNat (EC.dflt namedE)).2.2] 86])) .fail) .fail) .fail) .fail)
      (.leaf (.exit 0, [(0, .ptr 0 0), (1, .int .i64 f), (2, .int .u32 op), (10, .sl namedE ns sp fl), (11, .int .i64 ns.length), (12, .int .i64 i), (13, .bool false)],
        [.cells [.gro 1 rowE l] 83, .tok l.length 3])) := by
  kernel_rfl

theorem add_ok (f op : Int) (ns sp : List namedE.ty) (fl : Fl) (l : List rowE.ty) (hroom : roomy (l.length + ns.length) 32 = true) :
    MCall Try.prog 42 [.ptr 0 0, .int .i64 f, .int .u32 op, .sl namedE ns sp fl] [.cells [.gro 1 rowE l] 83, .tok l.length 3]
      (.ok (.tup []) [.cells [.gro 1 rowE (l ++ ns.map (mkRow f op))] 83, .tok (l.length + ns.length) 3]) := by
  have hlen : l.length + ns.length ≤ 4398046511104 := by
    have := of_decide_eq_true hroom
    omega
  refine mcall_of' (c := bodyOf Try.f42) (fn := Try.f42) (by kernel_rfl) (by kernel_rfl) (by kernel_rfl) (by kernel_rfl) ?_
  have e : bodyOf Try.f42 = .seq (c1 (bodyOf Try.f42)) (.block 0 (.loop (cin (cin (c2 (bodyOf Try.f42)))))) := by kernel_rfl
  rw [e]
  refine AWP_seq (AWP_run (cx := cxAdd) rfl rfl cxAdd_ok (s := (.normal, [(0, .ptr 0 0), (1, .int .i64 f), (2, .int .u32 op), (3, .sl namedE ns sp fl), (10, .sl namedE ns sp fl), (11, .int .i64 ns.length), (12, .int .i64 0)],
    [.cells [.gro 1 rowE l] 83, .tok l.length 3])) (by kernel_rfl) ?_)
  show AWP _ _ _ _ _ _
  refine AWP_block ?_
  refine AWP.less (s := (addSt f op ns sp fl l ⟨0, Nat.zero_le _⟩).1) (Fits.tle ⟨rfl, rfl, rfl, rfl, rfl, rfl, trivial⟩) ?_
  have := AWP_rounds (cx := cxAdd) (P := Try.prog) (n := 37) rfl rfl cxAdd_ok (addSt f op ns sp fl l) (fun i => ns.length - i.1) (body := cin (cin (c2 (bodyOf Try.f42))))
    (Q := blockQ 0 (MPost Try.prog Try.f42 (.ok (.tup []) [.cells [.gro 1 rowE (l ++ ns.map (mkRow f op))] 83, .tok (l.length + ns.length) 3]))) ?_ ⟨0, Nat.zero_le _⟩
  · simpa [addSt] using this
  rintro ⟨i, hi⟩
  show Tree.all _ (dcode cxAdd _ _ _)
  unfold addSt
  rw [add_round]
  refine ⟨fun hlt => ⟨fun hin => ⟨fun _ => ⟨fun _ => ⟨fun hr => ?_, fun hr => ?_⟩, fun h => ?_⟩, fun h => ?_⟩, fun hin => ?_⟩, fun hge => ?_⟩
  · have hlt : i < ns.length := by simpa using hlt
    refine ⟨[], _, rfl, ?_⟩
    refine ⟨⟨i + 1, hlt⟩, by show ns.length - (i + 1) < ns.length - i; omega, Fits.tle ⟨rfl, rfl, rfl, rfl, rfl, ?_, trivial⟩, ?_⟩
    · show V.int .i64 (IntKind.wrap .i64 ((i : Int) + 1)) = V.int .i64 ((i + 1 : Nat) : Int)
      rw [wrap_i64 (by omega) (by omega)]
      rfl
    · have ht : ns.take (i + 1) = ns.take i ++ [ns.getD i (EC.dflt namedE)] := by
        rw [List.take_add_one]
        simp [List.getElem?_eq_getElem hlt, List.getD]
      show [_, _] = [_, _]
      simp [ht, Nat.add_assoc]
  · exfalso
    have hlt : i < ns.length := by simpa using hlt
    have : (decide ((l ++ List.map (mkRow f op) (List.take i ns)).length = (l ++ List.map (mkRow f op) (List.take i ns)).length) && roomy ((l ++ List.map (mkRow f op) (List.take i ns)).length + 1) 32) = true := by
      simp [roomy]; omega
    exact Bool.noConfusion (this.symm.trans hr)
  · cases h
  · cases h
  · exfalso
    have hlt : i < ns.length := by simpa using hlt
    exact Bool.noConfusion ((inside_of (by omega : (0 : Int) ≤ i) (by omega)).symm.trans hin)
  · have hge : ¬ ((i : Int) < ns.length) := of_decide_eq_false hge
    have : i = ns.length := by omega
    subst this
    refine ⟨[], _, rfl, ?_⟩
    refine ⟨.inr rfl, ?_, rfl⟩
    show [_, _] = [_, _]
    simp

theorem same_eq {c d : EC} {h : c = d} {l : List c.ty} {sp : List c.ty} {fl : Fl} : V.sl c l sp fl = V.sl d (castL h l) (castL h sp) fl := by subst h; rfl
theorem same_gro {id : Nat} {c d : EC} {h : c = d} {l : List c.ty} : V.gro id c l = V.gro id d (castL h l) := by subst h; rfl
theorem castL_len {c d : EC} {h : c = d} {l : List c.ty} : (castL h l).length = l.length := by subst h; rfl

theorem addS_ok : MSound Try.prog 42 addS := by
  intro args H r h
  unfold addS at h
  split at h
  rotate_left
  · cases h
  rename_i f op c ns sp fl d l n
  split at h
  rotate_left
  · cases h
  rename_i hc hd _ _
  obtain ⟨h1, g1⟩ := req_run h
  obtain ⟨h2, g2⟩ := req_run g1
  clear h g1
  have h1 := Nat.eq_of_beq_eq_true h1
  cases g2
  subst hc
  subst hd
  subst h1
  exact add_ok f op ns sp fl l h2

@[irreducible] def rowsL : List RowT := [
  ([97, 100, 100], 0, 51),
  ([115, 117, 98], 0, 1073741875),
  ([115, 108, 108], 0, 4147),
  ([115, 108, 116], 0, 8243),
  ([115, 108, 116, 117], 0, 12339),
  ([120, 111, 114], 0, 16435),
  ([115, 114, 108], 0, 20531),
  ([115, 114, 97], 0, 1073762355),
  ([111, 114], 0, 24627),
  ([97, 110, 100], 0, 28723),
  ([109, 117, 108], 0, 33554483),
  ([109, 117, 108, 104], 0, 33558579),
  ([109, 117, 108, 104, 115, 117], 0, 33562675),
  ([109, 117, 108, 104, 117], 0, 33566771),
  ([100, 105, 118], 0, 33570867),
  ([100, 105, 118, 117], 0, 33574963),
  ([114, 101, 109], 0, 33579059),
  ([114, 101, 109, 117], 0, 33583155),
  ([97, 100, 100, 119], 0, 59),
  ([115, 117, 98, 119], 0, 1073741883),
  ([115, 108, 108, 119], 0, 4155),
  ([115, 114, 108, 119], 0, 20539),
  ([115, 114, 97, 119], 0, 1073762363),
  ([109, 117, 108, 119], 0, 33554491),
  ([100, 105, 118, 119], 0, 33570875),
  ([100, 105, 118, 117, 119], 0, 33574971),
  ([114, 101, 109, 119], 0, 33579067),
  ([114, 101, 109, 117, 119], 0, 33583163),
  ([97, 100, 100, 105], 1, 19),
  ([115, 108, 116, 105], 1, 8211),
  ([115, 108, 116, 105, 117], 1, 12307),
  ([120, 111, 114, 105], 1, 16403),
  ([111, 114, 105], 1, 24595),
  ([97, 110, 100, 105], 1, 28691),
  ([97, 100, 100, 105, 119], 1, 27),
  ([108, 98], 1, 3),
  ([108, 104], 1, 4099),
  ([108, 119], 1, 8195),
  ([108, 100], 1, 12291),
  ([108, 98, 117], 1, 16387),
  ([108, 104, 117], 1, 20483),
  ([108, 119, 117], 1, 24579),
  ([106, 97, 108, 114], 1, 103),
  ([115, 108, 108, 105], 2, 4115),
  ([115, 114, 108, 105], 2, 20499),
  ([115, 114, 97, 105], 2, 1073762323),
  ([115, 108, 108, 105, 119], 3, 4123),
  ([115, 114, 108, 105, 119], 3, 20507),
  ([115, 114, 97, 105, 119], 3, 1073762331),
  ([115, 98], 4, 35),
  ([115, 104], 4, 4131),
  ([115, 119], 4, 8227),
  ([115, 100], 4, 12323),
  ([98, 101, 113], 5, 99),
  ([98, 110, 101], 5, 4195),
  ([98, 108, 116], 5, 16483),
  ([98, 103, 101], 5, 20579),
  ([98, 108, 116, 117], 5, 24675),
  ([98, 103, 101, 117], 5, 28771),
  ([108, 117, 105], 6, 55),
  ([97, 117, 105, 112, 99], 6, 23),
  ([106, 97, 108], 7, 111),
  ([101, 99, 97, 108, 108], 8, 115),
  ([101, 98, 114, 101, 97, 107], 8, 1048691)]

noncomputable def cxRows : Cx := { P := Try.prog, n := 96, tab := [], mtab := [(42, addS)], refs := [], keeps := [0, 1] }
theorem cxRows_ok : CxOk cxRows := ⟨.nil _, .cons addS_ok (.nil _)⟩

def rowsS : Ab.Spec := fun args => match args with
  | [] => .leaf (.sl rowE rowsL [] .ro)
  | _ => .fail

theorem rows_run : (dfun cxRows Try.f28 []).run = some (.sl rowE rowsL [] .ro) := by kernel_rfl

theorem rowsS_ok : Sound Try.prog 28 rowsS := by
  intro args out h
  unfold rowsS at h
  split at h
  rotate_left
  · cases h
  simp only [Tree.run, Option.some.injEq] at h
  subst h
  exact pcall_fun' (cx := cxRows) (fn := Try.f28) cxRows_ok (by kernel_rfl) (by kernel_rfl) (by kernel_rfl) rows_run

end Go.Rv
