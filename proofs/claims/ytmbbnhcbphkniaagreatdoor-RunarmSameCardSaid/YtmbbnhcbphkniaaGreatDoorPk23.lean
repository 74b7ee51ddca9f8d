/-
  runarm: Run, whatever state, operands and memory: its functions by their own texts, but for what is one answer. Conditions: none.
-/
import Derived.Test.YtmbbnhcbphkniaaGreatDoorPk22
set_option linter.unusedVariables false
set_option linter.unusedSimpArgs false
namespace Go.Ra
open Go Go.Ab Go.Proofs
abbrev InsR := List UInt8 × Int × Int × Int × Int × Int
def mayP (mb : InsR → Bool) : Ab.Spec := fun args => match args with
  | [.agg [.str nm, .int .i64 a, .int .i64 b, .int .i64 c, .int .i64 d, .int .i64 m]] => .leaf (.bool (mb (nm, a, b, c, d, m)))
  | _ => .fail
section
variable (mb : InsR → Bool)
noncomputable def ruB : Tabs := { tab := [(24, mayP mb), (110, add64S), (112, sub64S), (11, holdsS), (58, fieldS), (57, divideS), (56, divuS)], mtab := [(51, setM), (16, loadM), (62, storeM), (45, rightsM)], rtab := [(52, regR)] }
noncomputable def ruM_ps : List Fi := [⟨60, Tryz.f60, [0, 2, 3, 4, 5, 6, 8, 10, 13, 16, 18, 20, 22], [], 0, []⟩]
theorem ruM_ps_ok : FisOk Tryz.prog ruM_ps := ⟨⟨by kernel_rfl, by kernel_rfl⟩, trivial⟩
noncomputable def ruM_ms : List Fi := [⟨61, Tryz.f61, [0, 1, 4, 5, 32, 47], [], 0, []⟩]
theorem ruM_ms_ok : FisOk Tryz.prog ruM_ms := ⟨⟨by kernel_rfl, by kernel_rfl⟩, trivial⟩
noncomputable def ruM (d : Nat) : Tabs := deep Tryz.prog (ruB mb) ruM_ps ruM_ms d
noncomputable def cxMemG : Cx := { P := Tryz.prog, n := Tryz.f27.ntmps, tab := (ruM mb 1).tab, mtab := (ruM mb 1).mtab, rtab := (ruM mb 1).rtab, refs := [], keeps := [0, 2, 3, 4, 5, 6, 7, 8, 9, 10, 11, 12, 25, 38, 45, 70, 74, 81, 94], lz := [32] }
noncomputable def memoryG : MSpec := fun args H => .req (Nat.ble args.length Tryz.f27.ntmps) (dfunL (cxMemG mb) cxSet Tryz.f27 51 Tryz.f51 args H)
noncomputable def ruC : Tabs := { ruB mb with mtab := (27, memoryG mb) :: (ruB mb).mtab }
noncomputable def ruT_ps : List Fi := []
theorem ruT_ps_ok : FisOk Tryz.prog ruT_ps := trivial
noncomputable def ruT_ms : List Fi := [⟨25, Tryz.f25, [0, 2, 3, 4, 13, 14, 25, 37, 58, 81, 104, 125, 146, 161, 176, 191, 205, 218], [], 0, [69, 80, 92, 103, 116, 137, 160, 175, 190]⟩, ⟨26, Tryz.f26, [0, 2, 3, 4, 5, 6, 25, 30, 39, 48, 58, 68, 77, 86, 95, 106, 120, 134, 143, 154, 164, 174, 186, 198], [], 0, []⟩, ⟨59, Tryz.f59, [0, 1, 2, 6, 20, 30, 49], [], 0, []⟩, ⟨28, Tryz.f28, [0, 2, 3, 4, 23, 24, 29, 37, 45, 49, 55, 59, 65, 69, 78], [], 0, []⟩, ⟨63, Tryz.f63, [0, 1], [], 0, []⟩, ⟨53, Tryz.f53, [0, 1, 2, 6, 7, 8], [], 0, []⟩, ⟨54, Tryz.f54, [0, 1, 2, 6, 7, 8], [], 0, []⟩, ⟨55, Tryz.f55, [0, 1, 4], [], 0, []⟩, ⟨111, Tryz.f111, [0, 1], [], 0, []⟩]
theorem ruT_ms_ok : FisOk Tryz.prog ruT_ms := ⟨⟨by kernel_rfl, by kernel_rfl⟩, ⟨by kernel_rfl, by kernel_rfl⟩, ⟨by kernel_rfl, by kernel_rfl⟩, ⟨by kernel_rfl, by kernel_rfl⟩, ⟨by kernel_rfl, by kernel_rfl⟩, ⟨by kernel_rfl, by kernel_rfl⟩, ⟨by kernel_rfl, by kernel_rfl⟩, ⟨by kernel_rfl, by kernel_rfl⟩, ⟨by kernel_rfl, by kernel_rfl⟩, trivial⟩
noncomputable def ruT (d : Nat) : Tabs := deep Tryz.prog (ruC mb) ruT_ps ruT_ms d
noncomputable def cxRunG : Cx := { P := Tryz.prog, n := Tryz.f14.ntmps, tab := (ruT mb 3).tab, mtab := (ruT mb 3).mtab, rtab := (ruT mb 3).rtab, refs := [], keeps := [0, 1, 2, 3, 4, 5, 8, 9, 10, 11, 12, 13, 14, 18, 23, 40, 41, 55, 68, 75, 78, 86] }
noncomputable def runG : MSpec := mfunR (cxRunG mb) Tryz.f14 []
abbrev RunTy := CpuT → Int → Int → Int → Int → Int → Int → List Int → List Int → List Int → List Int → List Int → Option Res
noncomputable def runE (nm : List UInt8) : RunTy := fun s a b c d m sz A B C D E => (runG mb [.agg s.l, insV nm a b c d m, .int .i64 sz, .ptr 0 0] (memO A B C D E)).fin
def q (c : Bool) (k : Option Res) : Option Res := cond c k none
def errK (s : CpuT) (e : Int) (H : List O) : Option Res := some (.ok (.tup [.agg s.l, .int .i64 0, .int .i64 e]) H)
def outK (L : List V) (ev : Int) (H : List O) : Option Res := some (.ok (.tup [.agg L, .int .i64 ev, .int .i64 0]) H)
def pcL (nx : Int) (L : List V) : List V := .int .u64 nx :: L.drop 1
def finK (s : CpuT) (L : List V) (nx : Int) (H : List O) : Option Res := cond (Int.tmod nx 4 != 0) (errK s 10 H) (outK (pcL nx L) 0 H)
def topK (nm : List UInt8) (K : RunTy) : RunTy := fun s a b c d m sz A B C D E =>
  cond (sz != 4) (errK s 1 (memO A B C D E)) (cond (!mb (nm, a, b, c, d, m)) (errK s 22 (memO A B C D E)) (cond (Int.tmod s.pc 4 != 0) (errK s 10 (memO A B C D E)) (K s a b c d m sz A B C D E)))
end
def nxF (s : CpuT) (sz : Int) : Int := wu (s.pc + wu sz)
def stC (s : CpuT) (nm : List UInt8) (a b c d m nx : Int) : List V := s.l ++ (.ptr 1 0 :: [.str nm, .int .i64 a, .int .i64 b, .int .i64 c, .int .i64 d, .int .i64 m, .int .u64 nx])
def setL (a v : Int) (L : List V) : List V := setI .u64 (oX a) v 0 L
def c16 (d : Int) : Int := wi (16 * d)
def c12 (d : Int) : Int := wi (12 * d)
def andU (a b : Int) : Int := IntKind.wrap .u64 (((BitVec.ofInt 64 a &&& BitVec.ofInt 64 b).toNat : Nat) : Int)
def orU (a b : Int) : Int := IntKind.wrap .u64 (((BitVec.ofInt 64 a ||| BitVec.ofInt 64 b).toNat : Nat) : Int)
def xorU (a b : Int) : Int := IntKind.wrap .u64 (((BitVec.ofInt 64 a ^^^ BitVec.ofInt 64 b).toNat : Nat) : Int)
def andnU (a b : Int) : Int := IntKind.wrap .u64 (((BitVec.ofInt 64 a &&& ~~~BitVec.ofInt 64 b).toNat : Nat) : Int)
def notU (a : Int) : Int := IntKind.wrap .u64 (((BitVec.ofInt 64 (IntKind.max .u64) ^^^ BitVec.ofInt 64 a).toNat : Nat) : Int)
def and31 (c : Int) : Int := IntKind.wrap .i64 (((BitVec.ofInt 64 c &&& BitVec.ofInt 64 31).toNat : Nat) : Int)
def flagL (z n c v : Bool) (L : List V) : List V := (((L.set 33 (.bool z)).set 34 (.bool n)).set 35 (.bool c)).set 36 (.bool v)
def negB (x : Int) : Bool := decide (wi x < 0)
def addQ (x y : Int) : Bool := decide (0 ≤ x) && decide (0 ≤ y) && true && true
def addV (x y : Int) : Int := (x + y + 0) % 18446744073709551616
def addFl (x y : Int) (L : List V) : List V := flagL (addV x y == 0) (negB (addV x y)) ((x + y + 0) / 18446744073709551616 != 0) (negB (andU (xorU x (addV x y)) (xorU y (addV x y)))) L
def subQ (x y : Int) : Bool := decide (0 ≤ x) && decide (0 ≤ y) && decide (x < 18446744073709551616) && decide (y < 18446744073709551616) && true && true
def subVl (x y : Int) : Int := (x - y - 0) % 18446744073709551616
def subFl (x y : Int) (L : List V) : List V := flagL (subVl x y == 0) (negB (subVl x y)) ((cond (decide (x < y + 0)) (1 : Int) 0) == 0) (negB (andU (xorU x y) (xorU x (subVl x y)))) L
def logFl (x : Int) (L : List V) : List V := flagL (x == 0) (negB x) false false L
def nxS (o : Nat) (v nx : Int) : Int := cond (Nat.beq 45 o) v nx
abbrev KTy := List V → (Int → Int) → Option Res
abbrev ImmTy := CpuT → Int → Int → Int → Int → List V → List V → KTy → Option Res
def immR (nm : List UInt8) (f : ImmTy) : RunTy := fun s a b c d m sz A B C D E =>
  f s a b d (wu m) s.l (stC s nm a b c d m (nxF s sz)) fun L g => finK s L (g (nxF s sz)) (memO A B C D E)
def setK (a v : Int) (L : List V) (K : KTy) : Option Res := q (okReg a) (K (setL a v L) (nxS (oX a) v))
def inX (b : Int) (S : List V) (k : Option Res) : Option Res := q (inside b 32) (q (isIntAt .u64 S (1 + b.toNat * 1)) k)
def xAt (b : Int) (S : List V) : Int := intAt S (1 + b.toNat * 1)
def putX (a v : Int) (L : List V) : List V := setI .u64 (1 + a.toNat * 1) v 0 L
def putK (a v : Int) (S L : List V) (K : KTy) : Option Res := inX a S (K (putX a v L) (nxS (1 + a.toNat * 1) v))
def movzI : ImmTy := fun _ a _ d n L _ K => q (decide (0 ≤ c16 d)) (setK a (shlF n (c16 d)) L K)
def movnI : ImmTy := fun _ a _ d n L _ K => q (decide (0 ≤ c16 d)) (setK a (notU (shlF n (c16 d))) L K)
def movkI : ImmTy := fun _ a _ d n L S K => q (okReg a) (q (decide (0 ≤ c16 d)) (q (decide (0 ≤ c16 d)) (setK a (orU (andnU (regF S a) (shlF 65535 (c16 d))) (shlF n (c16 d))) L K)))
def addiI : ImmTy := fun _ a b d n L S K => inX b S (q (decide (0 ≤ c12 d)) (putK a (wu (xAt b S + shlF n (c12 d))) S L K))
def subiI : ImmTy := fun _ a b d n L S K => inX b S (q (decide (0 ≤ c12 d)) (putK a (wu (xAt b S - shlF n (c12 d))) S L K))
def addsiI : ImmTy := fun _ a b d n L S K => inX b S (q (decide (0 ≤ c12 d)) (q (addQ (xAt b S) (shlF n (c12 d))) (setK a (addV (xAt b S) (shlF n (c12 d))) (addFl (xAt b S) (shlF n (c12 d)) L) K)))
def subsiI : ImmTy := fun _ a b d n L S K => inX b S (q (decide (0 ≤ c12 d)) (q (subQ (xAt b S) (shlF n (c12 d))) (setK a (subVl (xAt b S) (shlF n (c12 d))) (subFl (xAt b S) (shlF n (c12 d)) L) K)))
def bitI (g : Int → Int → Int) : ImmTy := fun _ a b _ n L S K => q (okReg b) (putK a (g (regF S b) n) S L K)
def andsI : ImmTy := fun _ a b _ n L S K => q (okReg b) (setK a (andU (regF S b) n) (logFl (andU (regF S b) n) L) K)
def adrI : ImmTy := fun s a _ _ n L _ K => setK a (wu (s.pc + n)) L K
def adrpI : ImmTy := fun s a _ _ n L _ K => setK a (wu (andnU s.pc 4095 + shlF n 12)) L K
abbrev RegTy := CpuT → Int → Int → Int → Int → Int → Int → List V → List V → KTy → Option Res
def preK (s : CpuT) (nm : List UInt8) (a b c d m sz : Int) (k : Int → Int → Int → List V → Option Res) : Option Res :=
  q (okReg b) (q (okReg (and31 c)) (q (decide (0 ≤ d)) (k (regF (stC s nm a b c d m (nxF s sz)) b) (regF (stC s nm a b c d m (nxF s sz)) (and31 c)) (shlF (regF (stC s nm a b c d m (nxF s sz)) (and31 c)) d) (stC s nm a b c d m (nxF s sz)))))
def regRr (nm : List UInt8) (f : RegTy) : RunTy := fun s a b c d m sz A B C D E =>
  preK s nm a b c d m sz fun x y o S => f s a c d x y o s.l S fun L g => finK s L (g (nxF s sz)) (memO A B C D E)
def opR (g : Int → Int → Int) : RegTy := fun _ a _ _ x _ o L _ K => setK a (g x o) L K
def addsR : RegTy := fun _ a _ _ x _ o L _ K => q (addQ x o) (setK a (addV x o) (addFl x o L) K)
def subsR : RegTy := fun _ a _ _ x _ o L _ K => q (subQ x o) (setK a (subVl x o) (subFl x o L) K)
def andsR : RegTy := fun _ a _ _ x _ o L _ K => setK a (andU x o) (logFl (andU x o) L) K
def maddR : RegTy := fun _ a _ d x y _ L S K => q (okReg d) (setK a (wu (regF S d + wu (x * y))) L K)
def msubR : RegTy := fun _ a _ d x y _ L S K => q (okReg d) (setK a (wu (regF S d - wu (x * y))) L K)
def udivR : RegTy := fun _ a _ _ x y _ L _ K => setK a (divuF x y) L K
def sdivR : RegTy := fun _ a _ _ x y _ L _ K => setK a (divF (wi x) (wi y)) L K
def shR (g : Int → Int → Int) : RegTy := fun _ a _ _ x y _ L _ K => q (decide (0 ≤ andU y 63)) (setK a (g x (andU y 63)) L K)
def asrF (x c : Int) : Int := wu (shrF (wi x) c)
def fieldR (sg : Bool) : RegTy := fun _ a c d x _ _ L _ K => q (ok6 c && ok6 d) (setK a (fieldF x c d sg) L K)
def selR (g : Int → Int) : RegTy := fun s a _ d x y _ L _ K => cond (holdsF s.z s.n s.c s.v d) (setK a x L K) (setK a (g y) L K)
end Go.Ra

namespace Go.Ra
open Go Go.Ab Go.Proofs
def retK (s : CpuT) (L : List V) (nx : Int) (H : List O) (e : Int) : Option Res := cond (e != 0) (errK s 21 H) (finK s L nx H)
def atF (b m : Int) (S : List V) : Int := wu (xAt b S + wu m)
def errLd (at_ n : Int) : Int := cond (mayB at_ n 4) 0 21
def valLd (A B C D E : List Int) (at_ n : Int) : Int := cond (mayB at_ n 4) (ldN A B C D E at_ n.toNat 0) 0
def errSt (at_ n : Int) : Int := cond (mayB at_ n 2) 0 21
def ldK (s : CpuT) (nx at_ n : Int) (A B C D E : List Int) (k : Int → Option Res) : Option Res :=
  q (lens5 A B C D E) (q (rng64 at_ && true) (cond (errLd at_ n != 0) (retK s s.l nx (memO A B C D E) (errLd at_ n)) (k (valLd A B C D E at_ n))))
def ldrswF (x : Int) : Int := wu (wi (IntKind.wrap .i32 x))
def ldR (nm : List UInt8) (n : Int) (g : Int → Int) : RunTy := fun s a b c d m sz A B C D E =>
  preK s nm a b c d m sz fun _ _ _ S => inX b S (ldK s (nxF s sz) (atF b m S) n A B C D E fun x => setK a (g x) s.l fun L h => finK s L (h (nxF s sz)) (memO A B C D E))
def ldpR (nm : List UInt8) : RunTy := fun s a b c d m sz A B C D E =>
  preK s nm a b c d m sz fun _ _ _ S => inX b S (ldK s (nxF s sz) (atF b m S) 8 A B C D E fun x => ldK s (nxF s sz) (wu (atF b m S + 8)) 8 A B C D E fun y => setK a x s.l fun L h =>
    cond (c != 31) (putK c y (setL a x S) L fun L g => finK s L (g (h (nxF s sz))) (memO A B C D E)) (finK s L (h (nxF s sz)) (memO A B C D E)))
def stK (at_ n v : Int) (A B C D E : List Int) (k : List Int → List Int → List Int → List Int → List Int → Option Res) : Option Res :=
  q (lens5 A B C D E) (q (rng64 at_ && true) (k (stB 1 at_ n v A) (stB 2 at_ n v B) (stB 16 at_ n v C) (stB 17 at_ n v D) (stB 32 at_ n v E)))
def strR (nm : List UInt8) (n : Int) : RunTy := fun s a b c d m sz A B C D E =>
  preK s nm a b c d m sz fun _ _ _ S => inX b S (q (okReg a) (stK (atF b m S) n (regF S a) A B C D E fun A' B' C' D' E' => retK s s.l (nxF s sz) (memO A' B' C' D' E') (errSt (atF b m S) n)))
def and2 (r : Int) : Int := IntKind.wrap .i64 (((BitVec.ofInt 64 r &&& BitVec.ofInt 64 2).toNat : Nat) : Int)
def stpR (nm : List UInt8) : RunTy := fun s a b c d m sz A B C D E =>
  preK s nm a b c d m sz fun _ _ _ S => inX b S (q (lens5 A B C D E) (cond (and2 (rightF (wu (atF b m S + 8))) == 0) (errK s 21 (memO A B C D E)) (q (lens5 A B C D E) (cond (and2 (rightF (wu (atF b m S + 15))) == 0) (errK s 21 (memO A B C D E))
    (cond (decide (wu (atF b m S + 15) < wu (atF b m S + 8))) (errK s 21 (memO A B C D E)) (q (okReg a) (stK (atF b m S) 8 (regF S a) A B C D E fun A B C D E =>
      cond (errSt (atF b m S) 8 != 0) (retK s s.l (nxF s sz) (memO A B C D E) (errSt (atF b m S) 8)) (q (okReg c) (stK (wu (atF b m S + 8)) 8 (regF S c) A B C D E fun A B C D E =>
        retK s s.l (nxF s sz) (memO A B C D E) (errSt (wu (atF b m S + 8)) 8))))))))))
abbrev JmpTy := CpuT → Int → Int → Int → Int → Int → List V → List V → (List V → Int → Option Res) → Option Res
def jmpR (nm : List UInt8) (f : JmpTy) : RunTy := fun s a b c d m sz A B C D E =>
  preK s nm a b c d m sz fun _ _ _ S => f s a b d (wu (s.pc + wu m)) (nxF s sz) s.l S fun L nx => finK s L nx (memO A B C D E)
def bJ : JmpTy := fun _ _ _ _ to _ L _ K => K L to
def blJ : JmpTy := fun _ _ _ _ to nx L _ K => K (setL 30 nx L) to
def bcJ : JmpTy := fun s _ _ d to nx L _ K => cond (holdsF s.z s.n s.c s.v d) (K L to) (K L nx)
def cbzJ : JmpTy := fun _ a _ _ to nx L S K => q (okReg a) (cond (regF S a == 0) (K L to) (K L nx))
def cbnzJ : JmpTy := fun _ a _ _ to nx L S K => q (okReg a) (cond (regF S a != 0) (K L to) (K L nx))
def brJ : JmpTy := fun _ _ b _ _ _ L S K => q (okReg b) (K L (regF S b))
def blrJ : JmpTy := fun _ _ b _ _ nx L S K => q (okReg b) (K (setL 30 nx L) (regF S b))
def nopJ : JmpTy := fun _ _ _ _ _ nx L _ K => K L nx
def svcR : RunTy := fun s _ _ _ _ _ sz A B C D E => outK (pcL (nxF s sz) s.l) 1 (memO A B C D E)
def brkR : RunTy := fun s _ _ _ _ _ _ A B C D E => outK s.l 2 (memO A B C D E)
def rowsR : List (List UInt8 × RunTy) := [
  ([109, 111, 118, 110], immR [109, 111, 118, 110] movnI),
  ([109, 111, 118, 122], immR [109, 111, 118, 122] movzI),
  ([109, 111, 118, 107], immR [109, 111, 118, 107] movkI),
  ([97, 100, 100, 46, 105], immR [97, 100, 100, 46, 105] addiI),
  ([97, 100, 100, 115, 46, 105], immR [97, 100, 100, 115, 46, 105] addsiI),
  ([115, 117, 98, 46, 105], immR [115, 117, 98, 46, 105] subiI),
  ([115, 117, 98, 115, 46, 105], immR [115, 117, 98, 115, 46, 105] subsiI),
  ([97, 100, 100], regRr [97, 100, 100] (opR (fun x y => wu (x + y)))),
  ([97, 100, 100, 115], regRr [97, 100, 100, 115] addsR),
  ([115, 117, 98], regRr [115, 117, 98] (opR fun x y => wu (x - y))),
  ([115, 117, 98, 115], regRr [115, 117, 98, 115] subsR),
  ([97, 110, 100], regRr [97, 110, 100] (opR andU)),
  ([111, 114, 114], regRr [111, 114, 114] (opR orU)),
  ([101, 111, 114], regRr [101, 111, 114] (opR xorU)),
  ([97, 110, 100, 115], regRr [97, 110, 100, 115] andsR),
  ([97, 110, 100, 46, 105], immR [97, 110, 100, 46, 105] (bitI andU)),
  ([111, 114, 114, 46, 105], immR [111, 114, 114, 46, 105] (bitI orU)),
  ([101, 111, 114, 46, 105], immR [101, 111, 114, 46, 105] (bitI xorU)),
  ([97, 110, 100, 115, 46, 105], immR [97, 110, 100, 115, 46, 105] andsI),
  ([109, 97, 100, 100], regRr [109, 97, 100, 100] maddR),
  ([109, 115, 117, 98], regRr [109, 115, 117, 98] msubR),
  ([117, 100, 105, 118], regRr [117, 100, 105, 118] udivR),
  ([115, 100, 105, 118], regRr [115, 100, 105, 118] sdivR),
  ([108, 115, 108, 118], regRr [108, 115, 108, 118] (shR shlF)),
  ([108, 115, 114, 118], regRr [108, 115, 114, 118] (shR shrF)),
  ([97, 115, 114, 118], regRr [97, 115, 114, 118] (shR asrF)),
  ([115, 98, 102, 109], regRr [115, 98, 102, 109] (fieldR true)),
  ([117, 98, 102, 109], regRr [117, 98, 102, 109] (fieldR false)),
  ([99, 115, 101, 108], regRr [99, 115, 101, 108] (selR fun y => y)),
  ([99, 115, 105, 110, 99], regRr [99, 115, 105, 110, 99] (selR fun y => wu (y + 1))),
  ([97, 100, 114], immR [97, 100, 114] adrI),
  ([97, 100, 114, 112], immR [97, 100, 114, 112] adrpI),
  ([108, 100, 114, 98], ldR [108, 100, 114, 98] 1 fun x => x),
  ([115, 116, 114, 98], strR [115, 116, 114, 98] 1),
  ([108, 100, 114, 104], ldR [108, 100, 114, 104] 2 fun x => x),
  ([115, 116, 114, 104], strR [115, 116, 114, 104] 2),
  ([108, 100, 114, 46, 119], ldR [108, 100, 114, 46, 119] 4 fun x => x),
  ([115, 116, 114, 46, 119], strR [115, 116, 114, 46, 119] 4),
  ([108, 100, 114, 115, 119], ldR [108, 100, 114, 115, 119] 4 ldrswF),
  ([108, 100, 114], ldR [108, 100, 114] 8 fun x => x),
  ([115, 116, 114], strR [115, 116, 114] 8),
  ([108, 100, 112], ldpR [108, 100, 112]),
  ([115, 116, 112], stpR [115, 116, 112]),
  ([98], jmpR [98] bJ),
  ([98, 108], jmpR [98, 108] blJ),
  ([98, 46, 99], jmpR [98, 46, 99] bcJ),
  ([99, 98, 122], jmpR [99, 98, 122] cbzJ),
  ([99, 98, 110, 122], jmpR [99, 98, 110, 122] cbnzJ),
  ([98, 114], jmpR [98, 114] brJ),
  ([98, 108, 114], jmpR [98, 108, 114] blrJ),
  ([114, 101, 116], jmpR [114, 101, 116] brJ),
  ([115, 118, 99], svcR),
  ([98, 114, 107], brkR),
  ([110, 111, 112], jmpR [110, 111, 112] nopJ)]
theorem rowsR_names : rowsR.map Prod.fst = rowsL.map Prod.fst := by kernel_rfl
def W1 (g : RunTy) (p x0 x1 x2 x3 x4 x5 x6 x7 x8 x9 x10 x11 x12 x13 x14 x15 x16 x17 x18 x19 x20 x21 x22 x23 x24 x25 x26 x27 x28 x29 x30 x31 th : Int) (z n c v : Bool) (a b c' d m sz : Int) (A B C D E : List Int) : Option Res :=
  g ⟨p, [x0, x1, x2, x3, x4, x5, x6, x7, x8, x9, x10, x11, x12, x13, x14, x15, x16, x17, x18, x19, x20, x21, x22, x23, x24, x25, x26, x27, x28, x29, x30, x31], z, n, c, v, th⟩ a b c' d m sz A B C D E
def W2 (g : RunTy) (p x0 x1 x2 x3 x4 x5 x6 x7 x8 x9 x10 x11 x12 x13 x14 x15 x16 x17 x18 x19 x20 x21 x22 x23 x24 x25 x26 x27 x28 x29 x30 x31 th : Int) (z n c v : Bool) (a b c' d m sz : Int) (A B C D E : List Int) : Option Res :=
  g ⟨p, [x0, x1, x2, x3, x4, x5, x6, x7, x8, x9, x10, x11, x12, x13, x14, x15, x16, x17, x18, x19, x20, x21, x22, x23, x24, x25, x26, x27, x28, x29, x30, x31], z, n, c, v, th⟩ a b c' d m sz A B C D E
def rE (mb : InsR → Bool) (x : List UInt8 × RunTy) := W2 (topK mb x.1 x.2)
noncomputable def rO (mb : InsR → Bool) (x : List UInt8 × RunTy) := W1 (runE mb x.1)
end Go.Ra

namespace Go.Ra
open Go Go.Ab Go.Proofs
def spOf (cs : List V) : List UInt8 := match cs.drop 38 with
  | .str s :: _ => s
  | _ => []
def hasL (l : Int) : List UInt8 → Bool
  | [] => false
  | x :: r => cond (((x.toNat : Nat) : Int) == l) true (hasL l r)
def getF (cs : List V) (l n : Int) : Int := cond (hasL l (spOf cs)) (intAt cs (1 + n.toNat * 1)) (regF cs n)
def oG (cs : List V) (l n : Int) : Nat := cond (hasL l (spOf cs)) (1 + n.toNat * 1) (oX n)
noncomputable def cx87 : Cx := { P := Tryz.prog, n := 17, tab := [], mtab := [], refs := [], keeps := [0, 1, 4, 5, 9, 16], fuel := 4 }
noncomputable def hasS : Ab.Spec := fun args => .req (Nat.ble args.length Tryz.f87.ntmps) (dfun cx87 Tryz.f87 args)
theorem hasS_ok : Sound Tryz.prog 87 hasS := sound_fun (cx := cx87) (fn := Tryz.f87) (cx0_ok rfl rfl) (by kernel_rfl) (by kernel_rfl)
noncomputable def cxGet : Cx := { P := Tryz.prog, n := Tryz.f40.ntmps, tab := [(87, hasS)], mtab := [], refs := [], keeps := [0, 1, 2, 6, 17], lz := [23] }
noncomputable def cxSetG : Cx := { P := Tryz.prog, n := Tryz.f89.ntmps, tab := [(87, hasS)], mtab := [], refs := [], keeps := [0, 1, 2, 3, 18], lz := [25] }
theorem cxGet_ok : CxOk cxGet := cx1_ok (ok1 hasS_ok) (.nil _) rfl rfl
theorem cxSetG_ok : CxOk cxSetG := cx1_ok (ok1 hasS_ok) (.nil _) rfl rfl
def lspL : List (List UInt8 × Int) := [([], 65), ([], 66), ([], 67), ([], 68), ([65], 65), ([65], 66), ([65], 67), ([65], 68), ([66], 65), ([66], 66), ([66], 67), ([66], 68), ([65, 66], 65), ([65, 66], 66), ([65, 66], 67), ([65, 66], 68)]
def stL (c0 : V) (r : List V) (z n c v th : V) (sp : List UInt8) : List V := c0 :: (r ++ [z, n, c, v, th, .str sp])
noncomputable def getE (y : List UInt8 × Int) (p x0 x1 x2 x3 x4 x5 x6 x7 x8 x9 x10 x11 x12 x13 x14 x15 x16 x17 x18 x19 x20 x21 x22 x23 x24 x25 x26 x27 x28 x29 x30 x31 z n c v th : V) (t : TypeId) (rest : List O) (r : Int) : Option V :=
  (qfun cxGet Tryz.f40 [.ptr 0 0, .int .u8 y.2, .int .i64 r] (.cells (stL p [x0, x1, x2, x3, x4, x5, x6, x7, x8, x9, x10, x11, x12, x13, x14, x15, x16, x17, x18, x19, x20, x21, x22, x23, x24, x25, x26, x27, x28, x29, x30, x31] z n c v th y.1) t :: rest)).fin
def getX (y : List UInt8 × Int) (p x0 x1 x2 x3 x4 x5 x6 x7 x8 x9 x10 x11 x12 x13 x14 x15 x16 x17 x18 x19 x20 x21 x22 x23 x24 x25 x26 x27 x28 x29 x30 x31 z n c v th : V) (_ : TypeId) (_ : List O) (r : Int) : Option V :=
  let cs := stL p [x0, x1, x2, x3, x4, x5, x6, x7, x8, x9, x10, x11, x12, x13, x14, x15, x16, x17, x18, x19, x20, x21, x22, x23, x24, x25, x26, x27, x28, x29, x30, x31] z n c v th y.1
  cond (r == 31) (cond (hasL y.2 y.1) (cond (inside r 32) (cond (isIntAt .u64 cs (1 + r.toNat * 1)) (some (.int .u64 (intAt cs (1 + r.toNat * 1)))) none) none) (some (.int .u64 0)))
    (cond (inside r 32) (cond (isIntAt .u64 cs (1 + r.toNat * 1)) (some (.int .u64 (intAt cs (1 + r.toNat * 1)))) none) none)
theorem get_all : lspL.map getE = lspL.map getX := by kernel_rfl
noncomputable def setE (y : List UInt8 × Int) (p x0 x1 x2 x3 x4 x5 x6 x7 x8 x9 x10 x11 x12 x13 x14 x15 x16 x17 x18 x19 x20 x21 x22 x23 x24 x25 x26 x27 x28 x29 x30 x31 z n c v th : V) (t : TypeId) (rest : List O) (r u : Int) : Option Res :=
  (mfun cxSetG Tryz.f89 [.ptr 0 0, .int .u8 y.2, .int .i64 r, .int .u64 u] (.cells (stL p [x0, x1, x2, x3, x4, x5, x6, x7, x8, x9, x10, x11, x12, x13, x14, x15, x16, x17, x18, x19, x20, x21, x22, x23, x24, x25, x26, x27, x28, x29, x30, x31] z n c v th y.1) t :: rest)).fin
def setX (y : List UInt8 × Int) (p x0 x1 x2 x3 x4 x5 x6 x7 x8 x9 x10 x11 x12 x13 x14 x15 x16 x17 x18 x19 x20 x21 x22 x23 x24 x25 x26 x27 x28 x29 x30 x31 z n c v th : V) (t : TypeId) (rest : List O) (r u : Int) : Option Res :=
  let cs := stL p [x0, x1, x2, x3, x4, x5, x6, x7, x8, x9, x10, x11, x12, x13, x14, x15, x16, x17, x18, x19, x20, x21, x22, x23, x24, x25, x26, x27, x28, x29, x30, x31] z n c v th y.1
  let k := cond (inside r 32) (cond (isIntAt .u64 cs (1 + r.toNat * 1)) (some (.ok (.tup []) (.cells (setI .u64 (1 + r.toNat * 1) u 0 cs) t :: rest))) none) none
  cond (r == 31) (cond (hasL y.2 y.1) k (some (.ok (.tup []) (.cells cs t :: rest)))) k
theorem set_all : lspL.map setE = lspL.map setX := by kernel_rfl
def isLsp (sp : List UInt8) (l : Int) : Bool := lspL.any fun y => strEq y.1 sp && y.2 == l
theorem isLsp_mem {sp : List UInt8} {l : Int} (h : isLsp sp l = true) : (sp, l) ∈ lspL := by
  obtain ⟨y, hy, h1⟩ := List.any_eq_true.1 h
  simp only [Bool.and_eq_true] at h1
  have e1 : y.1 = sp := eq_of_beq h1.1
  have e2 : y.2 = l := by simpa using h1.2
  obtain ⟨y1, y2⟩ := y
  subst e1 e2
  exact hy
def getG : RSpec := fun args H => match args, H with
  | [.ptr 0 0, .int .u8 l, .int .i64 r], .cells (p :: x0 :: x1 :: x2 :: x3 :: x4 :: x5 :: x6 :: x7 :: x8 :: x9 :: x10 :: x11 :: x12 :: x13 :: x14 :: x15 :: x16 :: x17 :: x18 :: x19 :: x20 :: x21 :: x22 :: x23 :: x24 :: x25 :: x26 :: x27 :: x28 :: x29 :: x30 :: x31 :: z :: n :: c :: v :: th :: .str sp :: []) _ :: _ =>
    .req (isLsp sp l && (rowB [p, x0, x1, x2, x3, x4, x5, x6, x7, x8, x9, x10, x11, x12, x13, x14, x15, x16, x17, x18, x19, x20, x21, x22, x23, x24, x25, x26, x27, x28, x29, x30, x31, z, n, c, v, th, .str sp] && okReg r)) (.leaf (.int .u64 (getF [p, x0, x1, x2, x3, x4, x5, x6, x7, x8, x9, x10, x11, x12, x13, x14, x15, x16, x17, x18, x19, x20, x21, x22, x23, x24, x25, x26, x27, x28, x29, x30, x31, z, n, c, v, th, .str sp] l r)))
  | _, _ => .fail
theorem getG_ok : RSound Tryz.prog 40 getG := by
  intro args H out h
  unfold getG at h
  split at h
  rotate_left
  · cases h
  rename_i l r p x0 x1 x2 x3 x4 x5 x6 x7 x8 x9 x10 x11 x12 x13 x14 x15 x16 x17 x18 x19 x20 x21 x22 x23 x24 x25 x26 x27 x28 x29 x30 x31 z n c v th sp t rest
  obtain ⟨h1, h⟩ := req_run h
  cases h
  obtain ⟨g1, g2⟩ := Bool.and_eq_true_iff.1 h1
  obtain ⟨g2, g3⟩ := Bool.and_eq_true_iff.1 g2
  obtain ⟨n0, n1⟩ := okReg_in g3
  refine qfun_ok (cx := cxGet) (fn := Tryz.f40) cxGet_ok (by kernel_rfl) (by kernel_rfl) (by kernel_rfl) (by kernel_rfl) _ _ _ ?_
  rw [← Tree.fin_run]
  have key := List.map_inj_left.1 get_all _ (isLsp_mem g1)
  have k2 : getE (sp, l) p x0 x1 x2 x3 x4 x5 x6 x7 x8 x9 x10 x11 x12 x13 x14 x15 x16 x17 x18 x19 x20 x21 x22 x23 x24 x25 x26 x27 x28 x29 x30 x31 z n c v th t rest r = getX (sp, l) p x0 x1 x2 x3 x4 x5 x6 x7 x8 x9 x10 x11 x12 x13 x14 x15 x16 x17 x18 x19 x20 x21 x22 x23 x24 x25 x26 x27 x28 x29 x30 x31 z n c v th t rest r := by rw [key]
  refine k2.trans ?_
  have hi := inside_of n0 (show r < ((32 : Nat) : Int) by omega)
  have ha := rowB_at g2 (o := 1 + r.toNat * 1) (by omega) (by omega)
  unfold getX getF
  show cond (r == 31) (cond (hasL l sp) (cond (inside r 32) (cond (isIntAt .u64 [p, x0, x1, x2, x3, x4, x5, x6, x7, x8, x9, x10, x11, x12, x13, x14, x15, x16, x17, x18, x19, x20, x21, x22, x23, x24, x25, x26, x27, x28, x29, x30, x31, z, n, c, v, th, .str sp] (1 + r.toNat * 1)) _ none) none) _) (cond (inside r 32) (cond (isIntAt .u64 [p, x0, x1, x2, x3, x4, x5, x6, x7, x8, x9, x10, x11, x12, x13, x14, x15, x16, x17, x18, x19, x20, x21, x22, x23, x24, x25, x26, x27, x28, x29, x30, x31, z, n, c, v, th, .str sp] (1 + r.toNat * 1)) _ none) none) = some (V.int .u64 (cond (hasL l sp) _ _))
  rw [hi, ha]
  unfold regF
  cases r == 31 <;> cases hasL l sp <;> rfl
def setG : MSpec := fun args H => match args, H with
  | [.ptr 0 0, .int .u8 l, .int .i64 r, .int .u64 u], .cells (p :: x0 :: x1 :: x2 :: x3 :: x4 :: x5 :: x6 :: x7 :: x8 :: x9 :: x10 :: x11 :: x12 :: x13 :: x14 :: x15 :: x16 :: x17 :: x18 :: x19 :: x20 :: x21 :: x22 :: x23 :: x24 :: x25 :: x26 :: x27 :: x28 :: x29 :: x30 :: x31 :: z :: n :: c :: v :: th :: .str sp :: []) t :: rest =>
    .req (isLsp sp l && (rowB [p, x0, x1, x2, x3, x4, x5, x6, x7, x8, x9, x10, x11, x12, x13, x14, x15, x16, x17, x18, x19, x20, x21, x22, x23, x24, x25, x26, x27, x28, x29, x30, x31, z, n, c, v, th, .str sp] && okReg r)) (.leaf (.ok (.tup []) (.cells (setI .u64 (oG [p, x0, x1, x2, x3, x4, x5, x6, x7, x8, x9, x10, x11, x12, x13, x14, x15, x16, x17, x18, x19, x20, x21, x22, x23, x24, x25, x26, x27, x28, x29, x30, x31, z, n, c, v, th, .str sp] l r) u 0 [p, x0, x1, x2, x3, x4, x5, x6, x7, x8, x9, x10, x11, x12, x13, x14, x15, x16, x17, x18, x19, x20, x21, x22, x23, x24, x25, x26, x27, x28, x29, x30, x31, z, n, c, v, th, .str sp]) t :: rest)))
  | _, _ => .fail
theorem setG_ok : MSound Tryz.prog 89 setG := by
  intro args H out h
  unfold setG at h
  split at h
  rotate_left
  · cases h
  rename_i l r u p x0 x1 x2 x3 x4 x5 x6 x7 x8 x9 x10 x11 x12 x13 x14 x15 x16 x17 x18 x19 x20 x21 x22 x23 x24 x25 x26 x27 x28 x29 x30 x31 z n c v th sp t rest
  obtain ⟨h1, h⟩ := req_run h
  cases h
  obtain ⟨g1, g2⟩ := Bool.and_eq_true_iff.1 h1
  obtain ⟨g2, g3⟩ := Bool.and_eq_true_iff.1 g2
  obtain ⟨n0, n1⟩ := okReg_in g3
  refine msound_fun (cx := cxSetG) (fn := Tryz.f89) cxSetG_ok (by kernel_rfl) (by kernel_rfl) _ _ _ ?_
  refine run_req (by kernel_rfl) ?_
  rw [← Tree.fin_run]
  have key := List.map_inj_left.1 set_all _ (isLsp_mem g1)
  have k2 : setE (sp, l) p x0 x1 x2 x3 x4 x5 x6 x7 x8 x9 x10 x11 x12 x13 x14 x15 x16 x17 x18 x19 x20 x21 x22 x23 x24 x25 x26 x27 x28 x29 x30 x31 z n c v th t rest r u = setX (sp, l) p x0 x1 x2 x3 x4 x5 x6 x7 x8 x9 x10 x11 x12 x13 x14 x15 x16 x17 x18 x19 x20 x21 x22 x23 x24 x25 x26 x27 x28 x29 x30 x31 z n c v th t rest r u := by rw [key]
  refine k2.trans ?_
  have hi := inside_of n0 (show r < ((32 : Nat) : Int) by omega)
  have ha := rowB_at g2 (o := 1 + r.toNat * 1) (by omega) (by omega)
  unfold setX oG
  show cond (r == 31) (cond (hasL l sp) (cond (inside r 32) (cond (isIntAt .u64 [p, x0, x1, x2, x3, x4, x5, x6, x7, x8, x9, x10, x11, x12, x13, x14, x15, x16, x17, x18, x19, x20, x21, x22, x23, x24, x25, x26, x27, x28, x29, x30, x31, z, n, c, v, th, .str sp] (1 + r.toNat * 1)) _ none) none) _) (cond (inside r 32) (cond (isIntAt .u64 [p, x0, x1, x2, x3, x4, x5, x6, x7, x8, x9, x10, x11, x12, x13, x14, x15, x16, x17, x18, x19, x20, x21, x22, x23, x24, x25, x26, x27, x28, x29, x30, x31, z, n, c, v, th, .str sp] (1 + r.toNat * 1)) _ none) none) = some (Res.ok (.tup []) (.cells (setI .u64 (cond (hasL l sp) _ _) u 0 _) t :: rest))
  rw [hi, ha]
  unfold oX
  cases h31 : r == 31
  · rw [cond_false, cond_false, Nat.mul_one]
    cases hasL l sp <;> rfl
  · cases hasL l sp
    · rw [cond_true, cond_false, cond_false, cond_true, setI_out _ _ (Or.inr (Nat.le_of_ble_eq_true rfl))]
      rfl
    · rfl
end Go.Ra

namespace Go.Ra
open Go Go.Ab Go.Proofs
noncomputable def cx12 : Cx := { P := Tryz.prog, n := 52, tab := [], mtab := [], refs := [], keeps := [0, 1, 2, 4, 5, 11] }
def hlX (z n c v e1 e2 : Bool) (d : Int) : Option V := cond (inside (wi (Int.tdiv d 2)) 7) (bO (!([z, c, n, v, e1, (n == v), e2].getD (wi (Int.tdiv d 2)).toNat false == (Int.tmod d 2 == 1)))) none
def hlT (z n c v : Bool) (d : Int) : Option V :=
  cond (decide (d < 0)) (bO false) (cond (decide (13 < d)) (bO false) (cond c (cond (!z) (hlX z n c v (!z) (n == v) d) (hlX z n c v (!z) false d)) (cond (!z) (hlX z n c v false (n == v) d) (hlX z n c v false false d))))
theorem hl_eq (p x0 x1 x2 x3 x4 x5 x6 x7 x8 x9 x10 x11 x12 x13 x14 x15 x16 x17 x18 x19 x20 x21 x22 x23 x24 x25 x26 x27 x28 x29 x30 x31 th : Int) (z n c v : Bool) (d : Int) :
    (dfun cx12 Tryz.f12 [.agg (CpuT.l ⟨p, [x0, x1, x2, x3, x4, x5, x6, x7, x8, x9, x10, x11, x12, x13, x14, x15, x16, x17, x18, x19, x20, x21, x22, x23, x24, x25, x26, x27, x28, x29, x30, x31], z, n, c, v, th⟩), .int .i64 d]).fin = hlT z n c v d := by kernel_rfl
theorem hlT_eq (z n c v : Bool) (d : Int) : hlT z n c v d = some (.bool (holdsF z n c v d)) := by
  by_cases h0 : d < 0
  · have e : ∀ k : Int, 0 ≤ k → (d == k) = false := fun k hk => by
      have : d ≠ k := by omega
      simpa using this
    unfold hlT holdsF
    rw [decide_eq_true h0, e 0 (by omega), e 1 (by omega), e 2 (by omega), e 3 (by omega), e 4 (by omega), e 5 (by omega), e 6 (by omega), e 7 (by omega), e 8 (by omega), e 9 (by omega), e 10 (by omega), e 11 (by omega), e 12 (by omega), e 13 (by omega)]
    rfl
  by_cases h1 : 13 < d
  · have e : ∀ k : Int, k ≤ 13 → (d == k) = false := fun k hk => by
      have : d ≠ k := by omega
      simpa using this
    unfold hlT holdsF
    rw [decide_eq_false h0, decide_eq_true h1, e 0 (by omega), e 1 (by omega), e 2 (by omega), e 3 (by omega), e 4 (by omega), e 5 (by omega), e 6 (by omega), e 7 (by omega), e 8 (by omega), e 9 (by omega), e 10 (by omega), e 11 (by omega), e 12 (by omega), e 13 (by omega)]
    rfl
  have hd : d = 0 ∨ d = 1 ∨ d = 2 ∨ d = 3 ∨ d = 4 ∨ d = 5 ∨ d = 6 ∨ d = 7 ∨ d = 8 ∨ d = 9 ∨ d = 10 ∨ d = 11 ∨ d = 12 ∨ d = 13 := by omega
  rcases hd with rfl | rfl | rfl | rfl | rfl | rfl | rfl | rfl | rfl | rfl | rfl | rfl | rfl | rfl <;> cases z <;> cases n <;> cases c <;> cases v <;> rfl
theorem hlS_ok : Sound Tryz.prog 12 holdsS := by
  intro args out h
  unfold holdsS at h
  split at h
  rotate_left
  · cases h
  rename_i cs d
  split at h
  rotate_left
  · cases h
  rename_i s hs
  cases h
  obtain ⟨e1, e2⟩ := cpuOf_spec hs
  subst e1
  refine pcall_fun' (cx := cx12) (fn := Tryz.f12) (cx0_ok rfl rfl) (by kernel_rfl) (by kernel_rfl) (by kernel_rfl) ?_
  rw [← Tree.fin_run, ← hlT_eq, ← cpu_tab e2]
  apply hl_eq
noncomputable def cx95 : Cx := { P := Tryz.prog, n := 28, tab := [], mtab := [], refs := [], keeps := [0, 1, 2, 6, 7, 10, 16] }
noncomputable def cx96 : Cx := { P := Tryz.prog, n := 49, tab := [], mtab := [], refs := [], keeps := [0, 1, 2, 3, 8, 9, 10, 11, 14, 35] }
def dvT (a b : Int) (sg : Bool) : Option V :=
  cond (b == 0) (iO 0) (cond (!sg) (cond (!decide (b = 0)) (iO (wu (Int.tdiv a b))) none) (cond (wi b == -1) (iO (wu (0 - a))) (cond (!decide (wi b = 0)) (iO (wu (wi (Int.tdiv (wi a) (wi b))))) none)))
theorem dv_eq (a b : Int) (sg : Bool) : (dfun cx95 Tryz.f95 [.int .u64 a, .int .u64 b, .bool sg]).fin = dvT a b sg := by kernel_rfl
def dvF (a b : Int) (sg : Bool) : Int := cond (b == 0) 0 (cond (!sg) (wu (Int.tdiv a b)) (cond (wi b == -1) (wu (0 - a)) (wu (wi (Int.tdiv (wi a) (wi b))))))
def dvS : Ab.Spec := fun args => match args with
  | [.int .u64 a, .int .u64 b, .bool sg] => .req (rng64 b) (.leaf (.int .u64 (dvF a b sg)))
  | _ => .fail
theorem wi_zero {b : Int} (h : rng64 b = true) (hb : b ≠ 0) : wi b ≠ 0 := by
  simp only [rng64, Bool.and_eq_true, decide_eq_true_eq] at h
  have e : wi b = if 9223372036854775808 ≤ b % 18446744073709551616 then b % 18446744073709551616 - 18446744073709551616 else b % 18446744073709551616 := by
    unfold wi IntKind.wrap
    simp [IntKind.bits, IntKind.signed]
  rw [e]
  split <;> omega
theorem dvS_ok : Sound Tryz.prog 95 dvS := by
  intro args out h
  unfold dvS at h
  split at h
  rotate_left
  · cases h
  rename_i a b sg
  obtain ⟨h1, h⟩ := req_run h
  cases h
  refine pcall_fun' (cx := cx95) (fn := Tryz.f95) (cx0_ok rfl rfl) (by kernel_rfl) (by kernel_rfl) (by kernel_rfl) ?_
  rw [← Tree.fin_run, dv_eq]
  unfold dvT dvF
  by_cases h0 : b = 0
  · subst h0
    rfl
  · have e : (b == 0) = false := by simpa using h0
    rw [e, cond_false, cond_false, decide_eq_false h0, decide_eq_false (wi_zero h1 h0)]
    cases sg
    · rfl
    · cases wi b == -1 <;> rfl
def btK (x n at_ : Int) (sg : Bool) : Option V :=
  cond (decide (0 ≤ wu (64 - n))) (cond sg (cond (decide (0 ≤ wu (64 - n))) (cond (decide (0 ≤ at_)) (iO (shlF (wu (shrF (wi (shlF x (wu (64 - n)))) (wu (64 - n)))) at_)) none) none)
    (cond (decide (0 ≤ wu (64 - n))) (cond (decide (0 ≤ at_)) (iO (shlF (shrF (shlF x (wu (64 - n))) (wu (64 - n))) at_)) none) none)) none
def btT (b r s : Int) (sg : Bool) : Option V := cond (decide (r ≤ s)) (cond (decide (0 ≤ wu r)) (btK (shrF b (wu r)) (wu (wi (wi (s - r) + 1))) 0 sg) none) (btK b (wu (wi (s + 1))) (wu (wi (64 - r))) sg)
theorem bt_eq (b r s : Int) (sg : Bool) : (dfun cx96 Tryz.f96 [.int .u64 b, .int .i64 r, .int .i64 s, .bool sg]).fin = btT b r s sg := by kernel_rfl
def bitsS : Ab.Spec := fun args => match args with
  | [.int .u64 b, .int .i64 r, .int .i64 t, .bool sg] => .req (ok6 r && ok6 t) (.leaf (.int .u64 (fieldF b r t sg)))
  | _ => .fail
theorem wu_eq {x : Int} (h0 : 0 ≤ x) (h1 : x < 18446744073709551616) : wu x = x := by
  show x % 18446744073709551616 = x
  omega
theorem bitsS_ok : Sound Tryz.prog 96 bitsS := by
  intro args out h
  unfold bitsS at h
  split at h
  rotate_left
  · cases h
  rename_i b r t sg
  obtain ⟨h1, h⟩ := req_run h
  cases h
  simp only [ok6, Bool.and_eq_true, decide_eq_true_eq] at h1
  refine pcall_fun' (cx := cx96) (fn := Tryz.f96) (cx0_ok rfl rfl) (by kernel_rfl) (by kernel_rfl) (by kernel_rfl) ?_
  rw [← Tree.fin_run, bt_eq]
  unfold btT fieldF
  by_cases hlt : t < r
  · rw [decide_eq_true hlt, cond_true, decide_eq_false (by omega), cond_false]
    unfold btK fieldX
    have e : wi (t + 1) = t + 1 := wi_eq (by omega) (by omega)
    have e2 : wi (64 - r) = 64 - r := wi_eq (by omega) (by omega)
    have e3 : wi (64 - (t + 1)) = 64 - (t + 1) := wi_eq (by omega) (by omega)
    have e4 : wu (t + 1) = t + 1 := wu_eq (by omega) (by omega)
    have e5 : wu (64 - r) = 64 - r := wu_eq (by omega) (by omega)
    have e6 : wu (64 - (t + 1)) = 64 - (t + 1) := wu_eq (by omega) (by omega)
    rw [e, e2, e3, e4, e5, e6, decide_eq_true (by omega), decide_eq_true (by omega)]
    cases sg <;> rfl
  · rw [decide_eq_false hlt, cond_false, decide_eq_true (by omega), cond_true]
    have e0 : wu r = r := wu_eq (by omega) (by omega)
    rw [e0, decide_eq_true (by omega), cond_true]
    unfold btK fieldX
    have e : wi (t - r) = t - r := wi_eq (by omega) (by omega)
    have e2 : wi (t - r + 1) = t - r + 1 := wi_eq (by omega) (by omega)
    have e3 : wi (64 - (t - r + 1)) = 64 - (t - r + 1) := wi_eq (by omega) (by omega)
    have e4 : wu (t - r + 1) = t - r + 1 := wu_eq (by omega) (by omega)
    have e5 : wu (64 - (t - r + 1)) = 64 - (t - r + 1) := wu_eq (by omega) (by omega)
    rw [e, e2, e3, e4, e5, decide_eq_true (by omega)]
    cases sg <;> rfl
noncomputable def cxWr : Cx := { P := Tryz.prog, n := Tryz.f99.ntmps, tab := [], mtab := [], rtab := [(135, rightsRf)], refs := [], keeps := [0, 1, 4] }
theorem cxWr_ok : CxOk cxWr := ⟨.nil _, .nil _, .cons rightsRf_ok (.nil _), fun p h => by cases h⟩
def wrT (L : Bool) (x : Int) : Option V :=
  cond (decide (x ≤ 18446744073709551608)) (cond L (cond (and2 (rightF x) != 0) (cond L (bO (and2 (rightF (wu (x + 7))) != 0)) none) (bO false)) none) (bO false)
theorem wr_eq (a b c d e : List Int) (x : Int) : (qfun cxWr Tryz.f99 [.ptr 0 0, .int .u64 x] (refO a b c d e)).fin = wrT (lens5 a b c d e) x := by kernel_rfl
def wrB (x : Int) : Bool := decide (x ≤ 18446744073709551608) && ((and2 (rightF x) != 0) && (and2 (rightF (wu (x + 7))) != 0))
def writR : RSpec := fun args H => match args with
  | [.ptr 0 0, .int .u64 x] => refM (fun _ _ _ _ _ => .leaf (.bool (wrB x))) H
  | _ => .fail
theorem writR_ok : RSound Tryz.prog 99 writR := by
  intro args H out h
  unfold writR at h
  split at h
  rotate_left
  · cases h
  rename_i x
  obtain ⟨a, b, c, d, e, rfl, hl, h⟩ := refM_run h
  cases h
  refine qfun_ok (cx := cxWr) (fn := Tryz.f99) cxWr_ok (by kernel_rfl) (by kernel_rfl) (by kernel_rfl) (by kernel_rfl) _ _ _ ?_
  rw [← Tree.fin_run, wr_eq, hl]
  unfold wrT wrB
  cases decide (x ≤ 18446744073709551608) <;> cases (and2 (rightF x) != 0) <;> rfl
end Go.Ra

namespace Go.Ra
open Go Go.Ab Go.Proofs
def sG (s : CpuT) (sp : List UInt8) : List V := s.l ++ [.str sp]
noncomputable def othB : Tabs := { tab := [(87, hasS)], rtab := [(40, getG)] }
noncomputable def cxOth : Cx := { P := Tryz.prog, n := Tryz.f90.ntmps, tab := othB.tab, mtab := [], rtab := othB.rtab, refs := [], keeps := [0, 1, 3, 4, 5, 18, 34] }
theorem cxOth_ok : CxOk cxOth := ⟨ok1 hasS_ok, .nil _, .cons getG_ok (.nil _), fun p h => by cases h⟩
def othL : List (List UInt8 × List UInt8 × Nat) := [([97, 100, 100], [], 0), ([97, 100, 100, 46, 105], [65, 66], 1), ([115, 117, 98], [], 0), ([115, 117, 98, 46, 105], [65, 66], 1), ([97, 100, 100, 115], [], 0), ([97, 100, 100, 115, 46, 105], [66], 1), ([115, 117, 98, 115], [], 0), ([115, 117, 98, 115, 46, 105], [66], 1), ([97, 110, 100], [], 0), ([97, 110, 100, 46, 105], [65], 2), ([111, 114, 114], [], 0), ([111, 114, 114, 46, 105], [65], 2), ([101, 111, 114], [], 0), ([101, 111, 114, 46, 105], [65], 2), ([97, 110, 100, 115], [], 0), ([97, 110, 100, 115, 46, 105], [], 2)]
def othF (k : Nat) (cs : List V) (c d m : Int) : Int := cond (Nat.beq k 0) (shlF (getF cs 67 c) (wu d)) (cond (Nat.beq k 1) (shlF (wu m) (wu (c12 d))) (wu m))
noncomputable def othE (y : List UInt8 × List UInt8 × Nat) (p x0 x1 x2 x3 x4 x5 x6 x7 x8 x9 x10 x11 x12 x13 x14 x15 x16 x17 x18 x19 x20 x21 x22 x23 x24 x25 x26 x27 x28 x29 x30 x31 th : Int) (z n c v : Bool) (a b c' d m : Int) (t : TypeId) : Option Res :=
  (mfunR cxOth Tryz.f90 [] [.ptr 0 0, insV y.1 a b c' d m] [.cells (sG ⟨p, [x0, x1, x2, x3, x4, x5, x6, x7, x8, x9, x10, x11, x12, x13, x14, x15, x16, x17, x18, x19, x20, x21, x22, x23, x24, x25, x26, x27, x28, x29, x30, x31], z, n, c, v, th⟩ y.2.1) t]).fin
def othX (y : List UInt8 × List UInt8 × Nat) (p x0 x1 x2 x3 x4 x5 x6 x7 x8 x9 x10 x11 x12 x13 x14 x15 x16 x17 x18 x19 x20 x21 x22 x23 x24 x25 x26 x27 x28 x29 x30 x31 th : Int) (z n c v : Bool) (_ _ c' d m : Int) (t : TypeId) : Option Res :=
  let cs := sG ⟨p, [x0, x1, x2, x3, x4, x5, x6, x7, x8, x9, x10, x11, x12, x13, x14, x15, x16, x17, x18, x19, x20, x21, x22, x23, x24, x25, x26, x27, x28, x29, x30, x31], z, n, c, v, th⟩ y.2.1
  cond (Nat.beq y.2.2 0) (q (okReg c') (q (decide (0 ≤ wu d)) (some (.ok (.int .u64 (othF y.2.2 cs c' d m)) [.cells cs t])))) (cond (Nat.beq y.2.2 1) (q (decide (0 ≤ wu (c12 d))) (some (.ok (.int .u64 (othF y.2.2 cs c' d m)) [.cells cs t]))) (some (.ok (.int .u64 (othF y.2.2 cs c' d m)) [.cells cs t])))
theorem oth_all : othL.map othE = othL.map othX := by kernel_rfl
def kindO (nm sp : List UInt8) : Nat := match othL.find? (fun y => strEq y.1 nm && strEq y.2.1 sp) with
  | some y => y.2.2
  | none => 9
def otherR : RSpec := fun args H => match args, H with
  | [.ptr 0 0, .agg [.str nm, .int .i64 _, .int .i64 _, .int .i64 c, .int .i64 d, .int .i64 m]], [.cells cs _] => match cpuOf (cs.take 38), cs.drop 38 with
    | some _, [.str sp] => .req (Nat.blt (kindO nm sp) 3 && (cond (Nat.beq (kindO nm sp) 0) (okReg c) true)) (.leaf (.int .u64 (othF (kindO nm sp) cs c d m)))
    | _, _ => .fail
  | _, _ => .fail
theorem wu_pos (x : Int) : 0 ≤ wu x := by
  show 0 ≤ x % 18446744073709551616
  omega
theorem otherR_ok : RSound Tryz.prog 90 otherR := by
  intro args H out h
  unfold otherR at h
  split at h
  rotate_left
  · cases h
  rename_i nm a b c d m cs t
  split at h
  rotate_left
  · cases h
  rename_i s sp hs hd
  obtain ⟨h1, h⟩ := req_run h
  cases h
  obtain ⟨g1, g2⟩ := Bool.and_eq_true_iff.1 h1
  obtain ⟨e1, e2⟩ := cpuOf_spec hs
  have hcs : cs = sG s sp := by
    rw [← List.take_append_drop 38 cs, e1, hd]
    rfl
  have hm : ∃ y ∈ othL, y.1 = nm ∧ y.2.1 = sp ∧ y.2.2 = kindO nm sp := by
    unfold kindO at g1 ⊢
    split at g1
    · rename_i y hy
      have := List.find?_some hy
      simp only [Bool.and_eq_true] at this
      exact ⟨y, List.mem_of_find?_eq_some hy, eq_of_beq this.1, eq_of_beq this.2, rfl⟩
    · cases g1
  obtain ⟨y, hy, rfl, rfl, hk⟩ := hm
  rw [← hk] at g2 ⊢
  clear g1 h1 hk
  subst hcs
  refine mfunR_ok (cx := cxOth) (fn := Tryz.f90) [] cxOth_ok (by kernel_rfl) (by kernel_rfl) _ _ _ ?_
  rw [← Tree.fin_run]
  have key : othE y = othX y := List.map_inj_left.1 oth_all _ hy
  have k2 : ∀ p x0 x1 x2 x3 x4 x5 x6 x7 x8 x9 x10 x11 x12 x13 x14 x15 x16 x17 x18 x19 x20 x21 x22 x23 x24 x25 x26 x27 x28 x29 x30 x31 th z n c' v, othE y p x0 x1 x2 x3 x4 x5 x6 x7 x8 x9 x10 x11 x12 x13 x14 x15 x16 x17 x18 x19 x20 x21 x22 x23 x24 x25 x26 x27 x28 x29 x30 x31 th z n c' v a b c d m t = othX y p x0 x1 x2 x3 x4 x5 x6 x7 x8 x9 x10 x11 x12 x13 x14 x15 x16 x17 x18 x19 x20 x21 x22 x23 x24 x25 x26 x27 x28 x29 x30 x31 th z n c' v a b c d m t := by
    intros
    rw [key]
  have k3 := k2 s.pc (s.x.getD 0 0) (s.x.getD 1 0) (s.x.getD 2 0) (s.x.getD 3 0) (s.x.getD 4 0) (s.x.getD 5 0) (s.x.getD 6 0) (s.x.getD 7 0) (s.x.getD 8 0) (s.x.getD 9 0) (s.x.getD 10 0) (s.x.getD 11 0) (s.x.getD 12 0) (s.x.getD 13 0) (s.x.getD 14 0) (s.x.getD 15 0) (s.x.getD 16 0) (s.x.getD 17 0) (s.x.getD 18 0) (s.x.getD 19 0) (s.x.getD 20 0) (s.x.getD 21 0) (s.x.getD 22 0) (s.x.getD 23 0) (s.x.getD 24 0) (s.x.getD 25 0) (s.x.getD 26 0) (s.x.getD 27 0) (s.x.getD 28 0) (s.x.getD 29 0) (s.x.getD 30 0) (s.x.getD 31 0) s.th s.z s.n s.c s.v
  unfold othE othX at k3
  rw [cpu_tab e2] at k3
  refine k3.trans ?_
  unfold q
  rw [decide_eq_true (wu_pos _), decide_eq_true (wu_pos _)]
  cases h0 : Nat.beq y.2.2 0
  · cases Nat.beq y.2.2 1 <;> rfl
  · rw [h0, cond_true] at g2
    rw [g2]
    rfl
def ckP (ck : InsR → Int) : Ab.Spec := fun args => match args with
  | [.agg [.str nm, .int .i64 a, .int .i64 b, .int .i64 c, .int .i64 d, .int .i64 m]] => .leaf (.int .i64 (ck (nm, a, b, c, d, m)))
  | _ => .fail
def wdP (wd : Int → Int → Int × Int) : Ab.Spec := fun args => match args with
  | [.int .u64 a, .int .u64 b] => .leaf (.tup [.int .u64 (wd a b).1, .int .u64 (wd a b).2])
  | _ => .fail
section
variable (ck : InsR → Int) (wd : Int → Int → Int × Int)
noncomputable def rgB : Tabs := { tab := [(38, ckP ck), (94, wdP wd), (12, holdsS), (95, dvS), (96, bitsS), (87, hasS)], mtab := [(89, setG), (100, storeRf)], rtab := [(40, getG), (90, otherR), (98, loadRf), (99, writR)], nums := [40, 90] }
noncomputable def rgT_ps : List Fi := [⟨39, Tryz.f39, [0, 2, 3, 4, 7, 21], [], 0, []⟩, ⟨88, Tryz.f88, [0, 2, 3, 14], [], 0, []⟩, ⟨97, Tryz.f97, [0, 2, 3, 4, 7, 10, 14], [], 0, []⟩, ⟨101, Tryz.f101, [0, 1, 4, 5, 6, 13, 20], [], 0, []⟩, ⟨137, Tryz.f137, [0, 2], [], 0, []⟩]
theorem rgT_ps_ok : FisOk Tryz.prog rgT_ps := ⟨⟨by kernel_rfl, by kernel_rfl⟩, ⟨by kernel_rfl, by kernel_rfl⟩, ⟨by kernel_rfl, by kernel_rfl⟩, ⟨by kernel_rfl, by kernel_rfl⟩, ⟨by kernel_rfl, by kernel_rfl⟩, trivial⟩
noncomputable def rgT_ms : List Fi := [⟨41, Tryz.f41, [0, 1, 3, 4, 5, 6, 13, 14, 25, 36, 48, 60, 71, 82, 93], [], 0, []⟩, ⟨42, Tryz.f42, [0, 1, 3, 4, 5, 6, 7, 9, 10, 25, 26, 37, 49, 68, 79, 92, 105, 115, 125, 137, 153, 164, 168, 176, 191], [], 0, []⟩, ⟨43, Tryz.f43, [0, 1, 2, 4, 6, 7, 8, 9, 10, 11, 12, 13, 14, 34, 38, 46, 68, 79, 93, 109], [], 0, []⟩, ⟨91, Tryz.f91, [0, 1, 2, 6, 7], [], 0, []⟩, ⟨92, Tryz.f92, [0, 1, 2, 6, 7], [], 0, []⟩, ⟨93, Tryz.f93, [0, 1], [], 0, []⟩]
theorem rgT_ms_ok : FisOk Tryz.prog rgT_ms := ⟨⟨by kernel_rfl, by kernel_rfl⟩, ⟨by kernel_rfl, by kernel_rfl⟩, ⟨by kernel_rfl, by kernel_rfl⟩, ⟨by kernel_rfl, by kernel_rfl⟩, ⟨by kernel_rfl, by kernel_rfl⟩, ⟨by kernel_rfl, by kernel_rfl⟩, trivial⟩
noncomputable def rgT (d : Nat) : Tabs := deep Tryz.prog (rgB ck wd) rgT_ps rgT_ms d
noncomputable def cxRg : Cx := { P := Tryz.prog, n := Tryz.f21.ntmps, tab := (rgT ck wd 3).tab, mtab := (rgT ck wd 3).mtab, rtab := (rgT ck wd 3).rtab, refs := [], keeps := [0, 1, 2, 3, 4, 5, 8, 9, 10, 11, 12, 13, 14, 15, 16, 17, 21, 26, 57, 67, 73, 76, 79, 88, 93, 95, 106, 108, 115, 127, 129, 131, 136], nums := (rgT ck wd 3).nums, lz := [] }
noncomputable def runR (nm : List UInt8) : RunTy := fun s a b c d m sz A B C D E => (mfunR (cxRg ck wd) Tryz.f21 [] [.agg s.l, insV nm a b c d m, .int .i64 sz, .ptr 0 0] (refO A B C D E)).fin
def topG (nm : List UInt8) (K : RunTy) : RunTy := fun s a b c d m sz A B C D E =>
  cond (sz != 4) (errK s 1 (refO A B C D E)) (cond (ck (nm, a, b, c, d, m) != 0) (errK s 22 (refO A B C D E)) (cond (Int.tmod s.pc 4 != 0) (errK s 10 (refO A B C D E)) (K s a b c d m sz A B C D E)))
def finG (s : CpuT) (L : List V) (to ev : Int) (H : List O) : Option Res := cond (Int.tmod to 4 != 0) (errK s 10 H) (outK (pcL to L) ev H)
def setLG (S : List V) (l a v : Int) (L : List V) : List V := setI .u64 (oG S l a) v 0 L
abbrev SumTy := CpuT → Int → Int → Int → List V → List V → (List V → Option Res) → Option Res
def sumG (nm sp : List UInt8) (k : Nat) (f : SumTy) : RunTy := fun s a b c d m sz A B C D E =>
  q (okReg b) (q (cond (Nat.beq k 0) (okReg c) true) (f s a (getF (sG s sp) 66 b) (othF k (sG s sp) c d m) s.l (sG s sp) fun L => finG s L (nxF s sz) 0 (refO A B C D E)))
def opG (g : Int → Int → Int) : SumTy := fun _ a x o L S K => q (okReg a) (K (setLG S 65 a (g x o) L))
def shr63 (x : Int) : Int := Int.fdiv x (2 ^ 63)
def nzL (x : Int) (c v : Bool) (L : List V) : List V := flagL (x == 0) (shr63 x == 1) c v L
def plusG : SumTy := fun _ a x o L S K =>
  cond (shr63 x == shr63 o) (q (okReg a) (K (setLG S 65 a (wu (x + o)) (nzL (wu (x + o)) (decide (wu (x + o) < x)) (shr63 (wu (x + o)) != shr63 x) L))))
    (q (okReg a) (K (setLG S 65 a (wu (x + o)) (nzL (wu (x + o)) (decide (wu (x + o) < x)) false L))))
def minusG : SumTy := fun _ a x o L S K =>
  cond (shr63 x != shr63 o) (q (okReg a) (K (setLG S 65 a (wu (x - o)) (nzL (wu (x - o)) (decide (o ≤ x)) (shr63 (wu (x - o)) != shr63 x) L))))
    (q (okReg a) (K (setLG S 65 a (wu (x - o)) (nzL (wu (x - o)) (decide (o ≤ x)) false L))))
def andsG : SumTy := fun _ a x o L S K => q (okReg a) (K (setLG S 65 a (andU x o) (nzL (andU x o) false false L)))
abbrev MovTy := CpuT → Int → Int → Int → Int → Int → Int → List V → List V → (List V → Option Res) → Option Res
def mvdG (_nm : List UInt8) (f : MovTy) : RunTy := fun s a b c d m sz A B C D E =>
  q (okReg b) (q (okReg b) (q (okReg (and31 c)) (f s a c d (wu m) (getF (sG s []) 66 b) (getF (sG s []) 67 (and31 c)) s.l (sG s []) fun L => finG s L (nxF s sz) 0 (refO A B C D E))))
def setKG (a v : Int) (S L : List V) (K : List V → Option Res) : Option Res := q (okReg a) (K (setLG S 65 a v L))
def movzG : MovTy := fun _ a _ d n _ _ L S K => q (decide (0 ≤ wu (c16 d))) (setKG a (shlF n (wu (c16 d))) S L K)
def movnG : MovTy := fun _ a _ d n _ _ L S K => q (decide (0 ≤ wu (c16 d))) (setKG a (notU (shlF n (wu (c16 d)))) S L K)
def movkG : MovTy := fun _ a _ d n _ _ L S K => q (okReg a) (q (decide (0 ≤ wu (c16 d))) (q (decide (0 ≤ wu (c16 d))) (setKG a (orU (andnU (getF S 65 a) (shlF 65535 (wu (c16 d)))) (shlF n (wu (c16 d)))) S L K)))
def maddG (g : Int → Int) : MovTy := fun _ a _ d _ x y L S K => q (okReg d) (setKG a (wu (getF S 68 d + g (wd x y).2)) S L K)
end
def divG (sg : Bool) : MovTy := fun _ a _ _ _ x y L S K => q (rng64 y) (setKG a (dvF x y sg) S L K)
def shG (g : Int → Int → Int) : MovTy := fun _ a _ _ _ x y L S K => q (decide (0 ≤ andU y 63)) (setKG a (g x (andU y 63)) S L K)
def bfG (sg : Bool) : MovTy := fun _ a c d _ x _ L S K => q (ok6 c && ok6 d) (setKG a (fieldF x c d sg) S L K)
def selG (g : Int → Int) : MovTy := fun s a _ d _ x y L S K => cond (!holdsF s.z s.n s.c s.v d) (setKG a (g y) S L K) (setKG a x S L K)
def adrG : MovTy := fun s a _ _ n _ _ L S K => setKG a (wu (s.pc + n)) S L K
def adrpG : MovTy := fun s a _ _ n _ _ L S K => setKG a (wu (andnU s.pc 4095 + shlF n 12)) S L K
def memG (K : Int → List V → Option Res) (s : CpuT) (b c m : Int) : Option Res :=
  q (okReg b) (q (okReg b) (q (okReg (and31 c)) (q (okReg b) (K (wu (getF (sG s [66]) 66 b + wu m)) (sG s [66])))))
def ldC (x n : Int) (A B C D E : List Int) (k : Int → Option Res) : Option Res := q (lens5 A B C D E) (q (rng64 x && true) (k (valLd A B C D E x n)))
def ldrswG (x : Int) : Int := wu (wi (IntKind.wrap .i32 (IntKind.wrap .u32 x)))
def ldG (_nm : List UInt8) (n : Int) (g : Int → Int) : RunTy := fun s a b c _ m sz A B C D E => memG (fun x S => ldC x n A B C D E fun y =>
  cond (errLd x n != 0) (cond (errLd x n != 0) (errK s (errLd x n) (refO A B C D E)) (finG s s.l (nxF s sz) 0 (refO A B C D E))) (setKG a (g y) S s.l fun L => finG s L (nxF s sz) 0 (refO A B C D E))) s b c m
def ldpG (_nm : List UInt8) : RunTy := fun s a b c _ m sz A B C D E => memG (fun x S => ldC x 8 A B C D E fun y => ldC (wu (x + 8)) 8 A B C D E fun z =>
  cond (errLd x 8 != 0) (errK s 21 (refO A B C D E)) (cond (errLd (wu (x + 8)) 8 != 0) (errK s 21 (refO A B C D E)) (setKG a y S s.l fun L => q (okReg c) (finG s (setLG S 67 c z L) (nxF s sz) 0 (refO A B C D E))))) s b c m
def strG (_nm : List UInt8) (n : Int) : RunTy := fun s a b c _ m sz A B C D E => memG (fun x S => q (okReg a) (stK x n (getF S 65 a) A B C D E fun A B C D E =>
  cond (errSt x n != 0) (errK s (errSt x n) (refO A B C D E)) (finG s s.l (nxF s sz) 0 (refO A B C D E)))) s b c m
def stpG (_nm : List UInt8) : RunTy := fun s a b c _ m sz A B C D E => memG (fun x S => q (lens5 A B C D E) (cond (!wrB x) (errK s 21 (refO A B C D E)) (q (lens5 A B C D E) (cond (!wrB (wu (x + 8))) (errK s 21 (refO A B C D E))
  (q (okReg a) (stK x 8 (getF S 65 a) A B C D E fun A B C D E => q (okReg c) (stK (wu (x + 8)) 8 (getF S 67 c) A B C D E fun A B C D E => finG s s.l (nxF s sz) 0 (refO A B C D E)))))))) s b c m
def bG : RunTy := fun s _ _ _ _ m _ A B C D E => finG s s.l (wu (s.pc + wu m)) 0 (refO A B C D E)
def blG : RunTy := fun s _ _ _ _ m sz A B C D E => finG s (setL 30 (nxF s sz) s.l) (wu (s.pc + wu m)) 0 (refO A B C D E)
def bcG : RunTy := fun s _ _ _ d m sz A B C D E => cond (holdsF s.z s.n s.c s.v d) (finG s s.l (wu (s.pc + wu m)) 0 (refO A B C D E)) (finG s s.l (nxF s sz) 0 (refO A B C D E))
def cbG (t : Bool) : RunTy := fun s a _ _ _ m sz A B C D E => q (okReg a) (cond ((getF (sG s []) 65 a == 0) == t) (finG s s.l (wu (s.pc + wu m)) 0 (refO A B C D E)) (finG s s.l (nxF s sz) 0 (refO A B C D E)))
def brG : RunTy := fun s _ b _ _ _ _ A B C D E => q (okReg b) (finG s s.l (getF (sG s []) 66 b) 0 (refO A B C D E))
def blrG : RunTy := fun s _ b _ _ _ sz A B C D E => q (okReg b) (finG s (setL 30 (nxF s sz) s.l) (getF (sG s []) 66 b) 0 (refO A B C D E))
def nopG (ev : Int) : RunTy := fun s _ _ _ _ _ sz A B C D E => finG s s.l (nxF s sz) ev (refO A B C D E)
def brkG : RunTy := fun s _ _ _ _ _ _ A B C D E => outK s.l 2 (refO A B C D E)
def rowsG (wd : Int → Int → Int × Int) : List (List UInt8 × RunTy) := [
  ([109, 111, 118, 110], mvdG [109, 111, 118, 110] movnG),
  ([109, 111, 118, 122], mvdG [109, 111, 118, 122] movzG),
  ([109, 111, 118, 107], mvdG [109, 111, 118, 107] movkG),
  ([97, 100, 100, 46, 105], sumG [97, 100, 100, 46, 105] [65, 66] 1 (opG fun x y => wu (x + y))),
  ([97, 100, 100, 115, 46, 105], sumG [97, 100, 100, 115, 46, 105] [66] 1 plusG),
  ([115, 117, 98, 46, 105], sumG [115, 117, 98, 46, 105] [65, 66] 1 (opG fun x y => wu (x - y))),
  ([115, 117, 98, 115, 46, 105], sumG [115, 117, 98, 115, 46, 105] [66] 1 minusG),
  ([97, 100, 100], sumG [97, 100, 100] [] 0 (opG fun x y => wu (x + y))),
  ([97, 100, 100, 115], sumG [97, 100, 100, 115] [] 0 plusG),
  ([115, 117, 98], sumG [115, 117, 98] [] 0 (opG fun x y => wu (x - y))),
  ([115, 117, 98, 115], sumG [115, 117, 98, 115] [] 0 minusG),
  ([97, 110, 100], sumG [97, 110, 100] [] 0 (opG andU)),
  ([111, 114, 114], sumG [111, 114, 114] [] 0 (opG orU)),
  ([101, 111, 114], sumG [101, 111, 114] [] 0 (opG xorU)),
  ([97, 110, 100, 115], sumG [97, 110, 100, 115] [] 0 andsG),
  ([97, 110, 100, 46, 105], sumG [97, 110, 100, 46, 105] [65] 2 (opG andU)),
  ([111, 114, 114, 46, 105], sumG [111, 114, 114, 46, 105] [65] 2 (opG orU)),
  ([101, 111, 114, 46, 105], sumG [101, 111, 114, 46, 105] [65] 2 (opG xorU)),
  ([97, 110, 100, 115, 46, 105], sumG [97, 110, 100, 115, 46, 105] [] 2 andsG),
  ([109, 97, 100, 100], mvdG [109, 97, 100, 100] (maddG wd fun x => x)),
  ([109, 115, 117, 98], mvdG [109, 115, 117, 98] (maddG wd fun x => wu (0 - x))),
  ([117, 100, 105, 118], mvdG [117, 100, 105, 118] (divG false)),
  ([115, 100, 105, 118], mvdG [115, 100, 105, 118] (divG true)),
  ([108, 115, 108, 118], mvdG [108, 115, 108, 118] (shG shlF)),
  ([108, 115, 114, 118], mvdG [108, 115, 114, 118] (shG shrF)),
  ([97, 115, 114, 118], mvdG [97, 115, 114, 118] (shG asrF)),
  ([115, 98, 102, 109], mvdG [115, 98, 102, 109] (bfG true)),
  ([117, 98, 102, 109], mvdG [117, 98, 102, 109] (bfG false)),
  ([99, 115, 101, 108], mvdG [99, 115, 101, 108] (selG fun y => y)),
  ([99, 115, 105, 110, 99], mvdG [99, 115, 105, 110, 99] (selG fun y => wu (y + 1))),
  ([97, 100, 114], mvdG [97, 100, 114] adrG),
  ([97, 100, 114, 112], mvdG [97, 100, 114, 112] adrpG),
  ([108, 100, 114, 98], ldG [108, 100, 114, 98] 1 fun x => x),
  ([115, 116, 114, 98], strG [115, 116, 114, 98] 1),
  ([108, 100, 114, 104], ldG [108, 100, 114, 104] 2 fun x => x),
  ([115, 116, 114, 104], strG [115, 116, 114, 104] 2),
  ([108, 100, 114, 46, 119], ldG [108, 100, 114, 46, 119] 4 fun x => x),
  ([115, 116, 114, 46, 119], strG [115, 116, 114, 46, 119] 4),
  ([108, 100, 114, 115, 119], ldG [108, 100, 114, 115, 119] 4 ldrswG),
  ([108, 100, 114], ldG [108, 100, 114] 8 fun x => x),
  ([115, 116, 114], strG [115, 116, 114] 8),
  ([108, 100, 112], ldpG [108, 100, 112]),
  ([115, 116, 112], stpG [115, 116, 112]),
  ([98], bG),
  ([98, 108], blG),
  ([98, 46, 99], bcG),
  ([99, 98, 122], (cbG true)),
  ([99, 98, 110, 122], (cbG false)),
  ([98, 114], brG),
  ([98, 108, 114], blrG),
  ([114, 101, 116], brG),
  ([115, 118, 99], (nopG 1)),
  ([98, 114, 107], brkG),
  ([110, 111, 112], (nopG 0))]
def gE (ck : InsR → Int) (x : List UInt8 × RunTy) := W2 (topG ck x.1 x.2)
noncomputable def gO (ck : InsR → Int) (wd : Int → Int → Int × Int) (x : List UInt8 × RunTy) := W1 (runR ck wd x.1)
end Go.Ra

namespace Go.Ra
open Go Go.Ab Go.Proofs
theorem ref_1 (ck : InsR → Int) (wd : Int → Int → Int × Int) : (((rowsG wd).drop 0).take 6).map (gO ck wd) = (((rowsG wd).drop 0).take 6).map (gE ck) := by kernel_rfl
end Go.Ra

namespace Go.Ra
open Go Go.Ab Go.Proofs
theorem ref_2 (ck : InsR → Int) (wd : Int → Int → Int × Int) : (((rowsG wd).drop 6).take 6).map (gO ck wd) = (((rowsG wd).drop 6).take 6).map (gE ck) := by kernel_rfl
end Go.Ra

namespace Go.Ra
open Go Go.Ab Go.Proofs
theorem ref_3 (ck : InsR → Int) (wd : Int → Int → Int × Int) : (((rowsG wd).drop 12).take 6).map (gO ck wd) = (((rowsG wd).drop 12).take 6).map (gE ck) := by kernel_rfl
end Go.Ra

namespace Go.Ra
open Go Go.Ab Go.Proofs
theorem ref_4 (ck : InsR → Int) (wd : Int → Int → Int × Int) : (((rowsG wd).drop 18).take 6).map (gO ck wd) = (((rowsG wd).drop 18).take 6).map (gE ck) := by kernel_rfl
end Go.Ra

namespace Go.Ra
open Go Go.Ab Go.Proofs
theorem ref_5 (ck : InsR → Int) (wd : Int → Int → Int × Int) : (((rowsG wd).drop 24).take 6).map (gO ck wd) = (((rowsG wd).drop 24).take 6).map (gE ck) := by kernel_rfl
end Go.Ra

namespace Go.Ra
open Go Go.Ab Go.Proofs
theorem ref_6 (ck : InsR → Int) (wd : Int → Int → Int × Int) : (((rowsG wd).drop 30).take 6).map (gO ck wd) = (((rowsG wd).drop 30).take 6).map (gE ck) := by kernel_rfl
end Go.Ra

namespace Go.Ra
open Go Go.Ab Go.Proofs
theorem ref_7 (ck : InsR → Int) (wd : Int → Int → Int × Int) : (((rowsG wd).drop 36).take 6).map (gO ck wd) = (((rowsG wd).drop 36).take 6).map (gE ck) := by kernel_rfl
end Go.Ra

namespace Go.Ra
open Go Go.Ab Go.Proofs
theorem ref_8 (ck : InsR → Int) (wd : Int → Int → Int × Int) : (((rowsG wd).drop 42).take 6).map (gO ck wd) = (((rowsG wd).drop 42).take 6).map (gE ck) := by kernel_rfl
end Go.Ra

namespace Go.Ra
open Go Go.Ab Go.Proofs
theorem ref_9 (ck : InsR → Int) (wd : Int → Int → Int × Int) : (((rowsG wd).drop 48).take 6).map (gO ck wd) = (((rowsG wd).drop 48).take 6).map (gE ck) := by kernel_rfl
end Go.Ra
