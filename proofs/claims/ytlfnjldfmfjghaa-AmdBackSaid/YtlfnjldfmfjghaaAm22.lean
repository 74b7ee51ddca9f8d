/-
  What is behind the opcode, plainly. Conditions: none.
-/
import Derived.Test.YtlfnjldfmfjghaaAm21
namespace Go.Amd
open Go Go.Ab Go.Proofs

/-- What is behind the opcode: the instruction and the place behind it; or what goes up, and where. -/
abbrev RestR := Except (Int × Int) (InsT × Int)
def nxQ (t : List Int) (k : Int) (K : Int → List Int → Int → RestR) : RestR := match t with
  | [] => .error (2, k)
  | c :: t => K c t (k + 1)
def num1Q (t : List Int) (k : Int) (K : Int → List Int → Int → RestR) : RestR := nxQ t k fun a t k => K (num1V a) t k
def num4Q (t : List Int) (k : Int) (K : Int → List Int → Int → RestR) : RestR := nxQ t k fun a t k => nxQ t k fun b t k => nxQ t k fun c t k => nxQ t k fun d t k => K (num4V a b c d) t k
def num8Q (t : List Int) (k : Int) (K : Int → List Int → Int → RestR) : RestR := nxQ t k fun a t k => nxQ t k fun b t k => nxQ t k fun c t k => nxQ t k fun d t k =>
  nxQ t k fun e t k => nxQ t k fun f t k => nxQ t k fun g t k => nxQ t k fun h t k => K (num8V a b c d e f g h) t k
def finQ (x : RowT) (i : InsT) (k : Int) : RestR := cond (!(faultyF x i == 0)) (.error (22, k)) (.ok (i, k))
def mustQ (b : Bool) (k : Int) (r : RestR) : RestR := cond (!b) (.error (22, k)) r

/-- How the rest is to be told of a place. -/
structure At (l : List Int) (k : Int) (t : List Int) : Prop where
  at' : ∃ p : List Int, l = p ++ t ∧ k = (p.length : Int)
  fine : ∀ x ∈ t, 0 ≤ x ∧ x < 256
theorem At.next {l t : List Int} {k c : Int} (h : At l k (c :: t)) : At l (k + 1) t := by
  obtain ⟨p, h1, h2⟩ := h.at'
  exact ⟨⟨p ++ [c], by rw [h1]; simp, by rw [h2, List.length_append]; rfl⟩, fun x hx => h.fine x (List.mem_cons_of_mem _ hx)⟩

section
variable {l sp : List Int} {fl : Fl} {fs : Bool} {R : Int} {has : Bool}

def toRes (l sp : List Int) (fl : Fl) (fs : Bool) (R : Int) (has : Bool) : RestR → Res
  | .ok (i, k) => .ok (insV i) [wkO l sp fl k fs R has, insO i]
  | .error (e, k) => .pan (fltV e) [wkO l sp fl k fs R has]
/-- A tree comes to a plain answer. -/
def Comes' (l sp : List Int) (fl : Fl) (fs : Bool) (R : Int) (has : Bool) (T : Tree Res) (r : RestR) : Prop := T.run = some (toRes l sp fl fs R has r)
abbrev CK (l sp : List Int) (fl : Fl) (fs : Bool) (R : Int) (has : Bool) (K : Int → Int → Tree Res) (Q : Int → List Int → Int → RestR) : Prop := ∀ (n k : Int) (t : List Int), At l k t → Comes' l sp fl fs R has (K n k) (Q n t k)

theorem nx_run (h1 : l.length < 1000000000) {K : Int → Int → Tree Res} {Q : Int → List Int → Int → RestR} (hK : ∀ (n k : Int) (t : List Int), 0 ≤ n → At l k t → Comes' l sp fl fs R has (K n k) (Q n t k)) {k : Int} {t : List Int} (ha : At l k t) :
    Comes' l sp fl fs R has (nxA l sp fl fs R has k K) (nxQ t k Q) := by
  obtain ⟨p, e1, e2⟩ := ha.at'
  unfold Comes' nxQ
  refine (nxK_at e1 e2 h1 _ _).trans ?_
  cases t with
  | nil => rfl
  | cons c t => exact hK c (k + 1) t (ha.fine c List.mem_cons_self).1 ha.next
theorem num1_run (h1 : l.length < 1000000000) {K : Int → Int → Tree Res} {Q : Int → List Int → Int → RestR} (hK : CK l sp fl fs R has K Q) {k : Int} {t : List Int} (ha : At l k t) :
    Comes' l sp fl fs R has (num1A numV l sp fl fs R has k K) (num1Q t k Q) :=
  nx_run h1 (fun a k t _ ha => hK _ k t ha) ha
theorem num4_run (h1 : l.length < 1000000000) {K : Int → Int → Tree Res} {Q : Int → List Int → Int → RestR} (hK : CK l sp fl fs R has K Q) {k : Int} {t : List Int} (ha : At l k t) :
    Comes' l sp fl fs R has (num4A numV l sp fl fs R has k K) (num4Q t k Q) :=
  nx_run h1 (fun _ _ _ _ ha => nx_run h1 (fun _ _ _ _ ha => nx_run h1 (fun _ _ _ _ ha => nx_run h1 (fun _ k t _ ha => hK _ k t ha) ha) ha) ha) ha
theorem num8_run (h1 : l.length < 1000000000) {K : Int → Int → Tree Res} {Q : Int → List Int → Int → RestR} (hK : CK l sp fl fs R has K Q) {k : Int} {t : List Int} (ha : At l k t) :
    Comes' l sp fl fs R has (num8A numV l sp fl fs R has k K) (num8Q t k Q) :=
  nx_run h1 (fun _ _ _ _ ha => nx_run h1 (fun _ _ _ _ ha => nx_run h1 (fun _ _ _ _ ha => nx_run h1 (fun _ _ _ _ ha => nx_run h1 (fun _ _ _ _ ha => nx_run h1 (fun _ _ _ _ ha => nx_run h1 (fun _ _ _ _ ha => nx_run h1 (fun _ k t _ ha => hK _ k t ha) ha) ha) ha) ha) ha) ha) ha) ha
theorem fin_run {x : RowT} (hx : formOk x = true) (a b cc d n k : Int) : Comes' l sp fl fs R has (finA l sp fl fs R has x a b cc d n k) (finQ x (x.1, a, b, cc, d, n) k) := by
  unfold Comes' finQ
  refine (br_t hx).trans ?_
  rw [br_run]
  cases (!(faultyF x (x.1, a, b, cc, d, n) == 0)) <;> rfl
theorem br_run' {c : Bool} {X Y : Tree Res} {p q : RestR} (hx : Comes' l sp fl fs R has X p) (hy : Comes' l sp fl fs R has Y q) : Comes' l sp fl fs R has (.br c X Y) (cond c p q) := by
  unfold Comes' at hx hy ⊢
  rw [br_run, hx, hy]
  cases c <;> rfl
theorem pan_run (e k : Int) : Comes' l sp fl fs R has (panA l sp fl fs R has e k) (.error (e, k)) := rfl
theorem must_run {b : Bool} {k : Int} {Y : Tree Res} {q : RestR} (hy : Comes' l sp fl fs R has Y q) : Comes' l sp fl fs R has (.br (!b) (panA l sp fl fs R has 22 k) Y) (mustQ b k q) :=
  br_run' (pan_run 22 k) hy
theorem req_run' {c : Bool} {X : Tree Res} {p : RestR} (hc : c = true) (hx : Comes' l sp fl fs R has X p) : Comes' l sp fl fs R has (.br c X .fail) p := by
  unfold Comes' at hx ⊢
  rw [br_t hc]
  exact hx
end

/-! The forms, plainly. -/

def lastB (op : List Int) : Int := op.getD (lastI op).toNat 0
def lastQ (x : RowT) (op : List Int) (K : Int → RestR) : RestR := K (wi (w8 (lastB op - w8 x.2.2.1)))
def modQ (c b : Int) (t : List Int) (k : Int) (K : Int → List Int → Int → RestR) : RestR :=
  cond (modF c == 1) (num1Q t k fun n t k => cond (n != 0) (K n t k) (mustQ (andi b 7 == 5) k (K n t k))) (cond (modF c == 2) (num4Q t k fun n t k => mustQ (!fitsF n) k (K n t k)) (K 0 t k))
abbrev PlaceK := Int → Int → Int → Int → List Int → Int → RestR
def sibQ2 (R c e : Int) (t : List Int) (k : Int) (K : PlaceK) : RestR :=
  cond (idxF e R == 4) (cond (modF e == 0) (mustQ (andi (lowF e R) 7 == 4) k (modQ c (lowF e R) t k (K (lowF e R) 16 0))) (.error (22, k))) (modQ c (lowF e R) t k (K (lowF e R) (idxF e R) (scF e)))
def sibQ (R c : Int) (t : List Int) (k : Int) (K : PlaceK) : RestR :=
  nxQ t k fun e t k => cond (modF c != 0) (sibQ2 R c e t k K) (mustQ (andi (lowF e R) 7 != 5) k (sibQ2 R c e t k K))
def baseQ (R c : Int) (t : List Int) (k : Int) (K : PlaceK) : RestR :=
  cond (rmF c == 4) (sibQ R c t k K) (mustQ (and8 R 2 == 0) k (modQ c (wi (rmF c + bitF R 1)) t k (K (wi (rmF c + bitF R 1)) 16 0)))
def placeQ (R c : Int) (t : List Int) (k : Int) (K : PlaceK) : RestR :=
  cond (modF c == 0) (cond (rmF c == 5) (mustQ (and8 R 3 == 0) k (num4Q t k fun n t k => K 17 16 0 n t k)) (baseQ R c t k K)) (baseQ R c t k K)

/-- What is behind the opcode, by the row's form. -/
def formQ (f R : Int) (x : RowT) (op : List Int) (c : Int) (t : List Int) (k d : Int) : RestR :=
  cond (f == 0) (finQ x (x.1, 0, 0, 0, d, 0) k)
  (cond (f == 1) (lastQ x op fun a => finQ x (x.1, wi (a + bitF R 1), 0, 0, d, 0) k)
  (cond (f == 2) (lastQ x op fun a => num8Q t k fun n _ k => finQ x (x.1, wi (a + bitF R 1), 0, 0, d, n) k)
  (cond (f == 3) (finQ x (x.1, lowF c R, 0, 0, d, 0) k)
  (cond (f == 4) (num4Q t k fun n _ k => finQ x (x.1, lowF c R, 0, 0, d, n) k)
  (cond (f == 5) (num1Q t k fun n _ k => finQ x (x.1, lowF c R, 0, 0, d, n) k)
  (cond (f == 6) (cond (op.getD 0 0 == 131) (num1Q t k fun n _ k => finQ x (x.1, lowF c R, 0, 0, d, n) k) (num4Q t k fun n _ k => mustQ (!fitsF n) k (finQ x (x.1, lowF c R, 0, 0, d, n) k)))
  (cond (f == 7) (finQ x (x.1, lowF c R, midF c R, 0, d, 0) k)
  (cond (f == 8) (finQ x (x.1, midF c R, lowF c R, 0, d, 0) k)
  (cond (f == 9) (placeQ R c t k fun b cc d n _ k => finQ x (x.1, midF c R, b, cc, d, n) k)
  (cond (f == 10) (nxQ t k fun e t k => mustQ (e == 37) k (num4Q t k fun n _ k => finQ x (x.1, midF c R, 0, 0, d, n) k))
  (cond (f == 11) (num4Q t k fun n _ k => finQ x (x.1, 0, 0, 0, d, n) k)
  (num1Q t k fun n _ k => finQ x (x.1, 0, 0, 0, d, n) k))))))))))))
def restQ (R : Int) (x : RowT) (op : List Int) (c : Int) (t : List Int) (k : Int) : RestR :=
  cond (condR x) (lastQ x op fun d => formQ (formR x) R x op c t k d) (formQ (formR x) R x op c t k 0)

section
variable {l sp : List Int} {fl : Fl} {fs : Bool} {R : Int} {has : Bool}
theorem last_in {op : List Int} (h : opLen op = true) : inside (lastI op) op.length = true ∧ inside 0 op.length = true := by
  match op, h with
  | [c], _ => exact ⟨rfl, rfl⟩
  | [c, e], _ => exact ⟨rfl, rfl⟩
  | [], h => cases h
  | _ :: _ :: _ :: _, h => cases h
theorem last_run {x : RowT} {op : List Int} (h : opLen op = true) {K : Int → Tree Res} {Q : Int → RestR} (hK : ∀ a, Comes' l sp fl fs R has (K a) (Q a)) : Comes' l sp fl fs R has (lastA x op K) (lastQ x op Q) :=
  req_run' (last_in h).1 (hK _)
theorem mod_run (h1 : l.length < 1000000000) {c b : Int} {K : Int → Int → Tree Res} {Q : Int → List Int → Int → RestR} (hK : CK l sp fl fs R has K Q) (cc d : Int) {k : Int} {t : List Int} (ha : At l k t) :
    Comes' l sp fl fs R has (modA numV l sp fl fs R has c b cc d k K) (modQ c b t k Q) :=
  br_run' (num1_run h1 (fun n k t ha => br_run' (hK n k t ha) (must_run (hK n k t ha))) ha) (br_run' (num4_run h1 (fun n k t ha => must_run (hK n k t ha)) ha) (hK 0 k t ha))
theorem modF_nonneg {c : Int} (h : 0 ≤ c) : 0 ≤ modF c := by
  unfold modF
  rw [Int.fdiv_eq_ediv_of_nonneg _ (by decide)]
  exact Int.ediv_nonneg h (by decide)
theorem sib2_run (h1 : l.length < 1000000000) {c e : Int} (he : 0 ≤ e) {K : Int → Int → Int → Int → Int → Tree Res} {Q : PlaceK} (hK : ∀ b cc d, CK l sp fl fs R has (K b cc d) (Q b cc d)) {k : Int} {t : List Int} (ha : At l k t) :
    Comes' l sp fl fs R has (sibB numV l sp fl fs R has c e k K) (sibQ2 R c e t k Q) :=
  br_run' (br_run' (must_run (mod_run h1 (hK _ _ _) 16 0 ha)) (pan_run 22 k)) (req_run' (decide_eq_true (modF_nonneg he)) (mod_run h1 (hK _ _ _) _ _ ha))
theorem sib_run (h1 : l.length < 1000000000) {c : Int} {K : Int → Int → Int → Int → Int → Tree Res} {Q : PlaceK} (hK : ∀ b cc d, CK l sp fl fs R has (K b cc d) (Q b cc d)) {k : Int} {t : List Int} (ha : At l k t) :
    Comes' l sp fl fs R has (sibA numV l sp fl fs R has c k K) (sibQ R c t k Q) :=
  nx_run h1 (fun _ _ _ he ha => br_run' (sib2_run h1 he hK ha) (must_run (sib2_run h1 he hK ha))) ha
theorem base_run (h1 : l.length < 1000000000) {c : Int} {K : Int → Int → Int → Int → Int → Tree Res} {Q : PlaceK} (hK : ∀ b cc d, CK l sp fl fs R has (K b cc d) (Q b cc d)) {k : Int} {t : List Int} (ha : At l k t) :
    Comes' l sp fl fs R has (baseA numV l sp fl fs R has c k K) (baseQ R c t k Q) :=
  br_run' (sib_run h1 hK ha) (must_run (mod_run h1 (hK _ _ _) 16 0 ha))
theorem place_run (h1 : l.length < 1000000000) {c : Int} {K : Int → Int → Int → Int → Int → Tree Res} {Q : PlaceK} (hK : ∀ b cc d, CK l sp fl fs R has (K b cc d) (Q b cc d)) {k : Int} {t : List Int} (ha : At l k t) :
    Comes' l sp fl fs R has (placeA numV l sp fl fs R has c k K) (placeQ R c t k Q) :=
  br_run' (br_run' (must_run (num4_run h1 (hK 17 16 0) ha)) (base_run h1 hK ha)) (base_run h1 hK ha)

theorem cond_eq_true {α : Type} {c : Bool} {x y : α} (h : c = true) : cond c x y = x := by rw [h]; rfl

/-- Each form's tree comes to its plain answer. -/
theorem rests_run : ∀ p ∈ formsA, ∀ {x : RowT} {op : List Int} (_ : formR x = p.1.1) (_ : condR x = p.1.2) (_ : formOk x = true) (_ : opLen op = true) (h1 : l.length < 1000000000) {c k : Int} {t : List Int} (_ : At l k t),
    Comes' l sp fl fs R has (p.2 numV l sp fl fs R has x op c k) (restQ R x op c t k) := by
  intro p hp x op hf hc hx hop h1 c k t ha
  unfold formsA at hp
  simp only [List.mem_cons, List.not_mem_nil, or_false] at hp
  unfold restQ
  have fin : ∀ a b cc d n k, Comes' l sp fl fs R has (finA l sp fl fs R has x a b cc d n k) (finQ x (x.1, a, b, cc, d, n) k) := fun a b cc d n k => fin_run hx a b cc d n k
  rcases hp with rfl | rfl | rfl | rfl | rfl | rfl | rfl | rfl | rfl | rfl | rfl | rfl | rfl | rfl | rfl | rfl
  all_goals
    simp only at hf hc
    rw [hf, hc]
  · exact fin 0 0 0 0 0 k
  · exact last_run (x := x) hop fun a => fin _ 0 0 0 0 k
  · exact last_run (x := x) hop fun a => num8_run h1 (fun n k _ _ => fin _ 0 0 0 n k) ha
  · exact fin _ 0 0 0 0 k
  · exact num4_run h1 (fun n k _ _ => fin _ 0 0 0 n k) ha
  · exact num1_run h1 (fun n k _ _ => fin _ 0 0 0 n k) ha
  · exact req_run' (last_in hop).2 (br_run' (num1_run h1 (fun n k _ _ => fin _ 0 0 0 n k) ha) (num4_run h1 (fun n k _ _ => must_run (fin _ 0 0 0 n k)) ha))
  · exact fin _ _ 0 0 0 k
  · exact fin _ _ 0 0 0 k
  · exact last_run (x := x) hop fun d => fin _ _ 0 d 0 k
  · exact place_run h1 (fun b cc d n k _ _ => fin _ b cc d n k) ha
  · exact nx_run h1 (K := fun e k => .br (!(e == 37)) (panA l sp fl fs R has 22 k) (num4A numV l sp fl fs R has k fun n k => finA l sp fl fs R has x (midF c R) 0 0 0 n k)) (Q := fun e t k => mustQ (e == 37) k (num4Q t k fun n _ k => finQ x (x.1, midF c R, 0, 0, 0, n) k))
      (fun e k t _ ha => must_run (num4_run h1 (fun n k _ _ => fin _ 0 0 0 n k) ha)) ha
  · exact num4_run h1 (fun n k _ _ => fin 0 0 0 0 n k) ha
  · exact last_run (x := x) hop fun d => num4_run h1 (fun n k _ _ => fin 0 0 0 d n k) ha
  · exact num1_run h1 (fun n k _ _ => fin 0 0 0 0 n k) ha
  · exact last_run (x := x) hop fun d => num1_run h1 (fun n k _ _ => fin 0 0 0 d n k) ha
end

end Go.Amd
