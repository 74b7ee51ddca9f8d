/-
  compact's words, plainly: what was read is encoded as the word; no word has two rows. Conditions: none.
-/
import Derived.Test.YtaedihkgdmaofaaDoorCmP
namespace Go.Cmp
open Go Go.Ab

theorem map_of_zip {g : FldT → Int} : ∀ {fs : List FldT} {vs : List Int}, InR fs vs → (∀ p ∈ fs.zip vs, g p.1 = p.2) → fs.map g = vs
  | [], [], _, _ => rfl
  | f :: fs, v :: vs, h, hz => by
    rw [List.map_cons, map_of_zip h.2 (fun p hp => hz p (List.mem_cons_of_mem _ hp)), hz (f, v) List.mem_cons_self]
theorem zip_in : ∀ {fs : List FldT} {vs : List Int}, InR fs vs → ∀ p ∈ fs.zip vs, p.1 ∈ fs ∧ 0 ≤ p.2 ∧ p.2 < 2 ^ wd p.1
  | [], [], _, p, hp => by cases hp
  | f :: fs, v :: vs, h, p, hp => by
    rcases List.mem_cons.1 hp with rfl | hp
    · exact ⟨List.mem_cons_self, h.1⟩
    · obtain ⟨h1, h2⟩ := zip_in h.2 p hp
      exact ⟨List.mem_cons_of_mem _ h1, h2⟩
theorem giv_mem : ∀ {fs : List FldT} {vs : List Int}, InR fs vs → givL fs vs = true → ∀ p ∈ fs.zip vs, p.1.2.1 = 0 → shV p.1 p.2 = i64 p.1.2.2.1
  | [], [], _, _, p, hp, _ => by cases hp
  | f :: fs, v :: vs, h, hg, p, hp, h0 => by
    have hg : (cond (f.2.1 == 0) (shV f v == i64 f.2.2.1) true && givL fs vs) = true := hg
    rw [Bool.and_eq_true] at hg
    rcases List.mem_cons.1 hp with rfl | hp
    · have h0 : f.2.1 = 0 := h0
      rw [h0] at hg
      exact eq_of_beq hg.1
    · exact giv_mem h.2 hg.2 p hp h0
theorem regL_none (c : Int) : ∀ (fs : List FldT) (vs : List Int) (acc : Int), (fs.filter fun f => f.2.1 == c) = [] → regL c fs vs acc = acc
  | [], _, acc, _ => rfl
  | f :: fs, [], acc, _ => rfl
  | f :: fs, v :: vs, acc, h => by
    show regL c fs vs (cond (f.2.1 == c) (shV f v) acc) = acc
    rw [List.filter_cons] at h
    cases he : (f.2.1 == c)
    · rw [he] at h
      exact regL_none c fs vs acc h
    · rw [he] at h
      cases h
theorem regL_uniq (c : Int) : ∀ {fs : List FldT} {vs : List Int} {acc : Int}, InR fs vs → (fs.filter fun f => f.2.1 == c).length ≤ 1 → ∀ p ∈ fs.zip vs, p.1.2.1 = c → regL c fs vs acc = shV p.1 p.2
  | [], [], _, _, _, p, hp, _ => by cases hp
  | f :: fs, v :: vs, acc, h, hu, p, hp, he => by
    show regL c fs vs (cond (f.2.1 == c) (shV f v) acc) = _
    rw [List.filter_cons] at hu
    rcases List.mem_cons.1 hp with rfl | hp
    · have hb : (f.2.1 == c) = true := beq_iff_eq.2 he
      rw [hb] at hu ⊢
      have hz : (fs.filter fun f => f.2.1 == c) = [] := List.length_eq_zero_iff.1 (by simpa using hu)
      exact regL_none c fs vs _ hz
    · refine regL_uniq c h.2 ?_ p hp he
      cases hb : (f.2.1 == c)
      · rw [hb] at hu; exact hu
      · rw [hb, if_pos rfl, List.length_cons] at hu
        omega

/-! The number's bits. -/

def prodL : List FldT → List (List Int)
  | [] => [[]]
  | f :: r => cond (isN f) ((List.range (2 ^ wd f)).flatMap fun v : Nat => (prodL r).map ((v : Int) :: ·)) ((prodL r).map (0 :: ·))
def zeroed : List FldT → List Int → List Int
  | f :: fs, v :: vs => cond (isN f) v 0 :: zeroed fs vs
  | _, _ => []
theorem zeroed_mem : ∀ {fs : List FldT} {vs : List Int}, InR fs vs → zeroed fs vs ∈ prodL fs
  | [], [], _ => List.mem_cons_self
  | f :: fs, v :: vs, h => by
    have ih := zeroed_mem h.2
    unfold zeroed prodL
    cases isN f
    · exact List.mem_map_of_mem ih
    · refine List.mem_flatMap.2 ⟨v.toNat, List.mem_range.2 ?_, ?_⟩
      · have e : ((2 : Int) ^ wd f) = ((2 ^ wd f : Nat) : Int) := by simp
        have h1 := h.1
        omega
      · rw [Int.toNat_of_nonneg h.1.1]
        exact List.mem_map_of_mem ih
theorem imm_zeroed (fs : List FldT) : ∀ {vs : List Int} {p : Int × Int}, InR fs vs → immL fs vs p = immL fs (zeroed fs vs) p := by
  induction fs with
  | nil =>
    intro vs p h
    cases vs with
    | nil => rfl
    | cons v vs => exact h.elim
  | cons f r ih =>
    intro vs p h
    cases vs with
    | nil => exact h.elim
    | cons v vs =>
      rw [show zeroed (f :: r) (v :: vs) = cond (isN f) v 0 :: zeroed r vs from rfl, immL_cons, immL_cons, ih h.2]
      cases isN f
      · rw [cond_false, cond_false]
      · rw [cond_true, cond_true, cond_true]
theorem zip_zeroed : ∀ {fs : List FldT} {vs : List Int}, InR fs vs → ∀ p ∈ fs.zip vs, isN p.1 = true → p ∈ fs.zip (zeroed fs vs)
  | [], [], _, p, hp, _ => by cases hp
  | f :: fs, v :: vs, h, p, hp, hn => by
    rcases List.mem_cons.1 hp with rfl | hp
    · have hn : isN f = true := hn
      show (f, v) ∈ (f, cond (isN f) v 0) :: fs.zip (zeroed fs vs)
      rw [hn]
      exact List.mem_cons_self
    · exact List.mem_cons_of_mem _ (zip_zeroed h.2 p hp hn)
def sameN (n : Int) (q : FldT × Int) : Bool := !isN q.1 || valF q.1 (immI n) == q.2
def ammOk (p : RowT × List FldT) : Bool := (prodL p.2).all fun vs => (p.2.zip vs).all (sameN (sgnX p.1 (immL p.2 vs (0, 0))))
theorem amm_0 : (partP 0).all ammOk = true := by kernel_rfl
theorem amm_1 : (partP 1).all ammOk = true := by kernel_rfl
theorem amm_2 : (partP 2).all ammOk = true := by kernel_rfl
theorem amm_3 : (partP 3).all ammOk = true := by kernel_rfl
theorem amm_4 : (partP 4).all ammOk = true := by kernel_rfl
theorem amm_5 : (partP 5).all ammOk = true := by kernel_rfl
theorem amm_all {x : RowT} (hx : x ∈ rowsL) : ammOk (x, flds x) = true :=
  six_all (l := pairsL) (f := ammOk) (g := fun _ => true) pairs_len (fun k hk => match k, hk with
    | 0, _ => all_map amm_0
    | 1, _ => all_map amm_1
    | 2, _ => all_map amm_2
    | 3, _ => all_map amm_3
    | 4, _ => all_map amm_4
    | 5, _ => all_map amm_5) (pairs_mem hx)

section
variable {x : RowT} {w : Int}

theorem vals_back (hx : x ∈ rowsL) {vs : List Int} (hv : InR (flds x) vs) (hg : givL (flds x) vs = true) :
    ((flds x).map fun f => valF f (insA x (flds x) vs 0 0 0 (0, 0))) = vs := by
  obtain ⟨hok, _⟩ := row_fine hx
  refine map_of_zip hv fun p hp => ?_
  obtain ⟨hm, v0, v1⟩ := zip_in hv p hp
  have hf := List.all_eq_true.1 hok _ hm
  obtain ⟨⟨f1, f2, f3⟩, g0, g1⟩ := fOk_spec hf
  have hp5 : ((2 : Int) ^ wd p.1) ≤ 32 := by
    have := Nat.pow_le_pow_right (n := 2) (by omega) f3
    have e : ((2 : Int) ^ wd p.1) = ((2 ^ wd p.1 : Nat) : Int) := by simp
    omega
  have reg : ∀ c : Int, c = 97 ∨ c = 98 ∨ c = 99 → p.1.2.1 = c → (∀ f : FldT, f.2.1 = c → srcF f (insA x (flds x) vs 0 0 0 (0, 0)) = regL c (flds x) vs 0) → valF p.1 (insA x (flds x) vs 0 0 0 (0, 0)) = p.2 := by
    intro c hc he hs
    obtain ⟨hk, hu⟩ := row_ch hx hc
    obtain ⟨k1, k2⟩ := hk _ hm he
    have hc0 : (p.1.2.1 == 0) = false := by
      rw [he]
      rcases hc with rfl | rfl | rfl <;> rfl
    rw [valF_of hf, hc0, cond_false, hs _ he, regL_uniq c hv hu p hp he, k2]
    rw [k2] at v1
    unfold shV
    cases hsh : p.1.2.2.2.2
    · rw [hsh] at v1
      have v1 : p.2 < 32 := v1
      show i64 p.2 % 2 ^ 5 = p.2
      rw [show ((2 : Int) ^ 5) = 32 from rfl, i64_of (by omega) (by omega)]
      omega
    · rw [hsh] at v1
      have v1 : p.2 < 8 := v1
      show i64 (i64 p.2 + 8) % 2 ^ 3 = p.2
      rw [show ((2 : Int) ^ 3) = 8 from rfl, i64_of (n := p.2) (by omega) (by omega), i64_of (by omega) (by omega)]
      omega
  cases h0 : (p.1.2.1 == 0)
  · cases h1 : (p.1.2.1 == 97)
    · cases h2 : (p.1.2.1 == 98)
      · cases h3 : (p.1.2.1 == 99)
        · have hn : isN p.1 = true := by unfold isN; rw [h0, h1, h2, h3]; rfl
          have ha := List.all_eq_true.1 (List.all_eq_true.1 (amm_all hx) _ (zeroed_mem hv)) p (zip_zeroed hv p hp hn)
          unfold sameN at ha
          rw [hn, ← imm_zeroed _ hv] at ha
          rw [valF_imm hn]
          exact eq_of_beq ha
        · exact reg 99 (.inr (.inr rfl)) (eq_of_beq h3) fun f he => by unfold srcF; rw [he]; rfl
      · exact reg 98 (.inr (.inl rfl)) (eq_of_beq h2) fun f he => by unfold srcF; rw [he]; rfl
    · exact reg 97 (.inl rfl) (eq_of_beq h1) fun f he => by unfold srcF; rw [he]; rfl
  · have e0 : p.1.2.1 = 0 := eq_of_beq h0
    have hs := giv_mem hv hg p hp e0
    unfold shV at hs
    rw [row_gi hx _ hm e0, cond_false, i64_of (by omega) (by omega), i64_of (by omega) (by omega)] at hs
    unfold valF
    rw [h0, hs]
    rfl

theorem read_spec (hx : x ∈ rowsL) (w0 : 0 ≤ w) (w1 : w < 65536) (h : (readX x w).2 = true) :
    givL (flds x) (takesF w (flds x)) = true ∧ (readX x w).1 = insA x (flds x) (takesF w (flds x)) 0 0 0 (0, 0) ∧ faultyF x (readX x w).1 = 0 ∧ (readX x w).1.1 = x.1 := by
  rw [readX_parts hx w0 w1] at h ⊢
  cases hg : givL (flds x) (takesF w (flds x))
  · rw [hg] at h; cases h
  · rw [hg, cond_true] at h
    exact ⟨rfl, rfl, eq_of_beq h, rfl⟩
theorem enc_read (hx : x ∈ rowsL) (w0 : 0 ≤ w) (w1 : w < 65536) (h : (readX x w).2 = true) : encW x (readX x w).1 = w := by
  obtain ⟨hg, hi, _, _⟩ := read_spec hx w0 w1 h
  have hc := cat_takes w (flds x)
  rw [(row_fine hx).2, Int.ediv_eq_zero_of_lt w0 (by omega)] at hc
  rw [encW_cat hx, hi, vals_back hx (takes_in w _) hg, hc]
end

/-! No word has two rows. -/

def places : List FldT → List (FldT × Nat)
  | [] => []
  | f :: r => (f, sumB r) :: places r
theorem places_zip (w : Int) : ∀ {fs : List FldT} {p : FldT × Nat}, p ∈ places fs → (p.1, w / 2 ^ p.2 % 2 ^ wd p.1) ∈ fs.zip (takesF w fs) ∧ p.1 ∈ fs
  | f :: r, p, h => by
    rcases List.mem_cons.1 h with rfl | h
    · exact ⟨List.mem_cons_self, List.mem_cons_self⟩
    · obtain ⟨h1, h2⟩ := places_zip w h
      exact ⟨List.mem_cons_of_mem _ h1, List.mem_cons_of_mem _ h2⟩
/-- Given bits that differ. -/
def bitsOff (a b : FldT × Nat) : Bool :=
  a.1.2.1 == 0 && (b.1.2.1 == 0 && (List.range 16).any fun k => Nat.ble a.2 k && (Nat.blt k (a.2 + wd a.1) && (Nat.ble b.2 k && (Nat.blt k (b.2 + wd b.1) && (a.1.2.2.1.toNat.testBit (k - a.2) != b.1.2.2.1.toNat.testBit (k - b.2))))))
/-- A register that may not be what is given. -/
def regOff (y : RowT) (a b : FldT × Nat) : Bool :=
  a.1.2.1 == 0 && ((b.1.2.1 == 97 || (b.1.2.1 == 98 || b.1.2.1 == 99)) && (a.2 == b.2 && (wd a.1 == wd b.1 && !regF y b.1.2.1 (shV b.1 a.1.2.2.1))))
def apart (p q : RowT × List FldT) : Bool :=
  (places p.2).any (fun a => (places q.2).any fun b => bitsOff a b || (regOff q.1 a b || regOff p.1 b a))
def apartOk (p : RowT × List FldT) : Bool := pairsL.all fun q => strEq p.1.1 q.1.1 || apart p q
theorem apart_all : pairsL.all apartOk = true := by kernel_rfl

theorem testBit_part {n l b g k : Nat} (h : n / 2 ^ l % 2 ^ b = g) (h1 : l ≤ k) (h2 : k < l + b) : g.testBit (k - l) = n.testBit k := by
  subst h
  rw [Nat.testBit_mod_two_pow, Nat.testBit_div_two_pow, show k - l + l = k by omega, decide_eq_true (show k - l < b by omega), Bool.true_and]
theorem given_nat {w : Int} (w0 : 0 ≤ w) {l b : Nat} {g : Int} (h : w / 2 ^ l % 2 ^ b = g) : w.toNat / 2 ^ l % 2 ^ b = g.toNat := by
  obtain ⟨n, rfl⟩ := Int.eq_ofNat_of_zero_le w0
  subst h
  have e : ∀ j : Nat, ((2 : Int) ^ j) = ((2 ^ j : Nat) : Int) := fun j => by simp
  rw [e, e, ← Int.natCast_ediv, ← Int.natCast_emod, Int.toNat_natCast, Int.toNat_natCast]
section
variable {x y : RowT} {w : Int}
theorem given_at (hx : x ∈ rowsL) (w0 : 0 ≤ w) (w1 : w < 65536) (h : (readX x w).2 = true) {p : FldT × Nat} (hp : p ∈ places (flds x)) (h0 : p.1.2.1 = 0) :
    w / 2 ^ p.2 % 2 ^ wd p.1 = p.1.2.2.1 := by
  obtain ⟨hg, _⟩ := read_spec hx w0 w1 h
  obtain ⟨hz, hm⟩ := places_zip w hp
  have hs := giv_mem (takes_in w _) hg _ hz h0
  obtain ⟨⟨f1, f2, f3⟩, g0, g1⟩ := fOk_spec (List.all_eq_true.1 (row_fine hx).1 _ hm)
  have hp5 : ((2 : Int) ^ wd p.1) ≤ 32 := by
    have := Nat.pow_le_pow_right (n := 2) (by omega) f3
    have e : ((2 : Int) ^ wd p.1) = ((2 ^ wd p.1 : Nat) : Int) := by simp
    omega
  obtain ⟨_, v0, v1⟩ := zip_in (takes_in w (flds x)) _ hz
  simp only at hs v0 v1
  unfold shV at hs
  rw [row_gi hx _ hm h0, cond_false, i64_of (by omega) (by omega), i64_of (by omega) (by omega)] at hs
  exact hs
theorem reg_off (hx : x ∈ rowsL) (hy : y ∈ rowsL) (w0 : 0 ≤ w) (w1 : w < 65536) (h : (readX x w).2 = true) (h' : (readX y w).2 = true) {a b : FldT × Nat} (ha : a ∈ places (flds x)) (hb : b ∈ places (flds y)) :
    regOff y a b = false := by
  cases ho : regOff y a b
  · rfl
  · exfalso
    unfold regOff at ho
    simp only [Bool.and_eq_true, Bool.or_eq_true, beq_iff_eq, Bool.not_eq_true'] at ho
    obtain ⟨a0, hc, e1, e2, hr⟩ := ho
    have hg := given_at hx w0 w1 h ha a0
    obtain ⟨_, hi, hf, _⟩ := read_spec hy w0 w1 h'
    obtain ⟨r1, r2, r3, _⟩ := faulty_parts hf
    rw [hi] at r1 r2 r3
    obtain ⟨hz, hm⟩ := places_zip w hb
    obtain ⟨_, hu⟩ := row_ch hy hc
    have hv := regL_uniq (acc := 0) b.1.2.1 (takes_in w _) hu _ hz rfl
    simp only at hv
    rw [← e1, ← e2, hg] at hv
    have hreg : regF y b.1.2.1 (regL b.1.2.1 (flds y) (takesF w (flds y)) 0) = true := by
      rcases hc with hc | hc | hc
      · rw [hc]; exact r1
      · rw [hc]; exact r2
      · rw [hc]; exact r3
    rw [hv, hr] at hreg
    cases hreg
theorem row_names (hx : x ∈ rowsL) : frow x.1 = x ∧ fok x.1 = true := by
  have h : rowsL.map (fun x => frow x.1) = rowsL.map (fun x => x) := by kernel_rfl
  have h2 : rowsL.map (fun x => fok x.1) = rowsL.map (fun _ => true) := by kernel_rfl
  exact ⟨List.map_inj_left.1 h _ hx, List.map_inj_left.1 h2 _ hx⟩
theorem one_row (hx : x ∈ rowsL) (hy : y ∈ rowsL) (w0 : 0 ≤ w) (w1 : w < 65536) (h : (readX x w).2 = true) (h' : (readX y w).2 = true) : x = y := by
  have ha := List.all_eq_true.1 (List.all_eq_true.1 apart_all _ (pairs_mem hx)) _ (pairs_mem hy)
  rw [Bool.or_eq_true] at ha
  rcases ha with ha | ha
  · have e : x.1 = y.1 := eq_of_beq ha
    rw [← (row_names hx).1, ← (row_names hy).1, e]
  · exfalso
    obtain ⟨a, ha, hb⟩ := List.any_eq_true.1 ha
    obtain ⟨b, hb, ho⟩ := List.any_eq_true.1 hb
    have ha : a ∈ places (flds x) := ha
    have hb : b ∈ places (flds y) := hb
    rw [reg_off hx hy w0 w1 h h' ha hb, reg_off hy hx w0 w1 h' h hb ha, Bool.or_false, Bool.or_false] at ho
    unfold bitsOff at ho
    simp only [Bool.and_eq_true, beq_iff_eq, List.any_eq_true, Nat.ble_eq, Nat.blt_eq] at ho
    obtain ⟨a0, b0, k, _, k1, k2, k3, k4, hne⟩ := ho
    have g1 := testBit_part (given_nat w0 (given_at hx w0 w1 h ha a0)) k1 k2
    have g2 := testBit_part (given_nat w0 (given_at hy w0 w1 h' hb b0)) k3 k4
    rw [g1, g2] at hne
    simp at hne
end

end Go.Cmp

namespace Go.Cmp
open Go Go.Ab

/-! A word of a row has the row's outer bits. -/

def bitIs (fs : List FldT) (k : Nat) (v : Int) : Bool :=
  (places fs).any fun a => a.1.2.1 == 0 && (Nat.ble a.2 k && (Nat.blt k (a.2 + wd a.1) && v == cond (a.1.2.2.1.toNat.testBit (k - a.2)) 1 0))
def opOk (p : RowT × List FldT) : Bool :=
  bitIs p.2 15 (bitX p.1 0) && (bitIs p.2 14 (bitX p.1 1) && (bitIs p.2 13 (bitX p.1 2) && (bitIs p.2 1 (bitX p.1 (p.1.2.1.length - 2)) && bitIs p.2 0 (bitX p.1 (p.1.2.1.length - 1)))))
theorem opOk_all : pairsL.all opOk = true := by kernel_rfl

theorem bitW_eq {w : Int} (w0 : 0 ≤ w) (w1 : w < 65536) (k : Nat) : bitW w k = cond (w.toNat.testBit k) 1 0 := by
  obtain ⟨n, rfl⟩ := Int.eq_ofNat_of_zero_le w0
  unfold bitW
  have e : ((2 : Int) ^ k) = ((2 ^ k : Nat) : Int) := by simp
  rw [Int.fdiv_eq_ediv_of_nonneg _ (Int.le_of_lt (pow_pos' _)), e, ← Int.natCast_ediv]
  have hl : n / 2 ^ k < 2 ^ 16 := Nat.lt_of_le_of_lt (Nat.div_le_self _ _) (by omega)
  have h1 := and16_cast hl (show 1 < 2 ^ 16 by decide)
  rw [show ((1 : Nat) : Int) = 1 from rfl] at h1
  rw [h1, Nat.and_one_is_mod, Int.toNat_natCast, Nat.testBit_eq_decide_div_mod_eq]
  by_cases h : n / 2 ^ k % 2 = 1
  · rw [decide_eq_true h, h]; rfl
  · rw [decide_eq_false h, show n / 2 ^ k % 2 = 0 by omega]; rfl
theorem bitW_zero {w : Int} : and16 w 1 = bitW w 0 := by
  unfold bitW
  rw [Int.fdiv_eq_ediv_of_nonneg _ (Int.le_of_lt (pow_pos' _)), Int.pow_zero, Int.ediv_one]
section
variable {x : RowT} {w : Int}
theorem bit_of (hx : x ∈ rowsL) (w0 : 0 ≤ w) (w1 : w < 65536) (h : (readX x w).2 = true) {k : Nat} {v : Int} (hb : bitIs (flds x) k v = true) : v = bitW w k := by
  obtain ⟨a, ha, hc⟩ := List.any_eq_true.1 hb
  simp only [Bool.and_eq_true, beq_iff_eq, Nat.ble_eq, Nat.blt_eq] at hc
  obtain ⟨a0, k1, k2, hv⟩ := hc
  rw [hv, bitW_eq w0 w1, testBit_part (given_nat w0 (given_at hx w0 w1 h ha a0)) k1 k2]
theorem op_of (hx : x ∈ rowsL) (w0 : 0 ≤ w) (w1 : w < 65536) (h : (readX x w).2 = true) : opF x w = true := by
  have ho := List.all_eq_true.1 opOk_all _ (pairs_mem hx)
  unfold opOk at ho
  simp only [Bool.and_eq_true] at ho
  obtain ⟨h1, h2, h3, h4, h5⟩ := ho
  unfold opF
  rw [bit_of hx w0 w1 h h1, bit_of hx w0 w1 h h2, bit_of hx w0 w1 h h3, bit_of hx w0 w1 h h4, bit_of hx w0 w1 h h5, bitW_zero]
  simp only [beq_self_eq_true, Bool.and_self]
theorem match_of (hx : x ∈ rowsL) (w0 : 0 ≤ w) (w1 : w < 65536) (h : (readX x w).2 = true) : dMatch w x = true := by
  unfold dMatch
  rw [op_of hx w0 w1 h, h]
  rfl
theorem drow_of (hx : x ∈ rowsL) (w0 : 0 ≤ w) (w1 : w < 65536) (h : (readX x w).2 = true) : drow w = some x := by
  have hm := match_of hx w0 w1 h
  unfold drow
  cases hd : rowsL.find? (dMatch w) with
  | none =>
    have := List.find?_eq_none.1 hd x hx
    exact absurd hm this
  | some y =>
    have hy := List.mem_of_find?_eq_some hd
    have hp := List.find?_some hd
    have hp : (readX y w).2 = true := by
      unfold dMatch at hp
      rw [Bool.and_eq_true] at hp
      exact hp.2
    rw [one_row hx hy w0 w1 h hp]
end

/-- What was encoded is decoded. -/
theorem dec_enc {i : InsT} (h : encE i = 0) : decOk (encW (frow i.1) i) = true ∧ decI (encW (frow i.1) i) = i := by
  obtain ⟨h1, h2⟩ := enc_parts h
  obtain ⟨hx, hn, _⟩ := frow_mem h1
  obtain ⟨w0, w1⟩ := encW_rng hx i
  have hr := read_enc hx h2 hn.symm
  have hd := drow_of hx w0 w1 (by rw [hr])
  unfold decOk decI
  rw [hd]
  refine ⟨rfl, ?_⟩
  show (readX (frow i.1) (encW (frow i.1) i)).1 = i
  rw [hr]
/-- What is decoded is encoded as the word. -/
theorem enc_dec {w : Int} (w0 : 0 ≤ w) (w1 : w < 65536) (h : decOk w = true) : encE (decI w) = 0 ∧ encW (frow (decI w).1) (decI w) = w := by
  unfold decOk at h
  obtain ⟨x, hr⟩ := Option.isSome_iff_exists.1 h
  have hx : x ∈ rowsL := List.mem_of_find?_eq_some hr
  have hp : dMatch w x = true := List.find?_some hr
  have hp : (readX x w).2 = true := by
    unfold dMatch at hp
    rw [Bool.and_eq_true] at hp
    exact hp.2
  have e : decI w = (readX x w).1 := by unfold decI; rw [hr]
  obtain ⟨_, _, hf, hn⟩ := read_spec hx w0 w1 hp
  obtain ⟨o1, o2⟩ := row_names hx
  rw [e, hn, o1]
  refine ⟨?_, enc_read hx w0 w1 hp⟩
  unfold encE
  rw [hn, o1, o2, cond_true, hf]

/-! Bytes. -/

def Bytes (l : List Int) : Prop := ∀ b ∈ l, 0 ≤ b ∧ b < 256
theorem getD_lt {l : List Int} {k : Nat} (h : k < l.length) : l.getD k 0 = l[k] := by
  rw [List.getD, List.getElem?_eq_getElem h]
  rfl
theorem bytes_getD {l : List Int} (h : Bytes l) (k : Nat) : 0 ≤ l.getD k 0 ∧ l.getD k 0 < 256 := by
  by_cases hk : k < l.length
  · rw [getD_lt hk]; exact h _ (List.getElem_mem hk)
  · simp [List.getD, hk]
def sum2 (l : List Int) (k : Nat) : Int := l.getD k 0 + 256 * l.getD (k + 1) 0
theorem word2 {a b : Int} (ha : 0 ≤ a ∧ a < 256) (hb : 0 ≤ b ∧ b < 256) : or16 (IntKind.wrap .u16 a) (u16 (IntKind.wrap .u16 b * 2 ^ 8)) = a + 256 * b := by
  obtain ⟨n, rfl⟩ := Int.eq_ofNat_of_zero_le ha.1
  obtain ⟨m, rfl⟩ := Int.eq_ofNat_of_zero_le hb.1
  unfold u16
  rw [wrap_u16, wrap_u16, wrap_u16, Int.emod_eq_of_lt ha.1 (by omega), Int.emod_eq_of_lt hb.1 (by omega), Int.emod_eq_of_lt (by omega) (by omega)]
  have e : (m : Int) * (2 : Int) ^ (8 : Nat) = ((m <<< 8 : Nat) : Int) := by rw [Nat.shiftLeft_eq]; simp
  rw [e, or16_cast (by omega) (by rw [Nat.shiftLeft_eq]; omega), Nat.or_comm, ← Nat.shiftLeft_add_eq_or_of_lt (show n < 2 ^ 8 by omega), Nat.shiftLeft_eq]
  omega
theorem w2_sum {l : List Int} {at_ : Int} (h : Bytes l) (h0 : 0 ≤ at_) (h1 : at_ + 2 ≤ l.length) (hl : l.length < 1000000000) : w2 l at_ = sum2 l at_.toNat := by
  unfold w2 sum2 gb
  rw [wrap_i64 (n := at_ + 1) (by omega) (by omega), show (at_ + 1).toNat = at_.toNat + 1 from by omega]
  exact word2 (bytes_getD h _) (bytes_getD h _)
theorem sum2_rng {l : List Int} (h : Bytes l) (k : Nat) : 0 ≤ sum2 l k ∧ sum2 l k < 65536 := by
  have h0 := bytes_getD h k
  have h1 := bytes_getD h (k + 1)
  unfold sum2
  omega
theorem bytes2_eq (w : Int) : bytes2 w = [w % 256, w / 256 % 256] := by
  unfold bytes2 u8w
  rw [wrap_u8, wrap_u8, Int.fdiv_eq_ediv_of_nonneg _ (by decide)]
  rfl
theorem bytes2_sum2 {l : List Int} (h : Bytes l) (k : Nat) : bytes2 (sum2 l k) = [l.getD k 0, l.getD (k + 1) 0] := by
  rw [bytes2_eq]
  have h0 := bytes_getD h k
  have h1 := bytes_getD h (k + 1)
  unfold sum2
  generalize l.getD k 0 = a, l.getD (k + 1) 0 = b at h0 h1
  congr 1
  · omega
  congr 1
  omega
theorem bytes2_bytes (w : Int) : Bytes (bytes2 w) := by
  rw [bytes2_eq]
  intro b hb
  simp only [List.mem_cons, List.not_mem_nil, or_false] at hb
  omega
theorem sum2_bytes2 {p s : List Int} {w : Int} (h0 : 0 ≤ w) (h1 : w < 65536) : sum2 (p ++ bytes2 w ++ s) p.length = w := by
  have g : ∀ k, k < 2 → (p ++ bytes2 w ++ s).getD (p.length + k) 0 = (bytes2 w).getD k 0 := by
    intro k hk
    have hl : (bytes2 w).length = 2 := rfl
    simp only [List.getD, List.append_assoc]
    rw [List.getElem?_append_right (by omega), show p.length + k - p.length = k from by omega, List.getElem?_append_left (by omega)]
  unfold sum2
  have g0 := g 0 (by omega)
  rw [Nat.add_zero] at g0
  rw [g0, g 1 (by omega), bytes2_eq]
  show w % 256 + 256 * (w / 256 % 256) = w
  omega
theorem sub_len {l : List Int} {k : Nat} (h : k ≤ l.length) : (sub l 0 k).length = k := by
  simp only [sub, List.drop_zero, List.length_take]
  omega
theorem sub2 {l : List Int} {k : Nat} (h : k + 2 ≤ l.length) : sub l k (k + 2) = [l.getD k 0, l.getD (k + 1) 0] := by
  have e : sub l k (k + 2) = (l.drop k).take 2 := by
    simp only [sub, List.drop_take]
    congr 1
    omega
  rw [e, List.drop_eq_getElem_cons (by omega), List.drop_eq_getElem_cons (by omega)]
  rw [getD_lt (by omega), getD_lt (by omega)]
  rfl

/-! What the law's parts come to. -/

theorem dec_err {l : List Int} {at_ : Int} (h : (dE l at_ != 0) = true) : dI l at_ = zeroI ∧ dN l at_ = 0 := by
  unfold dE at h
  unfold dI dN
  cases ho : outOf l at_
  · rw [ho] at h
    cases hs : shortOf l at_
    · rw [hs] at h
      cases hd : decOk (w2 l at_)
      · refine ⟨?_, rfl⟩
        show decI (w2 l at_) = zeroI
        unfold decOk at hd
        unfold decI
        cases hr : drow (w2 l at_) with
        | none => rfl
        | some r => rw [hr] at hd; cases hd
      · rw [hd] at h; cases h
    · exact ⟨rfl, rfl⟩
  · exact ⟨rfl, rfl⟩

theorem dec_fine {l : List Int} {at_ : Int} (hb : Bytes l) (hl : l.length < 1000000000) (h : (dE l at_ != 0) = false) :
    0 ≤ at_ ∧ at_ + 2 ≤ l.length ∧ dN l at_ = 2 ∧ (encE (dI l at_) == 0) = true ∧ encL (dI l at_) = sub l at_.toNat (at_.toNat + 2) := by
  have h0 : dE l at_ = 0 := by simpa [bne] using h
  unfold dE at h0
  unfold dI dN
  cases ho : outOf l at_
  · rw [ho] at h0
    cases hs : shortOf l at_
    · rw [hs] at h0
      cases hd : decOk (w2 l at_)
      · rw [hd] at h0; cases h0
      · have g1 : 0 ≤ at_ ∧ at_ ≤ l.length := by
          simp only [outOf, Bool.or_eq_false_iff, decide_eq_false_iff_not] at ho
          omega
        have g2 : at_ + 2 ≤ l.length := by
          simp only [shortOf, decide_eq_false_iff_not] at hs
          rw [wrap_i64 (by omega) (by omega)] at hs
          omega
        have hw := w2_sum hb g1.1 g2 hl
        obtain ⟨r0, r1⟩ := sum2_rng hb at_.toNat
        rw [hw] at hd ⊢
        obtain ⟨e1, e2⟩ := enc_dec r0 r1 hd
        refine ⟨g1.1, g2, rfl, beq_iff_eq.2 e1, ?_⟩
        show bytes2 (encW (frow (decI (sum2 l at_.toNat)).1) (decI (sum2 l at_.toNat))) = _
        rw [e2, bytes2_sum2 hb, sub2 (by omega)]
    · rw [hs] at h0; cases h0
  · rw [ho] at h0; cases h0

section
variable {i : InsT} {p s : List Int}

theorem bytes_all (i : InsT) (hp : Bytes p) (hs : Bytes s) : Bytes (p ++ encL i ++ s) := by
  have hw := bytes2_bytes (encW (frow i.1) i)
  intro x hx
  rcases List.mem_append.1 hx with hx | hx
  · rcases List.mem_append.1 hx with hx | hx
    · exact hp x hx
    · exact hw x hx
  · exact hs x hx

theorem len_all (i : InsT) (p s : List Int) : (p ++ encL i ++ s).length = p.length + 2 + s.length := by
  simp [encL, bytes2]
  omega

theorem back_dec (h : (encE i == 0) = true) (hp : Bytes p) (hs : Bytes s) (lp : p.length ≤ 200) (ls : s.length ≤ 200) :
    dE (p ++ encL i ++ s) p.length = 0 ∧ dI (p ++ encL i ++ s) p.length = i ∧ dN (p ++ encL i ++ s) p.length = 2 := by
  have h := eq_of_beq h
  have hlen := len_all i p s
  have hb := bytes_all i hp hs
  have ho : outOf (p ++ encL i ++ s) p.length = false := by
    simp only [outOf, Bool.or_eq_false_iff, decide_eq_false_iff_not]
    omega
  have hsh : shortOf (p ++ encL i ++ s) p.length = false := by
    simp only [shortOf, decide_eq_false_iff_not]
    rw [wrap_i64 (by omega) (by omega)]
    omega
  have hw : w2 (p ++ encL i ++ s) p.length = encW (frow i.1) i := by
    rw [w2_sum hb (by omega) (by omega) (by omega), Int.toNat_natCast]
    obtain ⟨h1, h2⟩ := enc_parts h
    obtain ⟨w0, w1⟩ := encW_rng (frow_mem h1).1 i
    exact sum2_bytes2 w0 w1
  obtain ⟨d1, d2⟩ := dec_enc h
  refine ⟨?_, ?_, ?_⟩
  · unfold dE; rw [ho, hsh, hw, d1]; rfl
  · unfold dI; rw [ho, hsh, hw, d2]; rfl
  · unfold dN; rw [ho, hsh, hw, d1]; rfl

theorem back_cut {L : List Int} {X : Int} {k : Nat} (lp : p.length ≤ 200) (hk : k < 2) (hL : p.length + 2 ≤ L.length) (hX : X = p.length + k) :
    (true && decide (0 ≤ X) && decide (X ≤ L.length)) = true ∧ decide ((sub L 0 X.toNat).length < 1000000000) = true ∧ (dE (sub L 0 X.toNat) p.length != 2) = false := by
  subst hX
  have hs : (sub L 0 ((p.length : Int) + k).toNat).length = p.length + k := by
    rw [show ((p.length : Int) + k).toNat = p.length + k from by omega]
    exact sub_len (by omega)
  refine ⟨?_, ?_, ?_⟩
  · simp only [Bool.true_and, Bool.and_eq_true, decide_eq_true_eq]
    omega
  · rw [hs]
    exact decide_eq_true (by omega)
  · have ho : outOf (sub L 0 ((p.length : Int) + k).toNat) p.length = false := by
      simp only [outOf, Bool.or_eq_false_iff, decide_eq_false_iff_not, hs]
      omega
    have hsh : shortOf (sub L 0 ((p.length : Int) + k).toNat) p.length = true := by
      simp only [shortOf, decide_eq_true_eq, hs]
      rw [wrap_i64 (by omega) (by omega)]
      omega
    unfold dE
    rw [ho, hsh]
    rfl
end

end Go.Cmp
