/-
  runarm: Run of movz, movk and movn, told shortly. Conditions: none.
-/
import Derived.Test.YtmbbnhcbphkniaaGreatDoorRa6
namespace Go.Ra
open Go Go.Ab Go.Proofs

theorem mov_all {y : List UInt8 × Int × Int} (hy : y ∈ movL) : movE y = movR y := by
  have h : movL.map movE = movL.map movR := by
    have e : movL = movL.take 4 ++ ((movL.drop 4).take 4 ++ movL.drop 8) := rfl
    rw [e, List.map_append, List.map_append, List.map_append, List.map_append, mov_z, mov_k, mov_n]
  exact List.map_inj_left.1 h _ hy
theorem list_tab {l : List Int} {n : Nat} (h : l.length = n) : l = (List.range n).map fun i => l.getD i 0 := by
  refine List.ext_getElem (by simp [h]) fun i h1 h2 => ?_
  simp [List.getD_eq_getElem?_getD, h1]
def isMem (t : Nat) : List O → Bool
  | [.cells [.bool true, .mp 1] u, .obj (.map []) []] => Nat.beq u t
  | _ => false
theorem isMem_spec {t : Nat} {H : List O} (h : isMem t H = true) : H = [.cells [.bool true, .mp 1] t, .obj (.map []) []] := by
  unfold isMem at h
  split at h
  · have := Nat.eq_of_beq_eq_true h
    subst this
    rfl
  · cases h
def movM : MSpec := fun args H => match args with
  | [.agg cs, .agg [.str nm, .int .i64 a, .int .i64 b, .int .i64 c, .int .i64 d, .int .i64 m], .int .i64 sz, .ptr 0 0] => match cpuOf cs with
    | some s => .req (isMem 61 H && (isMov nm a d && (b == 0 && (c == 0 && sz == 4)))) (.req (decide (0 ≤ m) && decide (m ≤ 65535)) (.req (Int.tmod s.pc 4 == 0 && Int.tmod (p4 s.pc) 4 == 0) (.leaf (.ok (movOut movzF movkF movnF nm a d m s) H))))
    | none => .fail
  | _ => .fail
theorem movM_ok : MSound Tryz.prog 14 movM := by
  intro args H out h
  unfold movM at h
  split at h
  rotate_left
  · cases h
  rename_i cs nm a b c d m sz
  split at h
  rotate_left
  · cases h
  rename_i s hs
  obtain ⟨h1, h⟩ := req_run h
  obtain ⟨h2, h⟩ := req_run h
  obtain ⟨h3, h⟩ := req_run h
  cases h
  simp only [Bool.and_eq_true] at h1 h2 h3
  obtain ⟨h0, h1, hb, hc, hz⟩ := h1
  have hb : b = 0 := by simpa using hb
  have hc : c = 0 := by simpa using hc
  have hz : sz = 4 := by simpa using hz
  subst hb hc hz
  have hH : H = memH := isMem_spec h0
  subst hH
  obtain ⟨e1, e2⟩ := cpuOf_spec hs
  subst e1
  refine runMov_ok _ _ _ ?_
  have hx := list_tab e2
  have key := congrFun (congrFun (congrFun (congrFun (congrFun (congrFun (congrFun (congrFun (congrFun (congrFun (congrFun (congrFun (congrFun (congrFun (congrFun (congrFun (congrFun (congrFun (congrFun (congrFun (congrFun (congrFun (congrFun (congrFun (congrFun (congrFun (congrFun (congrFun (congrFun (congrFun (congrFun (congrFun (congrFun (congrFun (congrFun (congrFun (congrFun (congrFun (congrFun (mov_all (isMov_mem h1)) m) s.pc) (s.x.getD 0 0)) (s.x.getD 1 0)) (s.x.getD 2 0)) (s.x.getD 3 0)) (s.x.getD 4 0)) (s.x.getD 5 0)) (s.x.getD 6 0)) (s.x.getD 7 0)) (s.x.getD 8 0)) (s.x.getD 9 0)) (s.x.getD 10 0)) (s.x.getD 11 0)) (s.x.getD 12 0)) (s.x.getD 13 0)) (s.x.getD 14 0)) (s.x.getD 15 0)) (s.x.getD 16 0)) (s.x.getD 17 0)) (s.x.getD 18 0)) (s.x.getD 19 0)) (s.x.getD 20 0)) (s.x.getD 21 0)) (s.x.getD 22 0)) (s.x.getD 23 0)) (s.x.getD 24 0)) (s.x.getD 25 0)) (s.x.getD 26 0)) (s.x.getD 27 0)) (s.x.getD 28 0)) (s.x.getD 29 0)) (s.x.getD 30 0)) (s.x.getD 31 0)) s.th) s.z) s.n) s.c) s.v
  unfold movE movR movG at key
  have es : (⟨s.pc, [s.x.getD 0 0, s.x.getD 1 0, s.x.getD 2 0, s.x.getD 3 0, s.x.getD 4 0, s.x.getD 5 0, s.x.getD 6 0, s.x.getD 7 0, s.x.getD 8 0, s.x.getD 9 0, s.x.getD 10 0, s.x.getD 11 0, s.x.getD 12 0, s.x.getD 13 0, s.x.getD 14 0, s.x.getD 15 0, s.x.getD 16 0, s.x.getD 17 0, s.x.getD 18 0, s.x.getD 19 0, s.x.getD 20 0, s.x.getD 21 0, s.x.getD 22 0, s.x.getD 23 0, s.x.getD 24 0, s.x.getD 25 0, s.x.getD 26 0, s.x.getD 27 0, s.x.getD 28 0, s.x.getD 29 0, s.x.getD 30 0, s.x.getD 31 0], s.z, s.n, s.c, s.v, s.th⟩ : CpuT) = s := by
    obtain ⟨p, x, z, n, c, v, th⟩ := s
    simp only [CpuT.mk.injEq, true_and, and_true]
    exact hx.symm
  rw [es] at key
  have g1 : (decide (0 ≤ m) && decide (m ≤ 65535)) = true := by rw [h2.1, h2.2]; rfl
  have ne : ∀ {x : Int}, (x == 0) = true → (x != 0) = false := by
    intro x h
    have : x = 0 := by simpa using h
    subst this
    rfl
  rw [g1, ne h3.1, ne h3.2] at key
  exact (Tree.fin_run _).symm.trans key

end Go.Ra
