/-
  Structs of integers: equality cell for cell.
-/
import Derived.Test.YtmnhfaaaaejpaaaGreatTab
namespace Go.Proofs.YtmnhfaaaaejpaaaGreat
open Go.RowKit

theorem eqL1 {x y : Ce} {l l' : List Ce} {r : Bool} (hl : l ≠ []) (h : eqL std (x :: l) (y :: l') = some r) : ∃ k a c r', x = .int k a ∧ y = .int k c ∧ eqL std l l' = some r' ∧ r = (a == c && r') := by
  cases l with
  | nil => exact absurd rfl hl
  | cons z l =>
    cases x <;> cases y <;> simp only [eqL, reduceCtorEq] at h
    rename_i k a k2 c
    by_cases hk : k = k2
    · subst hk
      simp only [decide_true, cond_true] at h
      split at h
      · rename_i r' hr
        injection h with h
        exact ⟨k, a, c, r', rfl, rfl, hr, h.symm⟩
      · cases h
    · simp [hk] at h
theorem eqL0 {x y : Ce} {r : Bool} (h : eqL std [x] [y] = some r) : ∃ k a c, x = .int k a ∧ y = .int k c ∧ r = (a == c) := by
  cases x <;> cases y <;> simp only [eqL, reduceCtorEq] at h
  rename_i k a k2 c
  by_cases hk : k = k2
  · subst hk
    simp only [decide_true, cond_true, Option.some.injEq] at h
    exact ⟨k, a, c, rfl, rfl, h.symm⟩
  · simp [hk] at h
theorem len2 {α : Type} {l : List α} (h : l.length = 2) : ∃ a b, l = [a, b] := by
  match l, h with
  | [a, b], _ => exact ⟨a, b, rfl⟩
theorem len3 {α : Type} {l : List α} (h : l.length = 3) : ∃ a b c, l = [a, b, c] := by
  match l, h with
  | [a, b, c], _ => exact ⟨a, b, c, rfl⟩
theorem len4 {α : Type} {l : List α} (h : l.length = 4) : ∃ a b c d, l = [a, b, c, d] := by
  match l, h with
  | [a, b, c, d], _ => exact ⟨a, b, c, d, rfl⟩

theorem eqT35 : EqT Tryz.prog 35 2 := by
  intro fs l l' vs vs' r x y w h1 h2 h hv hv'
  obtain ⟨x0, x1, rfl⟩ := len2 h1
  obtain ⟨y0, y1, rfl⟩ := len2 h2
  obtain ⟨k0, a0, b0, r0, rfl, rfl, g0, rfl⟩ := eqL1 (by simp) h
  obtain ⟨k1, a1, b1, rfl, rfl, rfl⟩ := eqL0 g0
  obtain ⟨s0, rfl, sv0⟩ := vals1 hv
  obtain ⟨s1, rfl, sv1⟩ := vals1 sv0
  obtain rfl := vals0 sv1
  obtain ⟨t0, rfl, tv0⟩ := vals1 hv'
  obtain ⟨t1, rfl, tv1⟩ := vals1 tv0
  obtain rfl := vals0 tv1
  have hg : Tryz.prog.eqGuardType Tryz.prog.depth 35 = false := by kernel_rfl
  constructor <;> by_cases e0 : a0 = b0 <;> by_cases e1 : a1 = b1 <;> simp [go_sem, eqGuard, hg, e0, e1]
theorem eqT36 : EqT Tryz.prog 36 2 := by
  intro fs l l' vs vs' r x y w h1 h2 h hv hv'
  obtain ⟨x0, x1, rfl⟩ := len2 h1
  obtain ⟨y0, y1, rfl⟩ := len2 h2
  obtain ⟨k0, a0, b0, r0, rfl, rfl, g0, rfl⟩ := eqL1 (by simp) h
  obtain ⟨k1, a1, b1, rfl, rfl, rfl⟩ := eqL0 g0
  obtain ⟨s0, rfl, sv0⟩ := vals1 hv
  obtain ⟨s1, rfl, sv1⟩ := vals1 sv0
  obtain rfl := vals0 sv1
  obtain ⟨t0, rfl, tv0⟩ := vals1 hv'
  obtain ⟨t1, rfl, tv1⟩ := vals1 tv0
  obtain rfl := vals0 tv1
  have hg : Tryz.prog.eqGuardType Tryz.prog.depth 36 = false := by kernel_rfl
  constructor <;> by_cases e0 : a0 = b0 <;> by_cases e1 : a1 = b1 <;> simp [go_sem, eqGuard, hg, e0, e1]
theorem eqT58 : EqT Tryz.prog 58 3 := by
  intro fs l l' vs vs' r x y w h1 h2 h hv hv'
  obtain ⟨x0, x1, x2, rfl⟩ := len3 h1
  obtain ⟨y0, y1, y2, rfl⟩ := len3 h2
  obtain ⟨k0, a0, b0, r0, rfl, rfl, g0, rfl⟩ := eqL1 (by simp) h
  obtain ⟨k1, a1, b1, r1, rfl, rfl, g1, rfl⟩ := eqL1 (by simp) g0
  obtain ⟨k2, a2, b2, rfl, rfl, rfl⟩ := eqL0 g1
  obtain ⟨s0, rfl, sv0⟩ := vals1 hv
  obtain ⟨s1, rfl, sv1⟩ := vals1 sv0
  obtain ⟨s2, rfl, sv2⟩ := vals1 sv1
  obtain rfl := vals0 sv2
  obtain ⟨t0, rfl, tv0⟩ := vals1 hv'
  obtain ⟨t1, rfl, tv1⟩ := vals1 tv0
  obtain ⟨t2, rfl, tv2⟩ := vals1 tv1
  obtain rfl := vals0 tv2
  have hg : Tryz.prog.eqGuardType Tryz.prog.depth 58 = false := by kernel_rfl
  constructor <;> by_cases e0 : a0 = b0 <;> by_cases e1 : a1 = b1 <;> by_cases e2 : a2 = b2 <;> simp [go_sem, eqGuard, hg, e0, e1, e2]
theorem eqT59 : EqT Tryz.prog 59 3 := by
  intro fs l l' vs vs' r x y w h1 h2 h hv hv'
  obtain ⟨x0, x1, x2, rfl⟩ := len3 h1
  obtain ⟨y0, y1, y2, rfl⟩ := len3 h2
  obtain ⟨k0, a0, b0, r0, rfl, rfl, g0, rfl⟩ := eqL1 (by simp) h
  obtain ⟨k1, a1, b1, r1, rfl, rfl, g1, rfl⟩ := eqL1 (by simp) g0
  obtain ⟨k2, a2, b2, rfl, rfl, rfl⟩ := eqL0 g1
  obtain ⟨s0, rfl, sv0⟩ := vals1 hv
  obtain ⟨s1, rfl, sv1⟩ := vals1 sv0
  obtain ⟨s2, rfl, sv2⟩ := vals1 sv1
  obtain rfl := vals0 sv2
  obtain ⟨t0, rfl, tv0⟩ := vals1 hv'
  obtain ⟨t1, rfl, tv1⟩ := vals1 tv0
  obtain ⟨t2, rfl, tv2⟩ := vals1 tv1
  obtain rfl := vals0 tv2
  have hg : Tryz.prog.eqGuardType Tryz.prog.depth 59 = false := by kernel_rfl
  constructor <;> by_cases e0 : a0 = b0 <;> by_cases e1 : a1 = b1 <;> by_cases e2 : a2 = b2 <;> simp [go_sem, eqGuard, hg, e0, e1, e2]
def eqTs : List (Nat × Nat) := [(35, 2), (36, 2), (58, 3), (59, 3)]
theorem eqTs_all : (tab.all fun x => !x.2.eqs || eqTs.contains (x.1, x.2.size)) = true := by kernel_rfl
theorem eqs_holds : EqOk Tryz.prog tab := by
  intro T ti hti he fs l l' vs vs' r x y w h1 h2 h3 h4 h5
  have hm := List.all_eq_true.1 eqTs_all _ (getTI_mem hti)
  simp only [he, Bool.not_true, Bool.false_or, List.contains_iff_mem] at hm
  generalize ti.size = n at *
  simp only [eqTs, List.mem_cons, Prod.mk.injEq, List.not_mem_nil, or_false] at hm
  rcases hm with ⟨rfl, rfl⟩ | ⟨rfl, rfl⟩ | ⟨rfl, rfl⟩ | ⟨rfl, rfl⟩
  · exact eqT35 fs l l' vs vs' r x y w h1 h2 h3 h4 h5
  · exact eqT36 fs l l' vs vs' r x y w h1 h2 h3 h4 h5
  · exact eqT58 fs l l' vs vs' r x y w h1 h2 h3 h4 h5
  · exact eqT59 fs l l' vs vs' r x y w h1 h2 h3 h4 h5
end Go.Proofs.YtmnhfaaaaejpaaaGreat
