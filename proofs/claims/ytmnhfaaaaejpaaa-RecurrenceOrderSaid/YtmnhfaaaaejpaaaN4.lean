/-
  RecurrencePeriods: dates and weeks of the reference are those of the program; the numbers of periods ascend; the plain law.
-/
import Derived.Test.YtmnhfaaaaejpaaaN3
namespace Go.Proofs.Ytmnhfaaaaejpaaa
open Go.RowKit

/-! years and months -/
theorem cnt_nyr (y : Int) : cnt y 1 1 = nyr y := by
  unfold cnt cntA nyr
  rw [if_pos (by omega)]
  omega
theorem nyr_le {y z : Int} (h : y ≤ z) : nyr y ≤ nyr z := by unfold nyr; omega
theorem nyr_one : nyr 1 = -719162 := by decide
theorem nyr_end : nyr 10000 = 2932897 := by decide
def IsYr (day y : Int) : Prop := nyr y ≤ day ∧ day < nyr (y + 1)
theorem IsYr.mono {a b y z : Int} (h : IsYr a y) (h' : IsYr b z) (hab : a ≤ b) : y ≤ z := by
  rcases Int.lt_or_le z y with g | g
  · have := nyr_le (show z + 1 ≤ y by omega)
    have := h.1
    have := h'.2
    omega
  · exact g
theorem IsYr.uniq {a y z : Int} (h : IsYr a y) (h' : IsYr a z) : y = z := by
  have := h.mono h' (Int.le_refl _)
  have := h'.mono h (Int.le_refl _)
  omega
theorem IsDate.yr {day y m d : Int} (h : IsDate day y m d) (h1 : -719162 ≤ day) (h2 : day < 2932897) : IsYr day y := by
  constructor
  · rcases h.yl with e | e
    · have := h.y1
      unfold nyr; omega
    · rw [cnt_nyr] at e; exact e
  · rcases Int.lt_or_le y 9999 with g | g
    · have := h.up g
      rw [cnt_nyr] at this; exact this
    · have := h.y2
      have e : y + 1 = 10000 := by omega
      rw [e, nyr_end]; exact h2
theorem cnt_up {y m m' : Int} (_h1 : 1 ≤ m) (h : m < m') (_h2 : m' ≤ 12) : cnt y m 1 < cnt y m' 1 := by
  unfold cnt cntA
  split <;> split <;> omega
theorem IsDate.mlo {day y m d : Int} (h : IsDate day y m d) (h1 : -719162 ≤ day) (h2 : day < 2932897) : cnt y m 1 ≤ day := by
  rcases h.ml with e | e
  · rw [e, cnt_nyr]; exact (h.yr h1 h2).1
  · exact e

/-! the reference's dates -/
def jl (y m : Int) : Int := if m = 2 then (if y % 4 = 0 then 29 else 28) else if m = 4 ∨ m = 6 ∨ m = 9 ∨ m = 11 then 30 else 31
theorem p_ref05_Length {y m : Int} (y1 : 1 ≤ y) (y2 : y ≤ 9999) (m1 : 1 ≤ m) (m2 : m ≤ 12) : m_ref05_Length std y m = some (jl y m) := by
  rw [m_ref05_Length_eq]
  unfold jl
  have q : Int.tmod y 4 = y % 4 := Int.tmod_eq_emod_of_nonneg (by omega)
  rw [q]
  refine bB (v := false) (bF (dF (by omega)) (bF (dF (by omega)) (bF (dF (by omega)) (congrArg some (dF (by omega)))))) (bF rfl ?_)
  by_cases c : m = 2
  · rw [if_pos c]
    by_cases g : y % 4 = 0
    · rw [if_pos g]; exact bB (v := .inl 29) (bT (eT c) (gZ (by omega) (bT (eT g) rfl))) rfl
    · rw [if_neg g]; exact bB (v := .inl 28) (bT (eT c) (gZ (by omega) (bF (eF g) rfl))) rfl
  · rw [if_neg c]
    refine bB (v := .inr ()) (bF (eF c) rfl) ?_
    by_cases e : m = 4 ∨ m = 6 ∨ m = 9 ∨ m = 11
    · rw [if_pos e]
      refine bB (v := true) ?_ (bT rfl rfl)
      rcases e with rfl | rfl | rfl | rfl <;> rfl
    · rw [if_neg e]
      exact bB (v := false) (bF (eF (by omega)) (bF (eF (by omega)) (bF (eF (by omega)) (congrArg some (eF (by omega)))))) (bF rfl rfl)
theorem jl_bd (y m : Int) : 28 ≤ jl y m ∧ jl y m ≤ 31 := by
  unfold jl
  split
  · split <;> omega
  · split <;> omega
/-- the days before a month -/
def jc (y m : Int) : Int := if m = 1 then 0 else if m = 2 then 31 else 59 + (if y % 4 = 0 then 1 else 0) + (153 * (m - 3) + 2) / 5
theorem jc_succ {y m : Int} (m1 : 1 ≤ m) (m2 : m ≤ 12) : jc y (m + 1) = jc y m + jl y m := by
  have h : m = 1 ∨ m = 2 ∨ m = 3 ∨ m = 4 ∨ m = 5 ∨ m = 6 ∨ m = 7 ∨ m = 8 ∨ m = 9 ∨ m = 10 ∨ m = 11 ∨ m = 12 := by omega
  unfold jc jl
  by_cases g : y % 4 = 0
  · rw [if_pos g, if_pos g]
    rcases h with rfl | rfl | rfl | rfl | rfl | rfl | rfl | rfl | rfl | rfl | rfl | rfl <;> decide
  · rw [if_neg g, if_neg g]
    rcases h with rfl | rfl | rfl | rfl | rfl | rfl | rfl | rfl | rfl | rfl | rfl | rfl <;> decide
theorem jc_bd {y m : Int} (m1 : 1 ≤ m) (m2 : m ≤ 13) : 0 ≤ jc y m ∧ jc y m ≤ 366 := by
  unfold jc
  split
  · omega
  · split
    · omega
    · split <;> omega
def gl (y : Int) : Bool := decide (y % 4 = 0) && (!decide (y % 100 = 0) || decide (y % 400 = 0))
theorem beq_dec (a : Int) : (a == 0) = decide (a = 0) := by rw [Bool.eq_iff_iff, beq_iff_eq, decide_eq_true_eq]
theorem p_leap {y : Int} (y1 : 1 ≤ y) : m_ref05_leap std y = some (gl y) := by
  rw [m_ref05_leap_eq]
  have q : ∀ k : Int, Int.tmod y k = y % k := fun k => Int.tmod_eq_emod_of_nonneg (by omega)
  simp only [q, beq_dec]
  unfold gl
  cases decide (y % 4 = 0) with
  | false => rfl
  | true =>
    cases decide (y % 100 = 0) with
    | false => rfl
    | true => cases decide (y % 400 = 0) <;> rfl
theorem p_Leap {y : Int} (y1 : 1 ≤ y) (y2 : y ≤ 9999) : m_ref05_Leap std y = some (decide (y % 4 = 0)) := by
  rw [m_ref05_Leap_eq]
  have q : Int.tmod y 4 = y % 4 := Int.tmod_eq_emod_of_nonneg (by omega)
  rw [q, beq_dec]
  exact bB (bT (dT y1) (bT (dT y2) rfl)) rfl
theorem p_Greg_L1 {y m n : Int} (y1 : 1 ≤ y) (y2 : y ≤ 9999) (m1 : 1 ≤ m) (m2 : m ≤ 12) (n1 : -100000000 ≤ n) (n2 : n ≤ 100000000) : loop (m_ref05_Gregorian_L1 std y m) (n, 1) = some (n + jc y m) := by
  obtain ⟨e, he, h⟩ : ∃ e, loop (m_ref05_Gregorian_L1 std y m) (n, 1) = some e ∧ e = n + jc y m := by
    refine loop_is (B := m_ref05_Gregorian_L1 std y m) (fun s => 1 ≤ s.2 ∧ s.2 ≤ m ∧ s.1 = n + jc y s.2) (fun s => (13 - s.2).toNat) (fun e => e = n + jc y m) ⟨Int.le_refl _, m1, by simp [jc]⟩ (by show (13 - (1 : Int)).toNat < _; decide) (fun s hs => ?_)
    obtain ⟨a, k⟩ := s
    obtain ⟨k1, k2, ka⟩ := hs
    simp only [] at k1 k2 ka
    subst ka
    rw [m_ref05_Gregorian_L1_eq]
    have b1 := jc_bd (y := y) (m := k) k1 (by omega)
    have b2 := jl_bd y k
    by_cases c : k < m
    · refine ⟨.inl (n + jc y k + jl y k, k + 1), bT (dT c) (bB (p_ref05_Length y1 y2 k1 (by omega)) (gI (by omega) (gI (by omega) rfl))), ⟨by simp only []; omega, c, ?_⟩, by simp only []; omega⟩
      simp only []
      rw [jc_succ k1 (by omega)]; omega
    · have e : k = m := by omega
      subst e
      exact ⟨.inr (n + jc y k), bF (dF c) rfl, rfl⟩
  rw [he, h]
theorem cnt_jc {y m : Int} (m1 : 1 ≤ m) (m2 : m ≤ 12) : cnt y m 1 = nyr y + jc y m - (if (decide (2 < m) && (decide (y % 4 = 0) && !gl y)) = true then 1 else 0) := by
  have e : (decide (2 < m) && (decide (y % 4 = 0) && !gl y)) = true ↔ 2 < m ∧ y % 4 = 0 ∧ y % 100 = 0 ∧ ¬ y % 400 = 0 := by
    unfold gl
    by_cases a : y % 4 = 0 <;> by_cases b : y % 100 = 0 <;> by_cases c : y % 400 = 0 <;> simp [a, b, c]
  unfold cnt cntA nyr jc
  by_cases c1 : m = 1
  · rw [if_pos (show m ≤ 2 by omega), if_pos c1, if_neg (fun h => by have := e.1 h; omega)]; omega
  · rw [if_neg c1]
    by_cases c2 : m = 2
    · rw [if_pos (show m ≤ 2 by omega), if_pos c2, if_neg (fun h => by have := e.1 h; omega)]; omega
    · rw [if_neg (show ¬ m ≤ 2 by omega), if_neg c2]
      by_cases g : 2 < m ∧ y % 4 = 0 ∧ y % 100 = 0 ∧ ¬ y % 400 = 0
      · rw [if_pos (e.2 g), if_pos g.2.1]; omega
      · rw [if_neg (fun h => g (e.1 h))]
        split <;> omega
theorem p_Gregorian {y m : Int} (y1 : 1 ≤ y) (y2 : y ≤ 9999) (m1 : 1 ≤ m) (m2 : m ≤ 12) : m_ref05_Gregorian std y m 1 = some (cnt y m 1, true) := by
  have q : ∀ k : Int, Int.tdiv (y - 1) k = (y - 1) / k := fun k => Int.tdiv_eq_ediv_of_nonneg (by omega)
  have jb := jl_bd y m
  have jb2 := jc_bd (y := y) m1 (show m ≤ 13 by omega)
  have nb := nyr_bd (y := y) (by omega) (by omega)
  have hc := cnt_jc (y := y) m1 m2
  have cb := cnt_bd (y := y) (m := m) (d := 1) y1 (by omega) m1 m2 (by omega) (by omega)
  rw [m_ref05_Gregorian_eq]
  simp only [q]
  obtain ⟨x, ex⟩ : ∃ x, (bif (m == 2) then Option.bind (m_ref05_leap std y) fun b65 => bif (!b65) then (some (decide (0 < jl y m))) else (some false) else (some false)) = some x := by
    rw [p_leap y1]
    cases (m == 2) with
    | false => exact ⟨_, rfl⟩
    | true => cases gl y <;> exact ⟨_, rfl⟩
  obtain ⟨L, eL, bL⟩ : ∃ L, (bif x then (some 28) else (some (jl y m)) : Option Int) = some L ∧ 28 ≤ L := by
    cases x with
    | false => exact ⟨_, rfl, jb.1⟩
    | true => exact ⟨_, rfl, Int.le_refl _⟩
  obtain ⟨z, hz⟩ : ∃ z, (decide (2 < m) && (decide (y % 4 = 0) && !gl y)) = z := ⟨_, rfl⟩
  rw [hz] at hc
  refine bB (p_ref05_Length y1 y2 m1 m2) (bB ex (bB eL (bB (v := false) (bF (dF (by omega)) (congrArg some (dF (by omega)))) (bF rfl ?_))))
  refine gI (by omega) (gI (by omega) (gI (by omega) (gZ (by omega) (gI (by omega) (gI (by omega) (gZ (by omega) (gI (by omega) (gI (by omega) (gZ (by omega) (gI (by omega) (gI (by omega) (bB (p_Greg_L1 (n := nyr y) y1 y2 m1 m2 (by omega) (by omega)) (bB (v := z) ?_ (bB (v := cnt y m 1) ?_ (gI (by omega) (gI (by omega) ?_))))))))))))))))
  · rw [p_Leap y1 y2, p_leap y1, ← hz]
    cases decide (2 < m) with
    | false => rfl
    | true => cases decide (y % 4 = 0) <;> rfl
  · cases z with
    | false => rw [if_neg (by decide)] at hc; exact bF rfl (congrArg some (by omega))
    | true => rw [if_pos rfl] at hc; exact bT rfl (gI (by omega) (congrArg some (by omega)))
  · rw [show cnt y m 1 + 1 - 1 = cnt y m 1 by omega]
theorem p_first {y : Int} (y1 : 1 ≤ y) (y2 : y ≤ 9999) : m_ref05_first std y = some (nyr y) := by
  rw [m_ref05_first_eq, ← cnt_nyr]
  exact bB (p_Gregorian y1 y2 (by omega) (by omega)) rfl
/-- the Julian year of a day -/
theorem p_ref05_Date {day : Int} (h1 : -719162 ≤ day) (h2 : day < 2932897) : ∃ y m d, m_ref05_Date std day = some (y, m, d, 0) ∧ 1 ≤ y ∧ y ≤ 9999 ∧ day < nyr (y + 2) := by
  rw [m_ref05_Date_eq]
  obtain ⟨n, hn⟩ : ∃ n, day - (-719164) = n := ⟨_, rfl⟩
  have n1 : 2 ≤ n := by omega
  have n2 : n ≤ 3652060 := by omega
  rw [hn, Int.tdiv_eq_ediv_of_nonneg (by omega), Int.tmod_eq_emod_of_nonneg (by omega)]
  obtain ⟨qq, hq⟩ : ∃ q, n / 1461 = q := ⟨_, rfl⟩
  obtain ⟨r, hr⟩ : ∃ r, n % 1461 = r := ⟨_, rfl⟩
  rw [hq, hr]
  obtain ⟨e, he, k, k1, k2, e1, e2, e3, e4⟩ : ∃ e, loop (m_ref05_Date_L1 std) (r, 4 * qq + 1, 0) = some e ∧ ∃ k, 0 ≤ k ∧ k ≤ 3 ∧ e.2 = 4 * qq + 1 + k ∧ e.1 + 365 * k = r ∧ 0 ≤ e.1 ∧ (k < 3 → e.1 < 365) := by
    refine loop_is (B := m_ref05_Date_L1 std) (fun s => 0 ≤ s.2.2 ∧ s.2.2 ≤ 3 ∧ s.2.1 = 4 * qq + 1 + s.2.2 ∧ s.1 + 365 * s.2.2 = r ∧ 0 ≤ s.1) (fun s => (4 - s.2.2).toNat) (fun e => ∃ k, 0 ≤ k ∧ k ≤ 3 ∧ e.2 = 4 * qq + 1 + k ∧ e.1 + 365 * k = r ∧ 0 ≤ e.1 ∧ (k < 3 → e.1 < 365)) ⟨by simp only []; omega, by simp only []; omega, by simp only []; omega, by simp only []; omega, by simp only []; omega⟩ (by show (4 - (0 : Int)).toNat < _; decide) (fun s hs => ?_)
    obtain ⟨a, y, k⟩ := s
    obtain ⟨k1, k2, ky, ka, a0⟩ := hs
    simp only [] at k1 k2 ky ka a0
    rw [m_ref05_Date_L1_eq]
    by_cases c : k < 3
    · by_cases d : 365 ≤ a
      · exact ⟨.inl (a - 365, y + 1, k + 1), bB (v := true) (bT (dT c) (congrArg some (dT d))) (bT rfl (gI (by omega) (gI (by omega) (gI (by omega) rfl)))), ⟨by simp only []; omega, by simp only []; omega, by simp only []; omega, by simp only []; omega, by simp only []; omega⟩, by simp only []; omega⟩
      · exact ⟨.inr (a, y), bB (v := false) (bT (dT c) (congrArg some (dF d))) (bF rfl rfl), k, k1, k2, ky, ka, a0, fun _ => by simp only []; omega⟩
    · exact ⟨.inr (a, y), bB (v := false) (bF (dF c) rfl) (bF rfl rfl), k, k1, k2, ky, ka, a0, fun h => absurd h c⟩
  obtain ⟨a, y⟩ := e
  simp only [] at e1 e2 e3 e4
  have y1 : 1 ≤ y := by omega
  have y2 : y ≤ 9999 := by omega
  have a1 : a < jc y 13 := by
    unfold jc
    rw [if_neg (by decide), if_neg (by decide)]
    split <;> omega
  obtain ⟨g, hg, g1, g2⟩ : ∃ g, loop (m_ref05_Date_L2 std y) (a, 1) = some g ∧ 0 ≤ g.1 ∧ g.1 ≤ 400 := by
    refine loop_is (B := m_ref05_Date_L2 std y) (fun s => 0 ≤ s.1 ∧ 1 ≤ s.2 ∧ s.2 ≤ 12 ∧ s.1 + jc y s.2 = a) (fun s => (13 - s.2).toNat) (fun g => 0 ≤ g.1 ∧ g.1 ≤ 400) ⟨e3, by simp only []; omega, by simp only []; omega, by simp [jc]⟩ (by show (13 - (1 : Int)).toNat < _; decide) (fun s hs => ?_)
    obtain ⟨b, m⟩ := s
    obtain ⟨b0, m1, m2, hb⟩ := hs
    simp only [] at b0 m1 m2 hb
    rw [m_ref05_Date_L2_eq]
    have jb := jl_bd y m
    have jb2 := jc_bd (y := y) m1 (show m ≤ 13 by omega)
    have jb3 := jc_bd (y := y) (m := 13) (by omega) (by omega)
    have js := jc_succ (y := y) m1 m2
    by_cases c : jl y m ≤ b
    · have m3 : m < 12 := by
        rcases Int.lt_or_le m 12 with h | h
        · exact h
        · exfalso
          have e : m = 12 := by omega
          subst e
          rw [show (12 : Int) + 1 = 13 by omega] at js
          omega
      exact ⟨.inl (b - jl y m, m + 1), bB (p_ref05_Length y1 y2 m1 m2) (bT (dT c) (bB (p_ref05_Length y1 y2 m1 m2) (gI (by omega) (gI (by omega) rfl)))), ⟨by simp only []; omega, by simp only []; omega, by simp only []; omega, by simp only []; omega⟩, by simp only []; omega⟩
    · exact ⟨.inr (b, m), bB (p_ref05_Length y1 y2 m1 m2) (bF (dF c) rfl), b0, by simp only []; omega⟩
  obtain ⟨b, m⟩ := g
  simp only [] at g1 g2
  refine ⟨y, m, b + 1, ?_, y1, y2, ?_⟩
  · have hR : m_ref05_Right std day = some true := by
      rw [m_ref05_Right_eq]
      exact bB (bT (dT h1) (congrArg some (dT h2))) rfl
    exact bB hR (bF rfl (gI (by omega) (gZ (by omega) (gI (by omega) (gI (by omega) (gI (by omega) (bB he (bB hg (gI (by omega) rfl)))))))))
  · unfold nyr
    omega
theorem p_Fields {day Y M D : Int} (h1 : -719162 ≤ day) (h2 : day < 2932897) (h : IsDate day Y M D) : ∃ d, m_ref05_Fields std day = some (Y, M, d) := by
  obtain ⟨j, jm, jd, ej, j1, j2, j3⟩ := p_ref05_Date h1 h2
  have hy := h.yr h1 h2
  have y1 := h.y1
  have y2 := h.y2
  have m1 := h.m1
  have m2 := h.m2
  have hYj : Y ≤ j + 1 := by
    rcases Int.lt_or_le (j + 1) Y with g | g
    · have := nyr_le (show j + 2 ≤ Y by omega)
      have := hy.1
      omega
    · exact g
  obtain ⟨e, he, rfl⟩ : ∃ e, loop (m_ref05_Fields_L1 std day) (j + 1) = some e ∧ e = Y := by
    refine loop_is (B := m_ref05_Fields_L1 std day) (fun y => Y ≤ y ∧ y ≤ j + 1) (fun y => y.toNat) (fun e => e = Y) ⟨hYj, Int.le_refl _⟩ (by omega) (fun y hs => ?_)
    obtain ⟨a1, a2⟩ := hs
    rw [m_ref05_Fields_L1_eq]
    by_cases c : 9999 < y
    · exact ⟨.inl (y - 1), bB (v := true) (bT (dT c) rfl) (bT rfl (gI (by omega) rfl)), ⟨by omega, by omega⟩, by omega⟩
    · by_cases d : day < nyr y
      · have : Y ≠ y := fun e => by subst e; have := hy.1; omega
        exact ⟨.inl (y - 1), bB (v := true) (bF (dF c) (bB (p_first (by omega) (by omega)) (congrArg some (dT d)))) (bT rfl (gI (by omega) rfl)), ⟨by omega, by omega⟩, by omega⟩
      · refine ⟨.inr y, bB (v := false) (bF (dF c) (bB (p_first (by omega) (by omega)) (congrArg some (dF d)))) (bF rfl rfl), ?_⟩
        show y = Y
        rcases Int.lt_or_le Y y with g | g
        · have := nyr_le (show Y + 1 ≤ y by omega)
          have := hy.2
          omega
        · omega
  have hmlo := h.mlo h1 h2
  obtain ⟨g, hg, g1⟩ : ∃ g, loop (m_ref05_Fields_L2 std day e) 12 = some g ∧ g.1 = M := by
    refine loop_is (B := m_ref05_Fields_L2 std day e) (fun m => M ≤ m ∧ m ≤ 12) (fun m => m.toNat) (fun g => g.1 = M) ⟨m2, Int.le_refl _⟩ (by decide) (fun m hs => ?_)
    obtain ⟨a1, a2⟩ := hs
    rw [m_ref05_Fields_L2_eq]
    have cb := cnt_bd (y := e) (m := m) (d := 1) y1 (by omega) (by omega) a2 (by omega) (by omega)
    by_cases c : cnt e m 1 ≤ day
    · refine ⟨.inr (m, day - cnt e m 1 + 1), bB (p_Gregorian y1 y2 (by omega) a2) (bT (dT c) (gI (by omega) (gI (by omega) rfl))), ?_⟩
      show m = M
      rcases Int.lt_or_le M m with g | g
      · exfalso
        have hu := h.mu (by omega)
        rcases Int.lt_or_le (M + 1) m with k | k
        · have := cnt_up (y := e) (show 1 ≤ M + 1 by omega) k a2
          omega
        · have : m = M + 1 := by omega
          subst this
          omega
      · omega
    · have : M ≠ m := fun e => by subst e; exact c hmlo
      exact ⟨.inl (m - 1), bB (p_Gregorian y1 y2 (by omega) a2) (bF (dF c) (gI (by omega) rfl)), ⟨by omega, by omega⟩, by omega⟩
  obtain ⟨gm, gd⟩ := g
  simp only [] at g1
  subst g1
  refine ⟨gd, ?_⟩
  rw [m_ref05_Fields_eq]
  exact bB ej (gI (by omega) (bB he (bB hg rfl)))

/-! weeks -/
def wkS (day s : Int) : Int := day - (wkd day - s) % 7
theorem wkd_bd (d : Int) : 1 ≤ wkd d ∧ wkd d ≤ 7 := by unfold wkd; omega
theorem wkS_bd (day s : Int) : day - 6 ≤ wkS day s ∧ wkS day s ≤ day := by unfold wkS; omega
theorem p_recurrence_week {day s : Int} (h1 : -100000000 ≤ day) (h2 : day ≤ 100000000) (s1 : 1 ≤ s) (s2 : s ≤ 7) : m_recurrence_week std day s = some (wkS day s) := by
  rw [m_recurrence_week_eq]
  have b := wkd_bd day
  have b2 := wkS_bd day s
  unfold wkS at b2
  exact bB (p_recurrence_weekday (by omega) (by omega)) (gI (by omega) (bB (p_integer_Mod _ _ (by omega) (by omega) (by omega) (by omega)) (gI (by omega) rfl)))
theorem p_ref01_Mod (a b : Int) (ha1 : -9223372036854775808 ≤ a) (ha2 : a ≤ 9223372036854775807) (hb : 1 ≤ b) (hb2 : b ≤ 9223372036854775807) : m_ref01_Mod std a b = some (a % b) := by
  rw [m_ref01_Mod_eq, p_ref01_Div a b ha1 ha2 hb hb2]; rfl
theorem p_ref29_week {day s : Int} (h1 : -100000000 ≤ day) (h2 : day ≤ 100000000) (s1 : 1 ≤ s) (s2 : s ≤ 7) : m_ref29_week std day s = some (wkS day s) := by
  rw [m_ref29_week_eq]
  have b := wkd_bd day
  have b2 := wkS_bd day s
  unfold wkS at b2
  have hw : m_ref29_Weekday std day = some (wkd day) := by
    rw [m_ref29_Weekday_eq]
    exact gI (by omega) (bB (p_ref01_Mod _ _ (by omega) (by omega) (by omega) (by omega)) (gI (by omega) rfl))
  exact bB hw (gI (by omega) (bB (p_ref01_Mod _ _ (by omega) (by omega) (by omega) (by omega)) (gI (by omega) rfl)))
theorem p_ref29_NewYear {y : Int} (h1 : -1000000 ≤ y) (h2 : y ≤ 1000000) : m_ref29_NewYear std y = some (nyr y) := by
  rw [m_ref29_NewYear_eq]
  exact gI (by omega) (gI (by omega) (gI (by omega) (bB (p_ref01_Floor _ _ (by omega) (by omega) (by omega) (by omega)) (gI (by omega) (bB (p_ref01_Floor _ _ (by omega) (by omega) (by omega) (by omega)) (gI (by omega) (bB (p_ref01_Floor _ _ (by omega) (by omega) (by omega) (by omega)) (gI (by omega) rfl))))))))
theorem nyr_small {y : Int} (h1 : -1000 ≤ y) (h2 : y ≤ 11000) : -10000000 ≤ nyr y ∧ nyr y ≤ 10000000 := by unfold nyr; omega
theorem p_ref29_firstWeek {y s : Int} (h1 : -1000 ≤ y) (h2 : y ≤ 11000) (s1 : 1 ≤ s) (s2 : s ≤ 7) : m_ref29_firstWeek std y s = some (wkS (nyr y + 3) s) := by
  rw [m_ref29_firstWeek_eq]
  have b := nyr_small h1 h2
  exact bB (p_ref29_NewYear (by omega) (by omega)) (gI (by omega) (bB (p_ref29_week (by omega) (by omega) s1 s2) rfl))
theorem p_weekYear {day s : Int} (h1 : -719162 ≤ day) (h2 : day < 2932897) (s1 : 1 ≤ s) (s2 : s ≤ 7) : ∃ y, m_recurrence_weekYear std day s = some y ∧ IsYr (wkS day s + 3) y := by
  rw [m_recurrence_weekYear_eq]
  have b := wkS_bd day s
  have hw := p_recurrence_week (day := day) (s := s) (by omega) (by omega) s1 s2
  generalize wkS day s = t at *
  obtain ⟨u, hu⟩ : ∃ u, mi (ma (t + 3) (-719162)) 2932896 = u := ⟨_, rfl⟩
  have hu2 : u = if t + 3 < -719162 then -719162 else if 2932896 < t + 3 then 2932896 else t + 3 := by
    rw [← hu]
    unfold mi ma
    split <;> split <;> (try split) <;> omega
  have u1 : -719162 ≤ u := by rw [hu2]; split; · omega
                              · split <;> omega
  have u2 : u < 2932897 := by rw [hu2]; split; · omega
                              · split <;> omega
  obtain ⟨y, m, d, eD, iD⟩ := p_civil_Date u1 u2
  have hy := iD.yr u1 u2
  have y1 := iD.y1
  have y2 := iD.y2
  have n1 := nyr_one
  have n2 := nyr_end
  have eD' : m_civil_Date std (mi (ma (t + 3) (-719162)) 2932896) = some (y, m, d, 0) := by rw [hu]; exact eD
  by_cases c : t + 3 < nyr y
  · refine ⟨y - 1, bB hw (gI (by omega) (bB eD' (bB (p_recurrence_newYear (by omega) (by omega)) (bB (v := y - 1) (bT (dT c) (gI (by omega) rfl)) rfl)))), ?_⟩
    have hu3 : t + 3 < -719162 := by
      rw [hu2] at hy
      have := hy.1
      split at this
      · assumption
      · split at this <;> omega
    have e : y = 1 := by
      rw [hu2, if_pos hu3] at hy
      have h4 : IsYr (-719162) 1 := ⟨by rw [nyr_one]; omega, by decide⟩
      exact hy.uniq h4
    subst e
    exact ⟨by have : nyr (1 - 1) = -719528 := by decide
              omega, by rw [show (1 : Int) - 1 + 1 = 1 by omega]; exact c⟩
  · by_cases d : nyr (y + 1) ≤ t + 3
    · refine ⟨y + 1, bB hw (gI (by omega) (bB eD' (bB (p_recurrence_newYear (by omega) (by omega)) (bB (v := y + 1) (bF (dF c) (gI (by omega) (bB (p_recurrence_newYear (by omega) (by omega)) (bB (v := y + 1) (bT (dT d) rfl) rfl)))) rfl)))), d, ?_⟩
      have hu3 : 2932896 < t + 3 := by
        rw [hu2] at hy
        have := hy.2
        split at this
        · omega
        · split at this
          · assumption
          · omega
      have e : y = 9999 := by
        rw [hu2, if_neg (by omega), if_pos hu3] at hy
        have h4 : IsYr 2932896 9999 := ⟨by decide, by decide⟩
        exact hy.uniq h4
      subst e
      have : nyr (9999 + 1 + 1) = 2933263 := by decide
      omega
    · exact ⟨y, bB hw (gI (by omega) (bB eD' (bB (p_recurrence_newYear (by omega) (by omega)) (bB (v := y) (bF (dF c) (gI (by omega) (bB (p_recurrence_newYear (by omega) (by omega)) (bB (v := y) (bF (dF d) rfl) rfl)))) rfl)))), by omega, by omega⟩
theorem p_ref29_Week {day s : Int} (h1 : -719162 ≤ day) (h2 : day < 2932897) (s1 : 1 ≤ s) (s2 : s ≤ 7) : ∃ y a b, m_ref29_Week std day s = some (y, a, b) ∧ IsYr (wkS day s + 3) y := by
  rw [m_ref29_Week_eq]
  have b := wkS_bd day s
  have hw := p_ref29_week (day := day) (s := s) (by omega) (by omega) s1 s2
  generalize wkS day s = t at *
  obtain ⟨q, hq⟩ : ∃ q, Int.tdiv ((t + 3 - (-719162)) * 400) 146097 = q := ⟨_, rfl⟩
  have hq2 : -1 ≤ q ∧ q ≤ 10001 ∧ 146097 * q ≤ (t + 3 + 719162) * 400 + 146096 := by
    rcases Int.lt_or_le (t + 3) (-719162) with g | g
    · have : Int.tdiv ((t + 3 - (-719162)) * 400) 146097 = 0 := by
        have e : (t + 3 - (-719162)) * 400 = -(-(t + 3 - (-719162)) * 400) := by omega
        rw [e, Int.neg_tdiv, Int.tdiv_eq_ediv_of_nonneg (by omega)]
        omega
      omega
    · rw [Int.tdiv_eq_ediv_of_nonneg (by omega)] at hq
      omega
  have hs : nyr (q - 1) ≤ t + 3 := by
    unfold nyr
    omega
  obtain ⟨y, ey, y1, y2, y3⟩ : ∃ y, loop (m_ref29_Week_L1 std t) (q - 1) = some y ∧ (-2 ≤ y ∧ y ≤ 10100) ∧ nyr y ≤ t + 3 ∧ t + 3 < nyr (y + 1) := by
    refine loop_is (B := m_ref29_Week_L1 std t) (fun y => -2 ≤ y ∧ nyr y ≤ t + 3) (fun y => (20000 - y).toNat) (fun y => (-2 ≤ y ∧ y ≤ 10100) ∧ nyr y ≤ t + 3 ∧ t + 3 < nyr (y + 1)) ⟨by omega, hs⟩ (by omega) (fun y hy => ?_)
    obtain ⟨a1, a2⟩ := hy
    have a3 : y ≤ 10100 := by
      rcases Int.lt_or_le 10100 y with g | g
      · have := nyr_le (show 10100 ≤ y by omega)
        have : nyr 10100 = 2969422 := by decide
        omega
      · exact g
    rw [m_ref29_Week_L1_eq]
    by_cases c : nyr (y + 1) ≤ t + 3
    · exact ⟨.inl (y + 1), gI (by omega) (bB (p_ref29_NewYear (by omega) (by omega)) (bT (dT c) rfl)), ⟨by omega, c⟩, by omega⟩
    · exact ⟨.inr y, gI (by omega) (bB (p_ref29_NewYear (by omega) (by omega)) (bF (dF c) rfl)), ⟨a1, a3⟩, a2, by omega⟩
  have b1 := nyr_small (y := y) (by omega) (by omega)
  have b2 := nyr_small (y := y + 1) (by omega) (by omega)
  have c1 := wkS_bd (nyr y + 3) s
  have c2 := wkS_bd (nyr (y + 1) + 3) s
  have d1 := p_ref29_firstWeek (y := y) (s := s) (by omega) (by omega) s1 s2
  have d2 := p_ref29_firstWeek (y := y + 1) (s := s) (by omega) (by omega) s1 s2
  generalize wkS (nyr y + 3) s = w1 at *
  generalize wkS (nyr (y + 1) + 3) s = w2 at *
  obtain ⟨x1, hx1⟩ : ∃ x, Int.tdiv (t - w1) 7 = x := ⟨_, rfl⟩
  obtain ⟨x2, hx2⟩ : ∃ x, Int.tdiv (w2 - w1) 7 = x := ⟨_, rfl⟩
  have z : ∀ a : Int, -100000000 ≤ a → a ≤ 100000000 → -1000000000 ≤ Int.tdiv a 7 ∧ Int.tdiv a 7 ≤ 1000000000 := fun a p1 p2 => by
    rcases Int.lt_or_le a 0 with g | g
    · have e : a = -(-a) := by omega
      rw [e, Int.neg_tdiv, Int.tdiv_eq_ediv_of_nonneg (by omega)]
      omega
    · rw [Int.tdiv_eq_ediv_of_nonneg g]; omega
  have z1 := z (t - w1) (by omega) (by omega)
  have z2 := z (w2 - w1) (by omega) (by omega)
  rw [hx1] at z1
  rw [hx2] at z2
  refine ⟨y, x1 + 1, x2, ?_, y2, y3⟩
  refine bB hw ?_
  rw [hq]
  refine gI (by omega) (gI (by omega) (gI (by omega) (gZ (by omega) (gI (by omega) (gI (by omega) (bB ey (bB d1 ?_)))))))
  rw [hx1]
  refine gI (by omega) (gZ (by omega) (gI (by omega) (gI (by omega) (gI (by omega) (bB d2 ?_)))))
  rw [hx2]
  exact gI (by omega) (gI (by omega) rfl)

/-! the numbers of periods -/
def NumIs (r : Rec) (l n : Int) : Prop :=
  (r.f = 3 ∧ n = wkS (l / 86400) r.w / 7) ∨ (r.f = 4 ∧ n = l / 86400) ∨ (r.f = 5 ∧ n = l / 3600) ∨ (r.f = 1 ∧ (0 < ((r.wk.length : Nat) : Int)) ∧ IsYr (wkS (l / 86400) r.w + 3) n) ∨ (r.f = 1 ∧ ¬ (0 < ((r.wk.length : Nat) : Int)) ∧ IsYr (l / 86400) n) ∨
  (r.f = 2 ∧ ∃ y m, n = 12 * y + m ∧ 1 ≤ m ∧ m ≤ 12 ∧ IsYr (l / 86400) y ∧ cnt y m 1 ≤ l / 86400 ∧ (m < 12 → l / 86400 < cnt y (m + 1) 1))
theorem wkS_le {a b s : Int} (h : a ≤ b) : wkS a s ≤ wkS b s := by unfold wkS wkd; omega
theorem NumIs.mono {r : Rec} {a b m n : Int} (h1 : NumIs r a m) (h2 : NumIs r b n) (h : a ≤ b) : m ≤ n := by
  have hd : a / 86400 ≤ b / 86400 := Int.ediv_le_ediv (by omega) h
  have hw := wkS_le (s := r.w) hd
  rcases h1 with ⟨f1, h1⟩ | ⟨f1, h1⟩ | ⟨f1, h1⟩ | ⟨f1, g1, h1⟩ | ⟨f1, g1, h1⟩ | ⟨f1, y1, m1, e1, a1, b1, c1, d1, i1⟩ <;> rcases h2 with ⟨f2, h2⟩ | ⟨f2, h2⟩ | ⟨f2, h2⟩ | ⟨f2, g2, h2⟩ | ⟨f2, g2, h2⟩ | ⟨f2, y2, m2, e2, a2, b2, c2, d2, i2⟩ <;> try (exfalso; omega)
  · omega
  · omega
  · omega
  · exact h1.mono h2 (by omega)
  · exact h1.mono h2 hd
  · have hy := c1.mono c2 hd
    rcases Int.lt_or_le y1 y2 with g | g
    · omega
    · have e : y1 = y2 := by omega
      subst e
      rcases Int.lt_or_le m2 m1 with k | k
      · exfalso
        have hu := i2 (by omega)
        rcases Int.lt_or_le (m2 + 1) m1 with x | x
        · have := cnt_up (y := y1) (show 1 ≤ m2 + 1 by omega) x b1
          omega
        · have : m1 = m2 + 1 := by omega
          subst this
          omega
      · omega
theorem p_number {r : Rec} {l : Int} (hv : vldB r = true) (hl : locB l = true) : ∃ n, m_recurrence_number std r.f r.N r.c r.u r.w l r.mo r.md r.yd r.wk r.dy r.h r.m r.s r.ps = some n ∧ m_ref29_Number std r.f r.N r.c r.u r.w l r.mo r.md r.yd r.wk r.dy r.h r.m r.s r.ps = some n ∧ NumIs r l n ∧ -1000000000000 ≤ n ∧ n ≤ 1000000000000 := by
  have bl := locB_iff.1 hl
  have hfw : (1 ≤ r.f ∧ r.f ≤ 5) ∧ 1 ≤ r.w ∧ r.w ≤ 7 := by
    unfold vldB at hv
    simp only [Bool.and_eq_true, decide_eq_true_eq] at hv
    exact ⟨hv.1, hv.2.2.1⟩
  obtain ⟨⟨f1, f2⟩, w1, w2⟩ := hfw
  rw [m_recurrence_number_eq, m_ref29_Number_eq]
  have ef := p_integer_Floor l 86400 (by omega) (by omega) (by omega) (by omega)
  have eg := p_ref01_Floor l 86400 (by omega) (by omega) (by omega) (by omega)
  obtain ⟨day, hday⟩ : ∃ d, l / 86400 = d := ⟨_, rfl⟩
  have d1 : -719162 ≤ day := by omega
  have d2 : day < 2932897 := by omega
  obtain ⟨y, m, d, hD, iD⟩ := p_civil_Date d1 d2
  obtain ⟨d', hF⟩ := p_Fields d1 d2 iD
  have iy := iD.yr d1 d2
  have y1 := iD.y1
  have y2 := iD.y2
  have m1 := iD.m1
  have m2 := iD.m2
  rw [hday] at ef eg
  unfold NumIs
  rw [hday]
  have hf : r.f = 1 ∨ r.f = 2 ∨ r.f = 3 ∨ r.f = 4 ∨ r.f = 5 := by omega
  rcases hf with h | h | h | h | h
  · have q3 : (r.f == 3) = false := eF (by omega)
    have q4 : (r.f == 4) = false := eF (by omega)
    have q5 : (r.f == 5) = false := eF (by omega)
    have q1 : (r.f == 1) = true := eT h
    by_cases c : 0 < ((r.wk.length : Nat) : Int)
    · obtain ⟨n, en, hn⟩ := p_weekYear d1 d2 w1 w2
      obtain ⟨n', a', b', en', hn'⟩ := p_ref29_Week d1 d2 w1 w2
      obtain rfl := hn.uniq hn'
      refine ⟨n, ?_, ?_, .inr (.inr (.inr (.inl ⟨h, c, hn⟩))), ?_, ?_⟩
      · refine bB ef (bB (v := .inr ()) (bF q3 (bB (v := .inr ()) (bF q4 (bF q5 rfl)) rfl)) (bB (v := true) (bT q1 (congrArg some (dT c))) (bT rfl (bB en rfl))))
      · exact bB eg (bB hF (bB (v := .inl n) (bT q1 (bT (dT c) (bB en' rfl))) rfl))
      · have := wkS_bd day r.w
        rcases Int.lt_or_le n (-1000000) with g | g
        · have := nyr_le (show n + 1 ≤ -1000000 + 1 by omega)
          have := hn.2
          have : nyr (-1000000 + 1) = -365961662 := by decide
          omega
        · omega
      · have := wkS_bd day r.w
        rcases Int.lt_or_le 1000000 n with g | g
        · have := nyr_le (show 1000000 ≤ n by omega)
          have := hn.1
          have : nyr 1000000 = 364522972 := by decide
          omega
        · omega
    · refine ⟨y, ?_, ?_, .inr (.inr (.inr (.inr (.inl ⟨h, c, iy⟩)))), by omega, by omega⟩
      · exact bB ef (bB (v := .inr ()) (bF q3 (bB (v := .inr ()) (bF q4 (bF q5 rfl)) rfl)) (bB (v := false) (bT q1 (congrArg some (dF c))) (bF rfl (bB hD (bT q1 rfl)))))
      · exact bB eg (bB hF (bB (v := .inl y) (bT q1 (bF (dF c) rfl)) rfl))
  · have q3 : (r.f == 3) = false := eF (by omega)
    have q4 : (r.f == 4) = false := eF (by omega)
    have q5 : (r.f == 5) = false := eF (by omega)
    have q1 : (r.f == 1) = false := eF (by omega)
    have q2 : (r.f == 2) = true := eT h
    refine ⟨12 * y + m, ?_, ?_, .inr (.inr (.inr (.inr (.inr ⟨h, y, m, rfl, m1, m2, iy, iD.mlo d1 d2, iD.mu⟩)))), by omega, by omega⟩
    · exact bB ef (bB (v := .inr ()) (bF q3 (bB (v := .inr ()) (bF q4 (bF q5 rfl)) rfl)) (bB (v := false) (bF q1 rfl) (bF rfl (bB hD (bF q1 (gI (by omega) (gI (by omega) rfl)))))))
    · exact bB eg (bB hF (bB (v := .inl (12 * y + m)) (bF q1 (bB (v := .inl (12 * y + m)) (bT q2 (gI (by omega) (gI (by omega) rfl))) rfl)) rfl))
  · have q3 : (r.f == 3) = true := eT h
    have q1 : (r.f == 1) = false := eF (by omega)
    have q2 : (r.f == 2) = false := eF (by omega)
    have b := wkS_bd day r.w
    refine ⟨wkS day r.w / 7, ?_, ?_, .inl ⟨h, rfl⟩, by omega, by omega⟩
    · exact bB ef (bB (v := .inl (wkS day r.w / 7)) (bT q3 (bB (p_recurrence_week (by omega) (by omega) w1 w2) (bB (p_integer_Floor _ _ (by omega) (by omega) (by omega) (by omega)) rfl))) rfl)
    · exact bB eg (bB hF (bB (v := .inl (wkS day r.w / 7)) (bF q1 (bB (v := .inl (wkS day r.w / 7)) (bF q2 (bB (v := .inl (wkS day r.w / 7)) (bT q3 (bB (p_ref29_week (by omega) (by omega) w1 w2) (bB (p_ref01_Floor _ _ (by omega) (by omega) (by omega) (by omega)) rfl))) rfl)) rfl)) rfl))
  · have q3 : (r.f == 3) = false := eF (by omega)
    have q4 : (r.f == 4) = true := eT h
    have q1 : (r.f == 1) = false := eF (by omega)
    have q2 : (r.f == 2) = false := eF (by omega)
    refine ⟨day, ?_, ?_, .inr (.inl ⟨h, rfl⟩), by omega, by omega⟩
    · exact bB ef (bB (v := .inl day) (bF q3 (bB (v := .inl day) (bT q4 rfl) rfl)) rfl)
    · exact bB eg (bB hF (bB (v := .inl day) (bF q1 (bB (v := .inl day) (bF q2 (bB (v := .inl day) (bF q3 (bT q4 rfl)) rfl)) rfl)) rfl))
  · have q3 : (r.f == 3) = false := eF (by omega)
    have q4 : (r.f == 4) = false := eF (by omega)
    have q5 : (r.f == 5) = true := eT h
    have q1 : (r.f == 1) = false := eF (by omega)
    have q2 : (r.f == 2) = false := eF (by omega)
    refine ⟨l / 3600, ?_, ?_, .inr (.inr (.inl ⟨h, rfl⟩)), by omega, by omega⟩
    · exact bB ef (bB (v := .inl (l / 3600)) (bF q3 (bB (v := .inl (l / 3600)) (bF q4 (bT q5 (bB (p_integer_Floor _ _ (by omega) (by omega) (by omega) (by omega)) rfl))) rfl)) rfl)
    · exact bB eg (bB hF (bB (v := .inr ()) (bF q1 (bB (v := .inr ()) (bF q2 (bB (v := .inr ()) (bF q3 (bF q4 rfl)) rfl)) rfl)) (bB (p_ref01_Floor _ _ (by omega) (by omega) (by omega) (by omega)) rfl)))

/-! the law -/
theorem p_long (r : Rec) : ∃ b, m_law29_long std r.f r.N r.c r.u r.w r.mo r.md r.yd r.wk r.dy r.h r.m r.s r.ps = some b := by
  rw [m_law29_long_eq]
  cases decide (100 < (((List.length r.mo) : Nat) : Int)) with | true => exact ⟨_, rfl⟩ | false =>
  cases decide (100 < (((List.length r.md) : Nat) : Int)) with | true => exact ⟨_, rfl⟩ | false =>
  cases decide (100 < (((List.length r.yd) : Nat) : Int)) with | true => exact ⟨_, rfl⟩ | false =>
  cases decide (100 < (((List.length r.wk) : Nat) : Int)) with | true => exact ⟨_, rfl⟩ | false =>
  cases decide (100 < (((List.length r.dy) : Nat) : Int)) with | true => exact ⟨_, rfl⟩ | false =>
  cases decide (100 < (((List.length r.h) : Nat) : Int)) with | true => exact ⟨_, rfl⟩ | false =>
  cases decide (100 < (((List.length r.m) : Nat) : Int)) with | true => exact ⟨_, rfl⟩ | false =>
  cases decide (100 < (((List.length r.s) : Nat) : Int)) with | true => exact ⟨_, rfl⟩ | false => exact ⟨_, rfl⟩
end Go.Proofs.Ytmnhfaaaaejpaaa
