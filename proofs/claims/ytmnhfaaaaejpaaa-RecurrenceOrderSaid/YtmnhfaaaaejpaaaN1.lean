/-
  recurrence: what the models of the smaller functions come to; rules without lists.
-/
import Derived.Test.YtmnhfaaaaejpaaaNQ
import Derived.Test.YtmnhfaaaaejpaaaPure
namespace Go.Proofs.Ytmnhfaaaaejpaaa
open Go.RowKit
/-- Go's quotient and remainder beside the floor's -/
theorem quo_cases (a b : Int) (ha1 : -9223372036854775808 ≤ a) (ha2 : a ≤ 9223372036854775807) (hb : 1 ≤ b) (hb2 : b ≤ 9223372036854775807) :
    (a.tmod b = 0 ∧ a.tdiv b = a / b ∧ a % b = 0 ∨ a.tmod b < 0 ∧ a.tdiv b - 1 = a / b ∧ a.tmod b + b = a % b ∨ 0 < a.tmod b ∧ a.tdiv b = a / b ∧ a.tmod b = a % b) ∧
    (-9223372036854775807 ≤ a.tdiv b ∨ a.tmod b = 0 ∧ -9223372036854775808 ≤ a.tdiv b) ∧ a.tdiv b ≤ 9223372036854775807 ∧ -9223372036854775807 ≤ a.tmod b ∧ a.tmod b ≤ 9223372036854775807 := by
  have hm := Int.tmod_add_mul_tdiv a b
  rcases Int.lt_or_le a 0 with hn | hn
  · have hb1 := tmod_bd a b hn hb
    have hb2 := tdiv_bd a b hn hb
    by_cases hr : a.tmod b = 0
    · have e2 := tdiv_zero' a b hb hr
      have e3 := tmod_zero' a b hr
      exact ⟨.inl ⟨hr, e2, e3.symm⟩, .inr ⟨hr, by omega⟩, by omega, by omega, by omega⟩
    · have e2 := tdiv_neg' a b hn hb hr
      have e3 := tmod_neg' a b hn hb hr
      refine ⟨.inr (.inl ⟨by omega, e2, e3⟩), .inl ?_, by omega, by omega, by omega⟩
      rcases Int.lt_or_le (a.tdiv b) (-9223372036854775807) with h | h
      · exfalso
        have h5 : a.tdiv b = -9223372036854775808 := by omega
        have h6 : b = 1 := by
          rcases Int.lt_or_le 1 b with h7 | h7
          · rw [h5] at hm; omega
          · omega
        subst h6
        simp at hr
      · exact h
  · have e1 : a.tdiv b = a / b := Int.tdiv_eq_ediv_of_nonneg hn
    have e2 : a.tmod b = a % b := Int.tmod_eq_emod_of_nonneg hn
    have hq : 0 ≤ a / b := Int.ediv_nonneg hn (by omega)
    have hq2 : a / b ≤ a := Int.ediv_le_self _ hn
    have hd := div_bd (a := a) hb
    rw [e1, e2]
    refine ⟨?_, .inl (by omega), by omega, by omega, by omega⟩
    rcases Int.lt_or_le 0 (a % b) with h | h
    · exact .inr (.inr ⟨h, rfl, rfl⟩)
    · exact .inl ⟨by omega, rfl, by omega⟩
theorem p_integer_Div (a b : Int) (ha1 : -9223372036854775808 ≤ a) (ha2 : a ≤ 9223372036854775807) (hb : 1 ≤ b) (hb2 : b ≤ 9223372036854775807) : m_integer_Div std a b = some (a / b, a % b, 0) := by
  rw [m_integer_Div_eq]
  obtain ⟨hc, hq1, hq2, hr1, hr2⟩ := quo_cases a b ha1 ha2 hb hb2
  have h0 : (b == 0) = false := eF (by omega)
  have h1 : (b == -1) = false := eF (by omega)
  have hz : okNz b = true := dT (by omega)
  have hb3 : decide (b < 0) = false := dF (by omega)
  generalize a.tdiv b = q at *
  generalize a.tmod b = r at *
  have e1 : okI .i64 q = true := by rw [okI64]; exact dT (by omega)
  rcases hc with ⟨rfl, rfl, hd⟩ | ⟨h2, h3, h4⟩ | ⟨h2, rfl, rfl⟩
  · simp [h0, h1, hz, grd, e1, hd]
  · have h5 : (r == 0) = false := eF (by omega)
    have hl : decide (r < 0) = true := dT h2
    have e4 : okI .i64 (q - 1) = true := by rw [okI64]; exact dT (by omega)
    have e5 : okI .i64 (r + b) = true := by rw [okI64]; exact dT (by omega)
    simp [h0, h1, hz, grd, e1, h5, hl, hb3, e4, e5]
    rw [← h3, ← h4]
    simp
  · have h5 : (a % b == 0) = false := eF (by omega)
    have hl : decide (a % b < 0) = false := dF (by omega)
    simp [h0, h1, hz, grd, e1, h5, hl, hb3]
theorem p_ref01_Div (a b : Int) (ha1 : -9223372036854775808 ≤ a) (ha2 : a ≤ 9223372036854775807) (hb : 1 ≤ b) (hb2 : b ≤ 9223372036854775807) : m_ref01_Div std a b = some (a / b, a % b, 0) := by
  rw [m_ref01_Div_eq]
  obtain ⟨hc, hq1, hq2, hr1, hr2⟩ := quo_cases a b ha1 ha2 hb hb2
  have h0 : (b == 0) = false := eF (by omega)
  have h1 : (b == -1) = false := eF (by omega)
  have hz : okNz b = true := dT (by omega)
  have hb3 : decide (b < 0) = false := dF (by omega)
  generalize a.tdiv b = q at *
  generalize a.tmod b = r at *
  have e1 : okI .i64 q = true := by rw [okI64]; exact dT (by omega)
  rcases hc with ⟨rfl, rfl, hd⟩ | ⟨h2, h3, h4⟩ | ⟨h2, rfl, rfl⟩
  · simp [h0, h1, hz, grd, e1, hd]
  · have h5 : (r == 0) = false := eF (by omega)
    have hl : decide (r < 0) = true := dT h2
    have e4 : okI .i64 (q - 1) = true := by rw [okI64]; exact dT (by omega)
    have e5 : okI .i64 (r + b) = true := by rw [okI64]; exact dT (by omega)
    simp [h0, h1, hz, grd, e1, h5, hl, hb3, e4, e5]
    rw [← h3, ← h4]
    simp
  · have h5 : (a % b == 0) = false := eF (by omega)
    have hl : decide (a % b < 0) = false := dF (by omega)
    simp [h0, h1, hz, grd, e1, h5, hl, hb3]
theorem p_integer_Floor (a b : Int) (ha1 : -9223372036854775808 ≤ a) (ha2 : a ≤ 9223372036854775807) (hb : 1 ≤ b) (hb2 : b ≤ 9223372036854775807) : m_integer_Floor std a b = some (a / b) := by
  rw [m_integer_Floor_eq, p_integer_Div a b ha1 ha2 hb hb2]; rfl
theorem p_integer_Mod (a b : Int) (ha1 : -9223372036854775808 ≤ a) (ha2 : a ≤ 9223372036854775807) (hb : 1 ≤ b) (hb2 : b ≤ 9223372036854775807) : m_integer_Mod std a b = some (a % b) := by
  rw [m_integer_Mod_eq, p_integer_Div a b ha1 ha2 hb hb2]; rfl
theorem p_ref01_Floor (a b : Int) (ha1 : -9223372036854775808 ≤ a) (ha2 : a ≤ 9223372036854775807) (hb : 1 ≤ b) (hb2 : b ≤ 9223372036854775807) : m_ref01_Floor std a b = some (a / b) := by
  rw [m_ref01_Floor_eq, p_ref01_Div a b ha1 ha2 hb hb2]; rfl


/-! times -/
def locB (l : Int) : Bool := decide (-62135596800 ≤ l ∧ l < 253402300800)
theorem locB_iff {l : Int} : locB l = true ↔ -62135596800 ≤ l ∧ l < 253402300800 := by simp [locB]
theorem p_recurrence_local (l : Int) : m_recurrence_local std l = some (locB l) := by
  rw [m_recurrence_local_eq]; unfold locB
  by_cases h1 : -62135596800 ≤ l
  · exact bB (bT (dT h1) rfl) (congrArg some (by rw [Bool.eq_iff_iff, decide_eq_true_eq, decide_eq_true_eq]; omega))
  · exact bB (bF (dF h1) rfl) (congrArg some (by rw [Bool.eq_iff_iff, decide_eq_true_eq]; simp; omega))
/-! days -/
def wkd (d : Int) : Int := (d + 3) % 7 + 1
theorem p_recurrence_weekday {d : Int} (h1 : -1000000000 ≤ d) (h2 : d ≤ 1000000000) : m_recurrence_weekday std d = some (wkd d) := by
  rw [m_recurrence_weekday_eq]
  exact gI (by omega) (bB (p_integer_Mod _ _ (by omega) (by omega) (by omega) (by omega)) (gI (by omega) rfl))
def nyr (y : Int) : Int := -719162 + 365 * (y - 1) + (y - 1) / 4 - (y - 1) / 100 + (y - 1) / 400
theorem p_recurrence_newYear {y : Int} (h1 : -1000000 ≤ y) (h2 : y ≤ 1000000) : m_recurrence_newYear std y = some (nyr y) := by
  rw [m_recurrence_newYear_eq]
  exact gI (by omega) (gI (by omega) (gI (by omega) (bB (p_integer_Floor _ _ (by omega) (by omega) (by omega) (by omega)) (gI (by omega) (bB (p_integer_Floor _ _ (by omega) (by omega) (by omega) (by omega)) (gI (by omega) (bB (p_integer_Floor _ _ (by omega) (by omega) (by omega) (by omega)) (gI (by omega) rfl))))))))
theorem nyr_bd {y : Int} (h1 : -1000000 ≤ y) (h2 : y ≤ 1000000) : -1000000000 ≤ nyr y ∧ nyr y ≤ 1000000000 := by unfold nyr; omega
/-- the number of a day, as civil counts it -/
def cntA (y m : Int) : Int := 365 * y + y / 4 - y / 100 + y / 400 + (153 * (m - 3) + 2) / 5
def cnt (y m d : Int) : Int := (if m ≤ 2 then cntA (y - 1) (m + 12) else cntA y m) + d - 307 + -719162
theorem p_civil_count {y m d : Int} (hy : 1 ≤ y) (hy2 : y ≤ 10000) (hm : 1 ≤ m) (hm2 : m ≤ 12) (hd : -100000 ≤ d) (hd2 : d ≤ 100000) : m_civil_count std y m d = some (cnt y m d) := by
  rw [m_civil_count_eq]
  have q : ∀ a k : Int, 0 ≤ a → Int.tdiv a k = a / k := fun a k h => Int.tdiv_eq_ediv_of_nonneg h
  by_cases h : m ≤ 2
  · have e : cnt y m d = cntA (y - 1) (m + 12) + d - 307 + -719162 := by unfold cnt; rw [if_pos h]
    rw [e]
    unfold cntA
    refine bB (v := (y - 1, m + 12)) (bT (dT h) (gI (by omega) (gI (by omega) rfl))) ?_
    simp only [q (y - 1) _ (by omega), q (153 * (m + 12 - 3) + 2) _ (by omega)]
    exact gI (by omega) (gZ (by omega) (gI (by omega) (gI (by omega) (gZ (by omega) (gI (by omega) (gI (by omega) (gZ (by omega) (gI (by omega) (gI (by omega) (gI (by omega) (gI (by omega) (gI (by omega) (gZ (by omega) (gI (by omega) (gI (by omega) (gI (by omega) (gI (by omega) (gI (by omega) rfl))))))))))))))))))
  · have e : cnt y m d = cntA y m + d - 307 + -719162 := by unfold cnt; rw [if_neg h]
    rw [e]
    unfold cntA
    refine bB (v := (y, m)) (bF (dF h) rfl) ?_
    simp only [q y _ (by omega), q (153 * (m - 3) + 2) _ (by omega)]
    exact gI (by omega) (gZ (by omega) (gI (by omega) (gI (by omega) (gZ (by omega) (gI (by omega) (gI (by omega) (gZ (by omega) (gI (by omega) (gI (by omega) (gI (by omega) (gI (by omega) (gI (by omega) (gZ (by omega) (gI (by omega) (gI (by omega) (gI (by omega) (gI (by omega) (gI (by omega) rfl))))))))))))))))))
theorem cnt_bd {y m d : Int} (hy : 1 ≤ y) (hy2 : y ≤ 10000) (hm : 1 ≤ m) (hm2 : m ≤ 12) (hd : -100000 ≤ d) (hd2 : d ≤ 100000) : -10000000 ≤ cnt y m d ∧ cnt y m d ≤ 10000000 := by
  unfold cnt cntA
  split <;> omega
def dayB (d : Int) : Bool := decide (-719162 ≤ d ∧ d < 2932897)
theorem dayB_iff {d : Int} : dayB d = true ↔ -719162 ≤ d ∧ d < 2932897 := by simp [dayB]
theorem p_civil_inside (d : Int) : m_civil_inside std d = some (dayB d) := by
  rw [m_civil_inside_eq]; unfold dayB
  by_cases h1 : -719162 ≤ d
  · exact bB (bT (dT h1) rfl) (congrArg some (by rw [Bool.eq_iff_iff, decide_eq_true_eq, decide_eq_true_eq]; omega))
  · exact bB (bF (dF h1) rfl) (congrArg some (by rw [Bool.eq_iff_iff, decide_eq_true_eq]; simp; omega))
/-- the date of a day: the year and the month between which the day lies, as the code looks for them -/
structure IsDate (day y m d : Int) : Prop where
  y1 : 1 ≤ y
  y2 : y ≤ 9999
  m1 : 1 ≤ m
  m2 : m ≤ 12
  lo : (day + 719162) / 366 + 1 ≤ y
  up : y < 9999 → day < cnt (y + 1) 1 1
  mu : m < 12 → day < cnt y (m + 1) 1
  yl : y = (day + 719162) / 366 + 1 ∨ cnt y 1 1 ≤ day
  ml : m = 1 ∨ cnt y m 1 ≤ day
  d0 : d = day - cnt y m 1 + 1
theorem p_civil_Date {day : Int} (h1 : -719162 ≤ day) (h2 : day < 2932897) : ∃ y m d, m_civil_Date std day = some (y, m, d, 0) ∧ IsDate day y m d := by
  rw [m_civil_Date_eq]
  have q : Int.tdiv (day - -719162) 366 = (day + 719162) / 366 := by rw [Int.tdiv_eq_ediv_of_nonneg (by omega)]; congr 1
  obtain ⟨y, ey, y1, y2, y3, y4⟩ : ∃ y, loop (m_civil_Date_L1 std day) ((day + 719162) / 366 + 1) = some y ∧ ((day + 719162) / 366 + 1 ≤ y ∧ 1 ≤ y) ∧ y ≤ 9999 ∧ (y < 9999 → day < cnt (y + 1) 1 1) ∧ (y = (day + 719162) / 366 + 1 ∨ cnt y 1 1 ≤ day) := by
    refine loop_is (B := m_civil_Date_L1 std day) (fun y => ((day + 719162) / 366 + 1 ≤ y ∧ 1 ≤ y) ∧ y ≤ 9999 ∧ (y = (day + 719162) / 366 + 1 ∨ cnt y 1 1 ≤ day)) (fun y => (10000 - y).toNat) (fun y => ((day + 719162) / 366 + 1 ≤ y ∧ 1 ≤ y) ∧ y ≤ 9999 ∧ (y < 9999 → day < cnt (y + 1) 1 1) ∧ (y = (day + 719162) / 366 + 1 ∨ cnt y 1 1 ≤ day)) (by omega) (by omega) (fun y hy => ?_)
    obtain ⟨⟨a1, a2⟩, a3, a4⟩ := hy
    rw [m_civil_Date_L1_eq]
    by_cases hc : y < 9999
    · by_cases hd : cnt (y + 1) 1 1 ≤ day
      · exact ⟨.inl (y + 1), bB (v := true) (bT (dT hc) (gI (by omega) (bB (p_civil_count (by omega) (by omega) (by omega) (by omega) (by omega) (by omega)) (congrArg some (dT hd))))) (bT rfl (gI (by omega) rfl)), ⟨⟨by omega, by omega⟩, by omega, .inr hd⟩, by omega⟩
      · exact ⟨.inr y, bB (v := false) (bT (dT hc) (gI (by omega) (bB (p_civil_count (by omega) (by omega) (by omega) (by omega) (by omega) (by omega)) (congrArg some (dF hd))))) (bF rfl rfl), ⟨a1, a2⟩, a3, fun _ => by omega, a4⟩
    · exact ⟨.inr y, bB (v := false) (bF (dF hc) rfl) (bF rfl rfl), ⟨a1, a2⟩, a3, fun h => absurd h hc, a4⟩
  obtain ⟨m, em, m1, m2, m3, m4⟩ : ∃ m, loop (m_civil_Date_L2 std day y) 1 = some m ∧ 1 ≤ m ∧ m ≤ 12 ∧ (m < 12 → day < cnt y (m + 1) 1) ∧ (m = 1 ∨ cnt y m 1 ≤ day) := by
    refine loop_is (B := m_civil_Date_L2 std day y) (fun m => 1 ≤ m ∧ m ≤ 12 ∧ (m = 1 ∨ cnt y m 1 ≤ day)) (fun m => (13 - m).toNat) (fun m => 1 ≤ m ∧ m ≤ 12 ∧ (m < 12 → day < cnt y (m + 1) 1) ∧ (m = 1 ∨ cnt y m 1 ≤ day)) (by omega) (by decide) (fun m hm => ?_)
    obtain ⟨a1, a2, a4⟩ := hm
    rw [m_civil_Date_L2_eq]
    by_cases hc : m < 12
    · by_cases hd : cnt y (m + 1) 1 ≤ day
      · exact ⟨.inl (m + 1), bB (v := true) (bT (dT hc) (gI (by omega) (bB (p_civil_count (by omega) (by omega) (by omega) (by omega) (by omega) (by omega)) (congrArg some (dT hd))))) (bT rfl (gI (by omega) rfl)), ⟨by omega, by omega, .inr hd⟩, by omega⟩
      · exact ⟨.inr m, bB (v := false) (bT (dT hc) (gI (by omega) (bB (p_civil_count (by omega) (by omega) (by omega) (by omega) (by omega) (by omega)) (congrArg some (dF hd))))) (bF rfl rfl), a1, a2, fun _ => by omega, a4⟩
    · exact ⟨.inr m, bB (v := false) (bF (dF hc) rfl) (bF rfl rfl), a1, a2, fun h => absurd h hc, a4⟩
  have hb := cnt_bd (y := y) (m := m) (d := 1) y1.2 (by omega) m1 m2 (by omega) (by omega)
  refine ⟨y, m, day - cnt y m 1 + 1, ?_, y1.2, y2, m1, m2, y1.1, y3, m3, y4, m4, rfl⟩
  rw [q]
  exact bB (by rw [p_civil_inside, dayB_iff.2 ⟨h1, h2⟩]) (bF rfl (gI (by omega) (gZ (by omega) (gI (by omega) (gI (by omega) (bB ey (bB em (bB (p_civil_count y1.2 (by omega) m1 m2 (by omega) (by omega)) (gI (by omega) (gI (by omega) rfl)))))))))) 
theorem p_recurrence_dateOf {day y m d : Int} (h1 : -719162 ≤ day) (h2 : day < 2932897) (hD : m_civil_Date std day = some (y, m, d, 0)) (h : IsDate day y m d) : m_recurrence_dateOf std day = some (y, m, d, day, day - nyr y + 1, nyr (y + 1) - nyr y, d, cLen y m) := by
  have y1 := h.y1
  have y2 := h.y2
  have b1 := nyr_bd (y := y) (by omega) (by omega)
  have b2 := nyr_bd (y := y + 1) (by omega) (by omega)
  have e : m_civil_Length std y m = some (cLen y m) := by
    unfold m_civil_Length
    rw [cYear_iff.2 ⟨y1, y2⟩, dT h.m1, dT h.m2]
    rfl
  rw [m_recurrence_dateOf_eq]
  exact bB hD (bB (p_recurrence_newYear (by omega) (by omega)) (gI (by omega) (gI (by omega) (gI (by omega) (bB (p_recurrence_newYear (by omega) (by omega)) (gI (by omega) (bB e rfl)))))))

/-! rules without lists -/
theorem p_Valid_nil (f : Int) (hf : f = 1 ∨ f = 4) {N : Int} (h1 : 1 ≤ N) (h2 : N ≤ 1000) : m_recurrence_Valid std f N 0 0 1 [] [] [] [] [] [] [] [] [] = some true := by
  have a : decide (N < 1) = false := dF (by omega)
  have b : decide (1000 < N) = false := dF (by omega)
  rw [m_recurrence_Valid_eq, a, b]
  rcases hf with h | h
  · subst h
    rfl
  · subst h
    rfl
theorem p_given_nil (f : Int) (hf : f = 1 ∨ f = 4) {N start : Int} (h1 : 1 ≤ N) (h2 : N ≤ 1000) (hs : locB start = true) : m_recurrence_given std f N 0 0 1 start [] [] [] [] [] [] [] [] [] = some 0 := by
  rw [m_recurrence_given_eq]
  exact bB (v := false) (bB (p_Valid_nil f hf h1 h2) (bF rfl (bB (p_recurrence_local _) (by rw [hs]; rfl)))) (bF rfl rfl)
theorem times_one {h m s : Int} (h0 : 0 ≤ h ∧ h ≤ 100000) (m0 : 0 ≤ m ∧ m ≤ 100000) (s0 : 0 ≤ s ∧ s ≤ 100000) : loop (m_recurrence_times_L4 std [m] [s] [h]) (0, ([] : List Int)) = some [3600 * h + 60 * m + s] := by
  refine loop_up (B := m_recurrence_times_L4 std [m] [s] [h]) (n := 1) (fun i => if i = 0 then [] else [3600 * h + 60 * m + s]) (e := [3600 * h + 60 * m + s]) (by omega) (fun i hi => ?_) ?_
  · obtain rfl : i = 0 := by omega
    rw [m_recurrence_times_L4_eq]
    refine bT (dT (by simp)) (gX (by simp) (gK (by simp) (bB (v := [3600 * h + 60 * m + s]) ?_ (gI (by decide) rfl))))
    refine loop_up (B := m_recurrence_times_L3 std [m] [s] [h] 0) (n := 1) (fun i => if i = 0 then [] else [3600 * h + 60 * m + s]) (e := [3600 * h + 60 * m + s]) (by omega) (fun i hi => ?_) ?_
    · obtain rfl : i = 0 := by omega
      rw [m_recurrence_times_L3_eq]
      refine bT (dT (by simp)) (gX (by simp) (gK (by simp) (bB (v := [3600 * h + 60 * m + s]) ?_ (gI (by decide) rfl))))
      refine loop_up (B := m_recurrence_times_L2 std [m] [s] [h] 0 0) (n := 1) (fun i => if i = 0 then [] else [3600 * h + 60 * m + s]) (e := [3600 * h + 60 * m + s]) (by omega) (fun i hi => ?_) ?_
      · obtain rfl : i = 0 := by omega
        rw [m_recurrence_times_L2_eq]
        refine bT (dT (by simp)) (gX (by simp) (gK (by simp) ?_))
        show grd (okI .i64 (3600 * h)) (grd (okI .i64 (60 * m)) (grd (okI .i64 (3600 * h + 60 * m)) (grd (okI .i64 (3600 * h + 60 * m + s)) _))) = _
        exact gI (by omega) (gI (by omega) (gI (by omega) (gI (by omega) (gR (by simp) (gR (by simp) (gI (by decide) rfl))))))
      · rw [m_recurrence_times_L2_eq]; exact bF (dF (by simp)) rfl
    · rw [m_recurrence_times_L3_eq]; exact bF (dF (by simp)) rfl
  · rw [m_recurrence_times_L4_eq]; exact bF (dF (by simp)) rfl
theorem p_times_nil (f : Int) (hf : f = 1 ∨ f = 4) {N start : Int} (hs : locB start = true) : m_recurrence_times std f N 0 0 1 start [] [] [] [] [] [] [] [] [] = some [start % 86400] := by
  have h := locB_iff.1 hs
  rw [m_recurrence_times_eq]
  have b : 0 ≤ start % 86400 ∧ start % 86400 < 86400 := ⟨Int.emod_nonneg _ (by omega), Int.emod_lt_of_pos _ (by omega)⟩
  have q : ∀ k : Int, Int.tdiv (start % 86400) k = start % 86400 / k := fun k => Int.tdiv_eq_ediv_of_nonneg b.1
  have r1 : Int.tmod (start % 86400 / 60) 60 = start % 86400 / 60 % 60 := Int.tmod_eq_emod_of_nonneg (by omega)
  have r2 : Int.tmod (start % 86400) 60 = start % 86400 % 60 := Int.tmod_eq_emod_of_nonneg b.1
  have one : ∀ o : Int, m_recurrence_times_1 std o [] = some [o] := fun o => by rw [m_recurrence_times_1_eq]; rfl
  have hf5 : (f == 5) = false := eF (by omega)
  simp only [hf5]
  refine bB (p_integer_Mod _ _ (by omega) (by omega) (by omega) (by omega)) ?_
  simp only [q, r1, r2]
  refine gZ (by omega) (gI (by omega) (bB (one _) (bB (v := false) rfl (bB (v := [start % 86400 / 3600]) rfl (gZ (by omega) (gI (by omega) (bB (one _) (bB (one _) (bB (times_one (by omega) (by omega) (by omega)) ?_)))))))))
  refine congrArg some (congrArg (fun x => [x]) ?_)
  omega
end Go.Proofs.Ytmnhfaaaaejpaaa
