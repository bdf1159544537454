/-
  Out of XN1, XN3o: what this seat has models for (made by slim.py).
-/
import Derived.Test.YtmnhfaaaaejpaaaGreatYQ
import Derived.Test.YtmnhfaaaaejpaaaGreatPure
namespace Go.Proofs.YtmnhfaaaaejpaaaGreat
open Go.RowKit
section
/-- Go's quotient and remainder beside the floor's -/
theorem quo_cases (a b : Int) (ha1 : -9223372036854775808 ≤ a) (ha2 : a ≤ 9223372036854775807) (hb : 1 ≤ b) (hb2 : b ≤ 9223372036854775807) :
    (a.tmod b = 0 ∧ a.tdiv b = a / b ∧ a % b = 0 ∨ a.tmod b < 0 ∧ a.tdiv b - 1 = a / b ∧ a.tmod b + b = a % b ∨ 0 < a.tmod b ∧ a.tdiv b = a / b ∧ a.tmod b = a % b) ∧
    (-9223372036854775807 ≤ a.tdiv b ∨ a.tmod b = 0 ∧ -9223372036854775808 ≤ a.tdiv b) ∧ a.tdiv b ≤ 9223372036854775807 ∧ -9223372036854775807 ≤ a.tmod b ∧ a.tmod b ≤ 9223372036854775807 := by
  have hm := Int.tmod_add_mul_tdiv a b
  rcases Int.lt_or_le a 0 with hn | hn
  · have hb1 := tmod_bd a b hn hb
    have hb2 := tdiv_bd a b hn hb
    by_cases hr : a.tmod b = 0
    · have e2 := tdiv_zero' a b hb hr
      have e3 := tmod_zero' a b hr
      exact ⟨.inl ⟨hr, e2, e3.symm⟩, .inr ⟨hr, by omega⟩, by omega, by omega, by omega⟩
    · have e2 := tdiv_neg' a b hn hb hr
      have e3 := tmod_neg' a b hn hb hr
      refine ⟨.inr (.inl ⟨by omega, e2, e3⟩), .inl ?_, by omega, by omega, by omega⟩
      rcases Int.lt_or_le (a.tdiv b) (-9223372036854775807) with h | h
      · exfalso
        have h5 : a.tdiv b = -9223372036854775808 := by omega
        have h6 : b = 1 := by
          rcases Int.lt_or_le 1 b with h7 | h7
          · rw [h5] at hm; omega
          · omega
        subst h6
        simp at hr
      · exact h
  · have e1 : a.tdiv b = a / b := Int.tdiv_eq_ediv_of_nonneg hn
    have e2 : a.tmod b = a % b := Int.tmod_eq_emod_of_nonneg hn
    have hq : 0 ≤ a / b := Int.ediv_nonneg hn (by omega)
    have hq2 : a / b ≤ a := Int.ediv_le_self _ hn
    have hd := div_bd (a := a) hb
    rw [e1, e2]
    refine ⟨?_, .inl (by omega), by omega, by omega, by omega⟩
    rcases Int.lt_or_le 0 (a % b) with h | h
    · exact .inr (.inr ⟨h, rfl, rfl⟩)
    · exact .inl ⟨by omega, rfl, by omega⟩
theorem p_integer_Div (a b : Int) (ha1 : -9223372036854775808 ≤ a) (ha2 : a ≤ 9223372036854775807) (hb : 1 ≤ b) (hb2 : b ≤ 9223372036854775807) : m_integer_Div std a b = some (a / b, a % b, 0) := by
  rw [m_integer_Div_eq]
  obtain ⟨hc, hq1, hq2, hr1, hr2⟩ := quo_cases a b ha1 ha2 hb hb2
  have h0 : (b == 0) = false := eF (by omega)
  have h1 : (b == -1) = false := eF (by omega)
  have hz : okNz b = true := dT (by omega)
  have hb3 : decide (b < 0) = false := dF (by omega)
  generalize a.tdiv b = q at *
  generalize a.tmod b = r at *
  have e1 : okI .i64 q = true := by rw [okI64]; exact dT (by omega)
  rcases hc with ⟨rfl, rfl, hd⟩ | ⟨h2, h3, h4⟩ | ⟨h2, rfl, rfl⟩
  · simp [h0, h1, hz, grd, e1, hd]
  · have h5 : (r == 0) = false := eF (by omega)
    have hl : decide (r < 0) = true := dT h2
    have e4 : okI .i64 (q - 1) = true := by rw [okI64]; exact dT (by omega)
    have e5 : okI .i64 (r + b) = true := by rw [okI64]; exact dT (by omega)
    simp [h0, h1, hz, grd, e1, h5, hl, hb3, e4, e5]
    rw [← h3, ← h4]
    simp
  · have h5 : (a % b == 0) = false := eF (by omega)
    have hl : decide (a % b < 0) = false := dF (by omega)
    simp [h0, h1, hz, grd, e1, h5, hl, hb3]
theorem p_integer_Floor (a b : Int) (ha1 : -9223372036854775808 ≤ a) (ha2 : a ≤ 9223372036854775807) (hb : 1 ≤ b) (hb2 : b ≤ 9223372036854775807) : m_integer_Floor std a b = some (a / b) := by
  rw [m_integer_Floor_eq, p_integer_Div a b ha1 ha2 hb hb2]; rfl
theorem p_integer_Mod (a b : Int) (ha1 : -9223372036854775808 ≤ a) (ha2 : a ≤ 9223372036854775807) (hb : 1 ≤ b) (hb2 : b ≤ 9223372036854775807) : m_integer_Mod std a b = some (a % b) := by
  rw [m_integer_Mod_eq, p_integer_Div a b ha1 ha2 hb hb2]; rfl
/-! times -/
def locB (l : Int) : Bool := decide (-62135596800 ≤ l ∧ l < 253402300800)
theorem locB_iff {l : Int} : locB l = true ↔ -62135596800 ≤ l ∧ l < 253402300800 := by simp [locB]
theorem p_recurrence_local (l : Int) : m_recurrence_local std l = some (locB l) := by
  rw [m_recurrence_local_eq]; unfold locB
  by_cases h1 : -62135596800 ≤ l
  · exact bB (bT (dT h1) rfl) (congrArg some (by rw [Bool.eq_iff_iff, decide_eq_true_eq, decide_eq_true_eq]; omega))
  · exact bB (bF (dF h1) rfl) (congrArg some (by rw [Bool.eq_iff_iff, decide_eq_true_eq]; simp; omega))
theorem p_ref29_Local (l : Int) : m_ref29_Local std l = some (locB l) := by
  rw [m_ref29_Local_eq]; unfold locB
  by_cases h1 : -62135596800 ≤ l
  · exact bB (bT (dT h1) rfl) (congrArg some (by rw [Bool.eq_iff_iff, decide_eq_true_eq, decide_eq_true_eq]; omega))
  · exact bB (bF (dF h1) rfl) (congrArg some (by rw [Bool.eq_iff_iff, decide_eq_true_eq]; simp; omega))
/-! days -/
def wkd (d : Int) : Int := (d + 3) % 7 + 1
theorem p_recurrence_weekday {d : Int} (h1 : -1000000000 ≤ d) (h2 : d ≤ 1000000000) : m_recurrence_weekday std d = some (wkd d) := by
  rw [m_recurrence_weekday_eq]
  exact gI (by omega) (bB (p_integer_Mod _ _ (by omega) (by omega) (by omega) (by omega)) (gI (by omega) rfl))
def nyr (y : Int) : Int := -719162 + 365 * (y - 1) + (y - 1) / 4 - (y - 1) / 100 + (y - 1) / 400
theorem p_recurrence_newYear {y : Int} (h1 : -1000000 ≤ y) (h2 : y ≤ 1000000) : m_recurrence_newYear std y = some (nyr y) := by
  rw [m_recurrence_newYear_eq]
  exact gI (by omega) (gI (by omega) (gI (by omega) (bB (p_integer_Floor _ _ (by omega) (by omega) (by omega) (by omega)) (gI (by omega) (bB (p_integer_Floor _ _ (by omega) (by omega) (by omega) (by omega)) (gI (by omega) (bB (p_integer_Floor _ _ (by omega) (by omega) (by omega) (by omega)) (gI (by omega) rfl))))))))
theorem nyr_bd {y : Int} (h1 : -1000000 ≤ y) (h2 : y ≤ 1000000) : -1000000000 ≤ nyr y ∧ nyr y ≤ 1000000000 := by unfold nyr; omega
/-- the number of a day, as civil counts it -/
def cntA (y m : Int) : Int := 365 * y + y / 4 - y / 100 + y / 400 + (153 * (m - 3) + 2) / 5
def cnt (y m d : Int) : Int := (if m ≤ 2 then cntA (y - 1) (m + 12) else cntA y m) + d - 307 + -719162
theorem p_civil_count {y m d : Int} (hy : 1 ≤ y) (hy2 : y ≤ 10000) (hm : 1 ≤ m) (hm2 : m ≤ 12) (hd : -100000 ≤ d) (hd2 : d ≤ 100000) : m_civil_count std y m d = some (cnt y m d) := by
  rw [m_civil_count_eq]
  have q : ∀ a k : Int, 0 ≤ a → Int.tdiv a k = a / k := fun a k h => Int.tdiv_eq_ediv_of_nonneg h
  by_cases h : m ≤ 2
  · have e : cnt y m d = cntA (y - 1) (m + 12) + d - 307 + -719162 := by unfold cnt; rw [if_pos h]
    rw [e]
    unfold cntA
    refine bB (v := (y - 1, m + 12)) (bT (dT h) (gI (by omega) (gI (by omega) rfl))) ?_
    simp only [q (y - 1) _ (by omega), q (153 * (m + 12 - 3) + 2) _ (by omega)]
    exact gI (by omega) (gZ (by omega) (gI (by omega) (gI (by omega) (gZ (by omega) (gI (by omega) (gI (by omega) (gZ (by omega) (gI (by omega) (gI (by omega) (gI (by omega) (gI (by omega) (gI (by omega) (gZ (by omega) (gI (by omega) (gI (by omega) (gI (by omega) (gI (by omega) (gI (by omega) rfl))))))))))))))))))
  · have e : cnt y m d = cntA y m + d - 307 + -719162 := by unfold cnt; rw [if_neg h]
    rw [e]
    unfold cntA
    refine bB (v := (y, m)) (bF (dF h) rfl) ?_
    simp only [q y _ (by omega), q (153 * (m - 3) + 2) _ (by omega)]
    exact gI (by omega) (gZ (by omega) (gI (by omega) (gI (by omega) (gZ (by omega) (gI (by omega) (gI (by omega) (gZ (by omega) (gI (by omega) (gI (by omega) (gI (by omega) (gI (by omega) (gI (by omega) (gZ (by omega) (gI (by omega) (gI (by omega) (gI (by omega) (gI (by omega) (gI (by omega) rfl))))))))))))))))))
theorem cnt_bd {y m d : Int} (hy : 1 ≤ y) (hy2 : y ≤ 10000) (hm : 1 ≤ m) (hm2 : m ≤ 12) (hd : -100000 ≤ d) (hd2 : d ≤ 100000) : -10000000 ≤ cnt y m d ∧ cnt y m d ≤ 10000000 := by
  unfold cnt cntA
  split <;> omega
def dayB (d : Int) : Bool := decide (-719162 ≤ d ∧ d < 2932897)
theorem dayB_iff {d : Int} : dayB d = true ↔ -719162 ≤ d ∧ d < 2932897 := by simp [dayB]
theorem p_civil_inside (d : Int) : m_civil_inside std d = some (dayB d) := by
  rw [m_civil_inside_eq]; unfold dayB
  by_cases h1 : -719162 ≤ d
  · exact bB (bT (dT h1) rfl) (congrArg some (by rw [Bool.eq_iff_iff, decide_eq_true_eq, decide_eq_true_eq]; omega))
  · exact bB (bF (dF h1) rfl) (congrArg some (by rw [Bool.eq_iff_iff, decide_eq_true_eq]; simp; omega))
/-- the date of a day: the year and the month between which the day lies, as the code looks for them -/
structure IsDate (day y m d : Int) : Prop where
  y1 : 1 ≤ y
  y2 : y ≤ 9999
  m1 : 1 ≤ m
  m2 : m ≤ 12
  lo : (day + 719162) / 366 + 1 ≤ y
  up : y < 9999 → day < cnt (y + 1) 1 1
  mu : m < 12 → day < cnt y (m + 1) 1
  yl : y = (day + 719162) / 366 + 1 ∨ cnt y 1 1 ≤ day
  ml : m = 1 ∨ cnt y m 1 ≤ day
  d0 : d = day - cnt y m 1 + 1
theorem p_civil_Date {day : Int} (h1 : -719162 ≤ day) (h2 : day < 2932897) : ∃ y m d, m_civil_Date std day = some (y, m, d, 0) ∧ IsDate day y m d := by
  rw [m_civil_Date_eq]
  have q : Int.tdiv (day - -719162) 366 = (day + 719162) / 366 := by rw [Int.tdiv_eq_ediv_of_nonneg (by omega)]; congr 1
  obtain ⟨y, ey, y1, y2, y3, y4⟩ : ∃ y, loop (m_civil_Date_L1 std day) ((day + 719162) / 366 + 1) = some y ∧ ((day + 719162) / 366 + 1 ≤ y ∧ 1 ≤ y) ∧ y ≤ 9999 ∧ (y < 9999 → day < cnt (y + 1) 1 1) ∧ (y = (day + 719162) / 366 + 1 ∨ cnt y 1 1 ≤ day) := by
    refine loop_is (B := m_civil_Date_L1 std day) (fun y => ((day + 719162) / 366 + 1 ≤ y ∧ 1 ≤ y) ∧ y ≤ 9999 ∧ (y = (day + 719162) / 366 + 1 ∨ cnt y 1 1 ≤ day)) (fun y => (10000 - y).toNat) (fun y => ((day + 719162) / 366 + 1 ≤ y ∧ 1 ≤ y) ∧ y ≤ 9999 ∧ (y < 9999 → day < cnt (y + 1) 1 1) ∧ (y = (day + 719162) / 366 + 1 ∨ cnt y 1 1 ≤ day)) (by omega) (by omega) (fun y hy => ?_)
    obtain ⟨⟨a1, a2⟩, a3, a4⟩ := hy
    rw [m_civil_Date_L1_eq]
    by_cases hc : y < 9999
    · by_cases hd : cnt (y + 1) 1 1 ≤ day
      · exact ⟨.inl (y + 1), bB (v := true) (bT (dT hc) (gI (by omega) (bB (p_civil_count (by omega) (by omega) (by omega) (by omega) (by omega) (by omega)) (congrArg some (dT hd))))) (bT rfl (gI (by omega) rfl)), ⟨⟨by omega, by omega⟩, by omega, .inr hd⟩, by omega⟩
      · exact ⟨.inr y, bB (v := false) (bT (dT hc) (gI (by omega) (bB (p_civil_count (by omega) (by omega) (by omega) (by omega) (by omega) (by omega)) (congrArg some (dF hd))))) (bF rfl rfl), ⟨a1, a2⟩, a3, fun _ => by omega, a4⟩
    · exact ⟨.inr y, bB (v := false) (bF (dF hc) rfl) (bF rfl rfl), ⟨a1, a2⟩, a3, fun h => absurd h hc, a4⟩
  obtain ⟨m, em, m1, m2, m3, m4⟩ : ∃ m, loop (m_civil_Date_L2 std day y) 1 = some m ∧ 1 ≤ m ∧ m ≤ 12 ∧ (m < 12 → day < cnt y (m + 1) 1) ∧ (m = 1 ∨ cnt y m 1 ≤ day) := by
    refine loop_is (B := m_civil_Date_L2 std day y) (fun m => 1 ≤ m ∧ m ≤ 12 ∧ (m = 1 ∨ cnt y m 1 ≤ day)) (fun m => (13 - m).toNat) (fun m => 1 ≤ m ∧ m ≤ 12 ∧ (m < 12 → day < cnt y (m + 1) 1) ∧ (m = 1 ∨ cnt y m 1 ≤ day)) (by omega) (by decide) (fun m hm => ?_)
    obtain ⟨a1, a2, a4⟩ := hm
    rw [m_civil_Date_L2_eq]
    by_cases hc : m < 12
    · by_cases hd : cnt y (m + 1) 1 ≤ day
      · exact ⟨.inl (m + 1), bB (v := true) (bT (dT hc) (gI (by omega) (bB (p_civil_count (by omega) (by omega) (by omega) (by omega) (by omega) (by omega)) (congrArg some (dT hd))))) (bT rfl (gI (by omega) rfl)), ⟨by omega, by omega, .inr hd⟩, by omega⟩
      · exact ⟨.inr m, bB (v := false) (bT (dT hc) (gI (by omega) (bB (p_civil_count (by omega) (by omega) (by omega) (by omega) (by omega) (by omega)) (congrArg some (dF hd))))) (bF rfl rfl), a1, a2, fun _ => by omega, a4⟩
    · exact ⟨.inr m, bB (v := false) (bF (dF hc) rfl) (bF rfl rfl), a1, a2, fun h => absurd h hc, a4⟩
  have hb := cnt_bd (y := y) (m := m) (d := 1) y1.2 (by omega) m1 m2 (by omega) (by omega)
  refine ⟨y, m, day - cnt y m 1 + 1, ?_, y1.2, y2, m1, m2, y1.1, y3, m3, y4, m4, rfl⟩
  rw [q]
  exact bB (by rw [p_civil_inside, dayB_iff.2 ⟨h1, h2⟩]) (bF rfl (gI (by omega) (gZ (by omega) (gI (by omega) (gI (by omega) (bB ey (bB em (bB (p_civil_count y1.2 (by omega) m1 m2 (by omega) (by omega)) (gI (by omega) (gI (by omega) rfl)))))))))) 
theorem p_recurrence_dateOf {day y m d : Int} (h1 : -719162 ≤ day) (h2 : day < 2932897) (hD : m_civil_Date std day = some (y, m, d, 0)) (h : IsDate day y m d) : m_recurrence_dateOf std day = some (y, m, d, day, day - nyr y + 1, nyr (y + 1) - nyr y, d, cLen y m) := by
  have y1 := h.y1
  have y2 := h.y2
  have b1 := nyr_bd (y := y) (by omega) (by omega)
  have b2 := nyr_bd (y := y + 1) (by omega) (by omega)
  have e : m_civil_Length std y m = some (cLen y m) := by
    unfold m_civil_Length
    rw [cYear_iff.2 ⟨y1, y2⟩, dT h.m1, dT h.m2]
    rfl
  rw [m_recurrence_dateOf_eq]
  exact bB hD (bB (p_recurrence_newYear (by omega) (by omega)) (gI (by omega) (gI (by omega) (gI (by omega) (bB (p_recurrence_newYear (by omega) (by omega)) (gI (by omega) (bB e rfl)))))))

/-! rules without lists -/
theorem p_Valid_nil (f : Int) (hf : f = 1 ∨ f = 4) {N : Int} (h1 : 1 ≤ N) (h2 : N ≤ 1000) : m_recurrence_Valid std f N 0 0 1 [] [] [] [] [] [] [] [] [] = some true := by
  have a : decide (N < 1) = false := dF (by omega)
  have b : decide (1000 < N) = false := dF (by omega)
  rw [m_recurrence_Valid_eq, a, b]
  rcases hf with h | h
  · subst h
    rfl
  · subst h
    rfl
theorem p_given_nil (f : Int) (hf : f = 1 ∨ f = 4) {N start : Int} (h1 : 1 ≤ N) (h2 : N ≤ 1000) (hs : locB start = true) : m_recurrence_given std f N 0 0 1 start [] [] [] [] [] [] [] [] [] = some 0 := by
  rw [m_recurrence_given_eq]
  exact bB (v := false) (bB (p_Valid_nil f hf h1 h2) (bF rfl (bB (p_recurrence_local _) (by rw [hs]; rfl)))) (bF rfl rfl)
theorem times_one {h m s : Int} (h0 : 0 ≤ h ∧ h ≤ 100000) (m0 : 0 ≤ m ∧ m ≤ 100000) (s0 : 0 ≤ s ∧ s ≤ 100000) : loop (m_recurrence_times_L4 std [m] [s] [h]) (0, ([] : List Int)) = some [3600 * h + 60 * m + s] := by
  refine loop_up (B := m_recurrence_times_L4 std [m] [s] [h]) (n := 1) (fun i => if i = 0 then [] else [3600 * h + 60 * m + s]) (e := [3600 * h + 60 * m + s]) (by omega) (fun i hi => ?_) ?_
  · obtain rfl : i = 0 := by omega
    rw [m_recurrence_times_L4_eq]
    refine bT (dT (by simp)) (gX (by simp) (gK (by simp) (bB (v := [3600 * h + 60 * m + s]) ?_ (gI (by decide) rfl))))
    refine loop_up (B := m_recurrence_times_L3 std [m] [s] [h] 0) (n := 1) (fun i => if i = 0 then [] else [3600 * h + 60 * m + s]) (e := [3600 * h + 60 * m + s]) (by omega) (fun i hi => ?_) ?_
    · obtain rfl : i = 0 := by omega
      rw [m_recurrence_times_L3_eq]
      refine bT (dT (by simp)) (gX (by simp) (gK (by simp) (bB (v := [3600 * h + 60 * m + s]) ?_ (gI (by decide) rfl))))
      refine loop_up (B := m_recurrence_times_L2 std [m] [s] [h] 0 0) (n := 1) (fun i => if i = 0 then [] else [3600 * h + 60 * m + s]) (e := [3600 * h + 60 * m + s]) (by omega) (fun i hi => ?_) ?_
      · obtain rfl : i = 0 := by omega
        rw [m_recurrence_times_L2_eq]
        refine bT (dT (by simp)) (gX (by simp) (gK (by simp) ?_))
        show grd (okI .i64 (3600 * h)) (grd (okI .i64 (60 * m)) (grd (okI .i64 (3600 * h + 60 * m)) (grd (okI .i64 (3600 * h + 60 * m + s)) _))) = _
        exact gI (by omega) (gI (by omega) (gI (by omega) (gI (by omega) (gR (by simp) (gR (by simp) (gI (by decide) rfl))))))
      · rw [m_recurrence_times_L2_eq]; exact bF (dF (by simp)) rfl
    · rw [m_recurrence_times_L3_eq]; exact bF (dF (by simp)) rfl
  · rw [m_recurrence_times_L4_eq]; exact bF (dF (by simp)) rfl
theorem p_times_nil (f : Int) (hf : f = 1 ∨ f = 4) {N start : Int} (hs : locB start = true) : m_recurrence_times std f N 0 0 1 start [] [] [] [] [] [] [] [] [] = some [start % 86400] := by
  have h := locB_iff.1 hs
  rw [m_recurrence_times_eq]
  have b : 0 ≤ start % 86400 ∧ start % 86400 < 86400 := ⟨Int.emod_nonneg _ (by omega), Int.emod_lt_of_pos _ (by omega)⟩
  have q : ∀ k : Int, Int.tdiv (start % 86400) k = start % 86400 / k := fun k => Int.tdiv_eq_ediv_of_nonneg b.1
  have r1 : Int.tmod (start % 86400 / 60) 60 = start % 86400 / 60 % 60 := Int.tmod_eq_emod_of_nonneg (by omega)
  have r2 : Int.tmod (start % 86400) 60 = start % 86400 % 60 := Int.tmod_eq_emod_of_nonneg b.1
  have one : ∀ o : Int, m_recurrence_times_1 std o [] = some [o] := fun o => by rw [m_recurrence_times_1_eq]; rfl
  have hf5 : (f == 5) = false := eF (by omega)
  simp only [hf5]
  refine bB (p_integer_Mod _ _ (by omega) (by omega) (by omega) (by omega)) ?_
  simp only [q, r1, r2]
  refine gZ (by omega) (gI (by omega) (bB (one _) (bB (v := false) rfl (bB (v := [start % 86400 / 3600]) rfl (gZ (by omega) (gI (by omega) (bB (one _) (bB (one _) (bB (times_one (by omega) (by omega) (by omega)) ?_)))))))))
  refine congrArg some (congrArg (fun x => [x]) ?_)
  omega
theorem p_contains_1 (v x : Int) : m_slices_Contains std v [x] = some (v == x) := by
  rw [m_slices_Contains_eq]
  cases h : (v == x) with
  | true =>
    have e : m_slices_Index std v [x] = some 0 := by
      rw [m_slices_Index_eq]
      refine bB (v := .inl 0) ?_ rfl
      refine loop_to' (B := m_slices_Index_L1 std [x] v) (n := 0) (fun i => (i : Int)) (by omega) (fun i hi => by omega) ?_
      rw [m_slices_Index_L1_eq]
      exact bT (dT (by simp)) (gX (by simp) (gK (by simp) (bT h rfl)))
    exact bB e rfl
  | false =>
    have e : m_slices_Index std v [x] = some (-1) := by
      rw [m_slices_Index_eq]
      refine bB (v := .inr ()) ?_ rfl
      refine loop_to' (B := m_slices_Index_L1 std [x] v) (n := 1) (fun i => (i : Int)) (by omega) (fun i hi => ?_) ?_
      · obtain rfl : i = 0 := by omega
        rw [m_slices_Index_L1_eq]
        exact bT (dT (by simp)) (gX (by simp) (gK (by simp) (bF h (gI (by decide) rfl))))
      · rw [m_slices_Index_L1_eq]; exact bF (dF (by simp)) rfl
    exact bB e rfl
theorem p_counted_nil (n o : Int) : m_recurrence_counted std n o [] = some true := by rw [m_recurrence_counted_eq]; rfl
theorem p_nth_nil (w n o : Int) : m_recurrence_nth std w n o [] = some true := by rw [m_recurrence_nth_eq]; rfl
/-- no lists: the day of a yearly rule has the month and the day of the start -/
theorem p_passes_nil (f : Int) (hf : f = 1 ∨ f = 4) {N day y m d : Int} (h1 : -719162 ≤ day) (h2 : day < 2932897) (hD : m_civil_Date std day = some (y, m, d, 0)) (h : IsDate day y m d) (sy sm sd sday s5 s6 s7 s8 : Int) (g1 : -719162 ≤ sday) (g2 : sday < 2932897) :
    m_recurrence_passes std f N 0 0 1 sy sm sd sday s5 s6 s7 s8 day [] [] [] [] [] [] [] [] [] = some (if f = 1 then (d == sd && m == sm) else true) := by
  have w1 := p_recurrence_weekday (d := day) (by omega) (by omega)
  have w2 := p_recurrence_weekday (d := sday) (by omega) (by omega)
  rw [m_recurrence_passes_eq]
  have f2 : (f == 2) = false := eF (by omega)
  have f3 : (f == 3) = false := eF (by omega)
  refine bB (p_recurrence_dateOf h1 h2 hD h) (bB (v := true) (by rw [m_recurrence_filters_1_eq]; rfl) (bF rfl (gI (by decide) (bB (v := true) (by rw [m_recurrence_filters_2_eq, p_counted_nil]; rfl) (bF rfl (gI (by decide) (bB (v := true) (by rw [m_recurrence_filters_3_eq, p_counted_nil]; rfl) (bF rfl (gI (by decide) (bB (v := true) (by rw [m_recurrence_filters_4_eq]; rfl) (bF rfl (gI (by decide) (bB (v := true) ?_ (bF rfl (gI (by decide) (bB (v := if f = 1 then (d == sd && m == sm) else true) ?_ ?_))))))))))))))))
  · rw [m_recurrence_filters_5_eq, f2]
    exact bB (v := false) rfl (bF rfl (bB w1 (bB (p_nth_nil _ _ _) rfl)))
  · rw [m_recurrence_filters_6_eq, f2, f3]
    refine bB (v := false) rfl (bF rfl (bB w1 (bB w2 ?_)))
    rcases hf with rfl | rfl
    · rw [if_pos rfl]
      refine bB (v := false) rfl (bB (v := false) rfl (bB (v := .inl (d == sd && m == sm)) (bF rfl (bB (v := .inl (d == sd && m == sm)) (bT rfl (bB (v := (d == sd && m == sm)) ?_ rfl)) rfl)) rfl))
      cases (d == sd) <;> rfl
    · rw [if_neg (by decide)]
      exact bB (v := false) rfl (bB (v := false) rfl (bB (v := .inr ()) (bF rfl (bB (v := .inr ()) (bF rfl (bF rfl rfl)) rfl)) rfl))
  · rcases hf with rfl | rfl
    · rw [if_pos rfl]
      cases (d == sd && m == sm) with
      | true => exact bF rfl (gI (by decide) rfl)
      | false => rfl
    · rw [if_neg (by decide)]
      exact bF rfl (gI (by decide) rfl)
end
section

/-! lists in a range -/
theorem all_getD {α : Type} {l : List α} {d : α} {f : α → Bool} : l.all f = true ↔ ∀ i, i < l.length → f (l.getD i d) = true := by
  rw [List.all_eq_true]
  constructor
  · intro h i hi
    rw [List.getD_eq_getElem?_getD, List.getElem?_eq_getElem hi]
    exact h _ (List.getElem_mem _)
  · intro h x hx
    obtain ⟨i, hi, e⟩ := List.getElem_of_mem hx
    have := h i hi
    rw [List.getD_eq_getElem?_getD, List.getElem?_eq_getElem hi] at this
    rw [← e]; exact this
theorem all_not {α : Type} {l : List α} {d : α} {f : α → Bool} {k : Nat} (hk : k < l.length) (h : f (l.getD k d) = false) : l.all f = false := by
  cases e : l.all f with
  | false => rfl
  | true => rw [all_getD.1 e k hk] at h; cases h
def inRg (low high : Int) (s : Bool) (n : Int) : Bool := decide (low ≤ n ∧ n ≤ high) || (s && decide (0 - high ≤ n ∧ n ≤ 0 - low))
def lstB (low high : Int) (s : Bool) (l : List Int) : Bool := decide ((l.length : Int) ≤ 60) && l.all (inRg low high s)
theorem p_between_1 {n low high : Int} {s : Bool} (h1 : 0 ≤ low) (h2 : low ≤ high) (h3 : high ≤ 100000) : m_recurrence_between_1 std n low high s = some (!inRg low high s n) := by
  rw [m_recurrence_between_1_eq]
  unfold inRg
  have neg : s = true → (bif decide (0 - high ≤ n) then grd (okI .i64 (0 - high)) <| grd (okI .i64 (0 - low)) <| some (!(decide (n ≤ 0 - low)), true) else grd (okI .i64 (0 - high)) <| some (!false, true)) = some (!(s && decide (0 - high ≤ n ∧ n ≤ 0 - low)), true) := fun hs => by
    subst hs
    by_cases b : 0 - high ≤ n
    · refine bT (dT b) (gI (by omega) (gI (by omega) ?_))
      by_cases c : n ≤ 0 - low
      · rw [dT c, dT (show 0 - high ≤ n ∧ n ≤ 0 - low from ⟨b, c⟩)]; rfl
      · rw [dF c, dF (show ¬ (0 - high ≤ n ∧ n ≤ 0 - low) from fun h => c h.2)]; rfl
    · refine bF (dF b) (gI (by omega) ?_)
      rw [dF (show ¬ (0 - high ≤ n ∧ n ≤ 0 - low) from fun h => b h.1)]; rfl
  by_cases a : n < low
  · rw [dF (show ¬ (low ≤ n ∧ n ≤ high) by omega), Bool.false_or]
    cases s with
    | false => exact bB (v := (true, false)) (bT (dT a) rfl) rfl
    | true => exact bB (bT (dT a) (bT rfl (neg rfl))) rfl
  · by_cases c : high < n
    · rw [dF (show ¬ (low ≤ n ∧ n ≤ high) by omega), Bool.false_or]
      cases s with
      | false => exact bB (v := (true, false)) (bF (dF a) (bT (dT c) rfl)) rfl
      | true => exact bB (bF (dF a) (bT (dT c) (bT rfl (neg rfl)))) rfl
    · rw [dT (show low ≤ n ∧ n ≤ high by omega), Bool.true_or]
      exact bB (v := (false, s)) (bF (dF a) (bF (dF c) rfl)) rfl
theorem p_containsRg {l : List Int} {low high : Int} {s : Bool} (h1 : 0 ≤ low) (h2 : low ≤ high) (h3 : high ≤ 100000) (hl : (l.length : Int) ≤ 60) : m_slices_ContainsFunc std l low high s = some (!l.all (inRg low high s)) := by
  rw [m_slices_ContainsFunc_eq]
  have step : ∀ i, i < l.length → inRg low high s (l.getD i 0) = true → m_slices_IndexFunc_L1 std low high s l (i : Int) = some (.inl ((i + 1 : Nat) : Int)) := fun i hi hp => by
    rw [m_slices_IndexFunc_L1_eq]
    exact bT (dT (by omega)) (gX (by omega) (gK (by omega) (bB (p_between_1 h1 h2 h3) (by rw [Int.toNat_natCast, hp]; exact bF rfl (gI (by omega) rfl)))))
  rcases first_or (fun i => inRg low high s (l.getD i 0)) l.length with h | ⟨k, hk, hp, hb⟩
  · rw [all_getD.2 h]
    have : m_slices_IndexFunc std l low high s = some (-1) := by
      rw [m_slices_IndexFunc_eq]
      refine bB (v := .inr ()) (loop_to' (B := m_slices_IndexFunc_L1 std low high s l) (n := l.length) (fun i => (i : Int)) (by omega) (fun i hi => step i hi (h i hi)) ?_) rfl
      rw [m_slices_IndexFunc_L1_eq]; exact bF (dF (by omega)) rfl
    exact bB this rfl
  · rw [all_not hk hp]
    have : m_slices_IndexFunc std l low high s = some (k : Int) := by
      rw [m_slices_IndexFunc_eq]
      refine bB (v := .inl (k : Int)) (loop_to' (B := m_slices_IndexFunc_L1 std low high s l) (n := k) (fun i => (i : Int)) (by omega) (fun i hi => step i (by omega) (hb i hi)) ?_) rfl
      rw [m_slices_IndexFunc_L1_eq]
      exact bT (dT (by omega)) (gX (by omega) (gK (by omega) (bB (p_between_1 h1 h2 h3) (by rw [Int.toNat_natCast]; rw [hp]; exact bT rfl rfl))))
    exact bB this (congrArg some (dT (by omega)))
theorem p_between {l : List Int} {low high : Int} {s : Bool} (h1 : 0 ≤ low) (h2 : low ≤ high) (h3 : high ≤ 100000) : m_recurrence_between std low high s l = some (lstB low high s l) := by
  rw [m_recurrence_between_eq]
  unfold lstB
  by_cases h : (l.length : Int) ≤ 60
  · rw [dT h]
    exact bB (bT rfl (bB (p_containsRg h1 h2 h3 h) rfl)) (by simp)
  · rw [dF h]
    exact bB (v := false) (bF rfl rfl) rfl
theorem in_or {m low high : Int} : (bif decide (m < low) then some true else some (decide (high < m))) = some (!decide (low ≤ m ∧ m ≤ high)) := by
  by_cases a : m < low
  · exact bT (dT a) (congrArg some (by rw [dF (show ¬ (low ≤ m ∧ m ≤ high) by omega)]; rfl))
  · refine bF (dF a) (congrArg some ?_)
    by_cases c : high < m
    · rw [dT c, dF (show ¬ (low ≤ m ∧ m ≤ high) by omega)]; rfl
    · rw [dF c, dT (show low ≤ m ∧ m ≤ high by omega)]; rfl
theorem p_within_at {l : List Int} {low high : Int} {s : Bool} (h0 : s = true → 1 ≤ low) (h2 : low ≤ high) (h3 : high ≤ 100000) (i : Nat) (hi : i < l.length) (hl : (l.length : Int) ≤ 60) :
    m_ref29_within_L1 std high l low s (i : Int) = (bif inRg low high s (l.getD i 0) then some (.inl ((i + 1 : Nat) : Int)) else some (.inr (.inl ()))) := by
  rw [m_ref29_within_L1_eq]
  refine bT (dT (by omega)) (gX (by omega) (gK (by omega) ?_))
  rw [Int.toNat_natCast]
  obtain ⟨n, hn⟩ : ∃ n, l.getD i 0 = n := ⟨_, rfl⟩
  rw [hn]
  have fin : ∀ m : Int, decide (low ≤ m ∧ m ≤ high) = inRg low high s n → (Option.bind (bif decide (m < low) then some true else some (decide (high < m))) fun x182 => bif x182 then (some (Sum.inr (Sum.inl ())) : Option (Int ⊕ (Unit ⊕ Unit))) else grd (okI .i64 ((i : Int) + 1)) <| some (Sum.inl ((i : Int) + 1))) = (bif inRg low high s n then some (.inl ((i + 1 : Nat) : Int)) else some (.inr (.inl ()))) := fun m hm => by
    rw [in_or, hm]
    cases inRg low high s n with
    | true => exact gI (by omega) rfl
    | false => rfl
  unfold inRg at fin ⊢
  cases s with
  | false => exact bB (v := (false, false)) rfl (bB (v := n) rfl (fin n (by simp)))
  | true =>
    have h0 := h0 rfl
    by_cases a : n < 0
    · by_cases b : 0 - high ≤ n
      · refine bB (v := (true, true)) (bT rfl (bT (dT a) (gI (by omega) (by rw [dT b])))) (bB (v := 0 - n) (bT rfl (gI (by omega) rfl)) (fin (0 - n) ?_))
        rw [dF (show ¬ (low ≤ n ∧ n ≤ high) by omega), Bool.false_or, Bool.true_and, Bool.eq_iff_iff, decide_eq_true_eq, decide_eq_true_eq]
        omega
      · refine bB (v := (true, false)) (bT rfl (bT (dT a) (gI (by omega) (by rw [dF b])))) (bB (v := n) rfl (fin n ?_))
        rw [dF (show ¬ (0 - high ≤ n ∧ n ≤ 0 - low) by omega), Bool.and_false, Bool.or_false]
    · refine bB (v := (true, false)) (bT rfl (bF (dF a) rfl)) (bB (v := n) rfl (fin n ?_))
      rw [dF (show ¬ (0 - high ≤ n ∧ n ≤ 0 - low) by omega), Bool.and_false, Bool.or_false]
theorem p_within {l : List Int} {low high : Int} {s : Bool} (h0 : s = true → 1 ≤ low) (h2 : low ≤ high) (h3 : high ≤ 100000) : m_ref29_within std low high s l = some (lstB low high s l) := by
  rw [m_ref29_within_eq]
  unfold lstB
  by_cases h : (l.length : Int) ≤ 60
  · rw [dT h, dF (show ¬ (60 < (l.length : Int)) by omega), Bool.true_and]
    have step : ∀ i, i < l.length → inRg low high s (l.getD i 0) = true → m_ref29_within_L1 std high l low s (i : Int) = some (.inl ((i + 1 : Nat) : Int)) := fun i hi hp => by
      rw [p_within_at h0 h2 h3 i hi h, hp]; rfl
    refine bF rfl ?_
    rcases first_or (fun i => inRg low high s (l.getD i 0)) l.length with g | ⟨k, hk, hp, hb⟩
    · rw [all_getD.2 g]
      refine bB (v := .inr ()) (loop_to' (B := m_ref29_within_L1 std high l low s) (n := l.length) (fun i => (i : Int)) (by omega) (fun i hi => step i hi (g i hi)) ?_) rfl
      rw [m_ref29_within_L1_eq]; exact bF (dF (by omega)) rfl
    · rw [all_not hk hp]
      refine bB (v := .inl ()) (loop_to' (B := m_ref29_within_L1 std high l low s) (n := k) (fun i => (i : Int)) (by omega) (fun i hi => step i (by omega) (hb i hi)) ?_) rfl
      try simp only [] at hp
      rw [p_within_at h0 h2 h3 k hk h, hp]; rfl
  · rw [dF h, dT (show 60 < (l.length : Int) by omega)]; rfl

/-! days with numbers -/
def ordB (f : Int) (x : Int × Int) : Bool := decide (1 ≤ x.2 ∧ x.2 ≤ 7 ∧ -53 ≤ x.1 ∧ x.1 ≤ 53 ∧ (x.1 = 0 ∨ f = 1 ∨ f = 2))
theorem ord_bad (f : Int) (x : Int × Int) : (bif decide (x.2 < 1) then some true else bif decide (7 < x.2) then some true else bif decide (x.1 < -53) then some true else bif decide (53 < x.1) then some true else bif !(x.1 == 0) then (bif !(f == 1) then some (!(f == 2)) else some false) else some false) = some (!ordB f x) := by
  obtain ⟨n, w⟩ := x
  unfold ordB
  simp only []
  by_cases a : w < 1
  · exact bT (dT a) (congrArg some (by rw [dF (by omega)]; rfl))
  refine bF (dF a) ?_
  by_cases b : 7 < w
  · exact bT (dT b) (congrArg some (by rw [dF (by omega)]; rfl))
  refine bF (dF b) ?_
  by_cases c : n < -53
  · exact bT (dT c) (congrArg some (by rw [dF (by omega)]; rfl))
  refine bF (dF c) ?_
  by_cases d : 53 < n
  · exact bT (dT d) (congrArg some (by rw [dF (by omega)]; rfl))
  refine bF (dF d) ?_
  by_cases e : n = 0
  · exact bF (nF (eT e)) (congrArg some (by rw [dT (by omega)]; rfl))
  refine bT (nT (eF e)) ?_
  by_cases g : f = 1
  · exact bF (nF (eT g)) (congrArg some (by rw [dT (by omega)]; rfl))
  refine bT (nT (eF g)) (congrArg some ?_)
  by_cases h : f = 2
  · rw [eT h, dT (by omega)]
  · rw [eF h, dF (by omega)]
theorem p_recurrence_days_at (f : Int) (l : List (Int × Int)) (i : Nat) (hi : i < l.length) (hl : (l.length : Int) ≤ 60) : m_recurrence_Valid_L1 std f l (i : Int) = (bif ordB f (l.getD i (0, 0)) then some (.inl ((i + 1 : Nat) : Int)) else some (.inr (.inl ()))) := by
  rw [m_recurrence_Valid_L1_eq]
  refine bT (dT (by omega)) (gX (by omega) (gK (by omega) ?_))
  rw [Int.toNat_natCast, ord_bad]
  cases ordB f (l.getD i (0, 0)) with
  | true => exact gI (by omega) rfl
  | false => rfl
theorem p_recurrence_days (f : Int) (l : List (Int × Int)) (hl : (l.length : Int) ≤ 60) : loop (m_recurrence_Valid_L1 std f l) 0 = some (bif l.all (ordB f) then (Sum.inr () : Unit ⊕ Unit) else Sum.inl ()) := by
  rcases first_or (fun i => ordB f (l.getD i (0, 0))) l.length with g | ⟨k, hk, hp, hb⟩
  · rw [all_getD.2 g]
    refine loop_to' (B := m_recurrence_Valid_L1 std f l) (n := l.length) (fun i => (i : Int)) (by omega) (fun i hi => ?_) ?_
    · rw [p_recurrence_days_at f l i hi hl]; rw [g i hi]; rfl
    · rw [m_recurrence_Valid_L1_eq]; exact bF (dF (by omega)) rfl
  · rw [all_not hk hp]
    refine loop_to' (B := m_recurrence_Valid_L1 std f l) (n := k) (fun i => (i : Int)) (by omega) (fun i hi => ?_) ?_
    · try simp only [] at hb
      rw [p_recurrence_days_at f l i (by omega) hl, hb i hi]; rfl
    · try simp only [] at hp
      rw [p_recurrence_days_at f l k hk hl, hp]; rfl
theorem p_ref29_daysL_at (f : Int) (l : List (Int × Int)) (i : Nat) (hi : i < l.length) (hl : (l.length : Int) ≤ 60) : m_ref29_days_L1 std f l (i : Int) = (bif ordB f (l.getD i (0, 0)) then some (.inl ((i + 1 : Nat) : Int)) else some (.inr (.inl ()))) := by
  rw [m_ref29_days_L1_eq]
  refine bT (dT (by omega)) (gX (by omega) (gK (by omega) ?_))
  rw [Int.toNat_natCast, ord_bad]
  cases ordB f (l.getD i (0, 0)) with
  | true => exact gI (by omega) rfl
  | false => rfl
theorem p_ref29_daysL (f : Int) (l : List (Int × Int)) (hl : (l.length : Int) ≤ 60) : loop (m_ref29_days_L1 std f l) 0 = some (bif l.all (ordB f) then (Sum.inr () : Unit ⊕ Unit) else Sum.inl ()) := by
  rcases first_or (fun i => ordB f (l.getD i (0, 0))) l.length with g | ⟨k, hk, hp, hb⟩
  · rw [all_getD.2 g]
    refine loop_to' (B := m_ref29_days_L1 std f l) (n := l.length) (fun i => (i : Int)) (by omega) (fun i hi => ?_) ?_
    · rw [p_ref29_daysL_at f l i hi hl]; rw [g i hi]; rfl
    · rw [m_ref29_days_L1_eq]; exact bF (dF (by omega)) rfl
  · rw [all_not hk hp]
    refine loop_to' (B := m_ref29_days_L1 std f l) (n := k) (fun i => (i : Int)) (by omega) (fun i hi => ?_) ?_
    · try simp only [] at hb
      rw [p_ref29_daysL_at f l i (by omega) hl, hb i hi]; rfl
    · try simp only [] at hp
      rw [p_ref29_daysL_at f l k hk hl, hp]; rfl
def dayL (f : Int) (l : List (Int × Int)) : Bool := decide ((l.length : Int) ≤ 60) && l.all (ordB f)

/-! sets -/
theorem asc_uniq : ∀ {a b : List Int}, a.Pairwise (· < ·) → b.Pairwise (· < ·) → (∀ x, x ∈ a ↔ x ∈ b) → a = b := by
  intro a
  induction a with
  | nil =>
    intro b _ _ h
    cases b with
    | nil => rfl
    | cons y t => exact absurd ((h y).2 List.mem_cons_self) (List.not_mem_nil)
  | cons x s ih =>
    intro b ha hb h
    cases b with
    | nil => exact absurd ((h x).1 List.mem_cons_self) (List.not_mem_nil)
    | cons y t =>
      obtain ⟨a1, a2⟩ := List.pairwise_cons.1 ha
      obtain ⟨b1, b2⟩ := List.pairwise_cons.1 hb
      have e : x = y := by
        rcases List.mem_cons.1 ((h x).1 List.mem_cons_self) with g | g
        · exact g
        · rcases List.mem_cons.1 ((h y).2 List.mem_cons_self) with k | k
          · exact k.symm
          · have := a1 y k
            have := b1 x g
            omega
      subst e
      refine congrArg (List.cons x) (ih a2 b2 fun z => ?_)
      constructor
      · intro hz
        rcases List.mem_cons.1 ((h z).1 (List.mem_cons_of_mem _ hz)) with g | g
        · have := a1 z hz; omega
        · exact g
      · intro hz
        rcases List.mem_cons.1 ((h z).2 (List.mem_cons_of_mem _ hz)) with g | g
        · have := b1 z hz; omega
        · exact g
/-- the elements of a list, ascending, each of them once -/
def setL (l : List Int) : List Int := Lib.compact (sortI l)
theorem setL_ok (l : List Int) : (setL l).Pairwise (· < ·) ∧ ∀ x, x ∈ setL l ↔ x ∈ l := by
  obtain ⟨h1, h2⟩ := compI_ok (sortI_sorted l)
  exact ⟨h1, fun x => (h2 x).trans (sortI_perm _).mem_iff⟩
theorem setL_len (l : List Int) : (setL l).length ≤ l.length := by
  have h3 : (setL l).length ≤ (sortI l).length := compI_len _
  rw [sortI_len] at h3; exact h3
theorem p_recurrence_set {l : List Int} (hl : (l.length : Int) ≤ 100) : m_recurrence_set std l = some (setL l) := by
  rw [m_recurrence_set_eq]
  refine bB (v := l) (by rw [m_clone_i1_eq]; exact gR (by omega) rfl) (bB (v := sortI l) (by rw [m_sortI_eq]; exact gR (by omega) rfl) (bB (v := setL l) (by rw [m_compI_eq]; exact gR (by rw [sortI_len]; omega) rfl) rfl))
theorem getD_mem {l : List Int} {i : Nat} (h : i < l.length) : l.getD i 0 ∈ l := by
  rw [List.getD_eq_getElem?_getD, List.getElem?_eq_getElem h]
  exact List.getElem_mem _
theorem asc_getD {l : List Int} (h : l.Pairwise (· < ·)) {i j : Nat} (hij : i < j) (hj : j < l.length) : l.getD i 0 < l.getD j 0 := by
  have := List.pairwise_iff_getElem.1 h i j (by omega) hj hij
  simpa [List.getD_eq_getElem?_getD, hj, show i < l.length by omega] using this
theorem ins_ok {out : List Int} {x : Int} {k : Nat} (hp : out.Pairwise (· < ·)) (hk : k ≤ out.length) (h1 : ∀ j, j < k → out.getD j 0 < x) (h2 : k < out.length → x < out.getD k 0) :
    (out.take k ++ [x] ++ out.drop k).Pairwise (· < ·) ∧ ∀ y, y ∈ out.take k ++ [x] ++ out.drop k ↔ y ∈ out ∨ y = x := by
  have ht : ∀ a ∈ out.take k, a < x := fun a ha => by
    obtain ⟨j, hj, e⟩ := List.getElem_of_mem ha
    rw [List.length_take] at hj
    have := h1 j (by omega)
    rw [List.getD_eq_getElem?_getD, List.getElem?_eq_getElem (by omega : j < out.length)] at this
    rw [← e, List.getElem_take]; exact this
  have hd : ∀ b ∈ out.drop k, x < b := fun b hb => by
    obtain ⟨j, hj, e⟩ := List.getElem_of_mem hb
    rw [List.length_drop] at hj
    have h3 := h2 (by omega)
    have e2 : out.getD (k + j) 0 = b := by
      rw [List.getElem_drop] at e
      rw [List.getD_eq_getElem?_getD, List.getElem?_eq_getElem (by omega : k + j < out.length)]; exact e
    rcases Nat.eq_zero_or_pos j with g | g
    · subst g; rw [← e2]; exact h3
    · have := asc_getD hp (i := k) (j := k + j) (by omega) (by omega)
      omega
  have hs := hp
  rw [← List.take_append_drop k out] at hs
  obtain ⟨p1, p2, p3⟩ := List.pairwise_append.1 hs
  refine ⟨List.pairwise_append.2 ⟨List.pairwise_append.2 ⟨p1, List.pairwise_singleton _ _, fun a ha b hb => ?_⟩, p2, fun a ha b hb => ?_⟩, fun y => ?_⟩
  · rw [List.mem_singleton.1 hb]; exact ht a ha
  · rcases List.mem_append.1 ha with g | g
    · exact p3 a g b hb
    · rw [List.mem_singleton.1 g]; exact hd b hb
  · have e : y ∈ out ↔ y ∈ out.take k ∨ y ∈ out.drop k := by rw [← List.mem_append, List.take_append_drop]
    rw [List.mem_append, List.mem_append, List.mem_singleton, e]
    constructor
    · rintro ((g | g) | g)
      · exact .inl (.inl g)
      · exact .inr g
      · exact .inl (.inr g)
    · rintro ((g | g) | g)
      · exact .inl (.inl g)
      · exact .inr g
      · exact .inl (.inr g)
theorem p_Set_L1 {l out : List Int} {i : Nat} (hi : i < l.length) (_hl : (l.length : Int) ≤ 100) (ho : out.length ≤ 100) : ∃ k : Nat, loop (m_ref29_Set_L1 std (i : Int) out l) 0 = some (k : Int) ∧ k ≤ out.length ∧ (∀ j, j < k → out.getD j 0 < l.getD i 0) ∧ (k < out.length → ¬ out.getD k 0 < l.getD i 0) := by
  have step : ∀ j, j < out.length → decide (out.getD j 0 < l.getD i 0) = true → m_ref29_Set_L1 std (i : Int) out l (j : Int) = some (.inl ((j + 1 : Nat) : Int)) := fun j hj hp => by
    rw [m_ref29_Set_L1_eq]
    exact bB (v := true) (bT (dT (by omega)) (gX (by omega) (gK (by omega) (gX (by omega) (gK (by omega) (by rw [Int.toNat_natCast, Int.toNat_natCast, hp])))))) (bT rfl (gI (by omega) rfl))
  rcases first_or (fun j => decide (out.getD j 0 < l.getD i 0)) out.length with g | ⟨k, hk, hp, hb⟩
  · refine ⟨out.length, loop_to' (B := m_ref29_Set_L1 std (i : Int) out l) (n := out.length) (fun j => (j : Int)) (by omega) (fun j hj => step j hj (g j hj)) ?_, Nat.le_refl _, fun j hj => of_decide_eq_true (g j hj), fun h => by omega⟩
    rw [m_ref29_Set_L1_eq]; exact bB (v := false) (bF (dF (by omega)) rfl) (bF rfl rfl)
  · refine ⟨k, loop_to' (B := m_ref29_Set_L1 std (i : Int) out l) (n := k) (fun j => (j : Int)) (by omega) (fun j hj => step j (by omega) (hb j hj)) ?_, by omega, fun j hj => of_decide_eq_true (hb j hj), fun _ => of_decide_eq_false hp⟩
    rw [m_ref29_Set_L1_eq]
    exact bB (v := false) (bT (dT (by omega)) (gX (by omega) (gK (by omega) (gX (by omega) (gK (by omega) (by rw [Int.toNat_natCast, Int.toNat_natCast]; exact congrArg some hp)))))) (bF rfl rfl)
theorem p_ref29_Set {l : List Int} (hl : (l.length : Int) ≤ 100) : m_ref29_Set std l = some (setL l) := by
  rw [m_ref29_Set_eq]
  refine bB (v := setL l) ?_ rfl
  obtain ⟨out, e, hp, hm⟩ : ∃ out, loop (m_ref29_Set_L2 std l) (0, []) = some out ∧ out.Pairwise (· < ·) ∧ ∀ x, x ∈ out ↔ x ∈ l := by
    refine loop_is (B := m_ref29_Set_L2 std l) (fun s => ∃ i : Nat, s.1 = (i : Int) ∧ i ≤ l.length ∧ s.2.length ≤ i ∧ s.2.Pairwise (· < ·) ∧ ∀ x, x ∈ s.2 ↔ x ∈ l.take i) (fun s => (100 - s.1).toNat) (fun out => out.Pairwise (· < ·) ∧ ∀ x, x ∈ out ↔ x ∈ l) ⟨0, rfl, Nat.zero_le _, Nat.le_refl _, List.Pairwise.nil, fun x => by simp⟩ (by decide) (fun s hs => ?_)
    obtain ⟨s1, out⟩ := s
    obtain ⟨i, rfl, hi, ho, hp, hm⟩ := hs
    simp only [] at ho hp hm
    rw [m_ref29_Set_L2_eq]
    by_cases c : i < l.length
    · obtain ⟨k, ek, hk, h1, h2⟩ := p_Set_L1 (l := l) (out := out) c hl (by omega)
      have hx : l.take (i + 1) = l.take i ++ [l.getD i 0] := by
        rw [List.take_add_one, List.getD_eq_getElem?_getD, List.getElem?_eq_getElem c]; rfl
      by_cases d : k < out.length ∧ out.getD k 0 = l.getD i 0
      · refine ⟨.inl ((i : Int) + 1, out), bT (dT (by omega)) (bB ek (bB (v := true) (bT (dT (by omega)) (gX (by omega) (gK (by omega) (gX (by omega) (gK (by omega) (by rw [Int.toNat_natCast, Int.toNat_natCast]; exact congrArg some (eT d.2))))))) (bT rfl (gI (by omega) rfl)))), ⟨i + 1, rfl, c, by simp only []; omega, hp, fun x => ?_⟩, by simp only []; omega⟩
        simp only []
        rw [hx, List.mem_append, List.mem_singleton, hm]
        constructor
        · exact .inl
        · rintro (g | g)
          · exact g
          · rw [g, ← d.2]; exact (hm _).1 (getD_mem d.1)
      · have h3 : k < out.length → l.getD i 0 < out.getD k 0 := fun hk2 => by
          have := h2 hk2
          have : out.getD k 0 ≠ l.getD i 0 := fun e => d ⟨hk2, e⟩
          omega
        obtain ⟨i1, i2⟩ := ins_ok hp hk h1 h3
        have lk : (out.take k).length = k := by rw [List.length_take]; omega
        refine ⟨.inl ((i : Int) + 1, out.take k ++ [l.getD i 0] ++ out.drop k), bT (dT (by omega)) (bB ek (bB (v := false) ?_ (bF rfl ?_))), ⟨i + 1, rfl, c, ?_, i1, fun x => ?_⟩, by simp only []; omega⟩
        · by_cases g : k < out.length
          · exact bT (dT (by omega)) (gX (by omega) (gK (by omega) (gX (by omega) (gK (by omega) (by rw [Int.toNat_natCast, Int.toNat_natCast]; exact congrArg some (eF fun e => d ⟨g, e⟩))))))
          · exact bF (dF (by omega)) rfl
        · rw [Int.toNat_natCast, Int.toNat_natCast, Nat.sub_zero, List.drop_zero, List.nil_append, List.take_of_length_le (l := out.drop k) (by rw [List.length_drop]; omega)]
          exact gG (by omega) (gR (by simp) (gR (by rw [lk]; omega) (gX (by omega) (gK (by omega) (gR (by rw [lk]; omega) (gR (by simp) (gR (by rw [List.length_append, lk]; simp; omega) (gR (by rw [List.length_drop]; omega) (gI (by omega) rfl)))))))))
        · simp only []
          rw [List.length_append, List.length_append, lk, List.length_drop]
          simp; omega
        · simp only []
          rw [i2, hx, List.mem_append, List.mem_singleton, hm]
    · have e : i = l.length := by omega
      refine ⟨.inr out, bF (dF (by omega)) rfl, hp, fun x => ?_⟩
      rw [hm, e, List.take_length]
  rw [e, asc_uniq hp (setL_ok l).1 fun x => by rw [hm, (setL_ok l).2]]

/-! the times of a day -/
def partL (o : Int) (l : List Int) : List Int := if l = [] then [o] else setL l
theorem p_times_1 {o : Int} {l : List Int} (hl : (l.length : Int) ≤ 100) : m_recurrence_times_1 std o l = some (partL o l) := by
  rw [m_recurrence_times_1_eq]
  cases l with
  | nil => rfl
  | cons x t => exact bF (eF (by rw [List.length_cons]; omega)) (bB (p_recurrence_set hl) (by rw [partL, if_neg (by simp)]))
theorem partL_len {o : Int} {l : List Int} (hl : (l.length : Int) ≤ 100) : (partL o l).length ≤ 100 := by
  unfold partL
  split
  · simp
  · have := setL_len l; omega
theorem partL_mem {o : Int} {l : List Int} (ho : 0 ≤ o ∧ o ≤ 100000) (h : ∀ x ∈ l, 0 ≤ x ∧ x ≤ 100000) : ∀ x ∈ partL o l, 0 ≤ x ∧ x ≤ 100000 := by
  intro x hx
  unfold partL at hx
  split at hx
  · rw [List.mem_singleton.1 hx]; exact ho
  · exact h x (((setL_ok l).2 x).1 hx)
section
variable {hs ms ss : List Int} (bh : ∀ x ∈ hs, 0 ≤ x ∧ x ≤ 100000) (bm : ∀ x ∈ ms, 0 ≤ x ∧ x ≤ 100000) (bs : ∀ x ∈ ss, 0 ≤ x ∧ x ≤ 100000) (lh : hs.length ≤ 100) (lm : ms.length ≤ 100) (ls : ss.length ≤ 100)
include bh bm bs ls in
theorem p_times_L2 {i j : Nat} (hi : i < hs.length) (hj : j < ms.length) {out : List Int} (ho : out.length ≤ 10000000) :
    ∃ r, loop (m_recurrence_times_L2 std ms ss hs (i : Int) (j : Int)) (0, out) = some r ∧ r.length = out.length + ss.length := by
  refine loop_is (B := m_recurrence_times_L2 std ms ss hs (i : Int) (j : Int)) (fun s => ∃ k : Nat, s.1 = (k : Int) ∧ k ≤ ss.length ∧ s.2.length = out.length + k) (fun s => (100 - s.1).toNat) (fun r => r.length = out.length + ss.length) ⟨0, rfl, Nat.zero_le _, rfl⟩ (by show (100 - (0 : Int)).toNat < _; decide) (fun s hs' => ?_)
  obtain ⟨s1, o⟩ := s
  obtain ⟨k, rfl, hk, hl⟩ := hs'
  simp only [] at hl
  rw [m_recurrence_times_L2_eq]
  by_cases c : k < ss.length
  · have x1 := bh _ (getD_mem hi)
    have x2 := bm _ (getD_mem hj)
    have x3 := bs _ (getD_mem c)
    refine ⟨.inl ((k : Int) + 1, o ++ [3600 * hs.getD i 0 + 60 * ms.getD j 0 + ss.getD k 0]), bT (dT (by omega)) ?_, ⟨k + 1, rfl, c, by simp only []; rw [List.length_append, hl]; rfl⟩, by simp only []; omega⟩
    simp only [Int.toNat_natCast]
    generalize hs.getD i 0 = x at *
    generalize ms.getD j 0 = y at *
    generalize ss.getD k 0 = z at *
    exact gX (by omega) (gK (by omega) (gI (by omega) (gI (by omega) (gI (by omega) (gI (by omega) (gR (by omega) (gR (by simp) (gI (by omega) rfl))))))))
  · exact ⟨.inr o, bF (dF (by omega)) rfl, by simp only []; omega⟩
include bh bm bs lm ls in
theorem p_times_L3 {i : Nat} (hi : i < hs.length) {out : List Int} (ho : out.length ≤ 1000000) :
    ∃ r, loop (m_recurrence_times_L3 std ms ss hs (i : Int)) (0, out) = some r ∧ r.length = out.length + ms.length * ss.length := by
  refine loop_is (B := m_recurrence_times_L3 std ms ss hs (i : Int)) (fun s => ∃ k : Nat, s.1 = (k : Int) ∧ k ≤ ms.length ∧ s.2.length = out.length + k * ss.length) (fun s => (100 - s.1).toNat) (fun r => r.length = out.length + ms.length * ss.length) ⟨0, rfl, Nat.zero_le _, by simp⟩ (by show (100 - (0 : Int)).toNat < _; decide) (fun s hs' => ?_)
  obtain ⟨s1, o⟩ := s
  obtain ⟨k, rfl, hk, hl⟩ := hs'
  simp only [] at hl
  rw [m_recurrence_times_L3_eq]
  by_cases c : k < ms.length
  · have hb : k * ss.length ≤ 100 * 100 := Nat.mul_le_mul (by omega) ls
    obtain ⟨r, er, hr⟩ := p_times_L2 bh bm bs ls hi c (out := o) (by omega)
    refine ⟨.inl ((k : Int) + 1, r), bT (dT (by omega)) (gX (by omega) (gK (by omega) (bB er (gI (by omega) rfl)))), ⟨k + 1, rfl, c, ?_⟩, by simp only []; omega⟩
    simp only []
    rw [hr, hl, Nat.succ_mul, Nat.add_assoc]
  · have e : k = ms.length := by omega
    subst e
    exact ⟨.inr o, bF (dF (by omega)) rfl, hl⟩
include bh bm bs lh lm ls in
theorem p_times_L4 : ∃ r, loop (m_recurrence_times_L4 std ms ss hs) (0, []) = some r ∧ r.length = hs.length * (ms.length * ss.length) := by
  refine loop_is (B := m_recurrence_times_L4 std ms ss hs) (fun s => ∃ k : Nat, s.1 = (k : Int) ∧ k ≤ hs.length ∧ s.2.length = k * (ms.length * ss.length)) (fun s => (100 - s.1).toNat) (fun r => r.length = hs.length * (ms.length * ss.length)) ⟨0, rfl, Nat.zero_le _, by simp⟩ (by show (100 - (0 : Int)).toNat < _; decide) (fun s hs' => ?_)
  obtain ⟨s1, o⟩ := s
  obtain ⟨k, rfl, hk, hl⟩ := hs'
  simp only [] at hl
  rw [m_recurrence_times_L4_eq]
  by_cases c : k < hs.length
  · have hb1 : ms.length * ss.length ≤ 100 * 100 := Nat.mul_le_mul lm ls
    have hb : k * (ms.length * ss.length) ≤ 100 * (100 * 100) := Nat.mul_le_mul (by omega) hb1
    obtain ⟨r, er, hr⟩ := p_times_L3 bh bm bs lm ls c (out := o) (by omega)
    refine ⟨.inl ((k : Int) + 1, r), bT (dT (by omega)) (gX (by omega) (gK (by omega) (bB er (gI (by omega) rfl)))), ⟨k + 1, rfl, c, ?_⟩, by simp only []; omega⟩
    simp only []
    rw [hr, hl, Nat.succ_mul]
  · have e : k = hs.length := by omega
    subst e
    exact ⟨.inr o, bF (dF (by omega)) rfl, hl⟩
end
/-- how many different elements a list has; other, if it is empty -/
def numL (o : Nat) (l : List Int) : Nat := if l = [] then o else (setL l).length
def hrN (f : Int) : Nat := if f = 5 then 24 else 1
theorem hours_loop : ∃ l, loop (m_recurrence_times_L1 std) (0, ([] : List Int)) = some l ∧ l.length = 24 ∧ ∀ x ∈ l, 0 ≤ x ∧ x ≤ 100000 :=
  ⟨[0, 1, 2, 3, 4, 5, 6, 7, 8, 9, 10, 11, 12, 13, 14, 15, 16, 17, 18, 19, 20, 21, 22, 23], by kernel_rfl, rfl, by decide⟩
theorem numL_le {o : Nat} {l : List Int} (ho : o ≤ 100) (hl : (l.length : Int) ≤ 100) : numL o l ≤ 100 := by
  unfold numL
  split
  · exact ho
  · have := setL_len l; omega
theorem partL_num (o : Int) (l : List Int) : (partL o l).length = numL 1 l := by
  unfold partL numL
  split <;> rfl
theorem p_times0 (f N c u w : Int) (r6 r7 r8 r9 : List Int) (r10 : List (Int × Int)) {h m s : List Int} (r14 : List Int) (lh : (h.length : Int) ≤ 100) (lm : (m.length : Int) ≤ 100) (ls : (s.length : Int) ≤ 100)
    (bh : ∀ x ∈ h, 0 ≤ x ∧ x ≤ 100000) (bm : ∀ x ∈ m, 0 ≤ x ∧ x ≤ 100000) (bs : ∀ x ∈ s, 0 ≤ x ∧ x ≤ 100000) :
    ∃ r, m_recurrence_times std f N c u w 0 r6 r7 r8 r9 r10 h m s r14 = some r ∧ r.length = numL (hrN f) h * (numL 1 m * numL 1 s) := by
  have z : (0 : Int) ≤ 0 ∧ (0 : Int) ≤ 100000 := by omega
  obtain ⟨hs, e9, n9, l9, b9⟩ : ∃ hs, (Option.bind (Option.bind (bif ((((List.length h) : Nat) : Int) == 0) then (some (f == 5)) else (some false)) fun x57 => bif x57 then Option.bind (loop (m_recurrence_times_L1 std) (0, ([] : List Int))) fun l7 => (some l7) else (some (partL 0 h))) fun q => some q) = some hs ∧ hs.length = numL (hrN f) h ∧ hs.length ≤ 100 ∧ ∀ x ∈ hs, 0 ≤ x ∧ x ≤ 100000 := by
    by_cases c1 : h = [] ∧ f = 5
    · obtain ⟨rfl, rfl⟩ := c1
      obtain ⟨l, e, hl, hb⟩ := hours_loop
      exact ⟨l, bB (bB (v := true) rfl (bT rfl (bB e rfl))) rfl, by rw [hl]; rfl, by omega, hb⟩
    · refine ⟨partL 0 h, bB (bB (v := false) ?_ (bF rfl rfl)) rfl, ?_, partL_len lh, partL_mem z bh⟩
      · cases h with
        | nil => exact congrArg some (eF fun e => c1 ⟨rfl, e⟩)
        | cons x t => exact bF (eF (by rw [List.length_cons]; omega)) rfl
      · unfold partL numL hrN
        split
        · rename_i e; rw [if_neg fun g => c1 ⟨e, g⟩]; rfl
        · rfl
  obtain ⟨r, er, hr⟩ := p_times_L4 b9 (partL_mem z bm) (partL_mem z bs) l9 (partL_len lm) (partL_len ls)
  refine ⟨r, ?_, by rw [hr, n9, partL_num, partL_num]⟩
  rw [m_recurrence_times_eq]
  refine bB (p_integer_Mod 0 86400 (by omega) (by omega) (by omega) (by omega)) (gZ (by omega) (gI (by decide) (bB (p_times_1 lh) ?_)))
  revert e9
  generalize (bif ((((List.length h) : Nat) : Int) == 0) then (some (f == 5)) else (some false) : Option Bool) = q
  intro e9
  cases q with
  | none => cases e9
  | some q =>
    refine bB (v := q) rfl ?_
    have e10 : (bif q then Option.bind (loop (m_recurrence_times_L1 std) (0, ([] : List Int))) fun l7 => (some l7) else (some (partL 0 h))) = some hs := by
      revert e9
      simp only [Option.bind_some, Option.bind_fun_some]
      exact fun h => h
    exact bB e10 (gZ (by omega) (gI (by decide) (bB (p_times_1 lm) (bB (p_times_1 ls) (bB er rfl)))))

/-! which rules are valid -/
theorem in_or2 {m low high : Int} {K : Option Bool} : (bif decide (m < low) then some true else bif decide (high < m) then some true else K) = (bif decide (low ≤ m ∧ m ≤ high) then K else some true) := by
  by_cases a : m < low
  · rw [dF (show ¬ (low ≤ m ∧ m ≤ high) by omega)]; exact bT (dT a) rfl
  · refine bF (dF a) ?_
    by_cases c : high < m
    · rw [dF (show ¬ (low ≤ m ∧ m ≤ high) by omega)]; exact bT (dT c) rfl
    · rw [dT (show low ≤ m ∧ m ≤ high by omega)]; exact bF (dF c) rfl
def untB (c u : Int) : Bool := (u == 0) || (locB u && (c == 0))
def wksB (f : Int) (l : List Int) : Bool := !(decide (0 < (((List.length l) : Nat) : Int))) || (f == 1)
structure Rec where
  f : Int
  N : Int
  c : Int
  u : Int
  w : Int
  mo : List Int
  md : List Int
  yd : List Int
  wk : List Int
  dy : List (Int × Int)
  h : List Int
  m : List Int
  s : List Int
  ps : List Int
def tmsB (r : Rec) : Bool := decide (((numL (hrN r.f) r.h * (numL 1 r.m * numL 1 r.s) : Nat) : Int) ≤ 1440)
def vldB (r : Rec) : Bool :=
  decide (1 ≤ r.f ∧ r.f ≤ 5) && (decide (1 ≤ r.N ∧ r.N ≤ 1000) && (decide (1 ≤ r.w ∧ r.w ≤ 7) && (decide (0 ≤ r.c ∧ r.c ≤ 1000) && (untB r.c r.u &&
  (lstB 1 12 false r.mo && (lstB 1 31 true r.md && (lstB 1 366 true r.yd && (lstB 1 53 true r.wk && (lstB 0 23 false r.h && (lstB 0 59 false r.m && (lstB 0 59 false r.s && (lstB 1 366 true r.ps &&
  (wksB r.f r.wk && (dayL r.f r.dy && tmsB r))))))))))))))
theorem lst_ok {low high : Int} {l : List Int} (h0 : 0 ≤ low) (h1 : high ≤ 1000) (h : lstB low high false l = true) : (l.length : Int) ≤ 100 ∧ ∀ x ∈ l, 0 ≤ x ∧ x ≤ 100000 := by
  unfold lstB at h
  rw [Bool.and_eq_true, decide_eq_true_eq, List.all_eq_true] at h
  refine ⟨by omega, fun x hx => ?_⟩
  have := h.2 x hx
  unfold inRg at this
  simp at this
  omega
theorem unt_1 {c u : Int} : (bif !(u == 0) then Option.bind (m_recurrence_local std u) fun b1 => (bif !b1 then some true else some (!(c == 0))) else some false) = some (!untB c u) := by
  rw [p_recurrence_local]
  unfold untB
  cases (u == 0) <;> cases (locB u) <;> cases (c == 0) <;> rfl
theorem unt_2 {c u : Int} {K : Option Bool} : (bif !(u == 0) then Option.bind (m_ref29_Local std u) fun b1 => (bif !b1 then some true else bif !(c == 0) then some true else K) else K) = (bif untB c u then K else some true) := by
  rw [p_ref29_Local]
  unfold untB
  cases (u == 0) <;> cases (locB u) <;> cases (c == 0) <;> rfl
theorem wks_1 {f : Int} {l : List Int} : (bif decide (0 < (((List.length l) : Nat) : Int)) then some (!(f == 1)) else some false) = some (!wksB f l) := by
  unfold wksB
  cases decide (0 < (((List.length l) : Nat) : Int)) <;> cases (f == 1) <;> rfl
theorem p_Valid (r : Rec) : m_recurrence_Valid std r.f r.N r.c r.u r.w r.mo r.md r.yd r.wk r.dy r.h r.m r.s r.ps = some (vldB r) := by
  rw [m_recurrence_Valid_eq]
  simp only [in_or, unt_1, wks_1, p_between (l := r.mo) (low := 1) (high := 12) (s := false) (by omega) (by omega) (by omega), p_between (l := r.md) (low := 1) (high := 31) (s := true) (by omega) (by omega) (by omega), p_between (l := r.yd) (low := 1) (high := 366) (s := true) (by omega) (by omega) (by omega), p_between (l := r.wk) (low := 1) (high := 53) (s := true) (by omega) (by omega) (by omega), p_between (l := r.h) (low := 0) (high := 23) (s := false) (by omega) (by omega) (by omega), p_between (l := r.m) (low := 0) (high := 59) (s := false) (by omega) (by omega) (by omega), p_between (l := r.s) (low := 0) (high := 59) (s := false) (by omega) (by omega) (by omega), p_between (l := r.ps) (low := 1) (high := 366) (s := true) (by omega) (by omega) (by omega)]
  unfold vldB
  cases decide (1 ≤ r.f ∧ r.f ≤ 5) with | false => rfl | true =>
  cases decide (1 ≤ r.N ∧ r.N ≤ 1000) with | false => rfl | true =>
  cases decide (1 ≤ r.w ∧ r.w ≤ 7) with | false => rfl | true =>
  cases decide (0 ≤ r.c ∧ r.c ≤ 1000) with | false => rfl | true =>
  cases untB r.c r.u with | false => rfl | true =>
  cases lstB 1 12 false r.mo with | false => rfl | true =>
  cases lstB 1 31 true r.md with | false => rfl | true =>
  cases lstB 1 366 true r.yd with | false => rfl | true =>
  cases lstB 1 53 true r.wk with | false => rfl | true =>
  cases hh : lstB 0 23 false r.h with | false => rfl | true =>
  cases hm : lstB 0 59 false r.m with | false => rfl | true =>
  cases hs : lstB 0 59 false r.s with | false => rfl | true =>
  cases lstB 1 366 true r.ps with | false => rfl | true =>
  cases wksB r.f r.wk with | false => rfl | true =>
  obtain ⟨lh, bh⟩ := lst_ok (by omega) (by omega) hh
  obtain ⟨lm, bm⟩ := lst_ok (by omega) (by omega) hm
  obtain ⟨ls, bs⟩ := lst_ok (by omega) (by omega) hs
  by_cases hd : ((r.dy.length : Nat) : Int) ≤ 60
  · rw [dF (show ¬ (60 < ((r.dy.length : Nat) : Int)) by omega)]
    have e := p_recurrence_days r.f r.dy hd
    unfold dayL
    rw [dT hd]
    cases hall : r.dy.all (ordB r.f) with
    | false =>
      rw [hall] at e
      exact bB (v := false) rfl (bB (v := false) rfl (bB (v := .inr ()) rfl (bB e rfl)))
    | true =>
      rw [hall] at e
      obtain ⟨t, et, ht⟩ := p_times0 r.f r.N r.c r.u r.w r.mo r.md r.yd r.wk r.dy r.ps lh lm ls bh bm bs
      refine bB (v := false) rfl (bB (v := false) rfl (bB (v := .inr ()) rfl (bB e (bB et ?_))))
      rw [ht]; rfl
  · rw [dT (show 60 < ((r.dy.length : Nat) : Int) by omega)]
    unfold dayL
    rw [dF hd]; rfl
theorem p_ref29_days (r : Rec) : m_ref29_days std r.f r.N r.c r.u r.w r.mo r.md r.yd r.wk r.dy r.h r.m r.s r.ps = some (dayL r.f r.dy) := by
  rw [m_ref29_days_eq]
  unfold dayL
  by_cases hd : ((r.dy.length : Nat) : Int) ≤ 60
  · rw [dF (show ¬ (60 < ((r.dy.length : Nat) : Int)) by omega), dT hd]
    have e := p_ref29_daysL r.f r.dy hd
    refine bF rfl ?_
    cases hall : r.dy.all (ordB r.f) with
    | false => rw [hall] at e; exact bB e rfl
    | true => rw [hall] at e; exact bB e rfl
  · rw [dT (show 60 < ((r.dy.length : Nat) : Int) by omega), dF hd]; rfl
theorem p_ref29_number {o : Nat} {l : List Int} (hl : (l.length : Int) ≤ 100) : m_ref29_number std (o : Int) l = some ((numL o l : Nat) : Int) := by
  rw [m_ref29_number_eq]
  cases l with
  | nil => rfl
  | cons x t => exact bF (eF (by rw [List.length_cons]; omega)) (bB (p_ref29_Set hl) (by rw [numL, if_neg (by simp)]))
theorem p_ref29_Valid (r : Rec) : m_ref29_Valid std r.f r.N r.c r.u r.w r.mo r.md r.yd r.wk r.dy r.h r.m r.s r.ps = some (vldB r) := by
  rw [m_ref29_Valid_eq]
  simp only [in_or2, in_or, unt_2, wks_1, p_ref29_days, p_within (l := r.mo) (low := 1) (high := 12) (s := false) (by omega) (by omega) (by omega), p_within (l := r.md) (low := 1) (high := 31) (s := true) (by omega) (by omega) (by omega), p_within (l := r.yd) (low := 1) (high := 366) (s := true) (by omega) (by omega) (by omega), p_within (l := r.wk) (low := 1) (high := 53) (s := true) (by omega) (by omega) (by omega), p_within (l := r.h) (low := 0) (high := 23) (s := false) (by simp) (by omega) (by omega), p_within (l := r.m) (low := 0) (high := 59) (s := false) (by simp) (by omega) (by omega), p_within (l := r.s) (low := 0) (high := 59) (s := false) (by simp) (by omega) (by omega), p_within (l := r.ps) (low := 1) (high := 366) (s := true) (by omega) (by omega) (by omega)]
  unfold vldB
  cases decide (1 ≤ r.f ∧ r.f ≤ 5) with | false => rfl | true =>
  cases decide (1 ≤ r.N ∧ r.N ≤ 1000) with | false => rfl | true =>
  cases decide (0 ≤ r.c ∧ r.c ≤ 1000) with | false => cases decide (1 ≤ r.w ∧ r.w ≤ 7) <;> rfl | true =>
  cases untB r.c r.u with | false => cases decide (1 ≤ r.w ∧ r.w ≤ 7) <;> rfl | true =>
  cases decide (1 ≤ r.w ∧ r.w ≤ 7) with | false => rfl | true =>
  cases lstB 1 12 false r.mo with | false => rfl | true =>
  cases lstB 1 31 true r.md with | false => rfl | true =>
  cases lstB 1 366 true r.yd with | false => rfl | true =>
  cases lstB 1 53 true r.wk with | false => rfl | true =>
  cases hh : lstB 0 23 false r.h with | false => rfl | true =>
  cases hm : lstB 0 59 false r.m with | false => rfl | true =>
  cases hs : lstB 0 59 false r.s with | false => rfl | true =>
  cases lstB 1 366 true r.ps with | false => rfl | true =>
  cases dayL r.f r.dy with | false => cases wksB r.f r.wk <;> rfl | true =>
  cases wksB r.f r.wk with | false => rfl | true =>
  obtain ⟨lh, bh⟩ := lst_ok (by omega) (by omega) hh
  obtain ⟨lm, bm⟩ := lst_ok (by omega) (by omega) hm
  obtain ⟨ls, bs⟩ := lst_ok (by omega) (by omega) hs
  have b1 : numL (hrN r.f) r.h ≤ 100 := numL_le (by unfold hrN; split <;> omega) lh
  have b2 : numL 1 r.m ≤ 100 := numL_le (by omega) lm
  have b3 : numL 1 r.s ≤ 100 := numL_le (by omega) ls
  have b4 : numL (hrN r.f) r.h * numL 1 r.m ≤ 100 * 100 := Nat.mul_le_mul b1 b2
  have b5 : numL (hrN r.f) r.h * numL 1 r.m * numL 1 r.s ≤ 100 * 100 * 100 := Nat.mul_le_mul b4 b3
  have e0 : (bif (r.f == 5) then some 24 else some 1 : Option Int) = some ((hrN r.f : Nat) : Int) := by
    unfold hrN
    by_cases g : r.f = 5
    · rw [if_pos g, eT g]; rfl
    · rw [if_neg g, eF g]; rfl
  refine bB (v := false) rfl (bF rfl (bB (v := false) rfl (bF rfl (bB e0 (bB (p_ref29_number lh) (bB (p_ref29_number (o := 1) lm) ?_))))))
  have i1 : ((numL (hrN r.f) r.h : Nat) : Int) * ((numL 1 r.m : Nat) : Int) = ((numL (hrN r.f) r.h * numL 1 r.m : Nat) : Int) := (Int.natCast_mul _ _).symm
  rw [i1]
  refine gI (by omega) (bB (p_ref29_number (o := 1) ls) ?_)
  have i2 : ((numL (hrN r.f) r.h * numL 1 r.m : Nat) : Int) * ((numL 1 r.s : Nat) : Int) = ((numL (hrN r.f) r.h * numL 1 r.m * numL 1 r.s : Nat) : Int) := (Int.natCast_mul _ _).symm
  rw [i2]
  refine gI (by omega) (congrArg some ?_)
  unfold tmsB
  rw [Nat.mul_assoc]; rfl
theorem p_given {r : Rec} {start : Int} : m_recurrence_given std r.f r.N r.c r.u r.w start r.mo r.md r.yd r.wk r.dy r.h r.m r.s r.ps = some (if vldB r && locB start then 0 else 1) := by
  rw [m_recurrence_given_eq, p_Valid, p_recurrence_local]
  cases vldB r <;> cases locB start <;> rfl
end
end Go.Proofs.YtmnhfaaaaejpaaaGreat
