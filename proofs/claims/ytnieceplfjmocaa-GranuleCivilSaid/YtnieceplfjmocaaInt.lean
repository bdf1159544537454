/-
  integer.Div, Floor, Mod (and the reference's) for a divisor that is not below 1: the floor quotient and its remainder.
-/
import Derived.Test.YtnieceplfjmocaaBase
import Derived.Test.YtnieceplfjmocaaProg
namespace Go.Proofs.Ytnieceplfjmocaa
open Go.RowKit Go.BigFrame

theorem tdiv_neg' (a b : Int) (ha : a < 0) (hb : 1 ≤ b) (hr : a.tmod b ≠ 0) : a.tdiv b - 1 = a / b := by
  rw [Int.tdiv_eq_ediv, if_neg]
  · have := Int.sign_eq_one_of_pos (by omega : 0 < b); omega
  · rintro (h | h)
    · omega
    · exact hr (Int.tmod_eq_zero_of_dvd h)
theorem tmod_neg' (a b : Int) (ha : a < 0) (hb : 1 ≤ b) (hr : a.tmod b ≠ 0) : a.tmod b + b = a % b := by
  have h1 := tdiv_neg' a b ha hb hr
  have h2 := Int.tmod_add_mul_tdiv a b
  have h3 := Int.emod_add_mul_ediv a b
  rw [← h1] at h3
  have h4 : b * (a.tdiv b - 1) = b * a.tdiv b - b := by rw [Int.mul_sub]; omega
  omega
theorem tdiv_zero' (a b : Int) (_hb : 1 ≤ b) (hr : a.tmod b = 0) : a.tdiv b = a / b := by
  rw [Int.tdiv_eq_ediv, if_pos (.inr (Int.dvd_of_tmod_eq_zero hr))]; omega
theorem tmod_zero' (a b : Int) (hr : a.tmod b = 0) : (0 : Int) = a % b := by
  have := Int.emod_eq_zero_of_dvd (Int.dvd_of_tmod_eq_zero hr); omega
theorem tmod_bd (a b : Int) (ha : a < 0) (hb : 1 ≤ b) : -b < a.tmod b ∧ a.tmod b ≤ 0 := by
  have h1 := Int.lt_tmod_of_pos a (by omega : 0 < b)
  have h2 : a.tmod b ≤ 0 := by
    have := Int.tmod_nonneg b (by omega : 0 ≤ -a)
    rw [Int.neg_tmod] at this; omega
  omega
theorem tdiv_bd (a b : Int) (ha : a < 0) (hb : 1 ≤ b) : a ≤ a.tdiv b ∧ a.tdiv b ≤ 0 := by
  have h0 : (-a).tdiv b = (-a) / b := Int.tdiv_eq_ediv_of_nonneg (by omega)
  have h1 : a.tdiv b = -((-a) / b) := by rw [← h0, Int.neg_tdiv]; omega
  have h2 : 0 ≤ (-a) / b := Int.ediv_nonneg (by omega) (by omega)
  have h3 : (-a) / b ≤ -a := Int.ediv_le_self _ (by omega)
  omega
theorem div_bd {a b : Int} (hb : 1 ≤ b) : 0 ≤ a % b ∧ a % b < b := ⟨Int.emod_nonneg _ (by omega), Int.emod_lt_of_pos _ (by omega)⟩

set_option maxHeartbeats 1000000 in
theorem idiv_any (a b : Int) (w : World) (h1 : -9223372036854775808 ≤ a) (h2 : a ≤ 9223372036854775807) (hb : 1 ≤ b) (hb2 : b ≤ 9223372036854775807) :
    Calls Try.prog 79 #[.int .i64 a, .int .i64 b] w fun e w' => e = .returned (.tuple #[.int .i64 (a / b), .int .i64 (a % b), .int .i64 0]) ∧ ∃ n, w' = w.drewN n := by
  have hb0 : (b == 0) = false := by simp; omega
  have hb1 : (b == -1) = false := by simp; omega
  by_cases ha : 0 ≤ a
  · have hr := div_bd (a := a) hb
    obtain ⟨hr0, hr1⟩ := hr
    have hl1 : decide (a % b < 0) = false := by simp; omega
    have hl2 : decide (b < 0) = false := by simp; omega
    go_enter Try.func79, Try.ntmps79
    go_wp2
    all_goals (go_quiet (fail); go_wp2)
    · go_ret3; exact ⟨ret_t3 rfl (by omega) rfl, _, rfl⟩
    · go_ret3; exact ⟨ret_t3 rfl rfl rfl, _, rfl⟩
  · have ha' : a < 0 := by omega
    have hr := tmod_bd a b ha' hb
    have hq := tdiv_bd a b ha' hb
    obtain ⟨hr0, hr1⟩ := hr
    obtain ⟨hq0, hq1⟩ := hq
    have hm : (a == -9223372036854775808) = true ∨ (a == -9223372036854775808) = false := by cases (a == -9223372036854775808) <;> simp
    by_cases hz : a.tmod b = 0
    · have H1 := Lib.hid (tdiv_zero' a b hb hz)
      have H2 := Lib.hid (tmod_zero' a b hz)
      rcases hm with hm | hm
      all_goals
        go_enter Try.func79, Try.ntmps79
        go_wp2
        go_quiet (fail)
        go_wp2
        go_ret3
        exact ⟨ret_t3 H1.out H2.out rfl, _, rfl⟩
    · have H1 := Lib.hid (tdiv_neg' a b ha' hb hz)
      have H2 := Lib.hid (tmod_neg' a b ha' hb hz)
      have hl1 : decide (a.tmod b < 0) = true := by simp; omega
      have hl2 : decide (b < 0) = false := by simp; omega
      have hl3 : (a.tmod b != 0) = true := by simp; omega
      have hd := div_bd (a := a) hb
      have hq2 : a.tdiv b - 1 ≥ -9223372036854775808 := by
        by_cases h1 : b = 1
        · subst h1; simp at hz
        · have := tdiv_neg' a b ha' hb hz
          have h2 : a / b ≥ a := by
            apply Int.le_ediv_of_mul_le (by omega)
            have : a * b ≤ a * 1 := Int.mul_le_mul_of_nonpos_left (by omega) (by omega)
            omega
          omega
      rcases hm with hm | hm
      all_goals
        go_enter Try.func79, Try.ntmps79
        go_wp2
        go_quiet (fail)
        go_wp2
        go_ret3
        exact ⟨ret_t3 H1.out H2.out rfl, _, rfl⟩
set_option maxHeartbeats 1000000 in
theorem rdiv_any (a b : Int) (w : World) (h1 : -9223372036854775808 ≤ a) (h2 : a ≤ 9223372036854775807) (hb : 1 ≤ b) (hb2 : b ≤ 9223372036854775807) :
    Calls Try.prog 81 #[.int .i64 a, .int .i64 b] w fun e w' => e = .returned (.tuple #[.int .i64 (a / b), .int .i64 (a % b), .int .i64 0]) ∧ ∃ n, w' = w.drewN n := by
  have hb0 : (b == 0) = false := by simp; omega
  have hb1 : (b == -1) = false := by simp; omega
  by_cases ha : 0 ≤ a
  · have hr := div_bd (a := a) hb
    obtain ⟨hr0, hr1⟩ := hr
    have hl1 : decide (a % b < 0) = false := by simp; omega
    have hl2 : decide (b < 0) = false := by simp; omega
    go_enter Try.func81, Try.ntmps81
    go_wp2
    all_goals (go_quiet (fail); go_wp2)
    · go_ret3; exact ⟨ret_t3 rfl (by omega) rfl, _, rfl⟩
    · go_ret3; exact ⟨ret_t3 rfl rfl rfl, _, rfl⟩
  · have ha' : a < 0 := by omega
    have hr := tmod_bd a b ha' hb
    have hq := tdiv_bd a b ha' hb
    obtain ⟨hr0, hr1⟩ := hr
    obtain ⟨hq0, hq1⟩ := hq
    have hm : (a == -9223372036854775808) = true ∨ (a == -9223372036854775808) = false := by cases (a == -9223372036854775808) <;> simp
    by_cases hz : a.tmod b = 0
    · have H1 := Lib.hid (tdiv_zero' a b hb hz)
      have H2 := Lib.hid (tmod_zero' a b hz)
      rcases hm with hm | hm
      all_goals
        go_enter Try.func81, Try.ntmps81
        go_wp2
        go_quiet (fail)
        go_wp2
        go_ret3
        exact ⟨ret_t3 H1.out H2.out rfl, _, rfl⟩
    · have H1 := Lib.hid (tdiv_neg' a b ha' hb hz)
      have H2 := Lib.hid (tmod_neg' a b ha' hb hz)
      have hl1 : decide (a.tmod b < 0) = true := by simp; omega
      have hl2 : decide (b < 0) = false := by simp; omega
      have hl3 : (a.tmod b != 0) = true := by simp; omega
      have hd := div_bd (a := a) hb
      have hq2 : a.tdiv b - 1 ≥ -9223372036854775808 := by
        by_cases h1 : b = 1
        · subst h1; simp at hz
        · have := tdiv_neg' a b ha' hb hz
          have h2 : a / b ≥ a := by
            apply Int.le_ediv_of_mul_le (by omega)
            have : a * b ≤ a * 1 := Int.mul_le_mul_of_nonpos_left (by omega) (by omega)
            omega
          omega
      rcases hm with hm | hm
      all_goals
        go_enter Try.func81, Try.ntmps81
        go_wp2
        go_quiet (fail)
        go_wp2
        go_ret3
        exact ⟨ret_t3 H1.out H2.out rfl, _, rfl⟩

set_option maxHeartbeats 400000 in
theorem ifloor_any (a b : Int) (w : World) (h1 : -9223372036854775808 ≤ a) (h2 : a ≤ 9223372036854775807) (hb : 1 ≤ b) (hb2 : b ≤ 9223372036854775807) :
    Calls Try.prog 51 #[.int .i64 a, .int .i64 b] w fun e w' => e = .returned (.int .i64 (a / b)) ∧ ∃ n, w' = w.drewN n := by
  go_enter Try.func51, Try.ntmps51
  go_wp2_with (go_at_call 79; refine (idiv_any _ _ _ h1 h2 hb hb2).mono ?_; rintro e w' ⟨rfl, n, rfl⟩)
  go_ret
  exact ⟨rfl, _, rfl⟩

set_option maxHeartbeats 400000 in
theorem imod_any (a b : Int) (w : World) (h1 : -9223372036854775808 ≤ a) (h2 : a ≤ 9223372036854775807) (hb : 1 ≤ b) (hb2 : b ≤ 9223372036854775807) :
    Calls Try.prog 66 #[.int .i64 a, .int .i64 b] w fun e w' => e = .returned (.int .i64 (a % b)) ∧ ∃ n, w' = w.drewN n := by
  go_enter Try.func66, Try.ntmps66
  go_wp2_with (go_at_call 79; refine (idiv_any _ _ _ h1 h2 hb hb2).mono ?_; rintro e w' ⟨rfl, n, rfl⟩)
  go_ret
  exact ⟨rfl, _, rfl⟩

set_option maxHeartbeats 400000 in
theorem rfloor_any (a b : Int) (w : World) (h1 : -9223372036854775808 ≤ a) (h2 : a ≤ 9223372036854775807) (hb : 1 ≤ b) (hb2 : b ≤ 9223372036854775807) :
    Calls Try.prog 58 #[.int .i64 a, .int .i64 b] w fun e w' => e = .returned (.int .i64 (a / b)) ∧ ∃ n, w' = w.drewN n := by
  go_enter Try.func58, Try.ntmps58
  go_wp2_with (go_at_call 81; refine (rdiv_any _ _ _ h1 h2 hb hb2).mono ?_; rintro e w' ⟨rfl, n, rfl⟩)
  go_ret
  exact ⟨rfl, _, rfl⟩

set_option maxHeartbeats 400000 in
theorem rmod_any (a b : Int) (w : World) (h1 : -9223372036854775808 ≤ a) (h2 : a ≤ 9223372036854775807) (hb : 1 ≤ b) (hb2 : b ≤ 9223372036854775807) :
    Calls Try.prog 57 #[.int .i64 a, .int .i64 b] w fun e w' => e = .returned (.int .i64 (a % b)) ∧ ∃ n, w' = w.drewN n := by
  go_enter Try.func57, Try.ntmps57
  go_wp2_with (go_at_call 81; refine (rdiv_any _ _ _ h1 h2 hb hb2).mono ?_; rintro e w' ⟨rfl, n, rfl⟩)
  go_ret
  exact ⟨rfl, _, rfl⟩
end Go.Proofs.Ytnieceplfjmocaa
