/-
  civil.Leap, Length, Weekday.
-/
import Derived.Test.YtnieceplfjmocaaInt
import Derived.Test.YtnieceplfjmocaaIv
namespace Go.Proofs.Ytnieceplfjmocaa
open Go.RowKit Go.BigFrame

def yearB (y : Int) : Bool := decide (1 ≤ y) && decide (y ≤ 9999)
def leapB (y : Int) : Bool := yearB y && ((y % 4 == 0) && (!(y % 100 == 0) || (y % 400 == 0)))
def mtab (m : Int) : Int := if m = 2 then 28 else if m = 4 ∨ m = 6 ∨ m = 9 ∨ m = 11 then 30 else 31
def lenM (y m : Int) : Int := if yearB y = false ∨ m < 1 ∨ 12 < m then 0 else if m = 2 ∧ leapB y = true then 29 else mtab m

theorem yearB_iff {y : Int} : yearB y = true ↔ 1 ≤ y ∧ y ≤ 9999 := by simp [yearB]

set_option maxHeartbeats 400000 in
theorem cyear_any (y : Int) (w : World) :
    Calls Try.prog 69 #[.int .i64 y] w fun e w' => e = .returned (.bool (yearB y)) ∧ w = w' := by
  go_enter Try.func69, Try.ntmps69
  go_wp2
  · go_ret; exact ⟨ret_bool (by simp [yearB, *]), rfl⟩
  · go_ret; exact ⟨ret_bool (by simp [yearB]; omega), rfl⟩
theorem cyear_at {y : Int} {v : Bool} (w : World) (h : yearB y = v) :
    Calls Try.prog 69 #[.int .i64 y] w fun e w' => e = .returned (.bool v) ∧ w = w' := h ▸ cyear_any y w

set_option maxHeartbeats 1000000 in
theorem cleap_any (y : Int) (w : World) (hy : yearB y = true) :
    Calls Try.prog 70 #[.int .i64 y] w fun e w' => e = .returned (.bool (leapB y)) ∧ w = w' := by
  obtain ⟨h1, h2⟩ := yearB_iff.1 hy
  have HL := Lib.hid (show leapB y = ((y % 4 == 0) && (!(y % 100 == 0) || (y % 400 == 0))) by rw [leapB, hy]; rfl)
  have HY := Lib.hid hy
  clear hy
  have d4 : (y % 4 == 0) = true ∨ (y % 4 == 0) = false := by cases (y % 4 == 0) <;> simp
  have d100 : ((y % 100 == 0) = true ∧ (y % 100 != 0) = false) ∨ ((y % 100 == 0) = false ∧ (y % 100 != 0) = true) := by
    simp only [bne]; cases (y % 100 == 0) <;> simp
  have d400 : (y % 400 == 0) = true ∨ (y % 400 == 0) = false := by cases (y % 400 == 0) <;> simp
  rcases d4 with d4 | d4
  · rcases d100 with ⟨d, d'⟩ | ⟨d, d'⟩
    · rcases d400 with e | e
      all_goals
        go_enter Try.func70, Try.ntmps70
        go_wp2_with (go_at_call 69; refine (cyear_at _ HY.out).mono ?_; rintro e w' ⟨rfl, rfl⟩)
        go_ret
        exact ⟨ret_bool (by rw [HL.out, d4, d, e]; rfl), rfl⟩
    · go_enter Try.func70, Try.ntmps70
      go_wp2_with (go_at_call 69; refine (cyear_at _ HY.out).mono ?_; rintro e w' ⟨rfl, rfl⟩)
      go_ret
      exact ⟨ret_bool (by rw [HL.out, d4, d]; rfl), rfl⟩
  · go_enter Try.func70, Try.ntmps70
    go_wp2_with (go_at_call 69; refine (cyear_at _ HY.out).mono ?_; rintro e w' ⟨rfl, rfl⟩)
    go_ret
    exact ⟨ret_bool (by rw [HL.out, d4]; rfl), rfl⟩
theorem cleap_at {y : Int} {v : Bool} (w : World) (hy : yearB y = true) (h : leapB y = v) :
    Calls Try.prog 70 #[.int .i64 y] w fun e w' => e = .returned (.bool v) ∧ w = w' := h ▸ cleap_any y w hy

theorem tab_1 (w : World) : (Instr.index 82 (.agg #[.int .i64 31, .int .i64 28, .int .i64 31, .int .i64 30, .int .i64 31, .int .i64 30, .int .i64 31, .int .i64 31, .int .i64 30, .int .i64 31, .int .i64 30, .int .i64 31]) (.int .i64 (1 - 1))).run Try.prog w = .ok (.int .i64 (mtab 1)) w := by kernel_rfl
theorem tab_2 (w : World) : (Instr.index 82 (.agg #[.int .i64 31, .int .i64 28, .int .i64 31, .int .i64 30, .int .i64 31, .int .i64 30, .int .i64 31, .int .i64 31, .int .i64 30, .int .i64 31, .int .i64 30, .int .i64 31]) (.int .i64 (2 - 1))).run Try.prog w = .ok (.int .i64 (mtab 2)) w := by kernel_rfl
theorem tab_3 (w : World) : (Instr.index 82 (.agg #[.int .i64 31, .int .i64 28, .int .i64 31, .int .i64 30, .int .i64 31, .int .i64 30, .int .i64 31, .int .i64 31, .int .i64 30, .int .i64 31, .int .i64 30, .int .i64 31]) (.int .i64 (3 - 1))).run Try.prog w = .ok (.int .i64 (mtab 3)) w := by kernel_rfl
theorem tab_4 (w : World) : (Instr.index 82 (.agg #[.int .i64 31, .int .i64 28, .int .i64 31, .int .i64 30, .int .i64 31, .int .i64 30, .int .i64 31, .int .i64 31, .int .i64 30, .int .i64 31, .int .i64 30, .int .i64 31]) (.int .i64 (4 - 1))).run Try.prog w = .ok (.int .i64 (mtab 4)) w := by kernel_rfl
theorem tab_5 (w : World) : (Instr.index 82 (.agg #[.int .i64 31, .int .i64 28, .int .i64 31, .int .i64 30, .int .i64 31, .int .i64 30, .int .i64 31, .int .i64 31, .int .i64 30, .int .i64 31, .int .i64 30, .int .i64 31]) (.int .i64 (5 - 1))).run Try.prog w = .ok (.int .i64 (mtab 5)) w := by kernel_rfl
theorem tab_6 (w : World) : (Instr.index 82 (.agg #[.int .i64 31, .int .i64 28, .int .i64 31, .int .i64 30, .int .i64 31, .int .i64 30, .int .i64 31, .int .i64 31, .int .i64 30, .int .i64 31, .int .i64 30, .int .i64 31]) (.int .i64 (6 - 1))).run Try.prog w = .ok (.int .i64 (mtab 6)) w := by kernel_rfl
theorem tab_7 (w : World) : (Instr.index 82 (.agg #[.int .i64 31, .int .i64 28, .int .i64 31, .int .i64 30, .int .i64 31, .int .i64 30, .int .i64 31, .int .i64 31, .int .i64 30, .int .i64 31, .int .i64 30, .int .i64 31]) (.int .i64 (7 - 1))).run Try.prog w = .ok (.int .i64 (mtab 7)) w := by kernel_rfl
theorem tab_8 (w : World) : (Instr.index 82 (.agg #[.int .i64 31, .int .i64 28, .int .i64 31, .int .i64 30, .int .i64 31, .int .i64 30, .int .i64 31, .int .i64 31, .int .i64 30, .int .i64 31, .int .i64 30, .int .i64 31]) (.int .i64 (8 - 1))).run Try.prog w = .ok (.int .i64 (mtab 8)) w := by kernel_rfl
theorem tab_9 (w : World) : (Instr.index 82 (.agg #[.int .i64 31, .int .i64 28, .int .i64 31, .int .i64 30, .int .i64 31, .int .i64 30, .int .i64 31, .int .i64 31, .int .i64 30, .int .i64 31, .int .i64 30, .int .i64 31]) (.int .i64 (9 - 1))).run Try.prog w = .ok (.int .i64 (mtab 9)) w := by kernel_rfl
theorem tab_10 (w : World) : (Instr.index 82 (.agg #[.int .i64 31, .int .i64 28, .int .i64 31, .int .i64 30, .int .i64 31, .int .i64 30, .int .i64 31, .int .i64 31, .int .i64 30, .int .i64 31, .int .i64 30, .int .i64 31]) (.int .i64 (10 - 1))).run Try.prog w = .ok (.int .i64 (mtab 10)) w := by kernel_rfl
theorem tab_11 (w : World) : (Instr.index 82 (.agg #[.int .i64 31, .int .i64 28, .int .i64 31, .int .i64 30, .int .i64 31, .int .i64 30, .int .i64 31, .int .i64 31, .int .i64 30, .int .i64 31, .int .i64 30, .int .i64 31]) (.int .i64 (11 - 1))).run Try.prog w = .ok (.int .i64 (mtab 11)) w := by kernel_rfl
theorem tab_12 (w : World) : (Instr.index 82 (.agg #[.int .i64 31, .int .i64 28, .int .i64 31, .int .i64 30, .int .i64 31, .int .i64 30, .int .i64 31, .int .i64 31, .int .i64 30, .int .i64 31, .int .i64 30, .int .i64 31]) (.int .i64 (12 - 1))).run Try.prog w = .ok (.int .i64 (mtab 12)) w := by kernel_rfl
theorem tab_at (m : Int) (h1 : 1 ≤ m) (h2 : m ≤ 12) (w : World) :
    (Instr.index 82 (.agg #[.int .i64 31, .int .i64 28, .int .i64 31, .int .i64 30, .int .i64 31, .int .i64 30, .int .i64 31, .int .i64 31, .int .i64 30, .int .i64 31, .int .i64 30, .int .i64 31]) (.int .i64 (m - 1))).run Try.prog w = .ok (.int .i64 (mtab m)) w := by
  have : m = 1 ∨ m = 2 ∨ m = 3 ∨ m = 4 ∨ m = 5 ∨ m = 6 ∨ m = 7 ∨ m = 8 ∨ m = 9 ∨ m = 10 ∨ m = 11 ∨ m = 12 := by omega
  rcases this with h | h | h | h | h | h | h | h | h | h | h | h <;> subst h
  · exact tab_1 w
  · exact tab_2 w
  · exact tab_3 w
  · exact tab_4 w
  · exact tab_5 w
  · exact tab_6 w
  · exact tab_7 w
  · exact tab_8 w
  · exact tab_9 w
  · exact tab_10 w
  · exact tab_11 w
  · exact tab_12 w

set_option maxHeartbeats 1000000 in
theorem clen_any (y m : Int) (w : World) (hy : yearB y = true) (h1 : 1 ≤ m) (h2 : m ≤ 12) :
    Calls Try.prog 40 #[.int .i64 y, .int .i64 m] w fun e w' => e = .returned (.int .i64 (lenM y m)) ∧ w = w' := by
  have ht := fun w => tab_at m h1 h2 w
  have HY := Lib.hid hy
  have d1 : decide (m < 1) = false := by simp; omega
  have d2 : decide (12 < m) = false := by simp; omega
  by_cases hm : m = 2
  · have dm : (m == 2) = true := by simpa using hm
    cases hl : leapB y with
    | true =>
      have HR := Lib.hid (show lenM y m = 29 by rw [lenM, if_neg (by simp [hy]; omega), if_pos ⟨hm, hl⟩])
      have HL := Lib.hid hl
      clear hl hm hy
      go_enter Try.func40, Try.ntmps40
      go_wp2_with (first | (go_at_call 69; refine (cyear_at _ HY.out).mono ?_; rintro e w' ⟨rfl, rfl⟩) | (go_at_call 70; refine (cleap_at _ HY.out HL.out).mono ?_; rintro e w' ⟨rfl, rfl⟩))
      go_ret
      exact ⟨ret_int HR.out.symm, rfl⟩
    | false =>
      have HR := Lib.hid (show lenM y m = mtab m by rw [lenM, if_neg (by simp [hy]; omega), if_neg (by simp [hl])])
      have HL := Lib.hid hl
      clear hl hm hy
      go_enter Try.func40, Try.ntmps40
      go_wp2_with (first | (go_at_call 69; refine (cyear_at _ HY.out).mono ?_; rintro e w' ⟨rfl, rfl⟩) | (go_at_call 70; refine (cleap_at _ HY.out HL.out).mono ?_; rintro e w' ⟨rfl, rfl⟩))
      go_ret
      exact ⟨ret_int HR.out.symm, rfl⟩
  · have dm : (m == 2) = false := by simpa using hm
    have HR := Lib.hid (show lenM y m = mtab m by rw [lenM, if_neg (by simp [hy]; omega), if_neg (by simp [hm])])
    clear hm hy
    go_enter Try.func40, Try.ntmps40
    go_wp2_with (go_at_call 69; refine (cyear_at _ HY.out).mono ?_; rintro e w' ⟨rfl, rfl⟩)
    go_ret
    exact ⟨ret_int HR.out.symm, rfl⟩

set_option maxHeartbeats 400000 in
theorem cinside_yes (d : Int) (w : World) (h1 : -719162 ≤ d) (h2 : d < 2932897) :
    Calls Try.prog 71 #[.int .i64 d] w fun e w' => e = .returned (.bool true) ∧ w = w' := by
  have d1 : decide (-719162 ≤ d) = true := by simp; omega
  have d2 : decide (d < 2932897) = true := by simp; omega
  go_enter Try.func71, Try.ntmps71
  go_wp2
  go_ret
  exact ⟨rfl, rfl⟩

set_option maxHeartbeats 400000 in
theorem cweekday_any (d : Int) (w : World) (h1 : -719162 ≤ d) (h2 : d < 2932897) :
    Calls Try.prog 41 #[.int .i64 d] w fun e w' => e = .returned (.int .i64 ((d + 3) % 7 + 1)) ∧ ∃ n, w' = w.drewN n := by
  go_enter Try.func41, Try.ntmps41
  go_wp2_with (first | (go_at_call 71; refine (cinside_yes _ _ h1 h2).mono ?_; rintro e w' ⟨rfl, rfl⟩) | (go_at_call 66; refine (imod_any _ _ _ (by omega) (by omega) (by omega) (by omega)).mono ?_; rintro e w' ⟨rfl, n, rfl⟩))
  go_ret
  exact ⟨rfl, _, rfl⟩
end Go.Proofs.Ytnieceplfjmocaa
