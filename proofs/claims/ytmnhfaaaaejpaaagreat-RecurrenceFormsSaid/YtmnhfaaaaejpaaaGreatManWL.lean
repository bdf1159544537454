/-
  civil.Length does what its model says.
-/
import Derived.Test.YtmnhfaaaaejpaaaGreatManMC
import Derived.Test.YtmnhfaaaaejpaaaGreatTabEq
import Derived.Test.YtmnhfaaaaejpaaaGreatQTail
namespace Go.Proofs.YtmnhfaaaaejpaaaGreat
open Go.RowKit Go.BigFrame
set_option maxHeartbeats 400000 in
theorem cyear_any (y : Int) (w : World) :
    Calls Tryz.prog 86 #[.int .i64 y] w fun e w' => e = .returned (.bool (cYear y)) ∧ w = w' := by
  go_enter Tryz.func86, Tryz.ntmps86
  go_wp2
  · go_ret; exact ⟨ret_bool (by simp [cYear, *]), rfl⟩
  · go_ret; exact ⟨ret_bool (by simp [cYear]; omega), rfl⟩
theorem cyear_at {y : Int} {v : Bool} (w : World) (h : cYear y = v) :
    Calls Tryz.prog 86 #[.int .i64 y] w fun e w' => e = .returned (.bool v) ∧ w = w' := h ▸ cyear_any y w

set_option maxHeartbeats 1000000 in
theorem cleap_any (y : Int) (w : World) (hy : cYear y = true) :
    Calls Tryz.prog 87 #[.int .i64 y] w fun e w' => e = .returned (.bool (cLeap y)) ∧ w = w' := by
  obtain ⟨h1, h2⟩ := cYear_iff.1 hy
  have HL := Lib.hid (show cLeap y = ((y % 4 == 0) && (!(y % 100 == 0) || (y % 400 == 0))) by rw [cLeap, hy]; rfl)
  have HY := Lib.hid hy
  clear hy
  have d4 : (y % 4 == 0) = true ∨ (y % 4 == 0) = false := by cases (y % 4 == 0) <;> simp
  have d100 : ((y % 100 == 0) = true ∧ (y % 100 != 0) = false) ∨ ((y % 100 == 0) = false ∧ (y % 100 != 0) = true) := by
    simp only [bne]; cases (y % 100 == 0) <;> simp
  have d400 : (y % 400 == 0) = true ∨ (y % 400 == 0) = false := by cases (y % 400 == 0) <;> simp
  rcases d4 with d4 | d4
  · rcases d100 with ⟨d, d'⟩ | ⟨d, d'⟩
    · rcases d400 with e | e
      all_goals
        go_enter Tryz.func87, Tryz.ntmps87
        go_wp2_with (go_at_call 86; refine (cyear_at _ HY.out).mono ?_; rintro e w' ⟨rfl, rfl⟩)
        go_ret
        exact ⟨ret_bool (by rw [HL.out, d4, d, e]; rfl), rfl⟩
    · go_enter Tryz.func87, Tryz.ntmps87
      go_wp2_with (go_at_call 86; refine (cyear_at _ HY.out).mono ?_; rintro e w' ⟨rfl, rfl⟩)
      go_ret
      exact ⟨ret_bool (by rw [HL.out, d4, d]; rfl), rfl⟩
  · go_enter Tryz.func87, Tryz.ntmps87
    go_wp2_with (go_at_call 86; refine (cyear_at _ HY.out).mono ?_; rintro e w' ⟨rfl, rfl⟩)
    go_ret
    exact ⟨ret_bool (by rw [HL.out, d4]; rfl), rfl⟩
theorem cleap_at {y : Int} {v : Bool} (w : World) (hy : cYear y = true) (h : cLeap y = v) :
    Calls Tryz.prog 87 #[.int .i64 y] w fun e w' => e = .returned (.bool v) ∧ w = w' := h ▸ cleap_any y w hy

theorem tab_1 (w : World) : (Instr.index 99 (.agg #[.int .i64 31, .int .i64 28, .int .i64 31, .int .i64 30, .int .i64 31, .int .i64 30, .int .i64 31, .int .i64 31, .int .i64 30, .int .i64 31, .int .i64 30, .int .i64 31]) (.int .i64 (1 - 1))).run Tryz.prog w = .ok (.int .i64 (cTab 1)) w := by kernel_rfl
theorem tab_2 (w : World) : (Instr.index 99 (.agg #[.int .i64 31, .int .i64 28, .int .i64 31, .int .i64 30, .int .i64 31, .int .i64 30, .int .i64 31, .int .i64 31, .int .i64 30, .int .i64 31, .int .i64 30, .int .i64 31]) (.int .i64 (2 - 1))).run Tryz.prog w = .ok (.int .i64 (cTab 2)) w := by kernel_rfl
theorem tab_3 (w : World) : (Instr.index 99 (.agg #[.int .i64 31, .int .i64 28, .int .i64 31, .int .i64 30, .int .i64 31, .int .i64 30, .int .i64 31, .int .i64 31, .int .i64 30, .int .i64 31, .int .i64 30, .int .i64 31]) (.int .i64 (3 - 1))).run Tryz.prog w = .ok (.int .i64 (cTab 3)) w := by kernel_rfl
theorem tab_4 (w : World) : (Instr.index 99 (.agg #[.int .i64 31, .int .i64 28, .int .i64 31, .int .i64 30, .int .i64 31, .int .i64 30, .int .i64 31, .int .i64 31, .int .i64 30, .int .i64 31, .int .i64 30, .int .i64 31]) (.int .i64 (4 - 1))).run Tryz.prog w = .ok (.int .i64 (cTab 4)) w := by kernel_rfl
theorem tab_5 (w : World) : (Instr.index 99 (.agg #[.int .i64 31, .int .i64 28, .int .i64 31, .int .i64 30, .int .i64 31, .int .i64 30, .int .i64 31, .int .i64 31, .int .i64 30, .int .i64 31, .int .i64 30, .int .i64 31]) (.int .i64 (5 - 1))).run Tryz.prog w = .ok (.int .i64 (cTab 5)) w := by kernel_rfl
theorem tab_6 (w : World) : (Instr.index 99 (.agg #[.int .i64 31, .int .i64 28, .int .i64 31, .int .i64 30, .int .i64 31, .int .i64 30, .int .i64 31, .int .i64 31, .int .i64 30, .int .i64 31, .int .i64 30, .int .i64 31]) (.int .i64 (6 - 1))).run Tryz.prog w = .ok (.int .i64 (cTab 6)) w := by kernel_rfl
theorem tab_7 (w : World) : (Instr.index 99 (.agg #[.int .i64 31, .int .i64 28, .int .i64 31, .int .i64 30, .int .i64 31, .int .i64 30, .int .i64 31, .int .i64 31, .int .i64 30, .int .i64 31, .int .i64 30, .int .i64 31]) (.int .i64 (7 - 1))).run Tryz.prog w = .ok (.int .i64 (cTab 7)) w := by kernel_rfl
theorem tab_8 (w : World) : (Instr.index 99 (.agg #[.int .i64 31, .int .i64 28, .int .i64 31, .int .i64 30, .int .i64 31, .int .i64 30, .int .i64 31, .int .i64 31, .int .i64 30, .int .i64 31, .int .i64 30, .int .i64 31]) (.int .i64 (8 - 1))).run Tryz.prog w = .ok (.int .i64 (cTab 8)) w := by kernel_rfl
theorem tab_9 (w : World) : (Instr.index 99 (.agg #[.int .i64 31, .int .i64 28, .int .i64 31, .int .i64 30, .int .i64 31, .int .i64 30, .int .i64 31, .int .i64 31, .int .i64 30, .int .i64 31, .int .i64 30, .int .i64 31]) (.int .i64 (9 - 1))).run Tryz.prog w = .ok (.int .i64 (cTab 9)) w := by kernel_rfl
theorem tab_10 (w : World) : (Instr.index 99 (.agg #[.int .i64 31, .int .i64 28, .int .i64 31, .int .i64 30, .int .i64 31, .int .i64 30, .int .i64 31, .int .i64 31, .int .i64 30, .int .i64 31, .int .i64 30, .int .i64 31]) (.int .i64 (10 - 1))).run Tryz.prog w = .ok (.int .i64 (cTab 10)) w := by kernel_rfl
theorem tab_11 (w : World) : (Instr.index 99 (.agg #[.int .i64 31, .int .i64 28, .int .i64 31, .int .i64 30, .int .i64 31, .int .i64 30, .int .i64 31, .int .i64 31, .int .i64 30, .int .i64 31, .int .i64 30, .int .i64 31]) (.int .i64 (11 - 1))).run Tryz.prog w = .ok (.int .i64 (cTab 11)) w := by kernel_rfl
theorem tab_12 (w : World) : (Instr.index 99 (.agg #[.int .i64 31, .int .i64 28, .int .i64 31, .int .i64 30, .int .i64 31, .int .i64 30, .int .i64 31, .int .i64 31, .int .i64 30, .int .i64 31, .int .i64 30, .int .i64 31]) (.int .i64 (12 - 1))).run Tryz.prog w = .ok (.int .i64 (cTab 12)) w := by kernel_rfl
theorem tab_at (m : Int) (h1 : 1 ≤ m) (h2 : m ≤ 12) (w : World) :
    (Instr.index 99 (.agg #[.int .i64 31, .int .i64 28, .int .i64 31, .int .i64 30, .int .i64 31, .int .i64 30, .int .i64 31, .int .i64 31, .int .i64 30, .int .i64 31, .int .i64 30, .int .i64 31]) (.int .i64 (m - 1))).run Tryz.prog w = .ok (.int .i64 (cTab m)) w := by
  have : m = 1 ∨ m = 2 ∨ m = 3 ∨ m = 4 ∨ m = 5 ∨ m = 6 ∨ m = 7 ∨ m = 8 ∨ m = 9 ∨ m = 10 ∨ m = 11 ∨ m = 12 := by omega
  rcases this with h | h | h | h | h | h | h | h | h | h | h | h <;> subst h
  · exact tab_1 w
  · exact tab_2 w
  · exact tab_3 w
  · exact tab_4 w
  · exact tab_5 w
  · exact tab_6 w
  · exact tab_7 w
  · exact tab_8 w
  · exact tab_9 w
  · exact tab_10 w
  · exact tab_11 w
  · exact tab_12 w

set_option maxHeartbeats 1000000 in
theorem clen_any (y m : Int) (w : World) (hy : cYear y = true) (h1 : 1 ≤ m) (h2 : m ≤ 12) :
    Calls Tryz.prog 61 #[.int .i64 y, .int .i64 m] w fun e w' => e = .returned (.int .i64 (cLen y m)) ∧ w = w' := by
  have ht := fun w => tab_at m h1 h2 w
  have HY := Lib.hid hy
  have d1 : decide (m < 1) = false := by simp; omega
  have d2 : decide (12 < m) = false := by simp; omega
  by_cases hm : m = 2
  · have dm : (m == 2) = true := by simpa using hm
    cases hl : cLeap y with
    | true =>
      have HR := Lib.hid (show cLen y m = 29 by rw [cLen, if_neg (by simp [hy]; omega), if_pos ⟨hm, hl⟩])
      have HL := Lib.hid hl
      clear hl hm hy
      go_enter Tryz.func61, Tryz.ntmps61
      go_wp2_with (first | (go_at_call 86; refine (cyear_at _ HY.out).mono ?_; rintro e w' ⟨rfl, rfl⟩) | (go_at_call 87; refine (cleap_at _ HY.out HL.out).mono ?_; rintro e w' ⟨rfl, rfl⟩))
      go_ret
      exact ⟨ret_int HR.out.symm, rfl⟩
    | false =>
      have HR := Lib.hid (show cLen y m = cTab m by rw [cLen, if_neg (by simp [hy]; omega), if_neg (by simp [hl])])
      have HL := Lib.hid hl
      clear hl hm hy
      go_enter Tryz.func61, Tryz.ntmps61
      go_wp2_with (first | (go_at_call 86; refine (cyear_at _ HY.out).mono ?_; rintro e w' ⟨rfl, rfl⟩) | (go_at_call 87; refine (cleap_at _ HY.out HL.out).mono ?_; rintro e w' ⟨rfl, rfl⟩))
      go_ret
      exact ⟨ret_int HR.out.symm, rfl⟩
  · have dm : (m == 2) = false := by simpa using hm
    have HR := Lib.hid (show cLen y m = cTab m by rw [cLen, if_neg (by simp [hy]; omega), if_neg (by simp [hm])])
    clear hm hy
    go_enter Tryz.func61, Tryz.ntmps61
    go_wp2_with (go_at_call 86; refine (cyear_at _ HY.out).mono ?_; rintro e w' ⟨rfl, rfl⟩)
    go_ret
    exact ⟨ret_int HR.out.symm, rfl⟩

theorem fn_civil_Length {O0 : Ops} (_hO0 : O0 = std) {y m r1 : Int} (h : m_civil_Length O0 y m = some r1) :
    Fn Tryz.prog 61 [.c (.int .i64 y), .c (.int .i64 m)] [] (fun v c => v = .c (.int .i64 r1) ∧ c = []) := by
  unfold m_civil_Length at h
  obtain ⟨hy, h⟩ := grdS h
  obtain ⟨h1, h⟩ := grdS h
  obtain ⟨h2, h⟩ := grdS h
  cases h
  exact fn_old [.int .i64 y, .int .i64 m] (.int .i64 (cLen y m)) (fun w => (clen_any y m w hy (of_decide_eq_true h1) (of_decide_eq_true h2)).mono fun e w' ⟨h, hw⟩ => ⟨h, by rw [hw]; exact Below.refl _ _⟩) (fun fs => rfl) (fun fs => rfl)
end Go.Proofs.YtmnhfaaaaejpaaaGreat
