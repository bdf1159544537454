/-
  The code does what its models say (printed by lift.py).
-/
import Derived.Test.YtmnhfaaaaejpaaaNM
import Derived.Test.YtmnhfaaaaejpaaaNNoW
import Derived.Test.YtmnhfaaaaejpaaaNW0
import Derived.Test.YtmnhfaaaaejpaaaNW2
namespace Go.Proofs.Ytmnhfaaaaejpaaa
open Go.RowKit
set_option maxRecDepth 100000

set_option maxHeartbeats 40000000 in
theorem fn_recurrence_given {O0 : Ops} (hO0 : O0 = std) {r_1 : Int} {r_2 : Int} {r_3 : Int} {r_4 : Int} {r_5 : Int} {start_1 : Int} {r_6 : List Int} {r_7 : List Int} {r_8 : List Int} {r_9 : List Int} {r_10 : List (Int × Int)} {r_11 : List Int} {r_12 : List Int} {r_13 : List Int} {r_14 : List Int} {r1 : Int} (h : m_recurrence_given O0 r_1 r_2 r_3 r_4 r_5 start_1 r_6 r_7 r_8 r_9 r_10 r_11 r_12 r_13 r_14 = some r1) :
    Fn Try.prog 31 [.agg [.int .i64 r_1, .int .i64 r_2, .int .i64 r_3, .int .i64 r_4, .sl 0, .sl 1, .sl 2, .sl 3, .sl 4, .sl 5, .sl 6, .sl 7, .sl 8, .int .i64 r_5], .c (.int .i64 start_1)] [.arr false .i1 r_6, .arr false .i1 r_7, .arr false .i1 r_8, .arr false .i1 r_9, .arr false .i2 r_10, .arr false .i1 r_11, .arr false .i1 r_12, .arr false .i1 r_13, .arr false .i1 r_14] (fun v c => v = .c (.int .i64 r1) ∧ c = []) := by
  refine fn_run tab_holds eqs_holds mixed [] Try.func31 (by kernel_rfl) (by kernel_rfl) (Nat.le_of_ble_eq_true rfl) ?_
  intro O X hO hX
  rw [hO0, ← hO] at h
  unfold m_recurrence_given at h
  have h0 := h; clear h
  cbv
  obtain ⟨x75, h1, h0⟩ := bindS h0
  obtain ⟨b12, hv, h1⟩ := bindS h1
  refine call_is hO hX (fn_recurrence_Valid hO hv) (by kernel_rfl) [0, 1, 2, 3, 4, 5, 6, 7, 8] rfl ⟨rfl, rfl, rfl, rfl, rfl, rfl, rfl, rfl, rfl, rfl, rfl, rfl, rfl, rfl, rfl, rfl, rfl, rfl, trivial⟩ rfl ?_
  cbv
  rcases condS h1 with ⟨hc1, h1⟩ | ⟨hc1, h1⟩
  · rw [hc1]
    cbv
    cases h1
    try dsimp only at h0
    replace h0 := condT h0 rfl
    cases h0
    exact fin_ok hX rfl ⟨[], _, _, ⟨rfl, rfl⟩, rfl, rfl, rfl, rfl, by cbv; try simp⟩
  · rw [hc1]
    cbv
    obtain ⟨b13, hv, h1⟩ := bindS h1
    refine call_is hO hX (fn_recurrence_local hO hv) (by kernel_rfl) [] rfl trivial rfl ?_
    cbv
    cases h1
    try dsimp only at h0
    rcases condS h0 with ⟨hc2, h0⟩ | ⟨hc2, h0⟩
    · rw [hc2]
      cbv
      cases h0
      exact fin_ok hX rfl ⟨[], _, _, ⟨rfl, rfl⟩, rfl, rfl, rfl, rfl, by cbv; try simp⟩
    · rw [hc2]
      cbv
      cases h0
      exact fin_ok hX rfl ⟨[], _, _, ⟨rfl, rfl⟩, rfl, rfl, rfl, rfl, by cbv; try simp⟩
set_option maxHeartbeats 40000000 in
theorem fn_integer_Floor {O0 : Ops} (hO0 : O0 = std) {a_1 : Int} {b_1 : Int} {r1 : Int} (h : m_integer_Floor O0 a_1 b_1 = some r1) :
    Fn Try.prog 22 [.c (.int .i64 a_1), .c (.int .i64 b_1)] [] (fun v c => v = .c (.int .i64 r1) ∧ c = []) := by
  refine fn_run tab_holds eqs_holds mixed [] Try.func22 (by kernel_rfl) (by kernel_rfl) (Nat.le_of_ble_eq_true rfl) ?_
  intro O X hO hX
  rw [hO0, ← hO] at h
  unfold m_integer_Floor at h
  have h0 := h; clear h
  cbv
  obtain ⟨⟨n7, n8, n9⟩, hv, h0⟩ := bindS h0
  try dsimp only at h0
  refine call_is hO hX (fn_integer_Div hO hv) (by kernel_rfl) [] rfl trivial rfl ?_
  cbv
  cases h0
  exact fin_ok hX rfl ⟨[], _, _, ⟨rfl, rfl⟩, rfl, rfl, rfl, rfl, by cbv; try simp⟩
set_option maxHeartbeats 40000000 in
theorem fn_recurrence_weekday {O0 : Ops} (hO0 : O0 = std) {day_1 : Int} {r1 : Int} (h : m_recurrence_weekday O0 day_1 = some r1) :
    Fn Try.prog 81 [.c (.int .i64 day_1)] [] (fun v c => v = .c (.int .i64 r1) ∧ c = []) := by
  refine fn_run tab_holds eqs_holds mixed [] Try.func81 (by kernel_rfl) (by kernel_rfl) (Nat.le_of_ble_eq_true rfl) ?_
  intro O X hO hX
  rw [hO0, ← hO] at h
  unfold m_recurrence_weekday at h
  have h0 := h; clear h
  cbv
  obtain ⟨hg1, h0⟩ := grdS h0
  refine ⟨inr_of hO hg1, ?_⟩
  obtain ⟨n12, hv, h0⟩ := bindS h0
  refine call_is hO hX (fn_integer_Mod hO hv) (by kernel_rfl) [] rfl trivial rfl ?_
  cbv
  obtain ⟨hg2, h0⟩ := grdS h0
  refine ⟨inr_of hO hg2, ?_⟩
  cases h0
  exact fin_ok hX rfl ⟨[], _, _, ⟨rfl, rfl⟩, rfl, rfl, rfl, rfl, by cbv; try simp⟩
set_option maxHeartbeats 40000000 in
theorem fn_recurrence_week {O0 : Ops} (hO0 : O0 = std) {day_1 : Int} {start_1 : Int} {r1 : Int} (h : m_recurrence_week O0 day_1 start_1 = some r1) :
    Fn Try.prog 57 [.c (.int .i64 day_1), .c (.int .i64 start_1)] [] (fun v c => v = .c (.int .i64 r1) ∧ c = []) := by
  refine fn_run tab_holds eqs_holds mixed [] Try.func57 (by kernel_rfl) (by kernel_rfl) (Nat.le_of_ble_eq_true rfl) ?_
  intro O X hO hX
  rw [hO0, ← hO] at h
  unfold m_recurrence_week at h
  have h0 := h; clear h
  cbv
  obtain ⟨n13, hv, h0⟩ := bindS h0
  refine call_is hO hX (fn_recurrence_weekday hO hv) (by kernel_rfl) [] rfl trivial rfl ?_
  cbv
  obtain ⟨hg1, h0⟩ := grdS h0
  refine ⟨inr_of hO hg1, ?_⟩
  obtain ⟨n14, hv, h0⟩ := bindS h0
  refine call_is hO hX (fn_integer_Mod hO hv) (by kernel_rfl) [] rfl trivial rfl ?_
  cbv
  obtain ⟨hg2, h0⟩ := grdS h0
  refine ⟨inr_of hO hg2, ?_⟩
  cases h0
  exact fin_ok hX rfl ⟨[], _, _, ⟨rfl, rfl⟩, rfl, rfl, rfl, rfl, by cbv; try simp⟩
set_option maxHeartbeats 40000000 in
theorem fn_civil_inside {O0 : Ops} (hO0 : O0 = std) {day_1 : Int} {r1 : Bool} (h : m_civil_inside O0 day_1 = some r1) :
    Fn Try.prog 46 [.c (.int .i64 day_1)] [] (fun v c => v = .c (.bool r1) ∧ c = []) := by
  refine fn_run tab_holds eqs_holds mixed [] Try.func46 (by kernel_rfl) (by kernel_rfl) (Nat.le_of_ble_eq_true rfl) ?_
  intro O X hO hX
  rw [hO0, ← hO] at h
  unfold m_civil_inside at h
  have h0 := h; clear h
  cbv
  obtain ⟨x83, h1, h0⟩ := bindS h0
  rcases condS h1 with ⟨hc1, h1⟩ | ⟨hc1, h1⟩
  · rw [hc1]
    cbv
    cases h1
    try dsimp only at h0
    cases h0
    exact fin_ok hX rfl ⟨[], _, _, ⟨rfl, rfl⟩, rfl, rfl, rfl, rfl, by cbv; try simp⟩
  · rw [hc1]
    cbv
    cases h1
    try dsimp only at h0
    cases h0
    exact fin_ok hX rfl ⟨[], _, _, ⟨rfl, rfl⟩, rfl, rfl, rfl, rfl, by cbv; try simp⟩
set_option maxHeartbeats 40000000 in
theorem fn_civil_count {O0 : Ops} (hO0 : O0 = std) {y_1 : Int} {m_1 : Int} {d_1 : Int} {r1 : Int} (h : m_civil_count O0 y_1 m_1 d_1 = some r1) :
    Fn Try.prog 47 [.c (.int .i64 y_1), .c (.int .i64 m_1), .c (.int .i64 d_1)] [] (fun v c => v = .c (.int .i64 r1) ∧ c = []) := by
  refine fn_run tab_holds eqs_holds mixed [] Try.func47 (by kernel_rfl) (by kernel_rfl) (Nat.le_of_ble_eq_true rfl) ?_
  intro O X hO hX
  rw [hO0, ← hO] at h
  unfold m_civil_count at h
  have h0 := h; clear h
  cbv
  obtain ⟨⟨y3, m2⟩, h1, h0⟩ := bindS h0
  rcases condS h1 with ⟨hc1, h1⟩ | ⟨hc1, h1⟩
  · rw [hc1]
    cbv
    obtain ⟨hg2, h1⟩ := grdS h1
    refine ⟨inr_of hO hg2, ?_⟩
    obtain ⟨hg3, h1⟩ := grdS h1
    refine ⟨inr_of hO hg3, ?_⟩
    cases h1
    try dsimp only at h0
    obtain ⟨hg4, h0⟩ := grdS h0
    refine ⟨inr_of hO hg4, ?_⟩
    obtain ⟨hg5, h0⟩ := grdS h0
    refine ⟨nz_of hO hg5, ?_⟩
    obtain ⟨hg6, h0⟩ := grdS h0
    refine ⟨inr_of hO hg6, ?_⟩
    obtain ⟨hg7, h0⟩ := grdS h0
    refine ⟨inr_of hO hg7, ?_⟩
    obtain ⟨hg8, h0⟩ := grdS h0
    refine ⟨nz_of hO hg8, ?_⟩
    obtain ⟨hg9, h0⟩ := grdS h0
    refine ⟨inr_of hO hg9, ?_⟩
    obtain ⟨hg10, h0⟩ := grdS h0
    refine ⟨inr_of hO hg10, ?_⟩
    obtain ⟨hg11, h0⟩ := grdS h0
    refine ⟨nz_of hO hg11, ?_⟩
    obtain ⟨hg12, h0⟩ := grdS h0
    refine ⟨inr_of hO hg12, ?_⟩
    obtain ⟨hg13, h0⟩ := grdS h0
    refine ⟨inr_of hO hg13, ?_⟩
    obtain ⟨hg14, h0⟩ := grdS h0
    refine ⟨inr_of hO hg14, ?_⟩
    obtain ⟨hg15, h0⟩ := grdS h0
    refine ⟨inr_of hO hg15, ?_⟩
    obtain ⟨hg16, h0⟩ := grdS h0
    refine ⟨inr_of hO hg16, ?_⟩
    obtain ⟨hg17, h0⟩ := grdS h0
    refine ⟨nz_of hO hg17, ?_⟩
    obtain ⟨hg18, h0⟩ := grdS h0
    refine ⟨inr_of hO hg18, ?_⟩
    obtain ⟨hg19, h0⟩ := grdS h0
    refine ⟨inr_of hO hg19, ?_⟩
    obtain ⟨hg20, h0⟩ := grdS h0
    refine ⟨inr_of hO hg20, ?_⟩
    obtain ⟨hg21, h0⟩ := grdS h0
    refine ⟨inr_of hO hg21, ?_⟩
    obtain ⟨hg22, h0⟩ := grdS h0
    refine ⟨inr_of hO hg22, ?_⟩
    cases h0
    exact fin_ok hX rfl ⟨[], _, _, ⟨rfl, rfl⟩, rfl, rfl, rfl, rfl, by cbv; try simp⟩
  · rw [hc1]
    cbv
    cases h1
    try dsimp only at h0
    obtain ⟨hg23, h0⟩ := grdS h0
    refine ⟨inr_of hO hg23, ?_⟩
    obtain ⟨hg24, h0⟩ := grdS h0
    refine ⟨nz_of hO hg24, ?_⟩
    obtain ⟨hg25, h0⟩ := grdS h0
    refine ⟨inr_of hO hg25, ?_⟩
    obtain ⟨hg26, h0⟩ := grdS h0
    refine ⟨inr_of hO hg26, ?_⟩
    obtain ⟨hg27, h0⟩ := grdS h0
    refine ⟨nz_of hO hg27, ?_⟩
    obtain ⟨hg28, h0⟩ := grdS h0
    refine ⟨inr_of hO hg28, ?_⟩
    obtain ⟨hg29, h0⟩ := grdS h0
    refine ⟨inr_of hO hg29, ?_⟩
    obtain ⟨hg30, h0⟩ := grdS h0
    refine ⟨nz_of hO hg30, ?_⟩
    obtain ⟨hg31, h0⟩ := grdS h0
    refine ⟨inr_of hO hg31, ?_⟩
    obtain ⟨hg32, h0⟩ := grdS h0
    refine ⟨inr_of hO hg32, ?_⟩
    obtain ⟨hg33, h0⟩ := grdS h0
    refine ⟨inr_of hO hg33, ?_⟩
    obtain ⟨hg34, h0⟩ := grdS h0
    refine ⟨inr_of hO hg34, ?_⟩
    obtain ⟨hg35, h0⟩ := grdS h0
    refine ⟨inr_of hO hg35, ?_⟩
    obtain ⟨hg36, h0⟩ := grdS h0
    refine ⟨nz_of hO hg36, ?_⟩
    obtain ⟨hg37, h0⟩ := grdS h0
    refine ⟨inr_of hO hg37, ?_⟩
    obtain ⟨hg38, h0⟩ := grdS h0
    refine ⟨inr_of hO hg38, ?_⟩
    obtain ⟨hg39, h0⟩ := grdS h0
    refine ⟨inr_of hO hg39, ?_⟩
    obtain ⟨hg40, h0⟩ := grdS h0
    refine ⟨inr_of hO hg40, ?_⟩
    obtain ⟨hg41, h0⟩ := grdS h0
    refine ⟨inr_of hO hg41, ?_⟩
    cases h0
    exact fin_ok hX rfl ⟨[], _, _, ⟨rfl, rfl⟩, rfl, rfl, rfl, rfl, by cbv; try simp⟩
set_option maxHeartbeats 40000000 in
theorem fn_civil_Date {O0 : Ops} (hO0 : O0 = std) {day_1 : Int} {r1 : Int} {r2 : Int} {r3 : Int} {r4 : Int} (h : m_civil_Date O0 day_1 = some (r1, r2, r3, r4)) :
    Fn Try.prog 21 [.c (.int .i64 day_1)] [] (fun v c => v = .tup [.many [.int .i64 r1, .int .i64 r2, .int .i64 r3], .one (.int .i64 r4)] ∧ c = []) := by
  refine fn_run tab_holds eqs_holds mixed [] Try.func21 (by kernel_rfl) (by kernel_rfl) (Nat.le_of_ble_eq_true rfl) ?_
  intro O X hO hX
  rw [hO0, ← hO] at h
  unfold m_civil_Date at h
  have h0 := h; clear h
  cbv
  obtain ⟨b15, hv, h0⟩ := bindS h0
  refine call_is hO hX (fn_civil_inside hO hv) (by kernel_rfl) [] rfl trivial rfl ?_
  cbv
  rcases condS h0 with ⟨hc1, h0⟩ | ⟨hc1, h0⟩
  · rw [hc1]
    cbv
    cases h0
    exact fin_ok hX rfl ⟨[], _, _, ⟨rfl, rfl⟩, rfl, rfl, rfl, rfl, by cbv; try simp⟩
  · rw [hc1]
    cbv
    obtain ⟨hg2, h0⟩ := grdS h0
    refine ⟨inr_of hO hg2, ?_⟩
    obtain ⟨hg3, h0⟩ := grdS h0
    refine ⟨nz_of hO hg3, ?_⟩
    obtain ⟨hg4, h0⟩ := grdS h0
    refine ⟨inr_of hO hg4, ?_⟩
    obtain ⟨hg5, h0⟩ := grdS h0
    refine ⟨inr_of hO hg5, ?_⟩
    obtain ⟨y4, hi, h0⟩ := bindS h0
    obtain ⟨I1, hI1, hi⟩ := loopS hi
    refine loop1 tab_holds eqs_holds mixed [] hO hX I1 (fun y => [(4, .c (.int .i64 y.2))]) (fun _ => []) (fun y => y.1) _ (by kernel_rfl) hi (by cbv; try simp) ?_
    refine allp ?_
    intro n1
    intro y1 hi
    cbv
    rw [hI1] at hi
    obtain ⟨n1, rfl, x1, h1, hi1⟩ := iterS hi
    unfold m_civil_Date_L1 at h1
    try dsimp only at h1
    obtain ⟨x85, h2, h1⟩ := bindS h1
    rcases condS h2 with ⟨hc6, h2⟩ | ⟨hc6, h2⟩
    · rw [hc6]
      cbv
      obtain ⟨hg7, h2⟩ := grdS h2
      refine ⟨inr_of hO hg7, ?_⟩
      obtain ⟨n19, hv, h2⟩ := bindS h2
      refine call_is hO hX (fn_civil_count hO hv) (by kernel_rfl) [] rfl trivial rfl ?_
      cbv
      cases h2
      try dsimp only at h1
      rcases condS h1 with ⟨hc8, h1⟩ | ⟨hc8, h1⟩
      · rw [hc8]
        cbv
        obtain ⟨hg9, h1⟩ := grdS h1
        refine ⟨inr_of hO hg9, ?_⟩
        cases h1
        exact ⟨_, [0], nextI hI1 hi1, by cbv; try simp, by first | exact Nat.lt_succ_self _ | omega⟩
      · rw [hc8]
        cbv
        cases h1
        cases exitI hi1
        try dsimp only at h0
        obtain ⟨m4, hi, h0⟩ := bindS h0
        obtain ⟨I2, hI2, hi⟩ := loopS hi
        refine loop1 tab_holds eqs_holds mixed [] hO hX I2 (fun y => [(5, .c (.int .i64 y.2))]) (fun _ => []) (fun y => y.1) _ (by kernel_rfl) hi (by cbv; try simp) ?_
        refine allp ?_
        intro n2
        intro m3 hi
        cbv
        rw [hI2] at hi
        obtain ⟨n2, rfl, x2, h1, hi2⟩ := iterS hi
        unfold m_civil_Date_L2 at h1
        try dsimp only at h1
        obtain ⟨x87, h2, h1⟩ := bindS h1
        rcases condS h2 with ⟨hc10, h2⟩ | ⟨hc10, h2⟩
        · rw [hc10]
          cbv
          obtain ⟨hg11, h2⟩ := grdS h2
          refine ⟨inr_of hO hg11, ?_⟩
          obtain ⟨n20, hv, h2⟩ := bindS h2
          refine call_is hO hX (fn_civil_count hO hv) (by kernel_rfl) [] rfl trivial rfl ?_
          cbv
          cases h2
          try dsimp only at h1
          rcases condS h1 with ⟨hc12, h1⟩ | ⟨hc12, h1⟩
          · rw [hc12]
            cbv
            obtain ⟨hg13, h1⟩ := grdS h1
            refine ⟨inr_of hO hg13, ?_⟩
            cases h1
            exact ⟨_, [0], nextI hI2 hi2, by cbv; try simp, by first | exact Nat.lt_succ_self _ | omega⟩
          · rw [hc12]
            cbv
            cases h1
            cases exitI hi2
            try dsimp only at h0
            obtain ⟨n21, hv, h0⟩ := bindS h0
            refine call_is hO hX (fn_civil_count hO hv) (by kernel_rfl) [] rfl trivial rfl ?_
            cbv
            obtain ⟨hg14, h0⟩ := grdS h0
            refine ⟨inr_of hO hg14, ?_⟩
            obtain ⟨hg15, h0⟩ := grdS h0
            refine ⟨inr_of hO hg15, ?_⟩
            cases h0
            exact fin_ok hX rfl ⟨[], _, _, ⟨rfl, rfl⟩, rfl, rfl, rfl, rfl, by cbv; try simp⟩
        · rw [hc10]
          cbv
          cases h2
          try dsimp only at h1
          replace h1 := condF h1 rfl
          cases h1
          cases exitI hi2
          try dsimp only at h0
          obtain ⟨n21, hv, h0⟩ := bindS h0
          refine call_is hO hX (fn_civil_count hO hv) (by kernel_rfl) [] rfl trivial rfl ?_
          cbv
          obtain ⟨hg16, h0⟩ := grdS h0
          refine ⟨inr_of hO hg16, ?_⟩
          obtain ⟨hg17, h0⟩ := grdS h0
          refine ⟨inr_of hO hg17, ?_⟩
          cases h0
          exact fin_ok hX rfl ⟨[], _, _, ⟨rfl, rfl⟩, rfl, rfl, rfl, rfl, by cbv; try simp⟩
    · rw [hc6]
      cbv
      cases h2
      try dsimp only at h1
      replace h1 := condF h1 rfl
      cases h1
      cases exitI hi1
      try dsimp only at h0
      obtain ⟨m4, hi, h0⟩ := bindS h0
      obtain ⟨I2, hI2, hi⟩ := loopS hi
      refine loop1 tab_holds eqs_holds mixed [] hO hX I2 (fun y => [(5, .c (.int .i64 y.2))]) (fun _ => []) (fun y => y.1) _ (by kernel_rfl) hi (by cbv; try simp) ?_
      refine allp ?_
      intro n2
      intro m3 hi
      cbv
      rw [hI2] at hi
      obtain ⟨n2, rfl, x2, h1, hi2⟩ := iterS hi
      unfold m_civil_Date_L2 at h1
      try dsimp only at h1
      obtain ⟨x87, h2, h1⟩ := bindS h1
      rcases condS h2 with ⟨hc18, h2⟩ | ⟨hc18, h2⟩
      · rw [hc18]
        cbv
        obtain ⟨hg19, h2⟩ := grdS h2
        refine ⟨inr_of hO hg19, ?_⟩
        obtain ⟨n20, hv, h2⟩ := bindS h2
        refine call_is hO hX (fn_civil_count hO hv) (by kernel_rfl) [] rfl trivial rfl ?_
        cbv
        cases h2
        try dsimp only at h1
        rcases condS h1 with ⟨hc20, h1⟩ | ⟨hc20, h1⟩
        · rw [hc20]
          cbv
          obtain ⟨hg21, h1⟩ := grdS h1
          refine ⟨inr_of hO hg21, ?_⟩
          cases h1
          exact ⟨_, [0], nextI hI2 hi2, by cbv; try simp, by first | exact Nat.lt_succ_self _ | omega⟩
        · rw [hc20]
          cbv
          cases h1
          cases exitI hi2
          try dsimp only at h0
          obtain ⟨n21, hv, h0⟩ := bindS h0
          refine call_is hO hX (fn_civil_count hO hv) (by kernel_rfl) [] rfl trivial rfl ?_
          cbv
          obtain ⟨hg22, h0⟩ := grdS h0
          refine ⟨inr_of hO hg22, ?_⟩
          obtain ⟨hg23, h0⟩ := grdS h0
          refine ⟨inr_of hO hg23, ?_⟩
          cases h0
          exact fin_ok hX rfl ⟨[], _, _, ⟨rfl, rfl⟩, rfl, rfl, rfl, rfl, by cbv; try simp⟩
      · rw [hc18]
        cbv
        cases h2
        try dsimp only at h1
        replace h1 := condF h1 rfl
        cases h1
        cases exitI hi2
        try dsimp only at h0
        obtain ⟨n21, hv, h0⟩ := bindS h0
        refine call_is hO hX (fn_civil_count hO hv) (by kernel_rfl) [] rfl trivial rfl ?_
        cbv
        obtain ⟨hg24, h0⟩ := grdS h0
        refine ⟨inr_of hO hg24, ?_⟩
        obtain ⟨hg25, h0⟩ := grdS h0
        refine ⟨inr_of hO hg25, ?_⟩
        cases h0
        exact fin_ok hX rfl ⟨[], _, _, ⟨rfl, rfl⟩, rfl, rfl, rfl, rfl, by cbv; try simp⟩
set_option maxHeartbeats 40000000 in
theorem fn_recurrence_newYear {O0 : Ops} (hO0 : O0 = std) {year_1 : Int} {r1 : Int} (h : m_recurrence_newYear O0 year_1 = some r1) :
    Fn Try.prog 62 [.c (.int .i64 year_1)] [] (fun v c => v = .c (.int .i64 r1) ∧ c = []) := by
  refine fn_run tab_holds eqs_holds mixed [] Try.func62 (by kernel_rfl) (by kernel_rfl) (Nat.le_of_ble_eq_true rfl) ?_
  intro O X hO hX
  rw [hO0, ← hO] at h
  unfold m_recurrence_newYear at h
  have h0 := h; clear h
  cbv
  obtain ⟨hg1, h0⟩ := grdS h0
  refine ⟨inr_of hO hg1, ?_⟩
  obtain ⟨hg2, h0⟩ := grdS h0
  refine ⟨inr_of hO hg2, ?_⟩
  obtain ⟨hg3, h0⟩ := grdS h0
  refine ⟨inr_of hO hg3, ?_⟩
  obtain ⟨n26, hv, h0⟩ := bindS h0
  refine call_is hO hX (fn_integer_Floor hO hv) (by kernel_rfl) [] rfl trivial rfl ?_
  cbv
  obtain ⟨hg4, h0⟩ := grdS h0
  refine ⟨inr_of hO hg4, ?_⟩
  obtain ⟨n27, hv, h0⟩ := bindS h0
  refine call_is hO hX (fn_integer_Floor hO hv) (by kernel_rfl) [] rfl trivial rfl ?_
  cbv
  obtain ⟨hg5, h0⟩ := grdS h0
  refine ⟨inr_of hO hg5, ?_⟩
  obtain ⟨n28, hv, h0⟩ := bindS h0
  refine call_is hO hX (fn_integer_Floor hO hv) (by kernel_rfl) [] rfl trivial rfl ?_
  cbv
  obtain ⟨hg6, h0⟩ := grdS h0
  refine ⟨inr_of hO hg6, ?_⟩
  cases h0
  exact fin_ok hX rfl ⟨[], _, _, ⟨rfl, rfl⟩, rfl, rfl, rfl, rfl, by cbv; try simp⟩
set_option maxHeartbeats 40000000 in
theorem fn_recurrence_weekYear {O0 : Ops} (hO0 : O0 = std) {day_1 : Int} {start_1 : Int} {r1 : Int} (h : m_recurrence_weekYear O0 day_1 start_1 = some r1) :
    Fn Try.prog 58 [.c (.int .i64 day_1), .c (.int .i64 start_1)] [] (fun v c => v = .c (.int .i64 r1) ∧ c = []) := by
  refine fn_run tab_holds eqs_holds mixed [] Try.func58 (by kernel_rfl) (by kernel_rfl) (Nat.le_of_ble_eq_true rfl) ?_
  intro O X hO hX
  rw [hO0, ← hO] at h
  unfold m_recurrence_weekYear at h
  have h0 := h; clear h
  cbv
  obtain ⟨n18, hv, h0⟩ := bindS h0
  refine call_is hO hX (fn_recurrence_week hO hv) (by kernel_rfl) [] rfl trivial rfl ?_
  cbv
  obtain ⟨hg1, h0⟩ := grdS h0
  refine ⟨inr_of hO hg1, ?_⟩
  obtain ⟨⟨n22, n23, n24, n25⟩, hv, h0⟩ := bindS h0
  try dsimp only at h0
  refine call_is hO hX (fn_civil_Date hO hv) (by kernel_rfl) [] rfl trivial rfl ?_
  cbv
  obtain ⟨n29, hv, h0⟩ := bindS h0
  refine call_is hO hX (fn_recurrence_newYear hO hv) (by kernel_rfl) [] rfl trivial rfl ?_
  cbv
  obtain ⟨x91, h1, h0⟩ := bindS h0
  rcases condS h1 with ⟨hc2, h1⟩ | ⟨hc2, h1⟩
  · rw [hc2]
    cbv
    obtain ⟨hg3, h1⟩ := grdS h1
    refine ⟨inr_of hO hg3, ?_⟩
    cases h1
    try dsimp only at h0
    cases h0
    exact fin_ok hX rfl ⟨[], _, _, ⟨rfl, rfl⟩, rfl, rfl, rfl, rfl, by cbv; try simp⟩
  · rw [hc2]
    cbv
    obtain ⟨hg4, h1⟩ := grdS h1
    refine ⟨inr_of hO hg4, ?_⟩
    obtain ⟨n30, hv, h1⟩ := bindS h1
    refine call_is hO hX (fn_recurrence_newYear hO hv) (by kernel_rfl) [] rfl trivial rfl ?_
    cbv
    obtain ⟨x89, h2, h1⟩ := bindS h1
    rcases condS h2 with ⟨hc5, h2⟩ | ⟨hc5, h2⟩
    · rw [hc5]
      cbv
      cases h2
      try dsimp only at h1
      cases h1
      try dsimp only at h0
      refine ⟨inr_of hO hg4, ?_⟩
      cases h0
      exact fin_ok hX rfl ⟨[], _, _, ⟨rfl, rfl⟩, rfl, rfl, rfl, rfl, by cbv; try simp⟩
    · rw [hc5]
      cbv
      cases h2
      try dsimp only at h1
      cases h1
      try dsimp only at h0
      cases h0
      exact fin_ok hX rfl ⟨[], _, _, ⟨rfl, rfl⟩, rfl, rfl, rfl, rfl, by cbv; try simp⟩
set_option maxHeartbeats 40000000 in
theorem fn_recurrence_number {O0 : Ops} (hO0 : O0 = std) {r_1 : Int} {r_2 : Int} {r_3 : Int} {r_4 : Int} {r_5 : Int} {l_1 : Int} {r_6 : List Int} {r_7 : List Int} {r_8 : List Int} {r_9 : List Int} {r_10 : List (Int × Int)} {r_11 : List Int} {r_12 : List Int} {r_13 : List Int} {r_14 : List Int} {r1 : Int} (h : m_recurrence_number O0 r_1 r_2 r_3 r_4 r_5 l_1 r_6 r_7 r_8 r_9 r_10 r_11 r_12 r_13 r_14 = some r1) :
    Fn Try.prog 33 [.agg [.int .i64 r_1, .int .i64 r_2, .int .i64 r_3, .int .i64 r_4, .sl 0, .sl 1, .sl 2, .sl 3, .sl 4, .sl 5, .sl 6, .sl 7, .sl 8, .int .i64 r_5], .c (.int .i64 l_1)] [.arr false .i1 r_6, .arr false .i1 r_7, .arr false .i1 r_8, .arr false .i1 r_9, .arr false .i2 r_10, .arr false .i1 r_11, .arr false .i1 r_12, .arr false .i1 r_13, .arr false .i1 r_14] (fun v c => v = .c (.int .i64 r1) ∧ c = []) := by
  refine fn_run tab_holds eqs_holds mixed [] Try.func33 (by kernel_rfl) (by kernel_rfl) (Nat.le_of_ble_eq_true rfl) ?_
  intro O X hO hX
  rw [hO0, ← hO] at h
  unfold m_recurrence_number at h
  have h0 := h; clear h
  cbv
  obtain ⟨n11, hv, h0⟩ := bindS h0
  refine call_is hO hX (fn_integer_Floor hO hv) (by kernel_rfl) [] rfl trivial rfl ?_
  cbv
  obtain ⟨e1, h1, h0⟩ := bindS h0
  rcases condS h1 with ⟨hc1, h1⟩ | ⟨hc1, h1⟩
  · rw [hc1]
    cbv
    obtain ⟨n15, hv, h1⟩ := bindS h1
    refine call_is hO hX (fn_recurrence_week hO hv) (by kernel_rfl) [] rfl trivial rfl ?_
    cbv
    obtain ⟨n16, hv, h1⟩ := bindS h1
    refine call_is hO hX (fn_integer_Floor hO hv) (by kernel_rfl) [] rfl trivial rfl ?_
    cbv
    cases h1
    try dsimp only at h0
    cases h0
    exact fin_ok hX rfl ⟨[], _, _, ⟨rfl, rfl⟩, rfl, rfl, rfl, rfl, by cbv; try simp⟩
  · rw [hc1]
    cbv
    obtain ⟨e2, h2, h1⟩ := bindS h1
    rcases condS h2 with ⟨hc2, h2⟩ | ⟨hc2, h2⟩
    · rw [hc2]
      cbv
      cases h2
      try dsimp only at h1
      cases h1
      try dsimp only at h0
      cases h0
      exact fin_ok hX rfl ⟨[], _, _, ⟨rfl, rfl⟩, rfl, rfl, rfl, rfl, by cbv; try simp⟩
    · rw [hc2]
      cbv
      rcases condS h2 with ⟨hc3, h2⟩ | ⟨hc3, h2⟩
      · rw [hc3]
        cbv
        obtain ⟨n17, hv, h2⟩ := bindS h2
        refine call_is hO hX (fn_integer_Floor hO hv) (by kernel_rfl) [] rfl trivial rfl ?_
        cbv
        cases h2
        try dsimp only at h1
        cases h1
        try dsimp only at h0
        cases h0
        exact fin_ok hX rfl ⟨[], _, _, ⟨rfl, rfl⟩, rfl, rfl, rfl, rfl, by cbv; try simp⟩
      · rw [hc3]
        cbv
        cases h2
        try dsimp only at h1
        cases h1
        try dsimp only at h0
        obtain ⟨x81, h1, h0⟩ := bindS h0
        rcases condS h1 with ⟨hc4, h1⟩ | ⟨hc4, h1⟩
        · rw [hc4]
          cbv
          cases h1
          try dsimp only at h0
          rcases condS h0 with ⟨hc5, h0⟩ | ⟨hc5, h0⟩
          · rw [hc5]
            cbv
            obtain ⟨n31, hv, h0⟩ := bindS h0
            refine call_is hO hX (fn_recurrence_weekYear hO hv) (by kernel_rfl) [] rfl trivial rfl ?_
            cbv
            cases h0
            exact fin_ok hX rfl ⟨[], _, _, ⟨rfl, rfl⟩, rfl, rfl, rfl, rfl, by cbv; try simp⟩
          · rw [hc5]
            cbv
            obtain ⟨⟨n32, n33, n34, n35⟩, hv, h0⟩ := bindS h0
            try dsimp only at h0
            refine call_is hO hX (fn_civil_Date hO hv) (by kernel_rfl) [] rfl trivial rfl ?_
            cbv
            try (rw [hc4]; cbv)
            replace h0 := condT h0 hc4
            cases h0
            exact fin_ok hX rfl ⟨[], _, _, ⟨rfl, rfl⟩, rfl, rfl, rfl, rfl, by cbv; try simp⟩
        · rw [hc4]
          cbv
          cases h1
          try dsimp only at h0
          replace h0 := condF h0 rfl
          obtain ⟨⟨n32, n33, n34, n35⟩, hv, h0⟩ := bindS h0
          try dsimp only at h0
          refine call_is hO hX (fn_civil_Date hO hv) (by kernel_rfl) [] rfl trivial rfl ?_
          cbv
          try (rw [hc4]; cbv)
          replace h0 := condF h0 hc4
          obtain ⟨hg6, h0⟩ := grdS h0
          refine ⟨inr_of hO hg6, ?_⟩
          obtain ⟨hg7, h0⟩ := grdS h0
          refine ⟨inr_of hO hg7, ?_⟩
          cases h0
          exact fin_ok hX rfl ⟨[], _, _, ⟨rfl, rfl⟩, rfl, rfl, rfl, rfl, by cbv; try simp⟩
set_option maxHeartbeats 40000000 in
theorem fn_slices_Index {O0 : Ops} (hO0 : O0 = std) {v_1 : Int} {s_1 : List Int} {r1 : Int} (h : m_slices_Index O0 v_1 s_1 = some r1) :
    Fn Try.prog 56 [.c (.sl 0), .c (.int .i64 v_1)] [.arr false .i1 s_1] (fun v c => v = .c (.int .i64 r1) ∧ c = []) := by
  refine fn_run tab_holds eqs_holds mixed [] Try.func56 (by kernel_rfl) (by kernel_rfl) (Nat.le_of_ble_eq_true rfl) ?_
  intro O X hO hX
  rw [hO0, ← hO] at h
  unfold m_slices_Index at h
  have h0 := h; clear h
  cbv
  obtain ⟨e1, hi, h0⟩ := bindS h0
  obtain ⟨I1, hI1, hi⟩ := loopS hi
  refine loop1 tab_holds eqs_holds mixed [] hO hX I1 (fun y => [(8, .c (.int .i64 y.2))]) (fun _ => []) (fun y => y.1) _ (by kernel_rfl) hi (by cbv; try simp) ?_
  refine allp ?_
  intro n1
  intro x95 hi
  cbv
  rw [hI1] at hi
  obtain ⟨n1, rfl, x1, h1, hi1⟩ := iterS hi
  unfold m_slices_Index_L1 at h1
  try dsimp only at h1
  rcases condS h1 with ⟨hc1, h1⟩ | ⟨hc1, h1⟩
  · rw [hc1]
    cbv
    obtain ⟨hg2, h1⟩ := grdS h1
    refine ⟨idx_of hO hg2, ?_⟩
    obtain ⟨hg3, h1⟩ := grdS h1
    refine ⟨kin_of hO hg3, ?_⟩
    rcases condS h1 with ⟨hc4, h1⟩ | ⟨hc4, h1⟩
    · rw [hc4]
      cbv
      cases h1
      cases exitI hi1
      try dsimp only at h0
      cases h0
      exact fin_ok hX rfl ⟨[], _, _, ⟨rfl, rfl⟩, rfl, rfl, rfl, rfl, by cbv; try simp⟩
    · rw [hc4]
      cbv
      obtain ⟨hg5, h1⟩ := grdS h1
      refine ⟨inr_of hO hg5, ?_⟩
      cases h1
      exact ⟨_, [0], nextI hI1 hi1, by cbv; try simp, by first | exact Nat.lt_succ_self _ | omega⟩
  · rw [hc1]
    cbv
    cases h1
    cases exitI hi1
    try dsimp only at h0
    cases h0
    exact fin_ok hX rfl ⟨[], _, _, ⟨rfl, rfl⟩, rfl, rfl, rfl, rfl, by cbv; try simp⟩
end Go.Proofs.Ytmnhfaaaaejpaaa
