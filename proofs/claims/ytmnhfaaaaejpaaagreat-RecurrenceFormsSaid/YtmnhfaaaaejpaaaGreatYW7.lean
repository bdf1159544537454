/-
  The code does what its models say (printed by lift.py).
  The code does what its models say (printed by lift.py).
  The code does what its models say (printed by lift.py).
  The code does what its models say (printed by lift.py).
  The code does what its models say (printed by lift.py).
  The code does what its models say (printed by lift.py).
  The code does what its models say (printed by lift.py).
  The code does what its models say (printed by lift.py).
  The code does what its models say (printed by lift.py).
  The code does what its models say (printed by lift.py).
  The code does what its models say (printed by lift.py).
-/
import Derived.Test.YtmnhfaaaaejpaaaGreatYM
import Derived.Test.YtmnhfaaaaejpaaaGreatManWL
import Derived.Test.YtmnhfaaaaejpaaaGreatYW0
namespace Go.Proofs.YtmnhfaaaaejpaaaGreat
open Go.RowKit
set_option maxRecDepth 100000

set_option maxHeartbeats 40000000 in
theorem fn_integer_Floor {O0 : Ops} (hO0 : O0 = std) {a_1 : Int} {b_1 : Int} {r1 : Int} (h : m_integer_Floor O0 a_1 b_1 = some r1) :
    Fn Tryz.prog 37 [.c (.int .i64 a_1), .c (.int .i64 b_1)] [] (fun v c => v = .c (.int .i64 r1) ∧ c = []) := by
  refine fn_run tab_holds eqs_holds mixed [] Tryz.func37 (by kernel_rfl) (by kernel_rfl) (Nat.le_of_ble_eq_true rfl) ?_
  intro O X hO hX
  rw [hO0, ← hO] at h
  unfold m_integer_Floor at h
  have h0 := h; clear h
  cbv
  obtain ⟨⟨n6, n7, n8⟩, hv, h0⟩ := bindS h0
  try dsimp only at h0
  refine call_is hO hX (fn_integer_Div hO hv) (by kernel_rfl) [] rfl trivial rfl ?_
  cbv
  cases h0
  exact fin_ok hX rfl ⟨[], _, _, ⟨rfl, rfl⟩, rfl, rfl, rfl, rfl, by cbv; try simp⟩
set_option maxHeartbeats 40000000 in
theorem fn_recurrence_newYear {O0 : Ops} (hO0 : O0 = std) {year_1 : Int} {r1 : Int} (h : m_recurrence_newYear O0 year_1 = some r1) :
    Fn Tryz.prog 60 [.c (.int .i64 year_1)] [] (fun v c => v = .c (.int .i64 r1) ∧ c = []) := by
  refine fn_run tab_holds eqs_holds mixed [] Tryz.func60 (by kernel_rfl) (by kernel_rfl) (Nat.le_of_ble_eq_true rfl) ?_
  intro O X hO hX
  rw [hO0, ← hO] at h
  unfold m_recurrence_newYear at h
  have h0 := h; clear h
  cbv
  obtain ⟨hg1, h0⟩ := grdS h0
  refine ⟨inr_of hO hg1, ?_⟩
  obtain ⟨hg2, h0⟩ := grdS h0
  refine ⟨inr_of hO hg2, ?_⟩
  obtain ⟨hg3, h0⟩ := grdS h0
  refine ⟨inr_of hO hg3, ?_⟩
  obtain ⟨n24, hv, h0⟩ := bindS h0
  refine call_is hO hX (fn_integer_Floor hO hv) (by kernel_rfl) [] rfl trivial rfl ?_
  cbv
  obtain ⟨hg4, h0⟩ := grdS h0
  refine ⟨inr_of hO hg4, ?_⟩
  obtain ⟨n25, hv, h0⟩ := bindS h0
  refine call_is hO hX (fn_integer_Floor hO hv) (by kernel_rfl) [] rfl trivial rfl ?_
  cbv
  obtain ⟨hg5, h0⟩ := grdS h0
  refine ⟨inr_of hO hg5, ?_⟩
  obtain ⟨n26, hv, h0⟩ := bindS h0
  refine call_is hO hX (fn_integer_Floor hO hv) (by kernel_rfl) [] rfl trivial rfl ?_
  cbv
  obtain ⟨hg6, h0⟩ := grdS h0
  refine ⟨inr_of hO hg6, ?_⟩
  cases h0
  exact fin_ok hX rfl ⟨[], _, _, ⟨rfl, rfl⟩, rfl, rfl, rfl, rfl, by cbv; try simp⟩
end Go.Proofs.YtmnhfaaaaejpaaaGreat
namespace Go.Proofs.YtmnhfaaaaejpaaaGreat
open Go.RowKit
set_option maxRecDepth 100000

set_option maxHeartbeats 40000000 in
theorem fn_recurrence_weekday {O0 : Ops} (hO0 : O0 = std) {day_1 : Int} {r1 : Int} (h : m_recurrence_weekday O0 day_1 = some r1) :
    Fn Tryz.prog 75 [.c (.int .i64 day_1)] [] (fun v c => v = .c (.int .i64 r1) ∧ c = []) := by
  refine fn_run tab_holds eqs_holds mixed [] Tryz.func75 (by kernel_rfl) (by kernel_rfl) (Nat.le_of_ble_eq_true rfl) ?_
  intro O X hO hX
  rw [hO0, ← hO] at h
  unfold m_recurrence_weekday at h
  have h0 := h; clear h
  cbv
  obtain ⟨hg1, h0⟩ := grdS h0
  refine ⟨inr_of hO hg1, ?_⟩
  obtain ⟨n10, hv, h0⟩ := bindS h0
  refine call_is hO hX (fn_integer_Mod hO hv) (by kernel_rfl) [] rfl trivial rfl ?_
  cbv
  obtain ⟨hg2, h0⟩ := grdS h0
  refine ⟨inr_of hO hg2, ?_⟩
  cases h0
  exact fin_ok hX rfl ⟨[], _, _, ⟨rfl, rfl⟩, rfl, rfl, rfl, rfl, by cbv; try simp⟩
set_option maxHeartbeats 40000000 in
theorem fn_recurrence_week {O0 : Ops} (hO0 : O0 = std) {day_1 : Int} {start_1 : Int} {r1 : Int} (h : m_recurrence_week O0 day_1 start_1 = some r1) :
    Fn Tryz.prog 55 [.c (.int .i64 day_1), .c (.int .i64 start_1)] [] (fun v c => v = .c (.int .i64 r1) ∧ c = []) := by
  refine fn_run tab_holds eqs_holds mixed [] Tryz.func55 (by kernel_rfl) (by kernel_rfl) (Nat.le_of_ble_eq_true rfl) ?_
  intro O X hO hX
  rw [hO0, ← hO] at h
  unfold m_recurrence_week at h
  have h0 := h; clear h
  cbv
  obtain ⟨n11, hv, h0⟩ := bindS h0
  refine call_is hO hX (fn_recurrence_weekday hO hv) (by kernel_rfl) [] rfl trivial rfl ?_
  cbv
  obtain ⟨hg1, h0⟩ := grdS h0
  refine ⟨inr_of hO hg1, ?_⟩
  obtain ⟨n12, hv, h0⟩ := bindS h0
  refine call_is hO hX (fn_integer_Mod hO hv) (by kernel_rfl) [] rfl trivial rfl ?_
  cbv
  obtain ⟨hg2, h0⟩ := grdS h0
  refine ⟨inr_of hO hg2, ?_⟩
  cases h0
  exact fin_ok hX rfl ⟨[], _, _, ⟨rfl, rfl⟩, rfl, rfl, rfl, rfl, by cbv; try simp⟩
end Go.Proofs.YtmnhfaaaaejpaaaGreat
namespace Go.Proofs.YtmnhfaaaaejpaaaGreat
open Go.RowKit
set_option maxRecDepth 100000

set_option maxHeartbeats 40000000 in
theorem fn_civil_inside {O0 : Ops} (hO0 : O0 = std) {day_1 : Int} {r1 : Bool} (h : m_civil_inside O0 day_1 = some r1) :
    Fn Tryz.prog 76 [.c (.int .i64 day_1)] [] (fun v c => v = .c (.bool r1) ∧ c = []) := by
  refine fn_run tab_holds eqs_holds mixed [] Tryz.func76 (by kernel_rfl) (by kernel_rfl) (Nat.le_of_ble_eq_true rfl) ?_
  intro O X hO hX
  rw [hO0, ← hO] at h
  unfold m_civil_inside at h
  have h0 := h; clear h
  cbv
  obtain ⟨x83, h1, h0⟩ := bindS h0
  rcases condS h1 with ⟨hc1, h1⟩ | ⟨hc1, h1⟩
  · rw [hc1]
    cbv
    cases h1
    try dsimp only at h0
    cases h0
    exact fin_ok hX rfl ⟨[], _, _, ⟨rfl, rfl⟩, rfl, rfl, rfl, rfl, by cbv; try simp⟩
  · rw [hc1]
    cbv
    cases h1
    try dsimp only at h0
    cases h0
    exact fin_ok hX rfl ⟨[], _, _, ⟨rfl, rfl⟩, rfl, rfl, rfl, rfl, by cbv; try simp⟩
set_option maxHeartbeats 40000000 in
theorem fn_civil_count {O0 : Ops} (hO0 : O0 = std) {y_1 : Int} {m_1 : Int} {d_1 : Int} {r1 : Int} (h : m_civil_count O0 y_1 m_1 d_1 = some r1) :
    Fn Tryz.prog 77 [.c (.int .i64 y_1), .c (.int .i64 m_1), .c (.int .i64 d_1)] [] (fun v c => v = .c (.int .i64 r1) ∧ c = []) := by
  refine fn_run tab_holds eqs_holds mixed [] Tryz.func77 (by kernel_rfl) (by kernel_rfl) (Nat.le_of_ble_eq_true rfl) ?_
  intro O X hO hX
  rw [hO0, ← hO] at h
  unfold m_civil_count at h
  have h0 := h; clear h
  cbv
  obtain ⟨⟨y3, m2⟩, h1, h0⟩ := bindS h0
  rcases condS h1 with ⟨hc1, h1⟩ | ⟨hc1, h1⟩
  · rw [hc1]
    cbv
    obtain ⟨hg2, h1⟩ := grdS h1
    refine ⟨inr_of hO hg2, ?_⟩
    obtain ⟨hg3, h1⟩ := grdS h1
    refine ⟨inr_of hO hg3, ?_⟩
    cases h1
    try dsimp only at h0
    obtain ⟨hg4, h0⟩ := grdS h0
    refine ⟨inr_of hO hg4, ?_⟩
    obtain ⟨hg5, h0⟩ := grdS h0
    refine ⟨nz_of hO hg5, ?_⟩
    obtain ⟨hg6, h0⟩ := grdS h0
    refine ⟨inr_of hO hg6, ?_⟩
    obtain ⟨hg7, h0⟩ := grdS h0
    refine ⟨inr_of hO hg7, ?_⟩
    obtain ⟨hg8, h0⟩ := grdS h0
    refine ⟨nz_of hO hg8, ?_⟩
    obtain ⟨hg9, h0⟩ := grdS h0
    refine ⟨inr_of hO hg9, ?_⟩
    obtain ⟨hg10, h0⟩ := grdS h0
    refine ⟨inr_of hO hg10, ?_⟩
    obtain ⟨hg11, h0⟩ := grdS h0
    refine ⟨nz_of hO hg11, ?_⟩
    obtain ⟨hg12, h0⟩ := grdS h0
    refine ⟨inr_of hO hg12, ?_⟩
    obtain ⟨hg13, h0⟩ := grdS h0
    refine ⟨inr_of hO hg13, ?_⟩
    obtain ⟨hg14, h0⟩ := grdS h0
    refine ⟨inr_of hO hg14, ?_⟩
    obtain ⟨hg15, h0⟩ := grdS h0
    refine ⟨inr_of hO hg15, ?_⟩
    obtain ⟨hg16, h0⟩ := grdS h0
    refine ⟨inr_of hO hg16, ?_⟩
    obtain ⟨hg17, h0⟩ := grdS h0
    refine ⟨nz_of hO hg17, ?_⟩
    obtain ⟨hg18, h0⟩ := grdS h0
    refine ⟨inr_of hO hg18, ?_⟩
    obtain ⟨hg19, h0⟩ := grdS h0
    refine ⟨inr_of hO hg19, ?_⟩
    obtain ⟨hg20, h0⟩ := grdS h0
    refine ⟨inr_of hO hg20, ?_⟩
    obtain ⟨hg21, h0⟩ := grdS h0
    refine ⟨inr_of hO hg21, ?_⟩
    obtain ⟨hg22, h0⟩ := grdS h0
    refine ⟨inr_of hO hg22, ?_⟩
    cases h0
    exact fin_ok hX rfl ⟨[], _, _, ⟨rfl, rfl⟩, rfl, rfl, rfl, rfl, by cbv; try simp⟩
  · rw [hc1]
    cbv
    cases h1
    try dsimp only at h0
    obtain ⟨hg23, h0⟩ := grdS h0
    refine ⟨inr_of hO hg23, ?_⟩
    obtain ⟨hg24, h0⟩ := grdS h0
    refine ⟨nz_of hO hg24, ?_⟩
    obtain ⟨hg25, h0⟩ := grdS h0
    refine ⟨inr_of hO hg25, ?_⟩
    obtain ⟨hg26, h0⟩ := grdS h0
    refine ⟨inr_of hO hg26, ?_⟩
    obtain ⟨hg27, h0⟩ := grdS h0
    refine ⟨nz_of hO hg27, ?_⟩
    obtain ⟨hg28, h0⟩ := grdS h0
    refine ⟨inr_of hO hg28, ?_⟩
    obtain ⟨hg29, h0⟩ := grdS h0
    refine ⟨inr_of hO hg29, ?_⟩
    obtain ⟨hg30, h0⟩ := grdS h0
    refine ⟨nz_of hO hg30, ?_⟩
    obtain ⟨hg31, h0⟩ := grdS h0
    refine ⟨inr_of hO hg31, ?_⟩
    obtain ⟨hg32, h0⟩ := grdS h0
    refine ⟨inr_of hO hg32, ?_⟩
    obtain ⟨hg33, h0⟩ := grdS h0
    refine ⟨inr_of hO hg33, ?_⟩
    obtain ⟨hg34, h0⟩ := grdS h0
    refine ⟨inr_of hO hg34, ?_⟩
    obtain ⟨hg35, h0⟩ := grdS h0
    refine ⟨inr_of hO hg35, ?_⟩
    obtain ⟨hg36, h0⟩ := grdS h0
    refine ⟨nz_of hO hg36, ?_⟩
    obtain ⟨hg37, h0⟩ := grdS h0
    refine ⟨inr_of hO hg37, ?_⟩
    obtain ⟨hg38, h0⟩ := grdS h0
    refine ⟨inr_of hO hg38, ?_⟩
    obtain ⟨hg39, h0⟩ := grdS h0
    refine ⟨inr_of hO hg39, ?_⟩
    obtain ⟨hg40, h0⟩ := grdS h0
    refine ⟨inr_of hO hg40, ?_⟩
    obtain ⟨hg41, h0⟩ := grdS h0
    refine ⟨inr_of hO hg41, ?_⟩
    cases h0
    exact fin_ok hX rfl ⟨[], _, _, ⟨rfl, rfl⟩, rfl, rfl, rfl, rfl, by cbv; try simp⟩
set_option maxHeartbeats 40000000 in
theorem fn_civil_Date {O0 : Ops} (hO0 : O0 = std) {day_1 : Int} {r1 : Int} {r2 : Int} {r3 : Int} {r4 : Int} (h : m_civil_Date O0 day_1 = some (r1, r2, r3, r4)) :
    Fn Tryz.prog 57 [.c (.int .i64 day_1)] [] (fun v c => v = .tup [.many [.int .i64 r1, .int .i64 r2, .int .i64 r3], .one (.int .i64 r4)] ∧ c = []) := by
  refine fn_run tab_holds eqs_holds mixed [] Tryz.func57 (by kernel_rfl) (by kernel_rfl) (Nat.le_of_ble_eq_true rfl) ?_
  intro O X hO hX
  rw [hO0, ← hO] at h
  unfold m_civil_Date at h
  have h0 := h; clear h
  cbv
  obtain ⟨b14, hv, h0⟩ := bindS h0
  refine call_is hO hX (fn_civil_inside hO hv) (by kernel_rfl) [] rfl trivial rfl ?_
  cbv
  rcases condS h0 with ⟨hc1, h0⟩ | ⟨hc1, h0⟩
  · rw [hc1]
    cbv
    cases h0
    exact fin_ok hX rfl ⟨[], _, _, ⟨rfl, rfl⟩, rfl, rfl, rfl, rfl, by cbv; try simp⟩
  · rw [hc1]
    cbv
    obtain ⟨hg2, h0⟩ := grdS h0
    refine ⟨inr_of hO hg2, ?_⟩
    obtain ⟨hg3, h0⟩ := grdS h0
    refine ⟨nz_of hO hg3, ?_⟩
    obtain ⟨hg4, h0⟩ := grdS h0
    refine ⟨inr_of hO hg4, ?_⟩
    obtain ⟨hg5, h0⟩ := grdS h0
    refine ⟨inr_of hO hg5, ?_⟩
    obtain ⟨y4, hi, h0⟩ := bindS h0
    obtain ⟨I1, hI1, hi⟩ := loopS hi
    refine loop1 tab_holds eqs_holds mixed [] hO hX I1 (fun y => [(4, .c (.int .i64 y.2))]) (fun _ => []) (fun y => y.1) _ (by kernel_rfl) hi (by cbv; try simp) ?_
    refine allp ?_
    intro n1
    intro y1 hi
    cbv
    rw [hI1] at hi
    obtain ⟨n1, rfl, x1, h1, hi1⟩ := iterS hi
    unfold m_civil_Date_L1 at h1
    try dsimp only at h1
    obtain ⟨x85, h2, h1⟩ := bindS h1
    rcases condS h2 with ⟨hc6, h2⟩ | ⟨hc6, h2⟩
    · rw [hc6]
      cbv
      obtain ⟨hg7, h2⟩ := grdS h2
      refine ⟨inr_of hO hg7, ?_⟩
      obtain ⟨n17, hv, h2⟩ := bindS h2
      refine call_is hO hX (fn_civil_count hO hv) (by kernel_rfl) [] rfl trivial rfl ?_
      cbv
      cases h2
      try dsimp only at h1
      rcases condS h1 with ⟨hc8, h1⟩ | ⟨hc8, h1⟩
      · rw [hc8]
        cbv
        obtain ⟨hg9, h1⟩ := grdS h1
        refine ⟨inr_of hO hg9, ?_⟩
        cases h1
        exact ⟨_, [0], nextI hI1 hi1, by cbv; try simp, by first | exact Nat.lt_succ_self _ | omega⟩
      · rw [hc8]
        cbv
        cases h1
        cases exitI hi1
        try dsimp only at h0
        obtain ⟨m4, hi, h0⟩ := bindS h0
        obtain ⟨I2, hI2, hi⟩ := loopS hi
        refine loop1 tab_holds eqs_holds mixed [] hO hX I2 (fun y => [(5, .c (.int .i64 y.2))]) (fun _ => []) (fun y => y.1) _ (by kernel_rfl) hi (by cbv; try simp) ?_
        refine allp ?_
        intro n2
        intro m3 hi
        cbv
        rw [hI2] at hi
        obtain ⟨n2, rfl, x2, h1, hi2⟩ := iterS hi
        unfold m_civil_Date_L2 at h1
        try dsimp only at h1
        obtain ⟨x87, h2, h1⟩ := bindS h1
        rcases condS h2 with ⟨hc10, h2⟩ | ⟨hc10, h2⟩
        · rw [hc10]
          cbv
          obtain ⟨hg11, h2⟩ := grdS h2
          refine ⟨inr_of hO hg11, ?_⟩
          obtain ⟨n18, hv, h2⟩ := bindS h2
          refine call_is hO hX (fn_civil_count hO hv) (by kernel_rfl) [] rfl trivial rfl ?_
          cbv
          cases h2
          try dsimp only at h1
          rcases condS h1 with ⟨hc12, h1⟩ | ⟨hc12, h1⟩
          · rw [hc12]
            cbv
            obtain ⟨hg13, h1⟩ := grdS h1
            refine ⟨inr_of hO hg13, ?_⟩
            cases h1
            exact ⟨_, [0], nextI hI2 hi2, by cbv; try simp, by first | exact Nat.lt_succ_self _ | omega⟩
          · rw [hc12]
            cbv
            cases h1
            cases exitI hi2
            try dsimp only at h0
            obtain ⟨n19, hv, h0⟩ := bindS h0
            refine call_is hO hX (fn_civil_count hO hv) (by kernel_rfl) [] rfl trivial rfl ?_
            cbv
            obtain ⟨hg14, h0⟩ := grdS h0
            refine ⟨inr_of hO hg14, ?_⟩
            obtain ⟨hg15, h0⟩ := grdS h0
            refine ⟨inr_of hO hg15, ?_⟩
            cases h0
            exact fin_ok hX rfl ⟨[], _, _, ⟨rfl, rfl⟩, rfl, rfl, rfl, rfl, by cbv; try simp⟩
        · rw [hc10]
          cbv
          cases h2
          try dsimp only at h1
          replace h1 := condF h1 rfl
          cases h1
          cases exitI hi2
          try dsimp only at h0
          obtain ⟨n19, hv, h0⟩ := bindS h0
          refine call_is hO hX (fn_civil_count hO hv) (by kernel_rfl) [] rfl trivial rfl ?_
          cbv
          obtain ⟨hg16, h0⟩ := grdS h0
          refine ⟨inr_of hO hg16, ?_⟩
          obtain ⟨hg17, h0⟩ := grdS h0
          refine ⟨inr_of hO hg17, ?_⟩
          cases h0
          exact fin_ok hX rfl ⟨[], _, _, ⟨rfl, rfl⟩, rfl, rfl, rfl, rfl, by cbv; try simp⟩
    · rw [hc6]
      cbv
      cases h2
      try dsimp only at h1
      replace h1 := condF h1 rfl
      cases h1
      cases exitI hi1
      try dsimp only at h0
      obtain ⟨m4, hi, h0⟩ := bindS h0
      obtain ⟨I2, hI2, hi⟩ := loopS hi
      refine loop1 tab_holds eqs_holds mixed [] hO hX I2 (fun y => [(5, .c (.int .i64 y.2))]) (fun _ => []) (fun y => y.1) _ (by kernel_rfl) hi (by cbv; try simp) ?_
      refine allp ?_
      intro n2
      intro m3 hi
      cbv
      rw [hI2] at hi
      obtain ⟨n2, rfl, x2, h1, hi2⟩ := iterS hi
      unfold m_civil_Date_L2 at h1
      try dsimp only at h1
      obtain ⟨x87, h2, h1⟩ := bindS h1
      rcases condS h2 with ⟨hc18, h2⟩ | ⟨hc18, h2⟩
      · rw [hc18]
        cbv
        obtain ⟨hg19, h2⟩ := grdS h2
        refine ⟨inr_of hO hg19, ?_⟩
        obtain ⟨n18, hv, h2⟩ := bindS h2
        refine call_is hO hX (fn_civil_count hO hv) (by kernel_rfl) [] rfl trivial rfl ?_
        cbv
        cases h2
        try dsimp only at h1
        rcases condS h1 with ⟨hc20, h1⟩ | ⟨hc20, h1⟩
        · rw [hc20]
          cbv
          obtain ⟨hg21, h1⟩ := grdS h1
          refine ⟨inr_of hO hg21, ?_⟩
          cases h1
          exact ⟨_, [0], nextI hI2 hi2, by cbv; try simp, by first | exact Nat.lt_succ_self _ | omega⟩
        · rw [hc20]
          cbv
          cases h1
          cases exitI hi2
          try dsimp only at h0
          obtain ⟨n19, hv, h0⟩ := bindS h0
          refine call_is hO hX (fn_civil_count hO hv) (by kernel_rfl) [] rfl trivial rfl ?_
          cbv
          obtain ⟨hg22, h0⟩ := grdS h0
          refine ⟨inr_of hO hg22, ?_⟩
          obtain ⟨hg23, h0⟩ := grdS h0
          refine ⟨inr_of hO hg23, ?_⟩
          cases h0
          exact fin_ok hX rfl ⟨[], _, _, ⟨rfl, rfl⟩, rfl, rfl, rfl, rfl, by cbv; try simp⟩
      · rw [hc18]
        cbv
        cases h2
        try dsimp only at h1
        replace h1 := condF h1 rfl
        cases h1
        cases exitI hi2
        try dsimp only at h0
        obtain ⟨n19, hv, h0⟩ := bindS h0
        refine call_is hO hX (fn_civil_count hO hv) (by kernel_rfl) [] rfl trivial rfl ?_
        cbv
        obtain ⟨hg24, h0⟩ := grdS h0
        refine ⟨inr_of hO hg24, ?_⟩
        obtain ⟨hg25, h0⟩ := grdS h0
        refine ⟨inr_of hO hg25, ?_⟩
        cases h0
        exact fin_ok hX rfl ⟨[], _, _, ⟨rfl, rfl⟩, rfl, rfl, rfl, rfl, by cbv; try simp⟩
end Go.Proofs.YtmnhfaaaaejpaaaGreat
namespace Go.Proofs.YtmnhfaaaaejpaaaGreat
open Go.RowKit
set_option maxRecDepth 100000

set_option maxHeartbeats 40000000 in
theorem fn_recurrence_weekYear {O0 : Ops} (hO0 : O0 = std) {day_1 : Int} {start_1 : Int} {r1 : Int} (h : m_recurrence_weekYear O0 day_1 start_1 = some r1) :
    Fn Tryz.prog 56 [.c (.int .i64 day_1), .c (.int .i64 start_1)] [] (fun v c => v = .c (.int .i64 r1) ∧ c = []) := by
  refine fn_run tab_holds eqs_holds mixed [] Tryz.func56 (by kernel_rfl) (by kernel_rfl) (Nat.le_of_ble_eq_true rfl) ?_
  intro O X hO hX
  rw [hO0, ← hO] at h
  unfold m_recurrence_weekYear at h
  have h0 := h; clear h
  cbv
  obtain ⟨n16, hv, h0⟩ := bindS h0
  refine call_is hO hX (fn_recurrence_week hO hv) (by kernel_rfl) [] rfl trivial rfl ?_
  cbv
  obtain ⟨hg1, h0⟩ := grdS h0
  refine ⟨inr_of hO hg1, ?_⟩
  obtain ⟨⟨n20, n21, n22, n23⟩, hv, h0⟩ := bindS h0
  try dsimp only at h0
  refine call_is hO hX (fn_civil_Date hO hv) (by kernel_rfl) [] rfl trivial rfl ?_
  cbv
  obtain ⟨n27, hv, h0⟩ := bindS h0
  refine call_is hO hX (fn_recurrence_newYear hO hv) (by kernel_rfl) [] rfl trivial rfl ?_
  cbv
  obtain ⟨x91, h1, h0⟩ := bindS h0
  rcases condS h1 with ⟨hc2, h1⟩ | ⟨hc2, h1⟩
  · rw [hc2]
    cbv
    obtain ⟨hg3, h1⟩ := grdS h1
    refine ⟨inr_of hO hg3, ?_⟩
    cases h1
    try dsimp only at h0
    cases h0
    exact fin_ok hX rfl ⟨[], _, _, ⟨rfl, rfl⟩, rfl, rfl, rfl, rfl, by cbv; try simp⟩
  · rw [hc2]
    cbv
    obtain ⟨hg4, h1⟩ := grdS h1
    refine ⟨inr_of hO hg4, ?_⟩
    obtain ⟨n28, hv, h1⟩ := bindS h1
    refine call_is hO hX (fn_recurrence_newYear hO hv) (by kernel_rfl) [] rfl trivial rfl ?_
    cbv
    obtain ⟨x89, h2, h1⟩ := bindS h1
    rcases condS h2 with ⟨hc5, h2⟩ | ⟨hc5, h2⟩
    · rw [hc5]
      cbv
      cases h2
      try dsimp only at h1
      cases h1
      try dsimp only at h0
      refine ⟨inr_of hO hg4, ?_⟩
      cases h0
      exact fin_ok hX rfl ⟨[], _, _, ⟨rfl, rfl⟩, rfl, rfl, rfl, rfl, by cbv; try simp⟩
    · rw [hc5]
      cbv
      cases h2
      try dsimp only at h1
      cases h1
      try dsimp only at h0
      cases h0
      exact fin_ok hX rfl ⟨[], _, _, ⟨rfl, rfl⟩, rfl, rfl, rfl, rfl, by cbv; try simp⟩
end Go.Proofs.YtmnhfaaaaejpaaaGreat
namespace Go.Proofs.YtmnhfaaaaejpaaaGreat
open Go.RowKit
set_option maxRecDepth 100000

set_option maxHeartbeats 40000000 in
theorem fn_recurrence_number {O0 : Ops} (hO0 : O0 = std) {r_1 : Int} {r_2 : Int} {r_3 : Int} {r_4 : Int} {r_5 : Int} {l_1 : Int} {r_6 : List Int} {r_7 : List Int} {r_8 : List Int} {r_9 : List Int} {r_10 : List (Int × Int)} {r_11 : List Int} {r_12 : List Int} {r_13 : List Int} {r_14 : List Int} {r1 : Int} (h : m_recurrence_number O0 r_1 r_2 r_3 r_4 r_5 l_1 r_6 r_7 r_8 r_9 r_10 r_11 r_12 r_13 r_14 = some r1) :
    Fn Tryz.prog 38 [.agg [.int .i64 r_1, .int .i64 r_2, .int .i64 r_3, .int .i64 r_4, .sl 0, .sl 1, .sl 2, .sl 3, .sl 4, .sl 5, .sl 6, .sl 7, .sl 8, .int .i64 r_5], .c (.int .i64 l_1)] [.arr false .i1 r_6, .arr false .i1 r_7, .arr false .i1 r_8, .arr false .i1 r_9, .arr false .i2 r_10, .arr false .i1 r_11, .arr false .i1 r_12, .arr false .i1 r_13, .arr false .i1 r_14] (fun v c => v = .c (.int .i64 r1) ∧ c = []) := by
  refine fn_run tab_holds eqs_holds mixed [] Tryz.func38 (by kernel_rfl) (by kernel_rfl) (Nat.le_of_ble_eq_true rfl) ?_
  intro O X hO hX
  rw [hO0, ← hO] at h
  unfold m_recurrence_number at h
  have h0 := h; clear h
  cbv
  obtain ⟨n9, hv, h0⟩ := bindS h0
  refine call_is hO hX (fn_integer_Floor hO hv) (by kernel_rfl) [] rfl trivial rfl ?_
  cbv
  obtain ⟨e1, h1, h0⟩ := bindS h0
  rcases condS h1 with ⟨hc1, h1⟩ | ⟨hc1, h1⟩
  · rw [hc1]
    cbv
    obtain ⟨n13, hv, h1⟩ := bindS h1
    refine call_is hO hX (fn_recurrence_week hO hv) (by kernel_rfl) [] rfl trivial rfl ?_
    cbv
    obtain ⟨n14, hv, h1⟩ := bindS h1
    refine call_is hO hX (fn_integer_Floor hO hv) (by kernel_rfl) [] rfl trivial rfl ?_
    cbv
    cases h1
    try dsimp only at h0
    cases h0
    exact fin_ok hX rfl ⟨[], _, _, ⟨rfl, rfl⟩, rfl, rfl, rfl, rfl, by cbv; try simp⟩
  · rw [hc1]
    cbv
    obtain ⟨e2, h2, h1⟩ := bindS h1
    rcases condS h2 with ⟨hc2, h2⟩ | ⟨hc2, h2⟩
    · rw [hc2]
      cbv
      cases h2
      try dsimp only at h1
      cases h1
      try dsimp only at h0
      cases h0
      exact fin_ok hX rfl ⟨[], _, _, ⟨rfl, rfl⟩, rfl, rfl, rfl, rfl, by cbv; try simp⟩
    · rw [hc2]
      cbv
      rcases condS h2 with ⟨hc3, h2⟩ | ⟨hc3, h2⟩
      · rw [hc3]
        cbv
        obtain ⟨n15, hv, h2⟩ := bindS h2
        refine call_is hO hX (fn_integer_Floor hO hv) (by kernel_rfl) [] rfl trivial rfl ?_
        cbv
        cases h2
        try dsimp only at h1
        cases h1
        try dsimp only at h0
        cases h0
        exact fin_ok hX rfl ⟨[], _, _, ⟨rfl, rfl⟩, rfl, rfl, rfl, rfl, by cbv; try simp⟩
      · rw [hc3]
        cbv
        cases h2
        try dsimp only at h1
        cases h1
        try dsimp only at h0
        obtain ⟨x81, h1, h0⟩ := bindS h0
        rcases condS h1 with ⟨hc4, h1⟩ | ⟨hc4, h1⟩
        · rw [hc4]
          cbv
          cases h1
          try dsimp only at h0
          rcases condS h0 with ⟨hc5, h0⟩ | ⟨hc5, h0⟩
          · rw [hc5]
            cbv
            obtain ⟨n29, hv, h0⟩ := bindS h0
            refine call_is hO hX (fn_recurrence_weekYear hO hv) (by kernel_rfl) [] rfl trivial rfl ?_
            cbv
            cases h0
            exact fin_ok hX rfl ⟨[], _, _, ⟨rfl, rfl⟩, rfl, rfl, rfl, rfl, by cbv; try simp⟩
          · rw [hc5]
            cbv
            obtain ⟨⟨n30, n31, n32, n33⟩, hv, h0⟩ := bindS h0
            try dsimp only at h0
            refine call_is hO hX (fn_civil_Date hO hv) (by kernel_rfl) [] rfl trivial rfl ?_
            cbv
            try (rw [hc4]; cbv)
            replace h0 := condT h0 hc4
            cases h0
            exact fin_ok hX rfl ⟨[], _, _, ⟨rfl, rfl⟩, rfl, rfl, rfl, rfl, by cbv; try simp⟩
        · rw [hc4]
          cbv
          cases h1
          try dsimp only at h0
          replace h0 := condF h0 rfl
          obtain ⟨⟨n30, n31, n32, n33⟩, hv, h0⟩ := bindS h0
          try dsimp only at h0
          refine call_is hO hX (fn_civil_Date hO hv) (by kernel_rfl) [] rfl trivial rfl ?_
          cbv
          try (rw [hc4]; cbv)
          replace h0 := condF h0 hc4
          obtain ⟨hg6, h0⟩ := grdS h0
          refine ⟨inr_of hO hg6, ?_⟩
          obtain ⟨hg7, h0⟩ := grdS h0
          refine ⟨inr_of hO hg7, ?_⟩
          cases h0
          exact fin_ok hX rfl ⟨[], _, _, ⟨rfl, rfl⟩, rfl, rfl, rfl, rfl, by cbv; try simp⟩
end Go.Proofs.YtmnhfaaaaejpaaaGreat
namespace Go.Proofs.YtmnhfaaaaejpaaaGreat
open Go.RowKit
set_option maxRecDepth 100000

set_option maxHeartbeats 40000000 in
theorem fn_recurrence_dateOf {O0 : Ops} (hO0 : O0 = std) {day_1 : Int} {r1 : Int} {r2 : Int} {r3 : Int} {r4 : Int} {r5 : Int} {r6 : Int} {r7 : Int} {r8 : Int} (h : m_recurrence_dateOf O0 day_1 = some (r1, r2, r3, r4, r5, r6, r7, r8)) :
    Fn Tryz.prog 42 [.c (.int .i64 day_1)] [] (fun v c => v = .agg [.int .i64 r1, .int .i64 r2, .int .i64 r3, .int .i64 r4, .int .i64 r5, .int .i64 r6, .int .i64 r7, .int .i64 r8] ∧ c = []) := by
  refine fn_run tab_holds eqs_holds mixed [(3, (.seg 1 [0, 1, 2, 3, 4, 5, 6, 7, 8, 10, 12, 13, 14, 15, 16, 17] (.seg 2 [9] (.seg 1 [11] (.seg 2 [18] (.seg 1 [19] .fin))))), [20])] Tryz.func42 (by kernel_rfl) (by kernel_rfl) (Nat.le_of_ble_eq_true rfl) ?_
  intro O X hO hX
  rw [hO0, ← hO] at h
  unfold m_recurrence_dateOf at h
  have h0 := h; clear h
  cbv
  obtain ⟨⟨n34, n35, n36, n37⟩, hv, h0⟩ := bindS h0
  try dsimp only at h0
  refine call_is hO hX (fn_civil_Date hO hv) (by kernel_rfl) [] rfl trivial rfl ?_
  cbv
  obtain ⟨n38, hv, h0⟩ := bindS h0
  refine call_is hO hX (fn_recurrence_newYear hO hv) (by kernel_rfl) [] rfl trivial rfl ?_
  cbv
  obtain ⟨hg1, h0⟩ := grdS h0
  refine ⟨inr_of hO hg1, ?_⟩
  obtain ⟨hg2, h0⟩ := grdS h0
  refine ⟨inr_of hO hg2, ?_⟩
  obtain ⟨hg3, h0⟩ := grdS h0
  refine ⟨inr_of hO hg3, ?_⟩
  obtain ⟨n39, hv, h0⟩ := bindS h0
  refine call_is hO hX (fn_recurrence_newYear hO hv) (by kernel_rfl) [] rfl trivial rfl ?_
  cbv
  obtain ⟨hg4, h0⟩ := grdS h0
  refine ⟨inr_of hO hg4, ?_⟩
  obtain ⟨n40, hv, h0⟩ := bindS h0
  refine call_is hO hX (fn_civil_Length hO hv) (by kernel_rfl) [] rfl trivial rfl ?_
  cbv
  cases h0
  exact fin_ok hX rfl ⟨[], _, _, ⟨rfl, rfl⟩, rfl, rfl, rfl, rfl, by cbv; try simp⟩
end Go.Proofs.YtmnhfaaaaejpaaaGreat
namespace Go.Proofs.YtmnhfaaaaejpaaaGreat
open Go.RowKit
set_option maxRecDepth 100000

set_option maxHeartbeats 40000000 in
theorem fn_slices_Index {O0 : Ops} (hO0 : O0 = std) {v_1 : Int} {s_1 : List Int} {r1 : Int} (h : m_slices_Index O0 v_1 s_1 = some r1) :
    Fn Tryz.prog 58 [.c (.sl 0), .c (.int .i64 v_1)] [.arr false .i1 s_1] (fun v c => v = .c (.int .i64 r1) ∧ c = []) := by
  refine fn_run tab_holds eqs_holds mixed [] Tryz.func58 (by kernel_rfl) (by kernel_rfl) (Nat.le_of_ble_eq_true rfl) ?_
  intro O X hO hX
  rw [hO0, ← hO] at h
  unfold m_slices_Index at h
  have h0 := h; clear h
  cbv
  obtain ⟨e1, hi, h0⟩ := bindS h0
  obtain ⟨I1, hI1, hi⟩ := loopS hi
  refine loop1 tab_holds eqs_holds mixed [] hO hX I1 (fun y => [(8, .c (.int .i64 y.2))]) (fun _ => []) (fun y => y.1) _ (by kernel_rfl) hi (by cbv; try simp) ?_
  refine allp ?_
  intro n1
  intro x92 hi
  cbv
  rw [hI1] at hi
  obtain ⟨n1, rfl, x1, h1, hi1⟩ := iterS hi
  unfold m_slices_Index_L1 at h1
  try dsimp only at h1
  rcases condS h1 with ⟨hc1, h1⟩ | ⟨hc1, h1⟩
  · rw [hc1]
    cbv
    obtain ⟨hg2, h1⟩ := grdS h1
    refine ⟨idx_of hO hg2, ?_⟩
    obtain ⟨hg3, h1⟩ := grdS h1
    refine ⟨kin_of hO hg3, ?_⟩
    rcases condS h1 with ⟨hc4, h1⟩ | ⟨hc4, h1⟩
    · rw [hc4]
      cbv
      cases h1
      cases exitI hi1
      try dsimp only at h0
      cases h0
      exact fin_ok hX rfl ⟨[], _, _, ⟨rfl, rfl⟩, rfl, rfl, rfl, rfl, by cbv; try simp⟩
    · rw [hc4]
      cbv
      obtain ⟨hg5, h1⟩ := grdS h1
      refine ⟨inr_of hO hg5, ?_⟩
      cases h1
      exact ⟨_, [0], nextI hI1 hi1, by cbv; try simp, by first | exact Nat.lt_succ_self _ | omega⟩
  · rw [hc1]
    cbv
    cases h1
    cases exitI hi1
    try dsimp only at h0
    cases h0
    exact fin_ok hX rfl ⟨[], _, _, ⟨rfl, rfl⟩, rfl, rfl, rfl, rfl, by cbv; try simp⟩
set_option maxHeartbeats 40000000 in
theorem fn_slices_Contains {O0 : Ops} (hO0 : O0 = std) {v_1 : Int} {s_1 : List Int} {r1 : Bool} (h : m_slices_Contains O0 v_1 s_1 = some r1) :
    Fn Tryz.prog 39 [.c (.sl 0), .c (.int .i64 v_1)] [.arr false .i1 s_1] (fun v c => v = .c (.bool r1) ∧ c = []) := by
  refine fn_run tab_holds eqs_holds mixed [] Tryz.func39 (by kernel_rfl) (by kernel_rfl) (Nat.le_of_ble_eq_true rfl) ?_
  intro O X hO hX
  rw [hO0, ← hO] at h
  unfold m_slices_Contains at h
  have h0 := h; clear h
  cbv
  obtain ⟨n49, hv, h0⟩ := bindS h0
  refine call_is hO hX (fn_slices_Index hO hv) (by kernel_rfl) [0] rfl ⟨rfl, rfl, trivial⟩ rfl ?_
  cbv
  cases h0
  exact fin_ok hX rfl ⟨[], _, _, ⟨rfl, rfl⟩, rfl, rfl, rfl, rfl, by cbv; try simp⟩
set_option maxHeartbeats 40000000 in
theorem fn_recurrence_counted {O0 : Ops} (hO0 : O0 = std) {n_1 : Int} {of_1 : Int} {l_1 : List Int} {r1 : Bool} (h : m_recurrence_counted O0 n_1 of_1 l_1 = some r1) :
    Fn Tryz.prog 44 [.c (.sl 0), .c (.int .i64 n_1), .c (.int .i64 of_1)] [.arr false .i1 l_1] (fun v c => v = .c (.bool r1) ∧ c = []) := by
  refine fn_run tab_holds eqs_holds mixed [] Tryz.func44 (by kernel_rfl) (by kernel_rfl) (Nat.le_of_ble_eq_true rfl) ?_
  intro O X hO hX
  rw [hO0, ← hO] at h
  unfold m_recurrence_counted at h
  have h0 := h; clear h
  cbv
  obtain ⟨x97, h1, h0⟩ := bindS h0
  rcases condS h1 with ⟨hc1, h1⟩ | ⟨hc1, h1⟩
  · rw [hc1]
    cbv
    cases h1
    try dsimp only at h0
    cases h0
    exact fin_ok hX rfl ⟨[], _, _, ⟨rfl, rfl⟩, rfl, rfl, rfl, rfl, by cbv; try simp⟩
  · rw [hc1]
    cbv
    obtain ⟨b17, hv, h1⟩ := bindS h1
    refine call_is hO hX (fn_slices_Contains hO hv) (by kernel_rfl) [0] rfl ⟨rfl, rfl, trivial⟩ rfl ?_
    cbv
    rcases condS h1 with ⟨hc2, h1⟩ | ⟨hc2, h1⟩
    · rw [hc2]
      cbv
      cases h1
      try dsimp only at h0
      cases h0
      exact fin_ok hX rfl ⟨[], _, _, ⟨rfl, rfl⟩, rfl, rfl, rfl, rfl, by cbv; try simp⟩
    · rw [hc2]
      cbv
      obtain ⟨hg3, h1⟩ := grdS h1
      refine ⟨inr_of hO hg3, ?_⟩
      obtain ⟨hg4, h1⟩ := grdS h1
      refine ⟨inr_of hO hg4, ?_⟩
      obtain ⟨b18, hv, h1⟩ := bindS h1
      refine call_is hO hX (fn_slices_Contains hO hv) (by kernel_rfl) [0] rfl ⟨rfl, rfl, trivial⟩ rfl ?_
      cbv
      cases h1
      try dsimp only at h0
      cases h0
      exact fin_ok hX rfl ⟨[], _, _, ⟨rfl, rfl⟩, rfl, rfl, rfl, rfl, by cbv; try simp⟩
end Go.Proofs.YtmnhfaaaaejpaaaGreat
namespace Go.Proofs.YtmnhfaaaaejpaaaGreat
open Go.RowKit
set_option maxRecDepth 100000

set_option maxHeartbeats 40000000 in
theorem fn_recurrence_filters_1 {O0 : Ops} (hO0 : O0 = std) {r_1 : Int} {r_2 : Int} {r_3 : Int} {r_4 : Int} {r_5 : Int} {x_1 : Int} {x_2 : Int} {x_3 : Int} {x_4 : Int} {x_5 : Int} {x_6 : Int} {x_7 : Int} {x_8 : Int} {x_9 : Int} {x_10 : Int} {x_11 : Int} {x_12 : Int} {x_13 : Int} {x_14 : Int} {x_15 : Int} {x_16 : Int} {r_6 : List Int} {r_7 : List Int} {r_8 : List Int} {r_9 : List Int} {r_10 : List (Int × Int)} {r_11 : List Int} {r_12 : List Int} {r_13 : List Int} {r_14 : List Int} {r1 : Bool} (h : m_recurrence_filters_1 O0 r_1 r_2 r_3 r_4 r_5 x_1 x_2 x_3 x_4 x_5 x_6 x_7 x_8 x_9 x_10 x_11 x_12 x_13 x_14 x_15 x_16 r_6 r_7 r_8 r_9 r_10 r_11 r_12 r_13 r_14 = some r1) :
    Fn Tryz.prog 78 [.agg [.int .i64 r_1, .int .i64 r_2, .int .i64 r_3, .int .i64 r_4, .sl 0, .sl 1, .sl 2, .sl 3, .sl 4, .sl 5, .sl 6, .sl 7, .sl 8, .int .i64 r_5], .agg [.int .i64 x_1, .int .i64 x_2, .int .i64 x_3, .int .i64 x_4, .int .i64 x_5, .int .i64 x_6, .int .i64 x_7, .int .i64 x_8], .agg [.int .i64 x_9, .int .i64 x_10, .int .i64 x_11, .int .i64 x_12, .int .i64 x_13, .int .i64 x_14, .int .i64 x_15, .int .i64 x_16]] [.arr false .i1 r_6, .arr false .i1 r_7, .arr false .i1 r_8, .arr false .i1 r_9, .arr false .i2 r_10, .arr false .i1 r_11, .arr false .i1 r_12, .arr false .i1 r_13, .arr false .i1 r_14] (fun v c => v = .c (.bool r1) ∧ c = []) := by
  refine fn_run tab_holds eqs_holds mixed [] Tryz.func78 (by kernel_rfl) (by kernel_rfl) (Nat.le_of_ble_eq_true rfl) ?_
  intro O X hO hX
  rw [hO0, ← hO] at h
  unfold m_recurrence_filters_1 at h
  have h0 := h; clear h
  cbv
  obtain ⟨x95, h1, h0⟩ := bindS h0
  rcases condS h1 with ⟨hc1, h1⟩ | ⟨hc1, h1⟩
  · rw [hc1]
    cbv
    cases h1
    try dsimp only at h0
    cases h0
    exact fin_ok hX rfl ⟨[], _, _, ⟨rfl, rfl⟩, rfl, rfl, rfl, rfl, by cbv; try simp⟩
  · rw [hc1]
    cbv
    obtain ⟨b15, hv, h1⟩ := bindS h1
    refine call_is hO hX (fn_slices_Contains hO hv) (by kernel_rfl) [0] rfl ⟨rfl, rfl, trivial⟩ rfl ?_
    cbv
    cases h1
    try dsimp only at h0
    cases h0
    exact fin_ok hX rfl ⟨[], _, _, ⟨rfl, rfl⟩, rfl, rfl, rfl, rfl, by cbv; try simp⟩
set_option maxHeartbeats 40000000 in
theorem fn_recurrence_filters_2 {O0 : Ops} (hO0 : O0 = std) {r_1 : Int} {r_2 : Int} {r_3 : Int} {r_4 : Int} {r_5 : Int} {x_1 : Int} {x_2 : Int} {x_3 : Int} {x_4 : Int} {x_5 : Int} {x_6 : Int} {x_7 : Int} {x_8 : Int} {x_9 : Int} {x_10 : Int} {x_11 : Int} {x_12 : Int} {x_13 : Int} {x_14 : Int} {x_15 : Int} {x_16 : Int} {r_6 : List Int} {r_7 : List Int} {r_8 : List Int} {r_9 : List Int} {r_10 : List (Int × Int)} {r_11 : List Int} {r_12 : List Int} {r_13 : List Int} {r_14 : List Int} {r1 : Bool} (h : m_recurrence_filters_2 O0 r_1 r_2 r_3 r_4 r_5 x_1 x_2 x_3 x_4 x_5 x_6 x_7 x_8 x_9 x_10 x_11 x_12 x_13 x_14 x_15 x_16 r_6 r_7 r_8 r_9 r_10 r_11 r_12 r_13 r_14 = some r1) :
    Fn Tryz.prog 79 [.agg [.int .i64 r_1, .int .i64 r_2, .int .i64 r_3, .int .i64 r_4, .sl 0, .sl 1, .sl 2, .sl 3, .sl 4, .sl 5, .sl 6, .sl 7, .sl 8, .int .i64 r_5], .agg [.int .i64 x_1, .int .i64 x_2, .int .i64 x_3, .int .i64 x_4, .int .i64 x_5, .int .i64 x_6, .int .i64 x_7, .int .i64 x_8], .agg [.int .i64 x_9, .int .i64 x_10, .int .i64 x_11, .int .i64 x_12, .int .i64 x_13, .int .i64 x_14, .int .i64 x_15, .int .i64 x_16]] [.arr false .i1 r_6, .arr false .i1 r_7, .arr false .i1 r_8, .arr false .i1 r_9, .arr false .i2 r_10, .arr false .i1 r_11, .arr false .i1 r_12, .arr false .i1 r_13, .arr false .i1 r_14] (fun v c => v = .c (.bool r1) ∧ c = []) := by
  refine fn_run tab_holds eqs_holds mixed [] Tryz.func79 (by kernel_rfl) (by kernel_rfl) (Nat.le_of_ble_eq_true rfl) ?_
  intro O X hO hX
  rw [hO0, ← hO] at h
  unfold m_recurrence_filters_2 at h
  have h0 := h; clear h
  cbv
  obtain ⟨b19, hv, h0⟩ := bindS h0
  refine call_is hO hX (fn_recurrence_counted hO hv) (by kernel_rfl) [1] rfl ⟨rfl, rfl, trivial⟩ rfl ?_
  cbv
  cases h0
  exact fin_ok hX rfl ⟨[], _, _, ⟨rfl, rfl⟩, rfl, rfl, rfl, rfl, by cbv; try simp⟩
set_option maxHeartbeats 40000000 in
theorem fn_recurrence_filters_3 {O0 : Ops} (hO0 : O0 = std) {r_1 : Int} {r_2 : Int} {r_3 : Int} {r_4 : Int} {r_5 : Int} {x_1 : Int} {x_2 : Int} {x_3 : Int} {x_4 : Int} {x_5 : Int} {x_6 : Int} {x_7 : Int} {x_8 : Int} {x_9 : Int} {x_10 : Int} {x_11 : Int} {x_12 : Int} {x_13 : Int} {x_14 : Int} {x_15 : Int} {x_16 : Int} {r_6 : List Int} {r_7 : List Int} {r_8 : List Int} {r_9 : List Int} {r_10 : List (Int × Int)} {r_11 : List Int} {r_12 : List Int} {r_13 : List Int} {r_14 : List Int} {r1 : Bool} (h : m_recurrence_filters_3 O0 r_1 r_2 r_3 r_4 r_5 x_1 x_2 x_3 x_4 x_5 x_6 x_7 x_8 x_9 x_10 x_11 x_12 x_13 x_14 x_15 x_16 r_6 r_7 r_8 r_9 r_10 r_11 r_12 r_13 r_14 = some r1) :
    Fn Tryz.prog 80 [.agg [.int .i64 r_1, .int .i64 r_2, .int .i64 r_3, .int .i64 r_4, .sl 0, .sl 1, .sl 2, .sl 3, .sl 4, .sl 5, .sl 6, .sl 7, .sl 8, .int .i64 r_5], .agg [.int .i64 x_1, .int .i64 x_2, .int .i64 x_3, .int .i64 x_4, .int .i64 x_5, .int .i64 x_6, .int .i64 x_7, .int .i64 x_8], .agg [.int .i64 x_9, .int .i64 x_10, .int .i64 x_11, .int .i64 x_12, .int .i64 x_13, .int .i64 x_14, .int .i64 x_15, .int .i64 x_16]] [.arr false .i1 r_6, .arr false .i1 r_7, .arr false .i1 r_8, .arr false .i1 r_9, .arr false .i2 r_10, .arr false .i1 r_11, .arr false .i1 r_12, .arr false .i1 r_13, .arr false .i1 r_14] (fun v c => v = .c (.bool r1) ∧ c = []) := by
  refine fn_run tab_holds eqs_holds mixed [] Tryz.func80 (by kernel_rfl) (by kernel_rfl) (Nat.le_of_ble_eq_true rfl) ?_
  intro O X hO hX
  rw [hO0, ← hO] at h
  unfold m_recurrence_filters_3 at h
  have h0 := h; clear h
  cbv
  obtain ⟨b21, hv, h0⟩ := bindS h0
  refine call_is hO hX (fn_recurrence_counted hO hv) (by kernel_rfl) [2] rfl ⟨rfl, rfl, trivial⟩ rfl ?_
  cbv
  cases h0
  exact fin_ok hX rfl ⟨[], _, _, ⟨rfl, rfl⟩, rfl, rfl, rfl, rfl, by cbv; try simp⟩
end Go.Proofs.YtmnhfaaaaejpaaaGreat
namespace Go.Proofs.YtmnhfaaaaejpaaaGreat
open Go.RowKit
set_option maxRecDepth 100000

set_option maxHeartbeats 40000000 in
theorem fn_recurrence_firstWeek {O0 : Ops} (hO0 : O0 = std) {year_1 : Int} {start_1 : Int} {r1 : Int} (h : m_recurrence_firstWeek O0 year_1 start_1 = some r1) :
    Fn Tryz.prog 82 [.c (.int .i64 year_1), .c (.int .i64 start_1)] [] (fun v c => v = .c (.int .i64 r1) ∧ c = []) := by
  refine fn_run tab_holds eqs_holds mixed [] Tryz.func82 (by kernel_rfl) (by kernel_rfl) (Nat.le_of_ble_eq_true rfl) ?_
  intro O X hO hX
  rw [hO0, ← hO] at h
  unfold m_recurrence_firstWeek at h
  have h0 := h; clear h
  cbv
  obtain ⟨n51, hv, h0⟩ := bindS h0
  refine call_is hO hX (fn_recurrence_newYear hO hv) (by kernel_rfl) [] rfl trivial rfl ?_
  cbv
  obtain ⟨hg1, h0⟩ := grdS h0
  refine ⟨inr_of hO hg1, ?_⟩
  obtain ⟨n52, hv, h0⟩ := bindS h0
  refine call_is hO hX (fn_recurrence_week hO hv) (by kernel_rfl) [] rfl trivial rfl ?_
  cbv
  cases h0
  exact fin_ok hX rfl ⟨[], _, _, ⟨rfl, rfl⟩, rfl, rfl, rfl, rfl, by cbv; try simp⟩
end Go.Proofs.YtmnhfaaaaejpaaaGreat
namespace Go.Proofs.YtmnhfaaaaejpaaaGreat
open Go.RowKit
set_option maxRecDepth 100000

set_option maxHeartbeats 40000000 in
theorem fn_recurrence_filters_4 {O0 : Ops} (hO0 : O0 = std) {r_1 : Int} {r_2 : Int} {r_3 : Int} {r_4 : Int} {r_5 : Int} {x_1 : Int} {x_2 : Int} {x_3 : Int} {x_4 : Int} {x_5 : Int} {x_6 : Int} {x_7 : Int} {x_8 : Int} {x_9 : Int} {x_10 : Int} {x_11 : Int} {x_12 : Int} {x_13 : Int} {x_14 : Int} {x_15 : Int} {x_16 : Int} {r_6 : List Int} {r_7 : List Int} {r_8 : List Int} {r_9 : List Int} {r_10 : List (Int × Int)} {r_11 : List Int} {r_12 : List Int} {r_13 : List Int} {r_14 : List Int} {r1 : Bool} (h : m_recurrence_filters_4 O0 r_1 r_2 r_3 r_4 r_5 x_1 x_2 x_3 x_4 x_5 x_6 x_7 x_8 x_9 x_10 x_11 x_12 x_13 x_14 x_15 x_16 r_6 r_7 r_8 r_9 r_10 r_11 r_12 r_13 r_14 = some r1) :
    Fn Tryz.prog 81 [.agg [.int .i64 r_1, .int .i64 r_2, .int .i64 r_3, .int .i64 r_4, .sl 0, .sl 1, .sl 2, .sl 3, .sl 4, .sl 5, .sl 6, .sl 7, .sl 8, .int .i64 r_5], .agg [.int .i64 x_1, .int .i64 x_2, .int .i64 x_3, .int .i64 x_4, .int .i64 x_5, .int .i64 x_6, .int .i64 x_7, .int .i64 x_8], .agg [.int .i64 x_9, .int .i64 x_10, .int .i64 x_11, .int .i64 x_12, .int .i64 x_13, .int .i64 x_14, .int .i64 x_15, .int .i64 x_16]] [.arr false .i1 r_6, .arr false .i1 r_7, .arr false .i1 r_8, .arr false .i1 r_9, .arr false .i2 r_10, .arr false .i1 r_11, .arr false .i1 r_12, .arr false .i1 r_13, .arr false .i1 r_14] (fun v c => v = .c (.bool r1) ∧ c = []) := by
  refine fn_run tab_holds eqs_holds mixed [(5, (.seg 1 [0, 1, 2, 3, 4, 5, 6, 7, 8, 9, 10, 11, 13] (.seg 2 [12] (.seg 1 [14, 15] (.seg 2 [16] (.seg 1 [17] .fin))))), [])] Tryz.func81 (by kernel_rfl) (by kernel_rfl) (Nat.le_of_ble_eq_true rfl) ?_
  intro O X hO hX
  rw [hO0, ← hO] at h
  unfold m_recurrence_filters_4 at h
  have h0 := h; clear h
  cbv
  rcases condS h0 with ⟨hc1, h0⟩ | ⟨hc1, h0⟩
  · rw [hc1]
    cbv
    cases h0
    exact fin_ok hX rfl ⟨[], _, _, ⟨rfl, rfl⟩, rfl, rfl, rfl, rfl, by cbv; try simp⟩
  · rw [hc1]
    cbv
    obtain ⟨n50, hv, h0⟩ := bindS h0
    refine call_is hO hX (fn_recurrence_weekYear hO hv) (by kernel_rfl) [] rfl trivial rfl ?_
    cbv
    obtain ⟨n53, hv, h0⟩ := bindS h0
    refine call_is hO hX (fn_recurrence_firstWeek hO hv) (by kernel_rfl) [] rfl trivial rfl ?_
    cbv
    obtain ⟨hg2, h0⟩ := grdS h0
    refine ⟨inr_of hO hg2, ?_⟩
    obtain ⟨hg3, h0⟩ := grdS h0
    refine ⟨nz_of hO hg3, ?_⟩
    obtain ⟨hg4, h0⟩ := grdS h0
    refine ⟨inr_of hO hg4, ?_⟩
    obtain ⟨hg5, h0⟩ := grdS h0
    refine ⟨inr_of hO hg5, ?_⟩
    obtain ⟨hg6, h0⟩ := grdS h0
    refine ⟨inr_of hO hg6, ?_⟩
    obtain ⟨n54, hv, h0⟩ := bindS h0
    refine call_is hO hX (fn_recurrence_firstWeek hO hv) (by kernel_rfl) [] rfl trivial rfl ?_
    cbv
    obtain ⟨hg7, h0⟩ := grdS h0
    refine ⟨inr_of hO hg7, ?_⟩
    refine ⟨nz_of hO hg3, ?_⟩
    obtain ⟨hg8, h0⟩ := grdS h0
    refine ⟨inr_of hO hg8, ?_⟩
    obtain ⟨b23, hv, h0⟩ := bindS h0
    refine call_is hO hX (fn_recurrence_counted hO hv) (by kernel_rfl) [3] rfl ⟨rfl, rfl, trivial⟩ rfl ?_
    cbv
    cases h0
    exact fin_ok hX rfl ⟨[], _, _, ⟨rfl, rfl⟩, rfl, rfl, rfl, rfl, by cbv; try simp⟩
set_option maxHeartbeats 40000000 in
theorem fn_recurrence_nth_1 {O0 : Ops} (hO0 : O0 = std) {o_1 : Int} {o_2 : Int} {x_1 : Int} {x_2 : Int} {x_3 : Int} {r1 : Bool} (h : m_recurrence_nth_1 O0 o_1 o_2 x_1 x_2 x_3 = some r1) :
    Fn Tryz.prog 104 [.agg [.int .i64 o_1, .int .i64 o_2], .c (.ptr 0 0), .c (.ptr 1 0), .c (.ptr 2 0)] [.ro 3 [.int .i64 x_1], .ro 3 [.int .i64 x_2], .ro 3 [.int .i64 x_3]] (fun v c => v = .c (.bool r1) ∧ c = []) := by
  refine fn_run tab_holds eqs_holds mixed [] Tryz.func104 (by kernel_rfl) (by kernel_rfl) (Nat.le_of_ble_eq_true rfl) ?_
  intro O X hO hX
  rw [hO0, ← hO] at h
  unfold m_recurrence_nth_1 at h
  have h0 := h; clear h
  cbv
  obtain ⟨x103, h1, h0⟩ := bindS h0
  rcases condS h1 with ⟨hc1, h1⟩ | ⟨hc1, h1⟩
  · rw [hc1]
    cbv
    rcases condS h1 with ⟨hc2, h1⟩ | ⟨hc2, h1⟩
    · rw [hc2]
      cbv
      cases h1
      try dsimp only at h0
      cases h0
      exact fin_ok hX rfl ⟨[], _, _, ⟨rfl, rfl⟩, rfl, rfl, rfl, rfl, by cbv; try simp⟩
    · rw [hc2]
      cbv
      rcases condS h1 with ⟨hc3, h1⟩ | ⟨hc3, h1⟩
      · rw [hc3]
        cbv
        obtain ⟨hg4, h1⟩ := grdS h1
        refine ⟨inr_of hO hg4, ?_⟩
        obtain ⟨hg5, h1⟩ := grdS h1
        refine ⟨nz_of hO hg5, ?_⟩
        obtain ⟨hg6, h1⟩ := grdS h1
        refine ⟨inr_of hO hg6, ?_⟩
        obtain ⟨hg7, h1⟩ := grdS h1
        refine ⟨inr_of hO hg7, ?_⟩
        cases h1
        try dsimp only at h0
        cases h0
        exact fin_ok hX rfl ⟨[], _, _, ⟨rfl, rfl⟩, rfl, rfl, rfl, rfl, by cbv; try simp⟩
      · rw [hc3]
        cbv
        obtain ⟨hg8, h1⟩ := grdS h1
        refine ⟨inr_of hO hg8, ?_⟩
        obtain ⟨hg9, h1⟩ := grdS h1
        refine ⟨nz_of hO hg9, ?_⟩
        obtain ⟨hg10, h1⟩ := grdS h1
        refine ⟨inr_of hO hg10, ?_⟩
        obtain ⟨hg11, h1⟩ := grdS h1
        refine ⟨inr_of hO hg11, ?_⟩
        obtain ⟨hg12, h1⟩ := grdS h1
        refine ⟨inr_of hO hg12, ?_⟩
        refine ⟨nz_of hO hg9, ?_⟩
        obtain ⟨hg13, h1⟩ := grdS h1
        refine ⟨inr_of hO hg13, ?_⟩
        obtain ⟨hg14, h1⟩ := grdS h1
        refine ⟨inr_of hO hg14, ?_⟩
        obtain ⟨hg15, h1⟩ := grdS h1
        refine ⟨inr_of hO hg15, ?_⟩
        cases h1
        try dsimp only at h0
        cases h0
        exact fin_ok hX rfl ⟨[], _, _, ⟨rfl, rfl⟩, rfl, rfl, rfl, rfl, by cbv; try simp⟩
  · rw [hc1]
    cbv
    cases h1
    try dsimp only at h0
    cases h0
    exact fin_ok hX rfl ⟨[], _, _, ⟨rfl, rfl⟩, rfl, rfl, rfl, rfl, by cbv; try simp⟩
set_option maxHeartbeats 40000000 in
theorem fn_slices_IndexFunc_2 {O0 : Ops} (hO0 : O0 = std) {s_1 : List (Int × Int)} {c_1 : Int} {c_2 : Int} {c_3 : Int} {r1 : Int} (h : m_slices_IndexFunc_2 O0 s_1 c_1 c_2 c_3 = some r1) :
    Fn Tryz.prog 109 [.c (.sl 0), .c (.fn 104 [1, 2, 3])] [.arr false .i2 s_1, .ro 3 [.int .i64 c_1], .ro 3 [.int .i64 c_2], .ro 3 [.int .i64 c_3]] (fun v c => v = .c (.int .i64 r1) ∧ c = []) := by
  refine fn_run tab_holds eqs_holds mixed [] Tryz.func109 (by kernel_rfl) (by kernel_rfl) (Nat.le_of_ble_eq_true rfl) ?_
  intro O X hO hX
  rw [hO0, ← hO] at h
  unfold m_slices_IndexFunc_2 at h
  have h0 := h; clear h
  cbv
  obtain ⟨e1, hi, h0⟩ := bindS h0
  obtain ⟨I1, hI1, hi⟩ := loopS hi
  refine loop1 tab_holds eqs_holds mixed [] hO hX I1 (fun y => [(8, .c (.int .i64 y.2))]) (fun _ => []) (fun y => y.1) _ (by kernel_rfl) hi (by cbv; try simp) ?_
  refine allp ?_
  intro n1
  intro x100 hi
  cbv
  rw [hI1] at hi
  obtain ⟨n1, rfl, x1, h1, hi1⟩ := iterS hi
  unfold m_slices_IndexFunc_2_L1 at h1
  try dsimp only at h1
  rcases condS h1 with ⟨hc1, h1⟩ | ⟨hc1, h1⟩
  · rw [hc1]
    cbv
    obtain ⟨hg2, h1⟩ := grdS h1
    refine ⟨idx_of hO hg2, ?_⟩
    obtain ⟨hg3, h1⟩ := grdS h1
    refine ⟨kin_of hO hg3, ?_⟩
    obtain ⟨b25, hv, h1⟩ := bindS h1
    refine call_is hO hX (fn_recurrence_nth_1 hO hv) (by kernel_rfl) [1, 2, 3] rfl ⟨rfl, rfl, rfl, rfl, rfl, rfl, trivial⟩ rfl ?_
    cbv
    rcases condS h1 with ⟨hc4, h1⟩ | ⟨hc4, h1⟩
    · rw [hc4]
      cbv
      cases h1
      cases exitI hi1
      try dsimp only at h0
      cases h0
      exact fin_ok hX rfl ⟨[], _, _, ⟨rfl, rfl⟩, rfl, rfl, rfl, rfl, by cbv; try simp⟩
    · rw [hc4]
      cbv
      obtain ⟨hg5, h1⟩ := grdS h1
      refine ⟨inr_of hO hg5, ?_⟩
      cases h1
      exact ⟨_, [0, 1, 2, 3], nextI hI1 hi1, by cbv; try simp, by first | exact Nat.lt_succ_self _ | omega⟩
  · rw [hc1]
    cbv
    cases h1
    cases exitI hi1
    try dsimp only at h0
    cases h0
    exact fin_ok hX rfl ⟨[], _, _, ⟨rfl, rfl⟩, rfl, rfl, rfl, rfl, by cbv; try simp⟩
set_option maxHeartbeats 40000000 in
theorem fn_slices_ContainsFunc_2 {O0 : Ops} (hO0 : O0 = std) {s_1 : List (Int × Int)} {c_1 : Int} {c_2 : Int} {c_3 : Int} {r1 : Bool} (h : m_slices_ContainsFunc_2 O0 s_1 c_1 c_2 c_3 = some r1) :
    Fn Tryz.prog 103 [.c (.sl 0), .c (.fn 104 [1, 2, 3])] [.arr false .i2 s_1, .ro 3 [.int .i64 c_1], .ro 3 [.int .i64 c_2], .ro 3 [.int .i64 c_3]] (fun v c => v = .c (.bool r1) ∧ c = []) := by
  refine fn_run tab_holds eqs_holds mixed [] Tryz.func103 (by kernel_rfl) (by kernel_rfl) (Nat.le_of_ble_eq_true rfl) ?_
  intro O X hO hX
  rw [hO0, ← hO] at h
  unfold m_slices_ContainsFunc_2 at h
  have h0 := h; clear h
  cbv
  obtain ⟨n56, hv, h0⟩ := bindS h0
  refine call_is hO hX (fn_slices_IndexFunc_2 hO hv) (by kernel_rfl) [0, 1, 2, 3] rfl ⟨rfl, rfl, rfl, rfl, rfl, rfl, rfl, rfl, trivial⟩ rfl ?_
  cbv
  cases h0
  exact fin_ok hX rfl ⟨[], _, _, ⟨rfl, rfl⟩, rfl, rfl, rfl, rfl, by cbv; try simp⟩
set_option maxHeartbeats 40000000 in
theorem fn_recurrence_nth {O0 : Ops} (hO0 : O0 = std) {w_1 : Int} {n_1 : Int} {of_1 : Int} {l_1 : List (Int × Int)} {r1 : Bool} (h : m_recurrence_nth O0 w_1 n_1 of_1 l_1 = some r1) :
    Fn Tryz.prog 84 [.c (.sl 0), .c (.int .i64 w_1), .c (.int .i64 n_1), .c (.int .i64 of_1)] [.arr false .i2 l_1] (fun v c => v = .c (.bool r1) ∧ c = []) := by
  refine fn_run tab_holds eqs_holds mixed [] Tryz.func84 (by kernel_rfl) (by kernel_rfl) (Nat.le_of_ble_eq_true rfl) ?_
  intro O X hO hX
  rw [hO0, ← hO] at h
  unfold m_recurrence_nth at h
  have h0 := h; clear h
  cbv
  obtain ⟨x106, h1, h0⟩ := bindS h0
  rcases condS h1 with ⟨hc1, h1⟩ | ⟨hc1, h1⟩
  · rw [hc1]
    cbv
    cases h1
    try dsimp only at h0
    cases h0
    exact fin_ok hX rfl ⟨[], _, _, ⟨rfl, rfl⟩, rfl, rfl, rfl, rfl, by cbv; try simp⟩
  · rw [hc1]
    cbv
    obtain ⟨b26, hv, h1⟩ := bindS h1
    refine call_is hO hX (fn_slices_ContainsFunc_2 hO hv) (by kernel_rfl) [0, 1, 2, 3] rfl ⟨rfl, rfl, rfl, rfl, rfl, rfl, rfl, rfl, trivial⟩ rfl ?_
    cbv
    cases h1
    try dsimp only at h0
    cases h0
    exact fin_ok hX rfl ⟨[], _, _, ⟨rfl, rfl⟩, rfl, rfl, rfl, rfl, by cbv; try simp⟩
set_option maxHeartbeats 40000000 in
theorem fn_recurrence_filters_5 {O0 : Ops} (hO0 : O0 = std) {r_1 : Int} {r_2 : Int} {r_3 : Int} {r_4 : Int} {r_5 : Int} {x_1 : Int} {x_2 : Int} {x_3 : Int} {x_4 : Int} {x_5 : Int} {x_6 : Int} {x_7 : Int} {x_8 : Int} {x_9 : Int} {x_10 : Int} {x_11 : Int} {x_12 : Int} {x_13 : Int} {x_14 : Int} {x_15 : Int} {x_16 : Int} {r_6 : List Int} {r_7 : List Int} {r_8 : List Int} {r_9 : List Int} {r_10 : List (Int × Int)} {r_11 : List Int} {r_12 : List Int} {r_13 : List Int} {r_14 : List Int} {r1 : Bool} (h : m_recurrence_filters_5 O0 r_1 r_2 r_3 r_4 r_5 x_1 x_2 x_3 x_4 x_5 x_6 x_7 x_8 x_9 x_10 x_11 x_12 x_13 x_14 x_15 x_16 r_6 r_7 r_8 r_9 r_10 r_11 r_12 r_13 r_14 = some r1) :
    Fn Tryz.prog 83 [.agg [.int .i64 r_1, .int .i64 r_2, .int .i64 r_3, .int .i64 r_4, .sl 0, .sl 1, .sl 2, .sl 3, .sl 4, .sl 5, .sl 6, .sl 7, .sl 8, .int .i64 r_5], .agg [.int .i64 x_1, .int .i64 x_2, .int .i64 x_3, .int .i64 x_4, .int .i64 x_5, .int .i64 x_6, .int .i64 x_7, .int .i64 x_8], .agg [.int .i64 x_9, .int .i64 x_10, .int .i64 x_11, .int .i64 x_12, .int .i64 x_13, .int .i64 x_14, .int .i64 x_15, .int .i64 x_16]] [.arr false .i1 r_6, .arr false .i1 r_7, .arr false .i1 r_8, .arr false .i1 r_9, .arr false .i2 r_10, .arr false .i1 r_11, .arr false .i1 r_12, .arr false .i1 r_13, .arr false .i1 r_14] (fun v c => v = .c (.bool r1) ∧ c = []) := by
  refine fn_run tab_holds eqs_holds mixed [(2, (.seg 1 [0, 1, 2, 3, 5, 6, 7, 8] (.seg 2 [4] (.seg 2 [9] (.seg 1 [10] .fin)))), []), (3, (.seg 1 [0, 1, 2, 3, 5, 6, 7, 8] (.seg 2 [4] (.seg 2 [9] (.seg 1 [10] .fin)))), [])] Tryz.func83 (by kernel_rfl) (by kernel_rfl) (Nat.le_of_ble_eq_true rfl) ?_
  intro O X hO hX
  rw [hO0, ← hO] at h
  unfold m_recurrence_filters_5 at h
  have h0 := h; clear h
  cbv
  obtain ⟨x99, h1, h0⟩ := bindS h0
  rcases condS h1 with ⟨hc1, h1⟩ | ⟨hc1, h1⟩
  · rw [hc1]
    cbv
    cases h1
    try dsimp only at h0
    replace h0 := condT h0 rfl
    obtain ⟨n55, hv, h0⟩ := bindS h0
    refine call_is hO hX (fn_recurrence_weekday hO hv) (by kernel_rfl) [] rfl trivial rfl ?_
    cbv
    obtain ⟨b27, hv, h0⟩ := bindS h0
    refine call_is hO hX (fn_recurrence_nth hO hv) (by kernel_rfl) [4] rfl ⟨rfl, rfl, trivial⟩ rfl ?_
    cbv
    cases h0
    exact fin_ok hX rfl ⟨[], _, _, ⟨rfl, rfl⟩, rfl, rfl, rfl, rfl, by cbv; try simp⟩
  · rw [hc1]
    cbv
    cases h1
    try dsimp only at h0
    rcases condS h0 with ⟨hc2, h0⟩ | ⟨hc2, h0⟩
    · rw [hc2]
      cbv
      obtain ⟨n55, hv, h0⟩ := bindS h0
      refine call_is hO hX (fn_recurrence_weekday hO hv) (by kernel_rfl) [] rfl trivial rfl ?_
      cbv
      obtain ⟨b27, hv, h0⟩ := bindS h0
      refine call_is hO hX (fn_recurrence_nth hO hv) (by kernel_rfl) [4] rfl ⟨rfl, rfl, trivial⟩ rfl ?_
      cbv
      cases h0
      exact fin_ok hX rfl ⟨[], _, _, ⟨rfl, rfl⟩, rfl, rfl, rfl, rfl, by cbv; try simp⟩
    · rw [hc2]
      cbv
      obtain ⟨n57, hv, h0⟩ := bindS h0
      refine call_is hO hX (fn_recurrence_weekday hO hv) (by kernel_rfl) [] rfl trivial rfl ?_
      cbv
      obtain ⟨b28, hv, h0⟩ := bindS h0
      refine call_is hO hX (fn_recurrence_nth hO hv) (by kernel_rfl) [4] rfl ⟨rfl, rfl, trivial⟩ rfl ?_
      cbv
      cases h0
      exact fin_ok hX rfl ⟨[], _, _, ⟨rfl, rfl⟩, rfl, rfl, rfl, rfl, by cbv; try simp⟩
set_option maxHeartbeats 40000000 in
theorem fn_recurrence_filters_6 {O0 : Ops} (hO0 : O0 = std) {r_1 : Int} {r_2 : Int} {r_3 : Int} {r_4 : Int} {r_5 : Int} {x_1 : Int} {x_2 : Int} {x_3 : Int} {x_4 : Int} {x_5 : Int} {x_6 : Int} {x_7 : Int} {x_8 : Int} {start_1 : Int} {start_2 : Int} {start_3 : Int} {start_4 : Int} {start_5 : Int} {start_6 : Int} {start_7 : Int} {start_8 : Int} {r_6 : List Int} {r_7 : List Int} {r_8 : List Int} {r_9 : List Int} {r_10 : List (Int × Int)} {r_11 : List Int} {r_12 : List Int} {r_13 : List Int} {r_14 : List Int} {r1 : Bool} (h : m_recurrence_filters_6 O0 r_1 r_2 r_3 r_4 r_5 x_1 x_2 x_3 x_4 x_5 x_6 x_7 x_8 start_1 start_2 start_3 start_4 start_5 start_6 start_7 start_8 r_6 r_7 r_8 r_9 r_10 r_11 r_12 r_13 r_14 = some r1) :
    Fn Tryz.prog 85 [.agg [.int .i64 r_1, .int .i64 r_2, .int .i64 r_3, .int .i64 r_4, .sl 0, .sl 1, .sl 2, .sl 3, .sl 4, .sl 5, .sl 6, .sl 7, .sl 8, .int .i64 r_5], .agg [.int .i64 x_1, .int .i64 x_2, .int .i64 x_3, .int .i64 x_4, .int .i64 x_5, .int .i64 x_6, .int .i64 x_7, .int .i64 x_8], .agg [.int .i64 start_1, .int .i64 start_2, .int .i64 start_3, .int .i64 start_4, .int .i64 start_5, .int .i64 start_6, .int .i64 start_7, .int .i64 start_8]] [.arr false .i1 r_6, .arr false .i1 r_7, .arr false .i1 r_8, .arr false .i1 r_9, .arr false .i2 r_10, .arr false .i1 r_11, .arr false .i1 r_12, .arr false .i1 r_13, .arr false .i1 r_14] (fun v c => v = .c (.bool r1) ∧ c = []) := by
  refine fn_run tab_holds eqs_holds mixed [(3, (.seg 1 [0, 1, 3, 4] (.seg 2 [2] (.seg 2 [5] (.seg 1 [6, 7] .fin)))), [])] Tryz.func85 (by kernel_rfl) (by kernel_rfl) (Nat.le_of_ble_eq_true rfl) ?_
  intro O X hO hX
  rw [hO0, ← hO] at h
  unfold m_recurrence_filters_6 at h
  have h0 := h; clear h
  cbv
  obtain ⟨x108, h1, h0⟩ := bindS h0
  rcases condS h1 with ⟨hc1, h1⟩ | ⟨hc1, h1⟩
  · rw [hc1]
    cbv
    cases h1
    try dsimp only at h0
    replace h0 := condT h0 rfl
    cases h0
    exact fin_ok hX rfl ⟨[], _, _, ⟨rfl, rfl⟩, rfl, rfl, rfl, rfl, by cbv; try simp⟩
  · rw [hc1]
    cbv
    rcases condS h1 with ⟨hc2, h1⟩ | ⟨hc2, h1⟩
    · rw [hc2]
      cbv
      cases h1
      try dsimp only at h0
      replace h0 := condT h0 rfl
      cases h0
      exact fin_ok hX rfl ⟨[], _, _, ⟨rfl, rfl⟩, rfl, rfl, rfl, rfl, by cbv; try simp⟩
    · rw [hc2]
      cbv
      cases h1
      try dsimp only at h0
      rcases condS h0 with ⟨hc3, h0⟩ | ⟨hc3, h0⟩
      · rw [hc3]
        cbv
        cases h0
        exact fin_ok hX rfl ⟨[], _, _, ⟨rfl, rfl⟩, rfl, rfl, rfl, rfl, by cbv; try simp⟩
      · rw [hc3]
        cbv
        obtain ⟨n58, hv, h0⟩ := bindS h0
        refine call_is hO hX (fn_recurrence_weekday hO hv) (by kernel_rfl) [] rfl trivial rfl ?_
        cbv
        obtain ⟨n59, hv, h0⟩ := bindS h0
        refine call_is hO hX (fn_recurrence_weekday hO hv) (by kernel_rfl) [] rfl trivial rfl ?_
        cbv
        obtain ⟨x110, h1, h0⟩ := bindS h0
        rcases condS h1 with ⟨hc4, h1⟩ | ⟨hc4, h1⟩
        · rw [hc4]
          cbv
          cases h1
          try dsimp only at h0
          obtain ⟨x112, h1, h0⟩ := bindS h0
          rcases condS h1 with ⟨hc5, h1⟩ | ⟨hc5, h1⟩
          · rw [hc5]
            cbv
            cases h1
            try dsimp only at h0
            obtain ⟨e1, h1, h0⟩ := bindS h0
            replace h1 := condT h1 rfl
            cases h1
            try dsimp only at h0
            cases h0
            exact fin_ok hX rfl ⟨[], _, _, ⟨rfl, rfl⟩, rfl, rfl, rfl, rfl, by cbv; try simp⟩
          · rw [hc5]
            cbv
            cases h1
            try dsimp only at h0
            obtain ⟨e1, h1, h0⟩ := bindS h0
            rcases condS h1 with ⟨hc6, h1⟩ | ⟨hc6, h1⟩
            · rw [hc6]
              cbv
              cases h1
              try dsimp only at h0
              cases h0
              exact fin_ok hX rfl ⟨[], _, _, ⟨rfl, rfl⟩, rfl, rfl, rfl, rfl, by cbv; try simp⟩
            · rw [hc6]
              cbv
              try (rw [hc4]; cbv)
              obtain ⟨e2, h2, h1⟩ := bindS h1
              replace h2 := condT h2 hc4
              obtain ⟨x115, h3, h2⟩ := bindS h2
              rcases condS h3 with ⟨hc7, h3⟩ | ⟨hc7, h3⟩
              · rw [hc7]
                cbv
                rcases condS h3 with ⟨hc8, h3⟩ | ⟨hc8, h3⟩
                · rw [hc8]
                  cbv
                  cases h3
                  try dsimp only at h2
                  cases h2
                  try dsimp only at h1
                  cases h1
                  try dsimp only at h0
                  cases h0
                  exact fin_ok hX rfl ⟨[], _, _, ⟨rfl, rfl⟩, rfl, rfl, rfl, rfl, by cbv; try simp⟩
                · rw [hc8]
                  cbv
                  cases h3
                  try dsimp only at h2
                  cases h2
                  try dsimp only at h1
                  cases h1
                  try dsimp only at h0
                  cases h0
                  exact fin_ok hX rfl ⟨[], _, _, ⟨rfl, rfl⟩, rfl, rfl, rfl, rfl, by cbv; try simp⟩
              · rw [hc7]
                cbv
                cases h3
                try dsimp only at h2
                cases h2
                try dsimp only at h1
                cases h1
                try dsimp only at h0
                cases h0
                exact fin_ok hX rfl ⟨[], _, _, ⟨rfl, rfl⟩, rfl, rfl, rfl, rfl, by cbv; try simp⟩
        · rw [hc4]
          cbv
          cases h1
          try dsimp only at h0
          obtain ⟨x112, h1, h0⟩ := bindS h0
          replace h1 := condF h1 rfl
          cases h1
          try dsimp only at h0
          obtain ⟨e1, h1, h0⟩ := bindS h0
          rcases condS h1 with ⟨hc9, h1⟩ | ⟨hc9, h1⟩
          · rw [hc9]
            cbv
            cases h1
            try dsimp only at h0
            cases h0
            exact fin_ok hX rfl ⟨[], _, _, ⟨rfl, rfl⟩, rfl, rfl, rfl, rfl, by cbv; try simp⟩
          · rw [hc9]
            cbv
            try (rw [hc4]; cbv)
            obtain ⟨e2, h2, h1⟩ := bindS h1
            replace h2 := condF h2 hc4
            rcases condS h2 with ⟨hc10, h2⟩ | ⟨hc10, h2⟩
            · rw [hc10]
              cbv
              cases h2
              try dsimp only at h1
              cases h1
              try dsimp only at h0
              cases h0
              exact fin_ok hX rfl ⟨[], _, _, ⟨rfl, rfl⟩, rfl, rfl, rfl, rfl, by cbv; try simp⟩
            · rw [hc10]
              cbv
              cases h2
              try dsimp only at h1
              cases h1
              try dsimp only at h0
              cases h0
              exact fin_ok hX rfl ⟨[], _, _, ⟨rfl, rfl⟩, rfl, rfl, rfl, rfl, by cbv; try simp⟩
end Go.Proofs.YtmnhfaaaaejpaaaGreat
namespace Go.Proofs.YtmnhfaaaaejpaaaGreat
open Go.RowKit
set_option maxRecDepth 100000

set_option maxHeartbeats 40000000 in
theorem fn_recurrence_passes {O0 : Ops} (hO0 : O0 = std) {r_1 : Int} {r_2 : Int} {r_3 : Int} {r_4 : Int} {r_5 : Int} {start_1 : Int} {start_2 : Int} {start_3 : Int} {start_4 : Int} {start_5 : Int} {start_6 : Int} {start_7 : Int} {start_8 : Int} {day_1 : Int} {r_6 : List Int} {r_7 : List Int} {r_8 : List Int} {r_9 : List Int} {r_10 : List (Int × Int)} {r_11 : List Int} {r_12 : List Int} {r_13 : List Int} {r_14 : List Int} {r1 : Bool} (h : m_recurrence_passes O0 r_1 r_2 r_3 r_4 r_5 start_1 start_2 start_3 start_4 start_5 start_6 start_7 start_8 day_1 r_6 r_7 r_8 r_9 r_10 r_11 r_12 r_13 r_14 = some r1) :
    Fn Tryz.prog 41 [.agg [.int .i64 r_1, .int .i64 r_2, .int .i64 r_3, .int .i64 r_4, .sl 0, .sl 1, .sl 2, .sl 3, .sl 4, .sl 5, .sl 6, .sl 7, .sl 8, .int .i64 r_5], .agg [.int .i64 start_1, .int .i64 start_2, .int .i64 start_3, .int .i64 start_4, .int .i64 start_5, .int .i64 start_6, .int .i64 start_7, .int .i64 start_8], .c (.int .i64 day_1)] [.arr false .i1 r_6, .arr false .i1 r_7, .arr false .i1 r_8, .arr false .i1 r_9, .arr false .i2 r_10, .arr false .i1 r_11, .arr false .i1 r_12, .arr false .i1 r_13, .arr false .i1 r_14] (fun v c => v = .c (.bool r1) ∧ c = []) := by
  refine fn_run tab_holds eqs_holds mixed [] Tryz.func41 (by kernel_rfl) (by kernel_rfl) (Nat.le_of_ble_eq_true rfl) ?_
  intro O X hO hX
  rw [hO0, ← hO] at h
  unfold m_recurrence_passes at h
  have h0 := h; clear h
  cbv
  obtain ⟨⟨n41, n42, n43, n44, n45, n46, n47, n48⟩, hv, h0⟩ := bindS h0
  try dsimp only at h0
  refine call_is hO hX (fn_recurrence_dateOf hO hv) (by kernel_rfl) [] rfl trivial rfl ?_
  cbv
  refine call_inline tab_holds eqs_holds mixed [] hO hX (by kernel_rfl) Tryz.func59 (by kernel_rfl) (by kernel_rfl) rfl ?_
  intro X1 hX1 hF1
  cbv
  refine hF1 _ _ ?_
  cbv
  refine loop_unroll tab_holds eqs_holds mixed [] hO hX 7 (by kernel_rfl) ?_
  cbv
  rw [show (O .lt 0 (Int.ofNat 6)) = true from by subst hO; rfl]
  cbv
  obtain ⟨b16, hv, h0⟩ := bindS h0
  refine call_is hO hX (fn_recurrence_filters_1 hO hv) (by kernel_rfl) [0, 1, 2, 3, 4, 5, 6, 7, 8] rfl ⟨rfl, rfl, rfl, rfl, rfl, rfl, rfl, rfl, rfl, rfl, rfl, rfl, rfl, rfl, rfl, rfl, rfl, rfl, trivial⟩ rfl ?_
  cbv
  rcases condS h0 with ⟨hc1, h0⟩ | ⟨hc1, h0⟩
  · rw [hc1]
    cbv
    cases h0
    exact fin_ok hX rfl ⟨[], _, _, ⟨rfl, rfl⟩, rfl, rfl, rfl, rfl, by cbv; try simp⟩
  · rw [hc1]
    cbv
    obtain ⟨hg2, h0⟩ := grdS h0
    refine ⟨inr_of hO hg2, ?_⟩
    try (rw [show (O .add 0 1) = 1 from by subst hO; rfl]; try cbv)
    try (rw [show (O .add 0 1) = 1 from by subst hO; rfl]; try cbv)
    rw [show (O .lt 1 (Int.ofNat 6)) = true from by subst hO; rfl]
    cbv
    obtain ⟨b20, hv, h0⟩ := bindS h0
    refine call_is hO hX (fn_recurrence_filters_2 hO hv) (by kernel_rfl) [0, 1, 2, 3, 4, 5, 6, 7, 8] rfl ⟨rfl, rfl, rfl, rfl, rfl, rfl, rfl, rfl, rfl, rfl, rfl, rfl, rfl, rfl, rfl, rfl, rfl, rfl, trivial⟩ rfl ?_
    cbv
    rcases condS h0 with ⟨hc3, h0⟩ | ⟨hc3, h0⟩
    · rw [hc3]
      cbv
      cases h0
      exact fin_ok hX rfl ⟨[], _, _, ⟨rfl, rfl⟩, rfl, rfl, rfl, rfl, by cbv; try simp⟩
    · rw [hc3]
      cbv
      obtain ⟨hg4, h0⟩ := grdS h0
      refine ⟨inr_of hO hg4, ?_⟩
      try (rw [show (O .add 1 1) = 2 from by subst hO; rfl]; try cbv)
      try (rw [show (O .add 1 1) = 2 from by subst hO; rfl]; try cbv)
      rw [show (O .lt 2 (Int.ofNat 6)) = true from by subst hO; rfl]
      cbv
      obtain ⟨b22, hv, h0⟩ := bindS h0
      refine call_is hO hX (fn_recurrence_filters_3 hO hv) (by kernel_rfl) [0, 1, 2, 3, 4, 5, 6, 7, 8] rfl ⟨rfl, rfl, rfl, rfl, rfl, rfl, rfl, rfl, rfl, rfl, rfl, rfl, rfl, rfl, rfl, rfl, rfl, rfl, trivial⟩ rfl ?_
      cbv
      rcases condS h0 with ⟨hc5, h0⟩ | ⟨hc5, h0⟩
      · rw [hc5]
        cbv
        cases h0
        exact fin_ok hX rfl ⟨[], _, _, ⟨rfl, rfl⟩, rfl, rfl, rfl, rfl, by cbv; try simp⟩
      · rw [hc5]
        cbv
        obtain ⟨hg6, h0⟩ := grdS h0
        refine ⟨inr_of hO hg6, ?_⟩
        try (rw [show (O .add 2 1) = 3 from by subst hO; rfl]; try cbv)
        try (rw [show (O .add 2 1) = 3 from by subst hO; rfl]; try cbv)
        rw [show (O .lt 3 (Int.ofNat 6)) = true from by subst hO; rfl]
        cbv
        obtain ⟨b24, hv, h0⟩ := bindS h0
        refine call_is hO hX (fn_recurrence_filters_4 hO hv) (by kernel_rfl) [0, 1, 2, 3, 4, 5, 6, 7, 8] rfl ⟨rfl, rfl, rfl, rfl, rfl, rfl, rfl, rfl, rfl, rfl, rfl, rfl, rfl, rfl, rfl, rfl, rfl, rfl, trivial⟩ rfl ?_
        cbv
        rcases condS h0 with ⟨hc7, h0⟩ | ⟨hc7, h0⟩
        · rw [hc7]
          cbv
          cases h0
          exact fin_ok hX rfl ⟨[], _, _, ⟨rfl, rfl⟩, rfl, rfl, rfl, rfl, by cbv; try simp⟩
        · rw [hc7]
          cbv
          obtain ⟨hg8, h0⟩ := grdS h0
          refine ⟨inr_of hO hg8, ?_⟩
          try (rw [show (O .add 3 1) = 4 from by subst hO; rfl]; try cbv)
          try (rw [show (O .add 3 1) = 4 from by subst hO; rfl]; try cbv)
          rw [show (O .lt 4 (Int.ofNat 6)) = true from by subst hO; rfl]
          cbv
          obtain ⟨b29, hv, h0⟩ := bindS h0
          refine call_is hO hX (fn_recurrence_filters_5 hO hv) (by kernel_rfl) [0, 1, 2, 3, 4, 5, 6, 7, 8] rfl ⟨rfl, rfl, rfl, rfl, rfl, rfl, rfl, rfl, rfl, rfl, rfl, rfl, rfl, rfl, rfl, rfl, rfl, rfl, trivial⟩ rfl ?_
          cbv
          rcases condS h0 with ⟨hc9, h0⟩ | ⟨hc9, h0⟩
          · rw [hc9]
            cbv
            cases h0
            exact fin_ok hX rfl ⟨[], _, _, ⟨rfl, rfl⟩, rfl, rfl, rfl, rfl, by cbv; try simp⟩
          · rw [hc9]
            cbv
            obtain ⟨hg10, h0⟩ := grdS h0
            refine ⟨inr_of hO hg10, ?_⟩
            try (rw [show (O .add 4 1) = 5 from by subst hO; rfl]; try cbv)
            try (rw [show (O .add 4 1) = 5 from by subst hO; rfl]; try cbv)
            rw [show (O .lt 5 (Int.ofNat 6)) = true from by subst hO; rfl]
            cbv
            obtain ⟨b30, hv, h0⟩ := bindS h0
            refine call_is hO hX (fn_recurrence_filters_6 hO hv) (by kernel_rfl) [0, 1, 2, 3, 4, 5, 6, 7, 8] rfl ⟨rfl, rfl, rfl, rfl, rfl, rfl, rfl, rfl, rfl, rfl, rfl, rfl, rfl, rfl, rfl, rfl, rfl, rfl, trivial⟩ rfl ?_
            cbv
            rcases condS h0 with ⟨hc11, h0⟩ | ⟨hc11, h0⟩
            · rw [hc11]
              cbv
              cases h0
              exact fin_ok hX rfl ⟨[], _, _, ⟨rfl, rfl⟩, rfl, rfl, rfl, rfl, by cbv; try simp⟩
            · rw [hc11]
              cbv
              obtain ⟨hg12, h0⟩ := grdS h0
              refine ⟨inr_of hO hg12, ?_⟩
              try (rw [show (O .add 5 1) = 6 from by subst hO; rfl]; try cbv)
              try (rw [show (O .add 5 1) = 6 from by subst hO; rfl]; try cbv)
              rw [show (O .lt 6 (Int.ofNat 6)) = false from by subst hO; rfl]
              cbv
              cases h0
              exact fin_ok hX rfl ⟨[], _, _, ⟨rfl, rfl⟩, rfl, rfl, rfl, rfl, by cbv; try simp⟩
end Go.Proofs.YtmnhfaaaaejpaaaGreat
