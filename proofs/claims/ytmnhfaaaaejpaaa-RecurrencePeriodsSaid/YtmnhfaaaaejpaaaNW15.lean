/-
  The code does what its models say (printed by lift.py).
-/
import Derived.Test.YtmnhfaaaaejpaaaNM
import Derived.Test.YtmnhfaaaaejpaaaNNoW
import Derived.Test.YtmnhfaaaaejpaaaNW13
import Derived.Test.YtmnhfaaaaejpaaaNW14
namespace Go.Proofs.Ytmnhfaaaaejpaaa
open Go.RowKit
set_option maxRecDepth 100000

set_option maxHeartbeats 40000000 in
theorem fn_ref05_Fields {O0 : Ops} (hO0 : O0 = std) {day_1 : Int} {r1 : Int} {r2 : Int} {r3 : Int} (h : m_ref05_Fields O0 day_1 = some (r1, r2, r3)) :
    Fn Try.prog 53 [.c (.int .i64 day_1)] [] (fun v c => v = .agg [.int .i64 r1, .int .i64 r2, .int .i64 r3] ∧ c = []) := by
  refine fn_run tab_holds eqs_holds mixed [] Try.func53 (by kernel_rfl) (by kernel_rfl) (Nat.le_of_ble_eq_true rfl) ?_
  intro O X hO hX
  rw [hO0, ← hO] at h
  unfold m_ref05_Fields at h
  have h0 := h; clear h
  cbv
  obtain ⟨⟨n119, n120, n121, n122⟩, hv, h0⟩ := bindS h0
  try dsimp only at h0
  refine call_is hO hX (fn_ref05_Date hO hv) (by kernel_rfl) [] rfl trivial rfl ?_
  cbv
  obtain ⟨hg1, h0⟩ := grdS h0
  refine ⟨inr_of hO hg1, ?_⟩
  obtain ⟨year5, hi, h0⟩ := bindS h0
  obtain ⟨I1, hI1, hi⟩ := loopS hi
  refine loop1 tab_holds eqs_holds mixed [] hO hX I1 (fun y => [(3, .junk), (14, .junk), (5, .c (.int .i64 y.2))]) (fun _ => []) (fun y => y.1) _ (by kernel_rfl) hi (by cbv; try simp) ?_
  refine allp ?_
  intro n1
  intro year4 hi
  cbv
  rw [hI1] at hi
  obtain ⟨n1, rfl, x1, h1, hi1⟩ := iterS hi
  unfold m_ref05_Fields_L1 at h1
  try dsimp only at h1
  obtain ⟨x237, h2, h1⟩ := bindS h1
  rcases condS h2 with ⟨hc2, h2⟩ | ⟨hc2, h2⟩
  · rw [hc2]
    cbv
    cases h2
    try dsimp only at h1
    replace h1 := condT h1 rfl
    obtain ⟨hg3, h1⟩ := grdS h1
    refine ⟨inr_of hO hg3, ?_⟩
    cases h1
    exact ⟨_, [0, 1], nextI hI1 hi1, by cbv; try simp, by first | exact Nat.lt_succ_self _ | omega⟩
  · as_aux_lemma =>
    rw [hc2]
    cbv
    obtain ⟨n131, hv, h2⟩ := bindS h2
    refine call_is hO hX (fn_ref05_first hO hv) (by kernel_rfl) [] rfl trivial rfl ?_
    cbv
    cases h2
    try dsimp only at h1
    rcases condS h1 with ⟨hc4, h1⟩ | ⟨hc4, h1⟩
    · rw [hc4]
      cbv
      obtain ⟨hg5, h1⟩ := grdS h1
      refine ⟨inr_of hO hg5, ?_⟩
      cases h1
      exact ⟨_, [0, 1], nextI hI1 hi1, by cbv; try simp, by first | exact Nat.lt_succ_self _ | omega⟩
    · rw [hc4]
      cbv
      cases h1
      cases exitI hi1
      try dsimp only at h0
      obtain ⟨⟨x238, x239⟩, hi, h0⟩ := bindS h0
      obtain ⟨I2, hI2, hi⟩ := loopS hi
      refine loop1 tab_holds eqs_holds mixed [] hO hX I2 (fun y => [(6, .c (.int .i64 y.2))]) (fun _ => []) (fun y => y.1) _ (by kernel_rfl) hi (by cbv; try simp) ?_
      refine allp ?_
      intro n2
      intro month3 hi
      cbv
      rw [hI2] at hi
      obtain ⟨n2, rfl, x2, h1, hi2⟩ := iterS hi
      unfold m_ref05_Fields_L2 at h1
      try dsimp only at h1
      obtain ⟨⟨n132, b69⟩, hv, h1⟩ := bindS h1
      try dsimp only at h1
      refine call_is hO hX (fn_ref05_Gregorian hO hv) (by kernel_rfl) [] rfl trivial rfl ?_
      cbv
      rcases condS h1 with ⟨hc6, h1⟩ | ⟨hc6, h1⟩
      · rw [hc6]
        cbv
        obtain ⟨hg7, h1⟩ := grdS h1
        refine ⟨inr_of hO hg7, ?_⟩
        obtain ⟨hg8, h1⟩ := grdS h1
        refine ⟨inr_of hO hg8, ?_⟩
        cases h1
        cases exitI hi2
        try dsimp only at h0
        cases h0
        exact fin_ok hX rfl ⟨[], _, _, ⟨rfl, rfl⟩, rfl, rfl, rfl, rfl, by cbv; try simp⟩
      · rw [hc6]
        cbv
        obtain ⟨hg9, h1⟩ := grdS h1
        refine ⟨inr_of hO hg9, ?_⟩
        cases h1
        exact ⟨_, [0, 1], nextI hI2 hi2, by cbv; try simp, by first | exact Nat.lt_succ_self _ | omega⟩
set_option maxHeartbeats 40000000 in
theorem fn_ref01_Mod {O0 : Ops} (hO0 : O0 = std) {a_1 : Int} {b_1 : Int} {r1 : Int} (h : m_ref01_Mod O0 a_1 b_1 = some r1) :
    Fn Try.prog 79 [.c (.int .i64 a_1), .c (.int .i64 b_1)] [] (fun v c => v = .c (.int .i64 r1) ∧ c = []) := by
  refine fn_run tab_holds eqs_holds mixed [] Try.func79 (by kernel_rfl) (by kernel_rfl) (Nat.le_of_ble_eq_true rfl) ?_
  intro O X hO hX
  rw [hO0, ← hO] at h
  unfold m_ref01_Mod at h
  have h0 := h; clear h
  cbv
  obtain ⟨⟨n136, n137, n138⟩, hv, h0⟩ := bindS h0
  try dsimp only at h0
  refine call_is hO hX (fn_ref01_Div hO hv) (by kernel_rfl) [] rfl trivial rfl ?_
  cbv
  cases h0
  exact fin_ok hX rfl ⟨[], _, _, ⟨rfl, rfl⟩, rfl, rfl, rfl, rfl, by cbv; try simp⟩
set_option maxHeartbeats 40000000 in
theorem fn_ref29_Weekday {O0 : Ops} (hO0 : O0 = std) {day_1 : Int} {r1 : Int} (h : m_ref29_Weekday O0 day_1 = some r1) :
    Fn Try.prog 80 [.c (.int .i64 day_1)] [] (fun v c => v = .c (.int .i64 r1) ∧ c = []) := by
  refine fn_run tab_holds eqs_holds mixed [] Try.func80 (by kernel_rfl) (by kernel_rfl) (Nat.le_of_ble_eq_true rfl) ?_
  intro O X hO hX
  rw [hO0, ← hO] at h
  unfold m_ref29_Weekday at h
  have h0 := h; clear h
  cbv
  obtain ⟨hg1, h0⟩ := grdS h0
  refine ⟨inr_of hO hg1, ?_⟩
  obtain ⟨n139, hv, h0⟩ := bindS h0
  refine call_is hO hX (fn_ref01_Mod hO hv) (by kernel_rfl) [] rfl trivial rfl ?_
  cbv
  obtain ⟨hg2, h0⟩ := grdS h0
  refine ⟨inr_of hO hg2, ?_⟩
  cases h0
  exact fin_ok hX rfl ⟨[], _, _, ⟨rfl, rfl⟩, rfl, rfl, rfl, rfl, by cbv; try simp⟩
set_option maxHeartbeats 40000000 in
theorem fn_ref29_week {O0 : Ops} (hO0 : O0 = std) {day_1 : Int} {start_1 : Int} {r1 : Int} (h : m_ref29_week O0 day_1 start_1 = some r1) :
    Fn Try.prog 55 [.c (.int .i64 day_1), .c (.int .i64 start_1)] [] (fun v c => v = .c (.int .i64 r1) ∧ c = []) := by
  refine fn_run tab_holds eqs_holds mixed [] Try.func55 (by kernel_rfl) (by kernel_rfl) (Nat.le_of_ble_eq_true rfl) ?_
  intro O X hO hX
  rw [hO0, ← hO] at h
  unfold m_ref29_week at h
  have h0 := h; clear h
  cbv
  obtain ⟨n140, hv, h0⟩ := bindS h0
  refine call_is hO hX (fn_ref29_Weekday hO hv) (by kernel_rfl) [] rfl trivial rfl ?_
  cbv
  obtain ⟨hg1, h0⟩ := grdS h0
  refine ⟨inr_of hO hg1, ?_⟩
  obtain ⟨n141, hv, h0⟩ := bindS h0
  refine call_is hO hX (fn_ref01_Mod hO hv) (by kernel_rfl) [] rfl trivial rfl ?_
  cbv
  obtain ⟨hg2, h0⟩ := grdS h0
  refine ⟨inr_of hO hg2, ?_⟩
  cases h0
  exact fin_ok hX rfl ⟨[], _, _, ⟨rfl, rfl⟩, rfl, rfl, rfl, rfl, by cbv; try simp⟩
set_option maxHeartbeats 40000000 in
theorem fn_ref29_NewYear {O0 : Ops} (hO0 : O0 = std) {year_1 : Int} {r1 : Int} (h : m_ref29_NewYear O0 year_1 = some r1) :
    Fn Try.prog 77 [.c (.int .i64 year_1)] [] (fun v c => v = .c (.int .i64 r1) ∧ c = []) := by
  refine fn_run tab_holds eqs_holds mixed [] Try.func77 (by kernel_rfl) (by kernel_rfl) (Nat.le_of_ble_eq_true rfl) ?_
  intro O X hO hX
  rw [hO0, ← hO] at h
  unfold m_ref29_NewYear at h
  have h0 := h; clear h
  cbv
  obtain ⟨hg1, h0⟩ := grdS h0
  refine ⟨inr_of hO hg1, ?_⟩
  obtain ⟨hg2, h0⟩ := grdS h0
  refine ⟨inr_of hO hg2, ?_⟩
  obtain ⟨hg3, h0⟩ := grdS h0
  refine ⟨inr_of hO hg3, ?_⟩
  obtain ⟨n143, hv, h0⟩ := bindS h0
  refine call_is hO hX (fn_ref01_Floor hO hv) (by kernel_rfl) [] rfl trivial rfl ?_
  cbv
  obtain ⟨hg4, h0⟩ := grdS h0
  refine ⟨inr_of hO hg4, ?_⟩
  obtain ⟨n144, hv, h0⟩ := bindS h0
  refine call_is hO hX (fn_ref01_Floor hO hv) (by kernel_rfl) [] rfl trivial rfl ?_
  cbv
  obtain ⟨hg5, h0⟩ := grdS h0
  refine ⟨inr_of hO hg5, ?_⟩
  obtain ⟨n145, hv, h0⟩ := bindS h0
  refine call_is hO hX (fn_ref01_Floor hO hv) (by kernel_rfl) [] rfl trivial rfl ?_
  cbv
  obtain ⟨hg6, h0⟩ := grdS h0
  refine ⟨inr_of hO hg6, ?_⟩
  cases h0
  exact fin_ok hX rfl ⟨[], _, _, ⟨rfl, rfl⟩, rfl, rfl, rfl, rfl, by cbv; try simp⟩
set_option maxHeartbeats 40000000 in
theorem fn_ref29_firstWeek {O0 : Ops} (hO0 : O0 = std) {year_1 : Int} {start_1 : Int} {r1 : Int} (h : m_ref29_firstWeek O0 year_1 start_1 = some r1) :
    Fn Try.prog 78 [.c (.int .i64 year_1), .c (.int .i64 start_1)] [] (fun v c => v = .c (.int .i64 r1) ∧ c = []) := by
  refine fn_run tab_holds eqs_holds mixed [] Try.func78 (by kernel_rfl) (by kernel_rfl) (Nat.le_of_ble_eq_true rfl) ?_
  intro O X hO hX
  rw [hO0, ← hO] at h
  unfold m_ref29_firstWeek at h
  have h0 := h; clear h
  cbv
  obtain ⟨n147, hv, h0⟩ := bindS h0
  refine call_is hO hX (fn_ref29_NewYear hO hv) (by kernel_rfl) [] rfl trivial rfl ?_
  cbv
  obtain ⟨hg1, h0⟩ := grdS h0
  refine ⟨inr_of hO hg1, ?_⟩
  obtain ⟨n148, hv, h0⟩ := bindS h0
  refine call_is hO hX (fn_ref29_week hO hv) (by kernel_rfl) [] rfl trivial rfl ?_
  cbv
  cases h0
  exact fin_ok hX rfl ⟨[], _, _, ⟨rfl, rfl⟩, rfl, rfl, rfl, rfl, by cbv; try simp⟩
set_option maxHeartbeats 40000000 in
theorem fn_ref29_Week {O0 : Ops} (hO0 : O0 = std) {day_1 : Int} {start_1 : Int} {r1 : Int} {r2 : Int} {r3 : Int} (h : m_ref29_Week O0 day_1 start_1 = some (r1, r2, r3)) :
    Fn Try.prog 54 [.c (.int .i64 day_1), .c (.int .i64 start_1)] [] (fun v c => v = .tup [.one (.int .i64 r1), .one (.int .i64 r2), .one (.int .i64 r3)] ∧ c = []) := by
  refine fn_run tab_holds eqs_holds mixed [] Try.func54 (by kernel_rfl) (by kernel_rfl) (Nat.le_of_ble_eq_true rfl) ?_
  intro O X hO hX
  rw [hO0, ← hO] at h
  unfold m_ref29_Week at h
  have h0 := h; clear h
  cbv
  obtain ⟨n142, hv, h0⟩ := bindS h0
  refine call_is hO hX (fn_ref29_week hO hv) (by kernel_rfl) [] rfl trivial rfl ?_
  cbv
  obtain ⟨hg1, h0⟩ := grdS h0
  refine ⟨inr_of hO hg1, ?_⟩
  obtain ⟨hg2, h0⟩ := grdS h0
  refine ⟨inr_of hO hg2, ?_⟩
  obtain ⟨hg3, h0⟩ := grdS h0
  refine ⟨inr_of hO hg3, ?_⟩
  obtain ⟨hg4, h0⟩ := grdS h0
  refine ⟨nz_of hO hg4, ?_⟩
  obtain ⟨hg5, h0⟩ := grdS h0
  refine ⟨inr_of hO hg5, ?_⟩
  obtain ⟨hg6, h0⟩ := grdS h0
  refine ⟨inr_of hO hg6, ?_⟩
  obtain ⟨year7, hi, h0⟩ := bindS h0
  obtain ⟨I1, hI1, hi⟩ := loopS hi
  refine loop1 tab_holds eqs_holds mixed [] hO hX I1 (fun y => [(8, .c (.int .i64 y.2))]) (fun _ => []) (fun y => y.1) _ (by kernel_rfl) hi (by cbv; try simp) ?_
  refine allp ?_
  intro n1
  intro year6 hi
  cbv
  rw [hI1] at hi
  obtain ⟨n1, rfl, x1, h1, hi1⟩ := iterS hi
  unfold m_ref29_Week_L1 at h1
  try dsimp only at h1
  obtain ⟨hg7, h1⟩ := grdS h1
  refine ⟨inr_of hO hg7, ?_⟩
  obtain ⟨n146, hv, h1⟩ := bindS h1
  refine call_is hO hX (fn_ref29_NewYear hO hv) (by kernel_rfl) [] rfl trivial rfl ?_
  cbv
  refine ⟨inr_of hO hg1, ?_⟩
  rcases condS h1 with ⟨hc8, h1⟩ | ⟨hc8, h1⟩
  · rw [hc8]
    cbv
    refine ⟨inr_of hO hg7, ?_⟩
    cases h1
    exact ⟨_, [], nextI hI1 hi1, by cbv; try simp, by first | exact Nat.lt_succ_self _ | omega⟩
  · rw [hc8]
    cbv
    cases h1
    cases exitI hi1
    try dsimp only at h0
    obtain ⟨n149, hv, h0⟩ := bindS h0
    refine call_is hO hX (fn_ref29_firstWeek hO hv) (by kernel_rfl) [] rfl trivial rfl ?_
    cbv
    obtain ⟨hg9, h0⟩ := grdS h0
    refine ⟨inr_of hO hg9, ?_⟩
    obtain ⟨hg10, h0⟩ := grdS h0
    refine ⟨nz_of hO hg10, ?_⟩
    obtain ⟨hg11, h0⟩ := grdS h0
    refine ⟨inr_of hO hg11, ?_⟩
    obtain ⟨hg12, h0⟩ := grdS h0
    refine ⟨inr_of hO hg12, ?_⟩
    obtain ⟨hg13, h0⟩ := grdS h0
    refine ⟨inr_of hO hg13, ?_⟩
    obtain ⟨n150, hv, h0⟩ := bindS h0
    refine call_is hO hX (fn_ref29_firstWeek hO hv) (by kernel_rfl) [] rfl trivial rfl ?_
    cbv
    obtain ⟨hg14, h0⟩ := grdS h0
    refine ⟨inr_of hO hg14, ?_⟩
    refine ⟨nz_of hO hg10, ?_⟩
    obtain ⟨hg15, h0⟩ := grdS h0
    refine ⟨inr_of hO hg15, ?_⟩
    cases h0
    exact fin_ok hX rfl ⟨[], _, _, ⟨rfl, rfl⟩, rfl, rfl, rfl, rfl, by cbv; try simp⟩
set_option maxHeartbeats 40000000 in
theorem fn_ref29_Number {O0 : Ops} (hO0 : O0 = std) {r_1 : Int} {r_2 : Int} {r_3 : Int} {r_4 : Int} {r_5 : Int} {l_1 : Int} {r_6 : List Int} {r_7 : List Int} {r_8 : List Int} {r_9 : List Int} {r_10 : List (Int × Int)} {r_11 : List Int} {r_12 : List Int} {r_13 : List Int} {r_14 : List Int} {r1 : Int} (h : m_ref29_Number O0 r_1 r_2 r_3 r_4 r_5 l_1 r_6 r_7 r_8 r_9 r_10 r_11 r_12 r_13 r_14 = some r1) :
    Fn Try.prog 26 [.agg [.int .i64 r_1, .int .i64 r_2, .int .i64 r_3, .int .i64 r_4, .sl 0, .sl 1, .sl 2, .sl 3, .sl 4, .sl 5, .sl 6, .sl 7, .sl 8, .int .i64 r_5], .c (.int .i64 l_1)] [.arr false .i1 r_6, .arr false .i1 r_7, .arr false .i1 r_8, .arr false .i1 r_9, .arr false .i2 r_10, .arr false .i1 r_11, .arr false .i1 r_12, .arr false .i1 r_13, .arr false .i1 r_14] (fun v c => v = .c (.int .i64 r1) ∧ c = []) := by
  refine fn_run tab_holds eqs_holds mixed [] Try.func26 (by kernel_rfl) (by kernel_rfl) (Nat.le_of_ble_eq_true rfl) ?_
  intro O X hO hX
  rw [hO0, ← hO] at h
  unfold m_ref29_Number at h
  have h0 := h; clear h
  cbv
  obtain ⟨n112, hv, h0⟩ := bindS h0
  refine call_is hO hX (fn_ref01_Floor hO hv) (by kernel_rfl) [] rfl trivial rfl ?_
  cbv
  obtain ⟨⟨n133, n134, n135⟩, hv, h0⟩ := bindS h0
  try dsimp only at h0
  refine call_is hO hX (fn_ref05_Fields hO hv) (by kernel_rfl) [] rfl trivial rfl ?_
  cbv
  obtain ⟨e1, h1, h0⟩ := bindS h0
  rcases condS h1 with ⟨hc1, h1⟩ | ⟨hc1, h1⟩
  · rw [hc1]
    cbv
    rcases condS h1 with ⟨hc2, h1⟩ | ⟨hc2, h1⟩
    · rw [hc2]
      cbv
      obtain ⟨⟨n151, n152, n153⟩, hv, h1⟩ := bindS h1
      try dsimp only at h1
      refine call_is hO hX (fn_ref29_Week hO hv) (by kernel_rfl) [] rfl trivial rfl ?_
      cbv
      cases h1
      try dsimp only at h0
      cases h0
      exact fin_ok hX rfl ⟨[], _, _, ⟨rfl, rfl⟩, rfl, rfl, rfl, rfl, by cbv; try simp⟩
    · rw [hc2]
      cbv
      cases h1
      try dsimp only at h0
      cases h0
      exact fin_ok hX rfl ⟨[], _, _, ⟨rfl, rfl⟩, rfl, rfl, rfl, rfl, by cbv; try simp⟩
  · as_aux_lemma =>
    rw [hc1]
    cbv
    obtain ⟨e2, h2, h1⟩ := bindS h1
    rcases condS h2 with ⟨hc3, h2⟩ | ⟨hc3, h2⟩
    · rw [hc3]
      cbv
      obtain ⟨hg4, h2⟩ := grdS h2
      refine ⟨inr_of hO hg4, ?_⟩
      obtain ⟨hg5, h2⟩ := grdS h2
      refine ⟨inr_of hO hg5, ?_⟩
      cases h2
      try dsimp only at h1
      cases h1
      try dsimp only at h0
      cases h0
      exact fin_ok hX rfl ⟨[], _, _, ⟨rfl, rfl⟩, rfl, rfl, rfl, rfl, by cbv; try simp⟩
    · as_aux_lemma =>
      rw [hc3]
      cbv
      obtain ⟨e3, h3, h2⟩ := bindS h2
      rcases condS h3 with ⟨hc6, h3⟩ | ⟨hc6, h3⟩
      · rw [hc6]
        cbv
        obtain ⟨n154, hv, h3⟩ := bindS h3
        refine call_is hO hX (fn_ref29_week hO hv) (by kernel_rfl) [] rfl trivial rfl ?_
        cbv
        obtain ⟨n155, hv, h3⟩ := bindS h3
        refine call_is hO hX (fn_ref01_Floor hO hv) (by kernel_rfl) [] rfl trivial rfl ?_
        cbv
        cases h3
        try dsimp only at h2
        cases h2
        try dsimp only at h1
        cases h1
        try dsimp only at h0
        cases h0
        exact fin_ok hX rfl ⟨[], _, _, ⟨rfl, rfl⟩, rfl, rfl, rfl, rfl, by cbv; try simp⟩
      · rw [hc6]
        cbv
        rcases condS h3 with ⟨hc7, h3⟩ | ⟨hc7, h3⟩
        · rw [hc7]
          cbv
          cases h3
          try dsimp only at h2
          cases h2
          try dsimp only at h1
          cases h1
          try dsimp only at h0
          cases h0
          exact fin_ok hX rfl ⟨[], _, _, ⟨rfl, rfl⟩, rfl, rfl, rfl, rfl, by cbv; try simp⟩
        · rw [hc7]
          cbv
          cases h3
          try dsimp only at h2
          cases h2
          try dsimp only at h1
          cases h1
          try dsimp only at h0
          obtain ⟨n156, hv, h0⟩ := bindS h0
          refine call_is hO hX (fn_ref01_Floor hO hv) (by kernel_rfl) [] rfl trivial rfl ?_
          cbv
          cases h0
          exact fin_ok hX rfl ⟨[], _, _, ⟨rfl, rfl⟩, rfl, rfl, rfl, rfl, by cbv; try simp⟩
end Go.Proofs.Ytmnhfaaaaejpaaa
