/-
  The code does what its models say (printed by lift.py).
-/
import Derived.Test.YtoklfjkanipjkaaGM
import Derived.Test.YtoklfjkanipjkaaManW
import Derived.Test.YtoklfjkanipjkaaGW0
import Derived.Test.YtoklfjkanipjkaaGW4
namespace Go.Proofs.Ytoklfjkanipjkaa
open Go.RowKit
set_option maxRecDepth 100000

set_option maxHeartbeats 4000000 in
theorem fn_group_Fiscal {O0 : Ops} (hO0 : O0 = std) {origin_1 : Int} {pattern_1 : List Int} {r1 : Int} {r2 : Int} {r3 : List (Int × Int)} {r4 : Int} (h : m_group_Fiscal O0 origin_1 pattern_1 = some (r1, r2, r3, r4)) :
    Fn Try.prog 25 [.c (.int .i64 origin_1), .c (.sl 0)] [.arr false .i1 pattern_1] (fun v c => v = .tup [.many [.int .i64 r1, .int .i64 r2, .sl 1], .one (.int .i64 r4)] ∧ c = [.arr true .i2 r3]) := by
  refine fn_run tab_holds eqs_holds mixed [] Try.func25 (by kernel_rfl) (by kernel_rfl) (Nat.le_of_ble_eq_true rfl) ?_
  intro O X hO hX
  rw [hO0, ← hO] at h
  unfold m_group_Fiscal at h
  have h0 := h; clear h
  cbv
  obtain ⟨e1, hi, h0⟩ := bindS h0
  obtain ⟨I1, hI1, hi⟩ := loopS hi
  refine loop1 tab_holds eqs_holds mixed [] hO hX I1 (fun y => [(6, .c (.sl 2)), (11, .c (.int .i64 y.2.1))]) (fun y => [(2, .own 3 .i1 y.2.2)]) (fun y => y.1) _ (by kernel_rfl) hi (by cbv; try simp) ?_
  rintro ⟨n1, x55, l16⟩ hi
  cbv
  rw [hI1] at hi
  obtain ⟨n1, rfl, x1, h1, hi1⟩ := iterS hi
  unfold m_group_Fiscal_L1 at h1
  try dsimp only at h1
  rcases condS h1 with ⟨hc0, h1⟩ | ⟨hc0, h1⟩
  · rw [hc0]
    cbv
    obtain ⟨hg1, h1⟩ := grdS h1
    refine ⟨idx_of hO hg1, ?_⟩
    obtain ⟨hg2, h1⟩ := grdS h1
    refine ⟨kin_of hO hg2, ?_⟩
    obtain ⟨x57, h2, h1⟩ := bindS h1
    rcases condS h2 with ⟨hc3, h2⟩ | ⟨hc3, h2⟩
    · rw [hc3]
      cbv
      cases h2
      try dsimp only at h1
      replace h1 := condT h1 rfl
      cases h1
      cases exitI hi1
      try dsimp only at h0
      cases h0
      refine fin_nil hX .i2 3 rfl ?_
      cbv
      exact fin_ok hX rfl ⟨[3], _, _, ⟨rfl, rfl⟩, rfl, rfl, rfl, rfl, by cbv; try simp⟩
    · rw [hc3]
      cbv
      cases h2
      try dsimp only at h1
      rcases condS h1 with ⟨hc4, h1⟩ | ⟨hc4, h1⟩
      · rw [hc4]
        cbv
        cases h1
        cases exitI hi1
        try dsimp only at h0
        cases h0
        refine fin_nil hX .i2 3 rfl ?_
        cbv
        exact fin_ok hX rfl ⟨[3], _, _, ⟨rfl, rfl⟩, rfl, rfl, rfl, rfl, by cbv; try simp⟩
      · rw [hc4]
        cbv
        obtain ⟨hg5, h1⟩ := grdS h1
        refine ⟨inr_of hO hg5, ?_⟩
        obtain ⟨hg6, h1⟩ := grdS h1
        refine ⟨room_of hO hg6, ?_⟩
        obtain ⟨hg7, h1⟩ := grdS h1
        refine ⟨room_of hO hg7, ?_⟩
        obtain ⟨hg8, h1⟩ := grdS h1
        refine ⟨inr_of hO hg8, ?_⟩
        cases h1
        exact ⟨_, [0, 1, 4], nextI hI1 hi1, by cbv; try simp, by first | exact Nat.lt_succ_self _ | omega⟩
  · rw [hc0]
    cbv
    cases h1
    cases exitI hi1
    try dsimp only at h0
    obtain ⟨⟨n46, n47, l21, n48⟩, hv, h0⟩ := bindS h0
    try dsimp only at h0
    refine call_go hO hX (fn_group_Custom hO hv) (by kernel_rfl) [2] rfl ⟨rfl, rfl, trivial⟩ rfl ?_
    rintro _ _ ⟨rfl, rfl⟩
    cbv
    cases h0
    exact fin_ok hX rfl ⟨[3], _, _, ⟨rfl, rfl⟩, rfl, rfl, rfl, rfl, by cbv; try simp⟩
set_option maxHeartbeats 4000000 in
theorem fn_ref12_Same {O0 : Ops} (hO0 : O0 = std) {a_1 : List (Int × Int)} {b_1 : List (Int × Int)} {r1 : Bool} (h : m_ref12_Same O0 a_1 b_1 = some r1) :
    Fn Try.prog 66 [.c (.sl 0), .c (.sl 1)] [.arr false .i2 a_1, .arr false .i2 b_1] (fun v c => v = .c (.bool r1) ∧ c = []) := by
  refine fn_run tab_holds eqs_holds mixed [(6, (.seg 1 [0, 1, 2, 3, 4, 5, 6, 7, 8, 9, 10, 11, 12, 13, 14, 15, 16, 17, 18, 19, 20, 21, 22, 23] .fin), [])] Try.func66 (by kernel_rfl) (by kernel_rfl) (Nat.le_of_ble_eq_true rfl) ?_
  intro O X hO hX
  rw [hO0, ← hO] at h
  unfold m_ref12_Same at h
  have h0 := h; clear h
  cbv
  rcases condS h0 with ⟨hc0, h0⟩ | ⟨hc0, h0⟩
  · rw [hc0]
    cbv
    cases h0
    exact fin_ok hX rfl ⟨[], _, _, ⟨rfl, rfl⟩, rfl, rfl, rfl, rfl, by cbv; try simp⟩
  · rw [hc0]
    cbv
    obtain ⟨e1, hi, h0⟩ := bindS h0
    obtain ⟨I1, hI1, hi⟩ := loopS hi
    refine loop1 tab_holds eqs_holds mixed [(6, (.seg 1 [0, 1, 2, 3, 4, 5, 6, 7, 8, 9, 10, 11, 12, 13, 14, 15, 16, 17, 18, 19, 20, 21, 22, 23] .fin), [])] hO hX I1 (fun y => [(5, .c (.int .i64 y.2))]) (fun _ => []) (fun y => y.1) _ (by kernel_rfl) hi (by cbv; try simp) ?_
    rintro ⟨n1, i2⟩ hi
    cbv
    rw [hI1] at hi
    obtain ⟨n1, rfl, x1, h1, hi1⟩ := iterS hi
    unfold m_ref12_Same_L1 at h1
    try dsimp only at h1
    rcases condS h1 with ⟨hc1, h1⟩ | ⟨hc1, h1⟩
    · rw [hc1]
      cbv
      obtain ⟨x67, h2, h1⟩ := bindS h1
      rcases condS h2 with ⟨hc2, h2⟩ | ⟨hc2, h2⟩
      · rw [hc2]
        cbv
        obtain ⟨hg3, h2⟩ := grdS h2
        refine ⟨idx_of hO hg3, ?_⟩
        obtain ⟨hg4, h2⟩ := grdS h2
        refine ⟨kin_of hO hg4, ?_⟩
        obtain ⟨hg5, h2⟩ := grdS h2
        refine ⟨idx_of hO hg5, ?_⟩
        obtain ⟨hg6, h2⟩ := grdS h2
        refine ⟨kin_of hO hg6, ?_⟩
        cases h2
        try dsimp only at h1
        replace h1 := condT h1 rfl
        cases h1
        cases exitI hi1
        try dsimp only at h0
        cases h0
        exact fin_ok hX rfl ⟨[], _, _, ⟨rfl, rfl⟩, rfl, rfl, rfl, rfl, by cbv; try simp⟩
      · rw [hc2]
        cbv
        obtain ⟨hg3, h2⟩ := grdS h2
        refine ⟨idx_of hO hg3, ?_⟩
        obtain ⟨hg4, h2⟩ := grdS h2
        refine ⟨kin_of hO hg4, ?_⟩
        obtain ⟨hg5, h2⟩ := grdS h2
        refine ⟨idx_of hO hg5, ?_⟩
        obtain ⟨hg6, h2⟩ := grdS h2
        refine ⟨kin_of hO hg6, ?_⟩
        cases h2
        try dsimp only at h1
        refine ⟨idx_of hO hg3, ?_⟩
        refine ⟨kin_of hO hg4, ?_⟩
        refine ⟨idx_of hO hg5, ?_⟩
        refine ⟨kin_of hO hg6, ?_⟩
        rcases condS h1 with ⟨hc7, h1⟩ | ⟨hc7, h1⟩
        · rw [hc7]
          cbv
          cases h1
          cases exitI hi1
          try dsimp only at h0
          cases h0
          exact fin_ok hX rfl ⟨[], _, _, ⟨rfl, rfl⟩, rfl, rfl, rfl, rfl, by cbv; try simp⟩
        · rw [hc7]
          cbv
          obtain ⟨hg8, h1⟩ := grdS h1
          refine ⟨inr_of hO hg8, ?_⟩
          cases h1
          exact ⟨_, [0, 1], nextI hI1 hi1, by cbv; try simp, by first | exact Nat.lt_succ_self _ | omega⟩
    · rw [hc1]
      cbv
      cases h1
      cases exitI hi1
      try dsimp only at h0
      cases h0
      exact fin_ok hX rfl ⟨[], _, _, ⟨rfl, rfl⟩, rfl, rfl, rfl, rfl, by cbv; try simp⟩
set_option maxHeartbeats 4000000 in
theorem fn_ref16_Same {O0 : Ops} (hO0 : O0 = std) {a_1 : Int} {a_2 : Int} {b_1 : Int} {b_2 : Int} {a_3 : List (Int × Int)} {b_3 : List (Int × Int)} {r1 : Bool} (h : m_ref16_Same O0 a_1 a_2 b_1 b_2 a_3 b_3 = some r1) :
    Fn Try.prog 31 [.agg [.int .i64 a_1, .int .i64 a_2, .sl 0], .agg [.int .i64 b_1, .int .i64 b_2, .sl 1]] [.arr false .i2 a_3, .arr false .i2 b_3] (fun v c => v = .c (.bool r1) ∧ c = []) := by
  refine fn_run tab_holds eqs_holds mixed [] Try.func31 (by kernel_rfl) (by kernel_rfl) (Nat.le_of_ble_eq_true rfl) ?_
  intro O X hO hX
  rw [hO0, ← hO] at h
  unfold m_ref16_Same at h
  have h0 := h; clear h
  cbv
  obtain ⟨x70, h1, h0⟩ := bindS h0
  rcases condS h1 with ⟨hc0, h1⟩ | ⟨hc0, h1⟩
  · rw [hc0]
    cbv
    rcases condS h1 with ⟨hc1, h1⟩ | ⟨hc1, h1⟩
    · rw [hc1]
      cbv
      obtain ⟨b15, hv, h1⟩ := bindS h1
      refine call_go hO hX (fn_ref12_Same hO hv) (by kernel_rfl) [0, 1] rfl ⟨rfl, rfl, rfl, rfl, trivial⟩ rfl ?_
      rintro _ _ ⟨rfl, rfl⟩
      cbv
      cases h1
      try dsimp only at h0
      cases h0
      exact fin_ok hX rfl ⟨[], _, _, ⟨rfl, rfl⟩, rfl, rfl, rfl, rfl, by cbv; try simp⟩
    · rw [hc1]
      cbv
      cases h1
      try dsimp only at h0
      cases h0
      exact fin_ok hX rfl ⟨[], _, _, ⟨rfl, rfl⟩, rfl, rfl, rfl, rfl, by cbv; try simp⟩
  · rw [hc0]
    cbv
    cases h1
    try dsimp only at h0
    cases h0
    exact fin_ok hX rfl ⟨[], _, _, ⟨rfl, rfl⟩, rfl, rfl, rfl, rfl, by cbv; try simp⟩
set_option maxHeartbeats 4000000 in
theorem fn_slices_Equal {O0 : Ops} (hO0 : O0 = std) {s1_1 : List (Int × Int)} {s2_1 : List (Int × Int)} {r1 : Bool} (h : m_slices_Equal O0 s1_1 s2_1 = some r1) :
    Fn Try.prog 44 [.c (.sl 0), .c (.sl 1)] [.arr false .i2 s1_1, .arr false .i2 s2_1] (fun v c => v = .c (.bool r1) ∧ c = []) := by
  refine fn_run tab_holds eqs_holds mixed [(6, (.seg 1 [0, 1, 2, 3, 4, 5, 6, 7, 8] .fin), [])] Try.func44 (by kernel_rfl) (by kernel_rfl) (Nat.le_of_ble_eq_true rfl) ?_
  intro O X hO hX
  rw [hO0, ← hO] at h
  unfold m_slices_Equal at h
  have h0 := h; clear h
  cbv
  rcases condS h0 with ⟨hc0, h0⟩ | ⟨hc0, h0⟩
  · rw [hc0]
    cbv
    cases h0
    exact fin_ok hX rfl ⟨[], _, _, ⟨rfl, rfl⟩, rfl, rfl, rfl, rfl, by cbv; try simp⟩
  · rw [hc0]
    cbv
    obtain ⟨e1, hi, h0⟩ := bindS h0
    obtain ⟨I1, hI1, hi⟩ := loopS hi
    refine loop1 tab_holds eqs_holds mixed [(6, (.seg 1 [0, 1, 2, 3, 4, 5, 6, 7, 8] .fin), [])] hO hX I1 (fun y => [(13, .c (.int .i64 y.2))]) (fun _ => []) (fun y => y.1) _ (by kernel_rfl) hi (by cbv; try simp) ?_
    rintro ⟨n1, x71⟩ hi
    cbv
    rw [hI1] at hi
    obtain ⟨n1, rfl, x1, h1, hi1⟩ := iterS hi
    unfold m_slices_Equal_L1 at h1
    try dsimp only at h1
    rcases condS h1 with ⟨hc1, h1⟩ | ⟨hc1, h1⟩
    · rw [hc1]
      cbv
      obtain ⟨hg2, h1⟩ := grdS h1
      refine ⟨idx_of hO hg2, ?_⟩
      obtain ⟨hg3, h1⟩ := grdS h1
      refine ⟨kin_of hO hg3, ?_⟩
      obtain ⟨hg4, h1⟩ := grdS h1
      refine ⟨idx_of hO hg4, ?_⟩
      obtain ⟨hg5, h1⟩ := grdS h1
      refine ⟨kin_of hO hg5, ?_⟩
      rcases condS h1 with ⟨hc6, h1⟩ | ⟨hc6, h1⟩
      · rw [hc6]
        cbv
        cases h1
        cases exitI hi1
        try dsimp only at h0
        cases h0
        exact fin_ok hX rfl ⟨[], _, _, ⟨rfl, rfl⟩, rfl, rfl, rfl, rfl, by cbv; try simp⟩
      · rw [hc6]
        cbv
        obtain ⟨hg7, h1⟩ := grdS h1
        refine ⟨inr_of hO hg7, ?_⟩
        cases h1
        exact ⟨_, [0, 1], nextI hI1 hi1, by cbv; try simp, by first | exact Nat.lt_succ_self _ | omega⟩
    · rw [hc1]
      cbv
      cases h1
      cases exitI hi1
      try dsimp only at h0
      cases h0
      exact fin_ok hX rfl ⟨[], _, _, ⟨rfl, rfl⟩, rfl, rfl, rfl, rfl, by cbv; try simp⟩
set_option maxHeartbeats 4000000 in
theorem fn_law16_awake {O0 : Ops} (hO0 : O0 = std) {r1 : Bool} (h : m_law16_awake O0 = some r1) :
    Fn Try.prog 13 [] [] (fun v c => v = .c (.bool r1) ∧ c = []) := by
  refine fn_run tab_holds eqs_holds mixed [] Try.func13 (by kernel_rfl) (by kernel_rfl) (Nat.le_of_ble_eq_true rfl) ?_
  intro O X hO hX
  rw [hO0, ← hO] at h
  unfold m_law16_awake at h
  have h0 := h; clear h
  cbv
  obtain ⟨⟨n1, n2, l1⟩, hv, h0⟩ := bindS h0
  try dsimp only at h0
  refine call_go hO hX (fn_law16_days hO hv) (by kernel_rfl) [] rfl trivial rfl ?_
  rintro _ _ ⟨rfl, rfl⟩
  cbv
  obtain ⟨⟨n39, n40, l15, n41⟩, hv, h0⟩ := bindS h0
  try dsimp only at h0
  refine call_go hO hX (fn_group_Groups hO hv) (by kernel_rfl) [0] rfl ⟨rfl, rfl, trivial⟩ rfl ?_
  rintro _ _ ⟨rfl, rfl⟩
  cbv
  obtain ⟨⟨n49, n50, l22, n51⟩, hv, h0⟩ := bindS h0
  try dsimp only at h0
  refine call_go hO hX (fn_group_Fiscal hO hv) (by kernel_rfl) [3] rfl ⟨rfl, rfl, trivial⟩ rfl ?_
  rintro _ _ ⟨rfl, rfl⟩
  cbv
  obtain ⟨x76, h1, h0⟩ := bindS h0
  rcases condS h1 with ⟨hc0, h1⟩ | ⟨hc0, h1⟩
  · rw [hc0]
    cbv
    obtain ⟨b16, hv, h1⟩ := bindS h1
    refine call_go hO hX (fn_ref16_Same hO hv) (by kernel_rfl) [1, 6] rfl ⟨rfl, rfl, rfl, rfl, trivial⟩ rfl ?_
    rintro _ _ ⟨rfl, rfl⟩
    cbv
    rcases condS h1 with ⟨hc1, h1⟩ | ⟨hc1, h1⟩
    · rw [hc1]
      cbv
      rcases condS h1 with ⟨hc2, h1⟩ | ⟨hc2, h1⟩
      · rw [hc2]
        cbv
        rcases condS h1 with ⟨hc3, h1⟩ | ⟨hc3, h1⟩
        · rw [hc3]
          cbv
          obtain ⟨b17, hv, h1⟩ := bindS h1
          refine call_go hO hX (fn_slices_Equal hO hv) (by kernel_rfl) [4, 7] rfl ⟨rfl, rfl, rfl, rfl, trivial⟩ rfl ?_
          rintro _ _ ⟨rfl, rfl⟩
          cbv
          cases h1
          try dsimp only at h0
          cases h0
          exact fin_ok hX rfl ⟨[], _, _, ⟨rfl, rfl⟩, rfl, rfl, rfl, rfl, by cbv; try simp⟩
        · rw [hc3]
          cbv
          cases h1
          try dsimp only at h0
          cases h0
          exact fin_ok hX rfl ⟨[], _, _, ⟨rfl, rfl⟩, rfl, rfl, rfl, rfl, by cbv; try simp⟩
      · rw [hc2]
        cbv
        cases h1
        try dsimp only at h0
        cases h0
        exact fin_ok hX rfl ⟨[], _, _, ⟨rfl, rfl⟩, rfl, rfl, rfl, rfl, by cbv; try simp⟩
    · rw [hc1]
      cbv
      cases h1
      try dsimp only at h0
      cases h0
      exact fin_ok hX rfl ⟨[], _, _, ⟨rfl, rfl⟩, rfl, rfl, rfl, rfl, by cbv; try simp⟩
  · rw [hc0]
    cbv
    cases h1
    try dsimp only at h0
    cases h0
    exact fin_ok hX rfl ⟨[], _, _, ⟨rfl, rfl⟩, rfl, rfl, rfl, rfl, by cbv; try simp⟩
set_option maxHeartbeats 4000000 in
theorem fn_law16_great_1 {O0 : Ops} (hO0 : O0 = std) {c_1 : Int} {c_2 : Int} {c_3 : List (Int × Int)} {r1 : Bool} (h : m_law16_great_1 O0 c_1 c_2 c_3 = some r1) :
    Fn Try.prog 46 [.agg [.int .i64 c_1, .int .i64 c_2, .sl 0]] [.arr false .i2 c_3] (fun v c => v = .c (.bool r1) ∧ c = []) := by
  refine fn_run tab_holds eqs_holds mixed [] Try.func46 (by kernel_rfl) (by kernel_rfl) (Nat.le_of_ble_eq_true rfl) ?_
  intro O X hO hX
  rw [hO0, ← hO] at h
  unfold m_law16_great_1 at h
  have h0 := h; clear h
  cbv
  cases h0
  exact fin_ok hX rfl ⟨[], _, _, ⟨rfl, rfl⟩, rfl, rfl, rfl, rfl, by cbv; try simp⟩
end Go.Proofs.Ytoklfjkanipjkaa
