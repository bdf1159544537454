/-
  The code does what its models say (printed by lift.py).
-/
import Derived.Test.YtoklfjkanipjkaaGM
import Derived.Test.YtoklfjkanipjkaaManW
namespace Go.Proofs.Ytoklfjkanipjkaa
open Go.RowKit
set_option maxRecDepth 100000

set_option maxHeartbeats 4000000 in
theorem fn_integer_Div {O0 : Ops} (hO0 : O0 = std) {a_1 : Int} {b_1 : Int} {r1 : Int} {r2 : Int} {r3 : Int} (h : m_integer_Div O0 a_1 b_1 = some (r1, r2, r3)) :
    Fn Try.prog 94 [.c (.int .i64 a_1), .c (.int .i64 b_1)] [] (fun v c => v = .tup [.one (.int .i64 r1), .one (.int .i64 r2), .one (.int .i64 r3)] ∧ c = []) := by
  refine fn_run tab_holds eqs_holds mixed [(5, (.seg 1 [0, 1, 2, 3, 4, 5, 6, 7] .fin), [])] Try.func94 (by kernel_rfl) (by kernel_rfl) (Nat.le_of_ble_eq_true rfl) ?_
  intro O X hO hX
  rw [hO0, ← hO] at h
  unfold m_integer_Div at h
  have h0 := h; clear h
  cbv
  obtain ⟨e1, h1, h0⟩ := bindS h0
  rcases condS h1 with ⟨hc0, h1⟩ | ⟨hc0, h1⟩
  · rw [hc0]
    cbv
    cases h1
    try dsimp only at h0
    cases h0
    exact fin_ok hX rfl ⟨[], _, _, ⟨rfl, rfl⟩, rfl, rfl, rfl, rfl, by cbv; try simp⟩
  · rw [hc0]
    cbv
    obtain ⟨x35, h2, h1⟩ := bindS h1
    rcases condS h2 with ⟨hc1, h2⟩ | ⟨hc1, h2⟩
    · rw [hc1]
      cbv
      cases h2
      try dsimp only at h1
      rcases condS h1 with ⟨hc2, h1⟩ | ⟨hc2, h1⟩
      · rw [hc2]
        cbv
        cases h1
        try dsimp only at h0
        cases h0
        exact fin_ok hX rfl ⟨[], _, _, ⟨rfl, rfl⟩, rfl, rfl, rfl, rfl, by cbv; try simp⟩
      · rw [hc2]
        cbv
        cases h1
        try dsimp only at h0
        obtain ⟨hg3, h0⟩ := grdS h0
        refine ⟨nz_of hO hg3, ?_⟩
        obtain ⟨hg4, h0⟩ := grdS h0
        refine ⟨inr_of hO hg4, ?_⟩
        obtain ⟨x39, h1, h0⟩ := bindS h0
        refine ⟨nz_of hO hg3, ?_⟩
        rcases condS h1 with ⟨hc5, h1⟩ | ⟨hc5, h1⟩
        · rw [hc5]
          cbv
          cases h1
          try dsimp only at h0
          obtain ⟨⟨q2, r2⟩, h1, h0⟩ := bindS h0
          rcases condS h1 with ⟨hc6, h1⟩ | ⟨hc6, h1⟩
          · rw [hc6]
            cbv
            obtain ⟨hg7, h1⟩ := grdS h1
            refine ⟨inr_of hO hg7, ?_⟩
            obtain ⟨hg8, h1⟩ := grdS h1
            refine ⟨inr_of hO hg8, ?_⟩
            cases h1
            try dsimp only at h0
            cases h0
            exact fin_ok hX rfl ⟨[], _, _, ⟨rfl, rfl⟩, rfl, rfl, rfl, rfl, by cbv; try simp⟩
          · rw [hc6]
            cbv
            cases h1
            try dsimp only at h0
            cases h0
            exact fin_ok hX rfl ⟨[], _, _, ⟨rfl, rfl⟩, rfl, rfl, rfl, rfl, by cbv; try simp⟩
        · rw [hc5]
          cbv
          cases h1
          try dsimp only at h0
          obtain ⟨⟨q2, r2⟩, h1, h0⟩ := bindS h0
          replace h1 := condF h1 rfl
          cases h1
          try dsimp only at h0
          cases h0
          exact fin_ok hX rfl ⟨[], _, _, ⟨rfl, rfl⟩, rfl, rfl, rfl, rfl, by cbv; try simp⟩
    · rw [hc1]
      cbv
      cases h2
      try dsimp only at h1
      replace h1 := condF h1 rfl
      cases h1
      try dsimp only at h0
      obtain ⟨hg2, h0⟩ := grdS h0
      refine ⟨nz_of hO hg2, ?_⟩
      obtain ⟨hg3, h0⟩ := grdS h0
      refine ⟨inr_of hO hg3, ?_⟩
      obtain ⟨x39, h1, h0⟩ := bindS h0
      refine ⟨nz_of hO hg2, ?_⟩
      rcases condS h1 with ⟨hc4, h1⟩ | ⟨hc4, h1⟩
      · rw [hc4]
        cbv
        cases h1
        try dsimp only at h0
        obtain ⟨⟨q2, r2⟩, h1, h0⟩ := bindS h0
        rcases condS h1 with ⟨hc5, h1⟩ | ⟨hc5, h1⟩
        · rw [hc5]
          cbv
          obtain ⟨hg6, h1⟩ := grdS h1
          refine ⟨inr_of hO hg6, ?_⟩
          obtain ⟨hg7, h1⟩ := grdS h1
          refine ⟨inr_of hO hg7, ?_⟩
          cases h1
          try dsimp only at h0
          cases h0
          exact fin_ok hX rfl ⟨[], _, _, ⟨rfl, rfl⟩, rfl, rfl, rfl, rfl, by cbv; try simp⟩
        · rw [hc5]
          cbv
          cases h1
          try dsimp only at h0
          cases h0
          exact fin_ok hX rfl ⟨[], _, _, ⟨rfl, rfl⟩, rfl, rfl, rfl, rfl, by cbv; try simp⟩
      · rw [hc4]
        cbv
        cases h1
        try dsimp only at h0
        obtain ⟨⟨q2, r2⟩, h1, h0⟩ := bindS h0
        replace h1 := condF h1 rfl
        cases h1
        try dsimp only at h0
        cases h0
        exact fin_ok hX rfl ⟨[], _, _, ⟨rfl, rfl⟩, rfl, rfl, rfl, rfl, by cbv; try simp⟩
set_option maxHeartbeats 4000000 in
theorem fn_integer_Mod {O0 : Ops} (hO0 : O0 = std) {a_1 : Int} {b_1 : Int} {r1 : Int} (h : m_integer_Mod O0 a_1 b_1 = some r1) :
    Fn Try.prog 75 [.c (.int .i64 a_1), .c (.int .i64 b_1)] [] (fun v c => v = .c (.int .i64 r1) ∧ c = []) := by
  refine fn_run tab_holds eqs_holds mixed [] Try.func75 (by kernel_rfl) (by kernel_rfl) (Nat.le_of_ble_eq_true rfl) ?_
  intro O X hO hX
  rw [hO0, ← hO] at h
  unfold m_integer_Mod at h
  have h0 := h; clear h
  cbv
  obtain ⟨⟨n13, n14, n15⟩, hv, h0⟩ := bindS h0
  try dsimp only at h0
  refine call_go hO hX (fn_integer_Div hO hv) (by kernel_rfl) [] rfl trivial rfl ?_
  rintro _ _ ⟨rfl, rfl⟩
  cbv
  cases h0
  exact fin_ok hX rfl ⟨[], _, _, ⟨rfl, rfl⟩, rfl, rfl, rfl, rfl, by cbv; try simp⟩
set_option maxHeartbeats 4000000 in
theorem fn_integer_Floor {O0 : Ops} (hO0 : O0 = std) {a_1 : Int} {b_1 : Int} {r1 : Int} (h : m_integer_Floor O0 a_1 b_1 = some r1) :
    Fn Try.prog 67 [.c (.int .i64 a_1), .c (.int .i64 b_1)] [] (fun v c => v = .c (.int .i64 r1) ∧ c = []) := by
  refine fn_run tab_holds eqs_holds mixed [] Try.func67 (by kernel_rfl) (by kernel_rfl) (Nat.le_of_ble_eq_true rfl) ?_
  intro O X hO hX
  rw [hO0, ← hO] at h
  unfold m_integer_Floor at h
  have h0 := h; clear h
  cbv
  obtain ⟨⟨n17, n18, n19⟩, hv, h0⟩ := bindS h0
  try dsimp only at h0
  refine call_go hO hX (fn_integer_Div hO hv) (by kernel_rfl) [] rfl trivial rfl ?_
  rintro _ _ ⟨rfl, rfl⟩
  cbv
  cases h0
  exact fin_ok hX rfl ⟨[], _, _, ⟨rfl, rfl⟩, rfl, rfl, rfl, rfl, by cbv; try simp⟩
set_option maxHeartbeats 4000000 in
theorem fn_group_at {O0 : Ops} (hO0 : O0 = std) {c_1 : Int} {c_2 : Int} {k_1 : Int} {c_3 : List (Int × Int)} {r1 : Int} {r2 : Int} (h : m_group_at O0 c_1 c_2 k_1 c_3 = some (r1, r2)) :
    Fn Try.prog 50 [.agg [.int .i64 c_1, .int .i64 c_2, .sl 0], .c (.int .i64 k_1)] [.arr false .i2 c_3] (fun v c => v = .agg [.int .i64 r1, .int .i64 r2] ∧ c = []) := by
  refine fn_run tab_holds eqs_holds mixed [(2, (.seg 1 [0, 1, 2, 3, 7, 8, 9, 10, 11, 12] (.alt 4 (.seg 1 [5, 6] (.alt 13 (.seg 1 [14, 15] (.seg 2 [16] (.seg 3 [17] (.seg 1 [18] .fin)))) (.alt 16 (.seg 2 [13] (.seg 1 [14, 15] (.seg 3 [17] (.seg 1 [18] .fin)))) .no))) (.alt 16 (.seg 2 [4] (.seg 1 [5, 6] (.seg 2 [13] (.seg 1 [14, 15] (.seg 3 [17] (.seg 1 [18] .fin)))))) .no))), [])] Try.func50 (by kernel_rfl) (by kernel_rfl) (Nat.le_of_ble_eq_true rfl) ?_
  intro O X hO hX
  rw [hO0, ← hO] at h
  unfold m_group_at at h
  have h0 := h; clear h
  cbv
  refine ⟨?_, ?_, trivial⟩
  · obtain ⟨n16, hv, h0⟩ := bindS h0
    refine call_go hO hX (fn_integer_Mod hO hv) (by kernel_rfl) [] rfl trivial rfl ?_
    rintro _ _ ⟨rfl, rfl⟩
    cbv
    refine ⟨?_, ?_, trivial⟩
    · obtain ⟨hg0, h0⟩ := grdS h0
      refine ⟨idx_of hO hg0, ?_⟩
      obtain ⟨hg1, h0⟩ := grdS h0
      refine ⟨kin_of hO hg1, ?_⟩
      obtain ⟨n20, hv, h0⟩ := bindS h0
      refine call_go hO hX (fn_integer_Floor hO hv) (by kernel_rfl) [] rfl trivial rfl ?_
      rintro _ _ ⟨rfl, rfl⟩
      cbv
      obtain ⟨hg2, h0⟩ := grdS h0
      refine ⟨inr_of hO hg2, ?_⟩
      obtain ⟨hg3, h0⟩ := grdS h0
      refine ⟨inr_of hO hg3, ?_⟩
      obtain ⟨hg4, h0⟩ := grdS h0
      refine ⟨inr_of hO hg4, ?_⟩
      obtain ⟨hg5, h0⟩ := grdS h0
      refine ⟨inr_of hO hg5, ?_⟩
      cases h0
      exact fin_ok hX rfl ⟨[], _, _, ⟨rfl, rfl⟩, rfl, rfl, rfl, rfl, by cbv; try simp⟩
    · obtain ⟨hg0, h0⟩ := grdS h0
      refine ⟨idx_of hO hg0, ?_⟩
      obtain ⟨hg1, h0⟩ := grdS h0
      refine ⟨kin_of hO hg1, ?_⟩
      obtain ⟨n20, hv, h0⟩ := bindS h0
      refine call_go hO hX (fn_integer_Floor hO hv) (by kernel_rfl) [] rfl trivial rfl ?_
      rintro _ _ ⟨rfl, rfl⟩
      cbv
      obtain ⟨hg2, h0⟩ := grdS h0
      refine ⟨inr_of hO hg2, ?_⟩
      obtain ⟨hg3, h0⟩ := grdS h0
      refine ⟨inr_of hO hg3, ?_⟩
      obtain ⟨hg4, h0⟩ := grdS h0
      refine ⟨inr_of hO hg4, ?_⟩
      obtain ⟨hg5, h0⟩ := grdS h0
      refine ⟨inr_of hO hg5, ?_⟩
      cases h0
      exact fin_ok hX rfl ⟨[], _, _, ⟨rfl, rfl⟩, rfl, rfl, rfl, rfl, by cbv; try simp⟩
  · obtain ⟨n16, hv, h0⟩ := bindS h0
    refine call_go hO hX (fn_integer_Mod hO hv) (by kernel_rfl) [] rfl trivial rfl ?_
    rintro _ _ ⟨rfl, rfl⟩
    cbv
    obtain ⟨hg0, h0⟩ := grdS h0
    refine ⟨idx_of hO hg0, ?_⟩
    obtain ⟨hg1, h0⟩ := grdS h0
    refine ⟨kin_of hO hg1, ?_⟩
    obtain ⟨n20, hv, h0⟩ := bindS h0
    refine call_go hO hX (fn_integer_Floor hO hv) (by kernel_rfl) [] rfl trivial rfl ?_
    rintro _ _ ⟨rfl, rfl⟩
    cbv
    obtain ⟨hg2, h0⟩ := grdS h0
    refine ⟨inr_of hO hg2, ?_⟩
    obtain ⟨hg3, h0⟩ := grdS h0
    refine ⟨inr_of hO hg3, ?_⟩
    obtain ⟨hg4, h0⟩ := grdS h0
    refine ⟨inr_of hO hg4, ?_⟩
    obtain ⟨hg5, h0⟩ := grdS h0
    refine ⟨inr_of hO hg5, ?_⟩
    cases h0
    exact fin_ok hX rfl ⟨[], _, _, ⟨rfl, rfl⟩, rfl, rfl, rfl, rfl, by cbv; try simp⟩
set_option maxHeartbeats 4000000 in
theorem fn_group_Groups_1 {O0 : Ops} (hO0 : O0 = std) {j_1 : Int} {x_1 : Int} {x_2 : Int} {x_3 : Int} {x_4 : Int} {x_5 : List (Int × Int)} {r1 : Int} {r2 : Int} {r3 : Bool} (h : m_group_Groups_1 O0 j_1 x_1 x_2 x_3 x_4 x_5 = some (r1, r2, r3)) :
    Fn Try.prog 49 [.c (.int .i64 j_1), .c (.ptr 0 0), .c (.ptr 1 0), .c (.ptr 2 0)] [.ro 24 [.int .i64 x_1, .int .i64 x_2, .sl 3], .ro 3 [.int .i64 x_3], .ro 3 [.int .i64 x_4], .arr false .i2 x_5] (fun v c => v = .tup [.many [.int .i64 r1, .int .i64 r2], .one (.bool r3)] ∧ c = []) := by
  refine fn_run tab_holds eqs_holds mixed [(1, (.seg 1 [0, 1, 2, 3, 4, 5, 8, 9, 10, 11, 12, 13, 14, 15] (.seg 2 [6] (.seg 1 [7] (.seg 2 [16] (.seg 1 [17, 18] .fin))))), [19, 20])] Try.func49 (by kernel_rfl) (by kernel_rfl) (Nat.le_of_ble_eq_true rfl) ?_
  intro O X hO hX
  rw [hO0, ← hO] at h
  unfold m_group_Groups_1 at h
  have h0 := h; clear h
  cbv
  obtain ⟨hg0, h0⟩ := grdS h0
  refine ⟨inr_of hO hg0, ?_⟩
  obtain ⟨hg1, h0⟩ := grdS h0
  refine ⟨inr_of hO hg1, ?_⟩
  obtain ⟨hg2, h0⟩ := grdS h0
  refine ⟨inr_of hO hg2, ?_⟩
  obtain ⟨hg3, h0⟩ := grdS h0
  refine ⟨inr_of hO hg3, ?_⟩
  obtain ⟨hg4, h0⟩ := grdS h0
  refine ⟨inr_of hO hg4, ?_⟩
  obtain ⟨hg5, h0⟩ := grdS h0
  refine ⟨inr_of hO hg5, ?_⟩
  obtain ⟨⟨n21, n22⟩, hv, h0⟩ := bindS h0
  try dsimp only at h0
  refine call_go hO hX (fn_group_at hO hv) (by kernel_rfl) [3] rfl ⟨rfl, rfl, trivial⟩ rfl ?_
  rintro _ _ ⟨rfl, rfl⟩
  cbv
  obtain ⟨⟨n23, n24⟩, hv, h0⟩ := bindS h0
  try dsimp only at h0
  refine call_go hO hX (fn_group_at hO hv) (by kernel_rfl) [3] rfl ⟨rfl, rfl, trivial⟩ rfl ?_
  rintro _ _ ⟨rfl, rfl⟩
  cbv
  cases h0
  exact fin_ok hX rfl ⟨[], _, _, ⟨rfl, rfl⟩, rfl, rfl, rfl, rfl, by cbv; try simp⟩
set_option maxHeartbeats 4000000 in
theorem fn_granule_line {O0 : Ops} (hO0 : O0 = std) {x_1 : Int} {r1 : Bool} (h : m_granule_line O0 x_1 = some r1) :
    Fn Try.prog 69 [.c (.int .i64 x_1)] [] (fun v c => v = .c (.bool r1) ∧ c = []) := by
  refine fn_run tab_holds eqs_holds mixed [] Try.func69 (by kernel_rfl) (by kernel_rfl) (Nat.le_of_ble_eq_true rfl) ?_
  intro O X hO hX
  rw [hO0, ← hO] at h
  unfold m_granule_line at h
  have h0 := h; clear h
  cbv
  obtain ⟨x46, h1, h0⟩ := bindS h0
  rcases condS h1 with ⟨hc0, h1⟩ | ⟨hc0, h1⟩
  · rw [hc0]
    cbv
    cases h1
    try dsimp only at h0
    cases h0
    exact fin_ok hX rfl ⟨[], _, _, ⟨rfl, rfl⟩, rfl, rfl, rfl, rfl, by cbv; try simp⟩
  · rw [hc0]
    cbv
    cases h1
    try dsimp only at h0
    cases h0
    exact fin_ok hX rfl ⟨[], _, _, ⟨rfl, rfl⟩, rfl, rfl, rfl, rfl, by cbv; try simp⟩
end Go.Proofs.Ytoklfjkanipjkaa
