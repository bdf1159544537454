/-
  The code does what its models say (printed by lift.py).
-/
import Derived.Test.YtebkfbkgmbgobaaKM
import Derived.Test.YtebkfbkgmbgobaaManW
import Derived.Test.YtebkfbkgmbgobaaFul
import Derived.Test.YtebkfbkgmbgobaaKW0
namespace Go.Proofs.Ytebkfbkgmbgobaa
open Go.RowKit
set_option maxRecDepth 100000

set_option maxHeartbeats 40000000 in
theorem fn_integer_Div {O0 : Ops} (hO0 : O0 = std) {a_1 : Int} {b_1 : Int} {r1 : Int} {r2 : Int} {r3 : Int} (h : m_integer_Div O0 a_1 b_1 = some (r1, r2, r3)) :
    Fn Try.prog 63 [.c (.int .i64 a_1), .c (.int .i64 b_1)] [] (fun v c => v = .tup [.one (.int .i64 r1), .one (.int .i64 r2), .one (.int .i64 r3)] ∧ c = []) := by
  refine fn_run tab_holds eqs_holds mixed [(5, (.seg 1 [0, 1, 2, 3, 4, 5, 6, 7] .fin), [])] Try.func63 (by kernel_rfl) (by kernel_rfl) (Nat.le_of_ble_eq_true rfl) ?_
  intro O X hO hX
  rw [hO0, ← hO] at h
  unfold m_integer_Div at h
  have h0 := h; clear h
  cbv
  obtain ⟨e1, h1, h0⟩ := bindS h0
  rcases condS h1 with ⟨hc1, h1⟩ | ⟨hc1, h1⟩
  · rw [hc1]
    cbv
    cases h1
    try dsimp only at h0
    cases h0
    exact fin_ok hX rfl ⟨[], _, _, ⟨rfl, rfl⟩, rfl, rfl, rfl, rfl, by cbv; try simp⟩
  · as_aux_lemma =>
    rw [hc1]
    cbv
    obtain ⟨x35, h2, h1⟩ := bindS h1
    rcases condS h2 with ⟨hc2, h2⟩ | ⟨hc2, h2⟩
    · as_aux_lemma =>
      rw [hc2]
      cbv
      cases h2
      try dsimp only at h1
      rcases condS h1 with ⟨hc3, h1⟩ | ⟨hc3, h1⟩
      · rw [hc3]
        cbv
        cases h1
        try dsimp only at h0
        cases h0
        exact fin_ok hX rfl ⟨[], _, _, ⟨rfl, rfl⟩, rfl, rfl, rfl, rfl, by cbv; try simp⟩
      · as_aux_lemma =>
        rw [hc3]
        cbv
        cases h1
        try dsimp only at h0
        obtain ⟨hg4, h0⟩ := grdS h0
        refine ⟨nz_of hO hg4, ?_⟩
        obtain ⟨hg5, h0⟩ := grdS h0
        refine ⟨inr_of hO hg5, ?_⟩
        obtain ⟨x39, h1, h0⟩ := bindS h0
        refine ⟨nz_of hO hg4, ?_⟩
        rcases condS h1 with ⟨hc6, h1⟩ | ⟨hc6, h1⟩
        · rw [hc6]
          cbv
          cases h1
          try dsimp only at h0
          obtain ⟨⟨q2, r2⟩, h1, h0⟩ := bindS h0
          rcases condS h1 with ⟨hc7, h1⟩ | ⟨hc7, h1⟩
          · rw [hc7]
            cbv
            obtain ⟨hg8, h1⟩ := grdS h1
            refine ⟨inr_of hO hg8, ?_⟩
            obtain ⟨hg9, h1⟩ := grdS h1
            refine ⟨inr_of hO hg9, ?_⟩
            cases h1
            try dsimp only at h0
            cases h0
            exact fin_ok hX rfl ⟨[], _, _, ⟨rfl, rfl⟩, rfl, rfl, rfl, rfl, by cbv; try simp⟩
          · rw [hc7]
            cbv
            cases h1
            try dsimp only at h0
            cases h0
            exact fin_ok hX rfl ⟨[], _, _, ⟨rfl, rfl⟩, rfl, rfl, rfl, rfl, by cbv; try simp⟩
        · rw [hc6]
          cbv
          cases h1
          try dsimp only at h0
          obtain ⟨⟨q2, r2⟩, h1, h0⟩ := bindS h0
          replace h1 := condF h1 rfl
          cases h1
          try dsimp only at h0
          cases h0
          exact fin_ok hX rfl ⟨[], _, _, ⟨rfl, rfl⟩, rfl, rfl, rfl, rfl, by cbv; try simp⟩
    · as_aux_lemma =>
      rw [hc2]
      cbv
      cases h2
      try dsimp only at h1
      replace h1 := condF h1 rfl
      cases h1
      try dsimp only at h0
      obtain ⟨hg10, h0⟩ := grdS h0
      refine ⟨nz_of hO hg10, ?_⟩
      obtain ⟨hg11, h0⟩ := grdS h0
      refine ⟨inr_of hO hg11, ?_⟩
      obtain ⟨x39, h1, h0⟩ := bindS h0
      refine ⟨nz_of hO hg10, ?_⟩
      rcases condS h1 with ⟨hc12, h1⟩ | ⟨hc12, h1⟩
      · rw [hc12]
        cbv
        cases h1
        try dsimp only at h0
        obtain ⟨⟨q2, r2⟩, h1, h0⟩ := bindS h0
        rcases condS h1 with ⟨hc13, h1⟩ | ⟨hc13, h1⟩
        · rw [hc13]
          cbv
          obtain ⟨hg14, h1⟩ := grdS h1
          refine ⟨inr_of hO hg14, ?_⟩
          obtain ⟨hg15, h1⟩ := grdS h1
          refine ⟨inr_of hO hg15, ?_⟩
          cases h1
          try dsimp only at h0
          cases h0
          exact fin_ok hX rfl ⟨[], _, _, ⟨rfl, rfl⟩, rfl, rfl, rfl, rfl, by cbv; try simp⟩
        · rw [hc13]
          cbv
          cases h1
          try dsimp only at h0
          cases h0
          exact fin_ok hX rfl ⟨[], _, _, ⟨rfl, rfl⟩, rfl, rfl, rfl, rfl, by cbv; try simp⟩
      · rw [hc12]
        cbv
        cases h1
        try dsimp only at h0
        obtain ⟨⟨q2, r2⟩, h1, h0⟩ := bindS h0
        replace h1 := condF h1 rfl
        cases h1
        try dsimp only at h0
        cases h0
        exact fin_ok hX rfl ⟨[], _, _, ⟨rfl, rfl⟩, rfl, rfl, rfl, rfl, by cbv; try simp⟩
set_option maxHeartbeats 40000000 in
theorem fn_integer_Mod {O0 : Ops} (hO0 : O0 = std) {a_1 : Int} {b_1 : Int} {r1 : Int} (h : m_integer_Mod O0 a_1 b_1 = some r1) :
    Fn Try.prog 55 [.c (.int .i64 a_1), .c (.int .i64 b_1)] [] (fun v c => v = .c (.int .i64 r1) ∧ c = []) := by
  refine fn_run tab_holds eqs_holds mixed [] Try.func55 (by kernel_rfl) (by kernel_rfl) (Nat.le_of_ble_eq_true rfl) ?_
  intro O X hO hX
  rw [hO0, ← hO] at h
  unfold m_integer_Mod at h
  have h0 := h; clear h
  cbv
  obtain ⟨⟨n13, n14, n15⟩, hv, h0⟩ := bindS h0
  try dsimp only at h0
  refine call_is hO hX (fn_integer_Div hO hv) (by kernel_rfl) [] rfl trivial rfl ?_
  cbv
  cases h0
  exact fin_ok hX rfl ⟨[], _, _, ⟨rfl, rfl⟩, rfl, rfl, rfl, rfl, by cbv; try simp⟩
set_option maxHeartbeats 40000000 in
theorem fn_integer_Floor {O0 : Ops} (hO0 : O0 = std) {a_1 : Int} {b_1 : Int} {r1 : Int} (h : m_integer_Floor O0 a_1 b_1 = some r1) :
    Fn Try.prog 41 [.c (.int .i64 a_1), .c (.int .i64 b_1)] [] (fun v c => v = .c (.int .i64 r1) ∧ c = []) := by
  refine fn_run tab_holds eqs_holds mixed [] Try.func41 (by kernel_rfl) (by kernel_rfl) (Nat.le_of_ble_eq_true rfl) ?_
  intro O X hO hX
  rw [hO0, ← hO] at h
  unfold m_integer_Floor at h
  have h0 := h; clear h
  cbv
  obtain ⟨⟨n17, n18, n19⟩, hv, h0⟩ := bindS h0
  try dsimp only at h0
  refine call_is hO hX (fn_integer_Div hO hv) (by kernel_rfl) [] rfl trivial rfl ?_
  cbv
  cases h0
  exact fin_ok hX rfl ⟨[], _, _, ⟨rfl, rfl⟩, rfl, rfl, rfl, rfl, by cbv; try simp⟩
set_option maxHeartbeats 40000000 in
theorem fn_group_at {O0 : Ops} (hO0 : O0 = std) {c_1 : Int} {c_2 : Int} {k_1 : Int} {c_3 : List (Int × Int)} {r1 : Int} {r2 : Int} (h : m_group_at O0 c_1 c_2 k_1 c_3 = some (r1, r2)) :
    Fn Try.prog 29 [.agg [.int .i64 c_1, .int .i64 c_2, .sl 0], .c (.int .i64 k_1)] [.arr false .i2 c_3] (fun v c => v = .agg [.int .i64 r1, .int .i64 r2] ∧ c = []) := by
  refine fn_run tab_holds eqs_holds mixed [(2, (.seg 1 [0, 1, 2, 3, 7, 8, 9, 10, 11, 12] (.alt 4 (.seg 1 [5, 6] (.alt 13 (.seg 1 [14, 15] (.seg 2 [16] (.seg 3 [17] (.seg 1 [18] .fin)))) (.alt 16 (.seg 2 [13] (.seg 1 [14, 15] (.seg 3 [17] (.seg 1 [18] .fin)))) .no))) (.alt 16 (.seg 2 [4] (.seg 1 [5, 6] (.seg 2 [13] (.seg 1 [14, 15] (.seg 3 [17] (.seg 1 [18] .fin)))))) .no))), [])] Try.func29 (by kernel_rfl) (by kernel_rfl) (Nat.le_of_ble_eq_true rfl) ?_
  intro O X hO hX
  rw [hO0, ← hO] at h
  unfold m_group_at at h
  have h0 := h; clear h
  cbv
  refine ⟨?_, ?_, trivial⟩
  · obtain ⟨n16, hv, h0⟩ := bindS h0
    refine call_is hO hX (fn_integer_Mod hO hv) (by kernel_rfl) [] rfl trivial rfl ?_
    cbv
    refine ⟨?_, ?_, trivial⟩
    · obtain ⟨hg1, h0⟩ := grdS h0
      refine ⟨idx_of hO hg1, ?_⟩
      obtain ⟨hg2, h0⟩ := grdS h0
      refine ⟨kin_of hO hg2, ?_⟩
      obtain ⟨n20, hv, h0⟩ := bindS h0
      refine call_is hO hX (fn_integer_Floor hO hv) (by kernel_rfl) [] rfl trivial rfl ?_
      cbv
      obtain ⟨hg3, h0⟩ := grdS h0
      refine ⟨inr_of hO hg3, ?_⟩
      obtain ⟨hg4, h0⟩ := grdS h0
      refine ⟨inr_of hO hg4, ?_⟩
      obtain ⟨hg5, h0⟩ := grdS h0
      refine ⟨inr_of hO hg5, ?_⟩
      obtain ⟨hg6, h0⟩ := grdS h0
      refine ⟨inr_of hO hg6, ?_⟩
      cases h0
      exact fin_ok hX rfl ⟨[], _, _, ⟨rfl, rfl⟩, rfl, rfl, rfl, rfl, by cbv; try simp⟩
    · obtain ⟨hg7, h0⟩ := grdS h0
      refine ⟨idx_of hO hg7, ?_⟩
      obtain ⟨hg8, h0⟩ := grdS h0
      refine ⟨kin_of hO hg8, ?_⟩
      obtain ⟨n20, hv, h0⟩ := bindS h0
      refine call_is hO hX (fn_integer_Floor hO hv) (by kernel_rfl) [] rfl trivial rfl ?_
      cbv
      obtain ⟨hg9, h0⟩ := grdS h0
      refine ⟨inr_of hO hg9, ?_⟩
      obtain ⟨hg10, h0⟩ := grdS h0
      refine ⟨inr_of hO hg10, ?_⟩
      obtain ⟨hg11, h0⟩ := grdS h0
      refine ⟨inr_of hO hg11, ?_⟩
      obtain ⟨hg12, h0⟩ := grdS h0
      refine ⟨inr_of hO hg12, ?_⟩
      cases h0
      exact fin_ok hX rfl ⟨[], _, _, ⟨rfl, rfl⟩, rfl, rfl, rfl, rfl, by cbv; try simp⟩
  · obtain ⟨n16, hv, h0⟩ := bindS h0
    refine call_is hO hX (fn_integer_Mod hO hv) (by kernel_rfl) [] rfl trivial rfl ?_
    cbv
    obtain ⟨hg13, h0⟩ := grdS h0
    refine ⟨idx_of hO hg13, ?_⟩
    obtain ⟨hg14, h0⟩ := grdS h0
    refine ⟨kin_of hO hg14, ?_⟩
    obtain ⟨n20, hv, h0⟩ := bindS h0
    refine call_is hO hX (fn_integer_Floor hO hv) (by kernel_rfl) [] rfl trivial rfl ?_
    cbv
    obtain ⟨hg15, h0⟩ := grdS h0
    refine ⟨inr_of hO hg15, ?_⟩
    obtain ⟨hg16, h0⟩ := grdS h0
    refine ⟨inr_of hO hg16, ?_⟩
    obtain ⟨hg17, h0⟩ := grdS h0
    refine ⟨inr_of hO hg17, ?_⟩
    obtain ⟨hg18, h0⟩ := grdS h0
    refine ⟨inr_of hO hg18, ?_⟩
    cases h0
    exact fin_ok hX rfl ⟨[], _, _, ⟨rfl, rfl⟩, rfl, rfl, rfl, rfl, by cbv; try simp⟩
set_option maxHeartbeats 40000000 in
theorem fn_group_Groups_1 {O0 : Ops} (hO0 : O0 = std) {j_1 : Int} {x_1 : Int} {x_2 : Int} {x_3 : Int} {x_4 : Int} {x_5 : List (Int × Int)} {r1 : Int} {r2 : Int} {r3 : Bool} (h : m_group_Groups_1 O0 j_1 x_1 x_2 x_3 x_4 x_5 = some (r1, r2, r3)) :
    Fn Try.prog 48 [.c (.int .i64 j_1), .c (.ptr 0 0), .c (.ptr 1 0), .c (.ptr 2 0)] [.ro 24 [.int .i64 x_1, .int .i64 x_2, .sl 3], .ro 3 [.int .i64 x_3], .ro 3 [.int .i64 x_4], .arr false .i2 x_5] (fun v c => v = .tup [.many [.int .i64 r1, .int .i64 r2], .one (.bool r3)] ∧ c = []) := by
  refine fn_run tab_holds eqs_holds mixed [(1, (.seg 1 [0, 1, 2, 3, 4, 5, 8, 9, 10, 11, 12, 13, 14, 15] (.seg 2 [6] (.seg 1 [7] (.seg 2 [16] (.seg 1 [17, 18] .fin))))), [19, 20])] Try.func48 (by kernel_rfl) (by kernel_rfl) (Nat.le_of_ble_eq_true rfl) ?_
  intro O X hO hX
  rw [hO0, ← hO] at h
  unfold m_group_Groups_1 at h
  have h0 := h; clear h
  cbv
  obtain ⟨hg1, h0⟩ := grdS h0
  refine ⟨inr_of hO hg1, ?_⟩
  obtain ⟨hg2, h0⟩ := grdS h0
  refine ⟨inr_of hO hg2, ?_⟩
  obtain ⟨hg3, h0⟩ := grdS h0
  refine ⟨inr_of hO hg3, ?_⟩
  obtain ⟨hg4, h0⟩ := grdS h0
  refine ⟨inr_of hO hg4, ?_⟩
  obtain ⟨hg5, h0⟩ := grdS h0
  refine ⟨inr_of hO hg5, ?_⟩
  obtain ⟨hg6, h0⟩ := grdS h0
  refine ⟨inr_of hO hg6, ?_⟩
  obtain ⟨⟨n21, n22⟩, hv, h0⟩ := bindS h0
  try dsimp only at h0
  refine call_is hO hX (fn_group_at hO hv) (by kernel_rfl) [3] rfl ⟨rfl, rfl, trivial⟩ rfl ?_
  cbv
  obtain ⟨⟨n23, n24⟩, hv, h0⟩ := bindS h0
  try dsimp only at h0
  refine call_is hO hX (fn_group_at hO hv) (by kernel_rfl) [3] rfl ⟨rfl, rfl, trivial⟩ rfl ?_
  cbv
  cases h0
  exact fin_ok hX rfl ⟨[], _, _, ⟨rfl, rfl⟩, rfl, rfl, rfl, rfl, by cbv; try simp⟩
set_option maxHeartbeats 40000000 in
theorem fn_granule_line {O0 : Ops} (hO0 : O0 = std) {x_1 : Int} {r1 : Bool} (h : m_granule_line O0 x_1 = some r1) :
    Fn Try.prog 43 [.c (.int .i64 x_1)] [] (fun v c => v = .c (.bool r1) ∧ c = []) := by
  refine fn_run tab_holds eqs_holds mixed [] Try.func43 (by kernel_rfl) (by kernel_rfl) (Nat.le_of_ble_eq_true rfl) ?_
  intro O X hO hX
  rw [hO0, ← hO] at h
  unfold m_granule_line at h
  have h0 := h; clear h
  cbv
  obtain ⟨x46, h1, h0⟩ := bindS h0
  rcases condS h1 with ⟨hc1, h1⟩ | ⟨hc1, h1⟩
  · rw [hc1]
    cbv
    cases h1
    try dsimp only at h0
    cases h0
    exact fin_ok hX rfl ⟨[], _, _, ⟨rfl, rfl⟩, rfl, rfl, rfl, rfl, by cbv; try simp⟩
  · rw [hc1]
    cbv
    cases h1
    try dsimp only at h0
    cases h0
    exact fin_ok hX rfl ⟨[], _, _, ⟨rfl, rfl⟩, rfl, rfl, rfl, rfl, by cbv; try simp⟩
set_option maxHeartbeats 40000000 in
theorem fn_granule_Of {O0 : Ops} (hO0 : O0 = std) {origin_1 : Int} {period_1 : Int} {l_1 : List (Int × Int)} {r1 : Int} {r2 : Int} {r3 : List (Int × Int)} {r4 : Int} (h : m_granule_Of O0 origin_1 period_1 l_1 = some (r1, r2, r3, r4)) :
    Fn Try.prog 70 [.c (.int .i64 origin_1), .c (.int .i64 period_1), .c (.sl 0)] [.arr false .i2 l_1] (fun v c => v = .tup [.many [.int .i64 r1, .int .i64 r2, .sl 1], .one (.int .i64 r4)] ∧ c = [.arr true .i2 r3]) := by
  refine fn_run tab_holds eqs_holds mixed [(1, (.seg 1 [0, 1, 2, 3, 4, 5, 6, 7] (.seg 2 [8] (.seg 1 [9, 10, 11, 12, 13, 14, 15, 16, 17, 18, 19, 20, 21, 22, 23, 24, 25, 26] .fin))), []), (15, (.seg 1 [0, 1, 2, 3, 4, 5, 6, 7, 8] .fin), [9])] Try.func70 (by kernel_rfl) (by kernel_rfl) (Nat.le_of_ble_eq_true rfl) ?_
  intro O X hO hX
  rw [hO0, ← hO] at h
  unfold m_granule_Of at h
  have h0 := h; clear h
  cbv
  obtain ⟨x44, h1, h0⟩ := bindS h0
  rcases condS h1 with ⟨hc1, h1⟩ | ⟨hc1, h1⟩
  · rw [hc1]
    cbv
    cases h1
    try dsimp only at h0
    replace h0 := condT h0 rfl
    cases h0
    refine fin_nil hX .i2 2 rfl ?_
    cbv
    exact fin_ok hX rfl ⟨[2], _, _, ⟨rfl, rfl⟩, rfl, rfl, rfl, rfl, by cbv; try simp⟩
  · as_aux_lemma =>
    rw [hc1]
    cbv
    rcases condS h1 with ⟨hc2, h1⟩ | ⟨hc2, h1⟩
    · rw [hc2]
      cbv
      cases h1
      try dsimp only at h0
      replace h0 := condT h0 rfl
      cases h0
      refine fin_nil hX .i2 2 rfl ?_
      cbv
      exact fin_ok hX rfl ⟨[2], _, _, ⟨rfl, rfl⟩, rfl, rfl, rfl, rfl, by cbv; try simp⟩
    · as_aux_lemma =>
      rw [hc2]
      cbv
      obtain ⟨b10, hv, h1⟩ := bindS h1
      refine call_is hO hX (fn_granule_ascending hO hv) (by kernel_rfl) [0] rfl ⟨rfl, rfl, trivial⟩ rfl ?_
      cbv
      rcases condS h1 with ⟨hc3, h1⟩ | ⟨hc3, h1⟩
      · rw [hc3]
        cbv
        cases h1
        try dsimp only at h0
        replace h0 := condT h0 rfl
        cases h0
        refine fin_nil hX .i2 2 rfl ?_
        cbv
        exact fin_ok hX rfl ⟨[2], _, _, ⟨rfl, rfl⟩, rfl, rfl, rfl, rfl, by cbv; try simp⟩
      · as_aux_lemma =>
        rw [hc3]
        cbv
        obtain ⟨hg4, h1⟩ := grdS h1
        refine ⟨inr_of hO hg4, ?_⟩
        obtain ⟨hg5, h1⟩ := grdS h1
        refine ⟨idx_of hO hg5, ?_⟩
        obtain ⟨hg6, h1⟩ := grdS h1
        refine ⟨kin_of hO hg6, ?_⟩
        obtain ⟨hg7, h1⟩ := grdS h1
        refine ⟨idx_of hO hg7, ?_⟩
        obtain ⟨hg8, h1⟩ := grdS h1
        refine ⟨kin_of hO hg8, ?_⟩
        obtain ⟨hg9, h1⟩ := grdS h1
        refine ⟨inr_of hO hg9, ?_⟩
        cases h1
        try dsimp only at h0
        rcases condS h0 with ⟨hc10, h0⟩ | ⟨hc10, h0⟩
        · rw [hc10]
          cbv
          cases h0
          refine fin_nil hX .i2 2 rfl ?_
          cbv
          exact fin_ok hX rfl ⟨[2], _, _, ⟨rfl, rfl⟩, rfl, rfl, rfl, rfl, by cbv; try simp⟩
        · as_aux_lemma =>
          rw [hc10]
          cbv
          rcases condS h0 with ⟨hc11, h0⟩ | ⟨hc11, h0⟩
          · rw [hc11]
            cbv
            cases h0
            refine fin_nil hX .i2 2 rfl ?_
            cbv
            exact fin_ok hX rfl ⟨[2], _, _, ⟨rfl, rfl⟩, rfl, rfl, rfl, rfl, by cbv; try simp⟩
          · as_aux_lemma =>
            rw [hc11]
            cbv
            obtain ⟨hg12, h0⟩ := grdS h0
            refine ⟨idx_of hO hg12, ?_⟩
            obtain ⟨hg13, h0⟩ := grdS h0
            refine ⟨kin_of hO hg13, ?_⟩
            obtain ⟨x48, h1, h0⟩ := bindS h0
            obtain ⟨b11, hv, h1⟩ := bindS h1
            refine call_is hO hX (fn_granule_line hO hv) (by kernel_rfl) [] rfl trivial rfl ?_
            cbv
            rcases condS h1 with ⟨hc14, h1⟩ | ⟨hc14, h1⟩
            · rw [hc14]
              cbv
              cases h1
              try dsimp only at h0
              replace h0 := condT h0 rfl
              cases h0
              refine fin_nil hX .i2 2 rfl ?_
              cbv
              exact fin_ok hX rfl ⟨[2], _, _, ⟨rfl, rfl⟩, rfl, rfl, rfl, rfl, by cbv; try simp⟩
            · as_aux_lemma =>
              rw [hc14]
              cbv
              obtain ⟨hg15, h1⟩ := grdS h1
              refine ⟨inr_of hO hg15, ?_⟩
              obtain ⟨b12, hv, h1⟩ := bindS h1
              refine call_is hO hX (fn_granule_half hO hv) (by kernel_rfl) [] rfl trivial rfl ?_
              cbv
              cases h1
              try dsimp only at h0
              rcases condS h0 with ⟨hc16, h0⟩ | ⟨hc16, h0⟩
              · rw [hc16]
                cbv
                cases h0
                refine fin_nil hX .i2 2 rfl ?_
                cbv
                exact fin_ok hX rfl ⟨[2], _, _, ⟨rfl, rfl⟩, rfl, rfl, rfl, rfl, by cbv; try simp⟩
              · as_aux_lemma =>
                rw [hc16]
                cbv
                obtain ⟨hg17, h0⟩ := grdS h0
                refine ⟨inr_of hO hg17, ?_⟩
                refine loop_nilC hO hX 40 .i2 2 2 rfl rfl ?_
                cbv
                obtain ⟨l11, hi, h0⟩ := bindS h0
                obtain ⟨I1, hI1, hi⟩ := loopS hi
                refine loop1 tab_holds eqs_holds mixed [(1, (.seg 1 [0, 1, 2, 3, 4, 5, 6, 7] (.seg 2 [8] (.seg 1 [9, 10, 11, 12, 13, 14, 15, 16, 17, 18, 19, 20, 21, 22, 23, 24, 25, 26] .fin))), []), (15, (.seg 1 [0, 1, 2, 3, 4, 5, 6, 7, 8] .fin), [9])] hO hX I1 (fun y => [(67, .c (.int .i64 y.2.1))]) (fun y => [(3, .own 40 .i2 y.2.2)]) (fun y => y.1) _ (by kernel_rfl) hi (by cbv; try simp) ?_
                refine allp ?_
                intro n1
                refine allp ?_
                intro x51
                intro l10 hi
                cbv
                rw [hI1] at hi
                obtain ⟨n1, rfl, x1, h1, hi1⟩ := iterS hi
                unfold m_granule_Of_L1 at h1
                try dsimp only at h1
                rcases condS h1 with ⟨hc18, h1⟩ | ⟨hc18, h1⟩
                · rw [hc18]
                  cbv
                  obtain ⟨hg19, h1⟩ := grdS h1
                  refine ⟨idx_of hO hg19, ?_⟩
                  obtain ⟨hg20, h1⟩ := grdS h1
                  refine ⟨kin_of hO hg20, ?_⟩
                  obtain ⟨hg21, h1⟩ := grdS h1
                  refine ⟨inr_of hO hg21, ?_⟩
                  obtain ⟨hg22, h1⟩ := grdS h1
                  refine ⟨inr_of hO hg22, ?_⟩
                  obtain ⟨hg23, h1⟩ := grdS h1
                  refine ⟨room_of hO hg23, ?_⟩
                  obtain ⟨hg24, h1⟩ := grdS h1
                  refine ⟨room_of hO hg24, ?_⟩
                  obtain ⟨hg25, h1⟩ := grdS h1
                  refine ⟨inr_of hO hg25, ?_⟩
                  cases h1
                  exact ⟨_, [0, 1, 2, 6], nextI hI1 hi1, by cbv; try simp, by first | exact Nat.lt_succ_self _ | omega⟩
                · rw [hc18]
                  cbv
                  cases h1
                  cases exitI hi1
                  try dsimp only at h0
                  obtain ⟨n29, hv, h0⟩ := bindS h0
                  refine call_is hO hX (fn_granule_least hO hv) (by kernel_rfl) [3] rfl ⟨rfl, rfl, trivial⟩ rfl ?_
                  cbv
                  obtain ⟨hg26, h0⟩ := grdS h0
                  refine ⟨nz_of hO hg26, ?_⟩
                  obtain ⟨hg27, h0⟩ := grdS h0
                  refine ⟨inr_of hO hg27, ?_⟩
                  obtain ⟨hg28, h0⟩ := grdS h0
                  refine ⟨nz_of hO hg28, ?_⟩
                  obtain ⟨hg29, h0⟩ := grdS h0
                  refine ⟨inr_of hO hg29, ?_⟩
                  obtain ⟨hg30, h0⟩ := grdS h0
                  refine ⟨rng_of hO hg30, ?_⟩
                  obtain ⟨hg31, h0⟩ := grdS h0
                  refine ⟨rng_of hO hg31, ?_⟩
                  refine ⟨rng_of hO hg31, ?_⟩
                  cases h0
                  refine fin_ful hX 4 ?_
                  cbv
                  exact fin_ok hX rfl ⟨[4], _, _, ⟨rfl, rfl⟩, rfl, rfl, rfl, rfl, by cbv; try simp⟩
set_option maxHeartbeats 40000000 in
theorem fn_group_made {O0 : Ops} (hO0 : O0 = std) {period_1 : Int} {l_1 : List (Int × Int)} {r1 : Int} {r2 : Int} {r3 : List (Int × Int)} {r4 : Int} (h : m_group_made O0 period_1 l_1 = some (r1, r2, r3, r4)) :
    Fn Try.prog 54 [.c (.int .i64 period_1), .c (.sl 0)] [.arr false .i2 l_1] (fun v c => v = .tup [.many [.int .i64 r1, .int .i64 r2, .sl 1], .one (.int .i64 r4)] ∧ c = [.arr true .i2 r3]) := by
  refine fn_run tab_holds eqs_holds mixed [] Try.func54 (by kernel_rfl) (by kernel_rfl) (Nat.le_of_ble_eq_true rfl) ?_
  intro O X hO hX
  rw [hO0, ← hO] at h
  unfold m_group_made at h
  have h0 := h; clear h
  cbv
  obtain ⟨hg1, h0⟩ := grdS h0
  refine ⟨idx_of hO hg1, ?_⟩
  obtain ⟨hg2, h0⟩ := grdS h0
  refine ⟨kin_of hO hg2, ?_⟩
  obtain ⟨hg3, h0⟩ := grdS h0
  refine ⟨rng_of hO hg3, ?_⟩
  obtain ⟨hg4, h0⟩ := grdS h0
  refine ⟨rng_of hO hg4, ?_⟩
  obtain ⟨hg5, h0⟩ := grdS h0
  refine ⟨room_of hO hg5, ?_⟩
  obtain ⟨l9, hi, h0⟩ := bindS h0
  obtain ⟨I1, hI1, hi⟩ := loopS hi
  refine loop1 tab_holds eqs_holds mixed [] hO hX I1 (fun y => [(16, .junk), (7, .c (.sl 2)), (19, .c (.int .i64 y.2.1))]) (fun y => [(2, .own 40 .i2 y.2.2)]) (fun y => y.1) _ (by kernel_rfl) hi (by cbv; try simp) ?_
  refine allp ?_
  intro n1
  refine allp ?_
  intro x42
  intro l8 hi
  cbv
  rw [hI1] at hi
  obtain ⟨n1, rfl, x1, h1, hi1⟩ := iterS hi
  unfold m_group_made_L1 at h1
  try dsimp only at h1
  rcases condS h1 with ⟨hc6, h1⟩ | ⟨hc6, h1⟩
  · rw [hc6]
    cbv
    obtain ⟨hg7, h1⟩ := grdS h1
    refine ⟨idx_of hO hg7, ?_⟩
    obtain ⟨hg8, h1⟩ := grdS h1
    refine ⟨kin_of hO hg8, ?_⟩
    obtain ⟨hg9, h1⟩ := grdS h1
    refine ⟨inr_of hO hg9, ?_⟩
    obtain ⟨hg10, h1⟩ := grdS h1
    refine ⟨inr_of hO hg10, ?_⟩
    obtain ⟨hg11, h1⟩ := grdS h1
    refine ⟨room_of hO hg11, ?_⟩
    obtain ⟨hg12, h1⟩ := grdS h1
    refine ⟨room_of hO hg12, ?_⟩
    obtain ⟨hg13, h1⟩ := grdS h1
    refine ⟨inr_of hO hg13, ?_⟩
    cases h1
    exact ⟨_, [0, 1, 5], nextI hI1 hi1, by cbv; try simp, by first | exact Nat.lt_succ_self _ | omega⟩
  · rw [hc6]
    cbv
    cases h1
    cases exitI hi1
    try dsimp only at h0
    obtain ⟨⟨n30, n31, l12, n32⟩, hv, h0⟩ := bindS h0
    try dsimp only at h0
    refine call_is hO hX (fn_granule_Of hO hv) (by kernel_rfl) [2] rfl ⟨rfl, rfl, trivial⟩ rfl ?_
    cbv
    cases h0
    exact fin_ok hX rfl ⟨[3], _, _, ⟨rfl, rfl⟩, rfl, rfl, rfl, rfl, by cbv; try simp⟩
set_option maxHeartbeats 40000000 in
theorem fn_group_collect {O0 : Ops} (hO0 : O0 = std) {period_1 : Int} {n_1 : Int} {c_1 : Int} {c_2 : Int} {c_3 : Int} {c_4 : Int} {c_5 : List (Int × Int)} {r1 : Int} {r2 : Int} {r3 : List (Int × Int)} {r4 : Int} (h : m_group_collect O0 period_1 n_1 c_1 c_2 c_3 c_4 c_5 = some (r1, r2, r3, r4)) :
    Fn Try.prog 27 [.c (.int .i64 period_1), .c (.int .i64 n_1), .c (.fn 48 [0, 1, 2])] [.ro 24 [.int .i64 c_1, .int .i64 c_2, .sl 3], .ro 3 [.int .i64 c_3], .ro 3 [.int .i64 c_4], .arr false .i2 c_5] (fun v c => v = .tup [.many [.int .i64 r1, .int .i64 r2, .sl 4], .one (.int .i64 r4)] ∧ c = [.arr true .i2 r3]) := by
  refine fn_run tab_holds eqs_holds mixed [] Try.func27 (by kernel_rfl) (by kernel_rfl) (Nat.le_of_ble_eq_true rfl) ?_
  intro O X hO hX
  rw [hO0, ← hO] at h
  unfold m_group_collect at h
  have h0 := h; clear h
  cbv
  obtain ⟨l7, hi, h0⟩ := bindS h0
  obtain ⟨I1, hI1, hi⟩ := loopS hi
  refine loop1 tab_holds eqs_holds mixed [] hO hX I1 (fun y => [(8, .c (.sl 5)), (13, .c (.int .i64 y.2.1))]) (fun y => [(5, .own 40 .i2 y.2.2)]) (fun y => y.1) _ (by kernel_rfl) hi (by cbv; try simp) ?_
  refine allp ?_
  intro n1
  refine allp ?_
  intro x40
  intro l4 hi
  cbv
  rw [hI1] at hi
  obtain ⟨n1, rfl, x1, h1, hi1⟩ := iterS hi
  unfold m_group_collect_L1 at h1
  try dsimp only at h1
  rcases condS h1 with ⟨hc1, h1⟩ | ⟨hc1, h1⟩
  · rw [hc1]
    cbv
    obtain ⟨⟨n27, n28, b9⟩, hv, h1⟩ := bindS h1
    try dsimp only at h1
    refine call_is hO hX (fn_group_Groups_1 hO hv) (by kernel_rfl) [0, 1, 2, 3] rfl ⟨rfl, rfl, rfl, rfl, rfl, rfl, rfl, rfl, trivial⟩ rfl ?_
    cbv
    obtain ⟨l6, h2, h1⟩ := bindS h1
    rcases condS h2 with ⟨hc2, h2⟩ | ⟨hc2, h2⟩
    · rw [hc2]
      cbv
      obtain ⟨hg3, h2⟩ := grdS h2
      refine ⟨room_of hO hg3, ?_⟩
      obtain ⟨hg4, h2⟩ := grdS h2
      refine ⟨room_of hO hg4, ?_⟩
      cases h2
      try dsimp only at h1
      obtain ⟨hg5, h1⟩ := grdS h1
      refine ⟨inr_of hO hg5, ?_⟩
      cases h1
      exact ⟨_, [0, 1, 2, 3, 4, 8], nextI hI1 hi1, by cbv; try simp, by first | exact Nat.lt_succ_self _ | omega⟩
    · rw [hc2]
      cbv
      cases h2
      try dsimp only at h1
      obtain ⟨hg6, h1⟩ := grdS h1
      refine ⟨inr_of hO hg6, ?_⟩
      cases h1
      exact ⟨_, [0, 1, 2, 3, 4, 5], nextI hI1 hi1, by cbv; try simp, by first | exact Nat.lt_succ_self _ | omega⟩
  · rw [hc1]
    cbv
    cases h1
    cases exitI hi1
    try dsimp only at h0
    rcases condS h0 with ⟨hc7, h0⟩ | ⟨hc7, h0⟩
    · rw [hc7]
      cbv
      cases h0
      refine fin_nil hX .i2 6 rfl ?_
      cbv
      exact fin_ok hX rfl ⟨[6], _, _, ⟨rfl, rfl⟩, rfl, rfl, rfl, rfl, by cbv; try simp⟩
    · rw [hc7]
      cbv
      obtain ⟨⟨n33, n34, l13, n35⟩, hv, h0⟩ := bindS h0
      try dsimp only at h0
      refine call_is hO hX (fn_group_made hO hv) (by kernel_rfl) [5] rfl ⟨rfl, rfl, trivial⟩ rfl ?_
      cbv
      cases h0
      exact fin_ok hX rfl ⟨[6], _, _, ⟨rfl, rfl⟩, rfl, rfl, rfl, rfl, by cbv; try simp⟩
end Go.Proofs.Ytebkfbkgmbgobaa
