/-
  The code does what its models say (printed by lift.py).
-/
import Derived.Test.YtoklfjkanipjkaaGM
import Derived.Test.YtoklfjkanipjkaaManW
import Derived.Test.YtoklfjkanipjkaaGW1
import Derived.Test.YtoklfjkanipjkaaGW2
import Derived.Test.YtoklfjkanipjkaaGW3
import Derived.Test.YtoklfjkanipjkaaGW8
import Derived.Test.YtoklfjkanipjkaaGW14
namespace Go.Proofs.Ytoklfjkanipjkaa
open Go.RowKit
set_option maxRecDepth 100000

set_option maxHeartbeats 4000000 in
theorem fn_ref16_Fiscal {O0 : Ops} (hO0 : O0 = std) {origin_1 : Int} {pattern_1 : List Int} {r1 : Int} {r2 : Int} {r3 : List (Int × Int)} {r4 : Int} (h : m_ref16_Fiscal O0 origin_1 pattern_1 = some (r1, r2, r3, r4)) :
    Fn Try.prog 26 [.c (.int .i64 origin_1), .c (.sl 0)] [.arr false .i1 pattern_1] (fun v c => v = .tup [.many [.int .i64 r1, .int .i64 r2, .sl 1], .one (.int .i64 r4)] ∧ c = [.arr true .i2 r3]) := by
  refine fn_run tab_holds eqs_holds mixed [] Try.func26 (by kernel_rfl) (by kernel_rfl) (Nat.le_of_ble_eq_true rfl) ?_
  intro O X hO hX
  rw [hO0, ← hO] at h
  unfold m_ref16_Fiscal at h
  have h0 := h; clear h
  cbv
  obtain ⟨e1, hi, h0⟩ := bindS h0
  obtain ⟨I1, hI1, hi⟩ := loopS hi
  refine loop1 tab_holds eqs_holds mixed [] hO hX I1 (fun y => [(6, .c (.sl 2)), (7, .c (.int .i64 y.2.1))]) (fun y => [(2, .own 3 .i1 y.2.2)]) (fun y => y.1) _ (by kernel_rfl) hi (by cbv; try simp) ?_
  rintro ⟨n1, i21, l70⟩ hi
  cbv
  rw [hI1] at hi
  obtain ⟨n1, rfl, x1, h1, hi1⟩ := iterS hi
  unfold m_ref16_Fiscal_L1 at h1
  try dsimp only at h1
  rcases condS h1 with ⟨hc0, h1⟩ | ⟨hc0, h1⟩
  · rw [hc0]
    cbv
    obtain ⟨x138, h2, h1⟩ := bindS h1
    rcases condS h2 with ⟨hc1, h2⟩ | ⟨hc1, h2⟩
    · rw [hc1]
      cbv
      obtain ⟨hg2, h2⟩ := grdS h2
      refine ⟨idx_of hO hg2, ?_⟩
      obtain ⟨hg3, h2⟩ := grdS h2
      refine ⟨kin_of hO hg3, ?_⟩
      cases h2
      try dsimp only at h1
      replace h1 := condT h1 rfl
      cases h1
      cases exitI hi1
      try dsimp only at h0
      cases h0
      refine fin_nil hX .i2 3 rfl ?_
      cbv
      exact fin_ok hX rfl ⟨[3], _, _, ⟨rfl, rfl⟩, rfl, rfl, rfl, rfl, by cbv; try simp⟩
    · rw [hc1]
      cbv
      obtain ⟨hg2, h2⟩ := grdS h2
      refine ⟨idx_of hO hg2, ?_⟩
      obtain ⟨hg3, h2⟩ := grdS h2
      refine ⟨kin_of hO hg3, ?_⟩
      cases h2
      try dsimp only at h1
      refine ⟨idx_of hO hg2, ?_⟩
      refine ⟨kin_of hO hg3, ?_⟩
      rcases condS h1 with ⟨hc4, h1⟩ | ⟨hc4, h1⟩
      · rw [hc4]
        cbv
        cases h1
        cases exitI hi1
        try dsimp only at h0
        cases h0
        refine fin_nil hX .i2 3 rfl ?_
        cbv
        exact fin_ok hX rfl ⟨[3], _, _, ⟨rfl, rfl⟩, rfl, rfl, rfl, rfl, by cbv; try simp⟩
      · rw [hc4]
        cbv
        refine ⟨idx_of hO hg2, ?_⟩
        refine ⟨kin_of hO hg3, ?_⟩
        obtain ⟨hg5, h1⟩ := grdS h1
        refine ⟨inr_of hO hg5, ?_⟩
        obtain ⟨hg6, h1⟩ := grdS h1
        refine ⟨room_of hO hg6, ?_⟩
        obtain ⟨hg7, h1⟩ := grdS h1
        refine ⟨room_of hO hg7, ?_⟩
        obtain ⟨hg8, h1⟩ := grdS h1
        refine ⟨inr_of hO hg8, ?_⟩
        cases h1
        exact ⟨_, [0, 1, 4], nextI hI1 hi1, by cbv; try simp, by first | exact Nat.lt_succ_self _ | omega⟩
  · rw [hc0]
    cbv
    cases h1
    cases exitI hi1
    try dsimp only at h0
    obtain ⟨⟨n148, n149, l72, n150⟩, hv, h0⟩ := bindS h0
    try dsimp only at h0
    refine call_go hO hX (fn_ref16_Custom hO hv) (by kernel_rfl) [2] rfl ⟨rfl, rfl, trivial⟩ rfl ?_
    rintro _ _ ⟨rfl, rfl⟩
    cbv
    cases h0
    exact fin_ok hX rfl ⟨[3], _, _, ⟨rfl, rfl⟩, rfl, rfl, rfl, rfl, by cbv; try simp⟩
set_option maxHeartbeats 4000000 in
theorem fn_group_Fill_1 {O0 : Ops} (hO0 : O0 = std) {k_1 : Int} {x_1 : Int} {x_2 : Int} {x_3 : List (Int × Int)} {r1 : Int} {r2 : Int} {r3 : Bool} (h : m_group_Fill_1 O0 k_1 x_1 x_2 x_3 = some (r1, r2, r3)) :
    Fn Try.prog 62 [.c (.int .i64 k_1), .c (.ptr 0 0)] [.ro 24 [.int .i64 x_1, .int .i64 x_2, .sl 1], .arr false .i2 x_3] (fun v c => v = .tup [.many [.int .i64 r1, .int .i64 r2], .one (.bool r3)] ∧ c = []) := by
  refine fn_run tab_holds eqs_holds mixed [(1, (.seg 1 [0, 1, 4, 5, 6] (.seg 2 [2] (.seg 1 [3] (.seg 2 [7] (.seg 1 [8, 9] .fin))))), [10, 11])] Try.func62 (by kernel_rfl) (by kernel_rfl) (Nat.le_of_ble_eq_true rfl) ?_
  intro O X hO hX
  rw [hO0, ← hO] at h
  unfold m_group_Fill_1 at h
  have h0 := h; clear h
  cbv
  obtain ⟨hg0, h0⟩ := grdS h0
  refine ⟨inr_of hO hg0, ?_⟩
  obtain ⟨⟨n154, n155⟩, hv, h0⟩ := bindS h0
  try dsimp only at h0
  refine call_go hO hX (fn_group_at hO hv) (by kernel_rfl) [1] rfl ⟨rfl, rfl, trivial⟩ rfl ?_
  rintro _ _ ⟨rfl, rfl⟩
  cbv
  obtain ⟨⟨n156, n157⟩, hv, h0⟩ := bindS h0
  try dsimp only at h0
  refine call_go hO hX (fn_group_at hO hv) (by kernel_rfl) [1] rfl ⟨rfl, rfl, trivial⟩ rfl ?_
  rintro _ _ ⟨rfl, rfl⟩
  cbv
  cases h0
  exact fin_ok hX rfl ⟨[], _, _, ⟨rfl, rfl⟩, rfl, rfl, rfl, rfl, by cbv; try simp⟩
set_option maxHeartbeats 4000000 in
theorem fn_group_collect_4 {O0 : Ops} (hO0 : O0 = std) {period_1 : Int} {n_1 : Int} {c_1 : Int} {c_2 : Int} {c_3 : List (Int × Int)} {r1 : Int} {r2 : Int} {r3 : List (Int × Int)} {r4 : Int} (h : m_group_collect_4 O0 period_1 n_1 c_1 c_2 c_3 = some (r1, r2, r3, r4)) :
    Fn Try.prog 48 [.c (.int .i64 period_1), .c (.int .i64 n_1), .c (.fn 62 [0])] [.ro 24 [.int .i64 c_1, .int .i64 c_2, .sl 1], .arr false .i2 c_3] (fun v c => v = .tup [.many [.int .i64 r1, .int .i64 r2, .sl 2], .one (.int .i64 r4)] ∧ c = [.arr true .i2 r3]) := by
  refine fn_run tab_holds eqs_holds mixed [] Try.func48 (by kernel_rfl) (by kernel_rfl) (Nat.le_of_ble_eq_true rfl) ?_
  intro O X hO hX
  rw [hO0, ← hO] at h
  unfold m_group_collect_4 at h
  have h0 := h; clear h
  cbv
  obtain ⟨l79, hi, h0⟩ := bindS h0
  obtain ⟨I1, hI1, hi⟩ := loopS hi
  refine loop1 tab_holds eqs_holds mixed [] hO hX I1 (fun y => [(8, .c (.sl 3)), (13, .c (.int .i64 y.2.1))]) (fun y => [(3, .own 49 .i2 y.2.2)]) (fun y => y.1) _ (by kernel_rfl) hi (by cbv; try simp) ?_
  rintro ⟨n1, x140, l76⟩ hi
  cbv
  rw [hI1] at hi
  obtain ⟨n1, rfl, x1, h1, hi1⟩ := iterS hi
  unfold m_group_collect_4_L1 at h1
  try dsimp only at h1
  rcases condS h1 with ⟨hc0, h1⟩ | ⟨hc0, h1⟩
  · rw [hc0]
    cbv
    obtain ⟨⟨n160, n161, b53⟩, hv, h1⟩ := bindS h1
    try dsimp only at h1
    refine call_go hO hX (fn_group_Fill_1 hO hv) (by kernel_rfl) [0, 1] rfl ⟨rfl, rfl, rfl, rfl, trivial⟩ rfl ?_
    rintro _ _ ⟨rfl, rfl⟩
    cbv
    obtain ⟨l78, h2, h1⟩ := bindS h1
    rcases condS h2 with ⟨hc1, h2⟩ | ⟨hc1, h2⟩
    · rw [hc1]
      cbv
      obtain ⟨hg2, h2⟩ := grdS h2
      refine ⟨room_of hO hg2, ?_⟩
      obtain ⟨hg3, h2⟩ := grdS h2
      refine ⟨room_of hO hg3, ?_⟩
      cases h2
      try dsimp only at h1
      obtain ⟨hg4, h1⟩ := grdS h1
      refine ⟨inr_of hO hg4, ?_⟩
      cases h1
      exact ⟨_, [0, 1, 2, 6], nextI hI1 hi1, by cbv; try simp, by first | exact Nat.lt_succ_self _ | omega⟩
    · rw [hc1]
      cbv
      cases h2
      try dsimp only at h1
      obtain ⟨hg2, h1⟩ := grdS h1
      refine ⟨inr_of hO hg2, ?_⟩
      cases h1
      exact ⟨_, [0, 1, 2, 3], nextI hI1 hi1, by cbv; try simp, by first | exact Nat.lt_succ_self _ | omega⟩
  · rw [hc0]
    cbv
    cases h1
    cases exitI hi1
    try dsimp only at h0
    rcases condS h0 with ⟨hc1, h0⟩ | ⟨hc1, h0⟩
    · rw [hc1]
      cbv
      cases h0
      refine fin_nil hX .i2 4 rfl ?_
      cbv
      exact fin_ok hX rfl ⟨[4], _, _, ⟨rfl, rfl⟩, rfl, rfl, rfl, rfl, by cbv; try simp⟩
    · rw [hc1]
      cbv
      obtain ⟨⟨n162, n163, l80, n164⟩, hv, h0⟩ := bindS h0
      try dsimp only at h0
      refine call_go hO hX (fn_group_made hO hv) (by kernel_rfl) [3] rfl ⟨rfl, rfl, trivial⟩ rfl ?_
      rintro _ _ ⟨rfl, rfl⟩
      cbv
      cases h0
      exact fin_ok hX rfl ⟨[4], _, _, ⟨rfl, rfl⟩, rfl, rfl, rfl, rfl, by cbv; try simp⟩
set_option maxHeartbeats 4000000 in
theorem fn_group_Fill {O0 : Ops} (hO0 : O0 = std) {c_1 : Int} {c_2 : Int} {c_3 : List (Int × Int)} {r1 : Int} {r2 : Int} {r3 : List (Int × Int)} {r4 : Int} (h : m_group_Fill O0 c_1 c_2 c_3 = some (r1, r2, r3, r4)) :
    Fn Try.prog 27 [.agg [.int .i64 c_1, .int .i64 c_2, .sl 0]] [.arr false .i2 c_3] (fun v c => v = .tup [.many [.int .i64 r1, .int .i64 r2, .sl 1], .one (.int .i64 r4)] ∧ c = [.arr true .i2 r3]) := by
  refine fn_run tab_holds eqs_holds mixed [] Try.func27 (by kernel_rfl) (by kernel_rfl) (Nat.le_of_ble_eq_true rfl) ?_
  intro O X hO hX
  rw [hO0, ← hO] at h
  unfold m_group_Fill at h
  have h0 := h; clear h
  cbv
  obtain ⟨b51, hv, h0⟩ := bindS h0
  refine call_go hO hX (fn_granule_Valid hO hv) (by kernel_rfl) [0] rfl ⟨rfl, rfl, trivial⟩ rfl ?_
  rintro _ _ ⟨rfl, rfl⟩
  cbv
  rcases condS h0 with ⟨hc0, h0⟩ | ⟨hc0, h0⟩
  · rw [hc0]
    cbv
    cases h0
    refine fin_nil hX .i2 3 rfl ?_
    cbv
    exact fin_ok hX rfl ⟨[3], _, _, ⟨rfl, rfl⟩, rfl, rfl, rfl, rfl, by cbv; try simp⟩
  · rw [hc0]
    cbv
    obtain ⟨⟨n165, n166, l81, n167⟩, hv, h0⟩ := bindS h0
    try dsimp only at h0
    refine call_go hO hX (fn_group_collect_4 hO hv) (by kernel_rfl) [1, 0] rfl ⟨rfl, rfl, rfl, rfl, trivial⟩ rfl ?_
    rintro _ _ ⟨rfl, rfl⟩
    cbv
    cases h0
    exact fin_ok hX rfl ⟨[3], _, _, ⟨rfl, rfl⟩, rfl, rfl, rfl, rfl, by cbv; try simp⟩
set_option maxHeartbeats 4000000 in
theorem fn_ref16_Fill {O0 : Ops} (hO0 : O0 = std) {c_1 : Int} {c_2 : Int} {c_3 : List (Int × Int)} {r1 : Int} {r2 : Int} {r3 : List (Int × Int)} {r4 : Int} (h : m_ref16_Fill O0 c_1 c_2 c_3 = some (r1, r2, r3, r4)) :
    Fn Try.prog 28 [.agg [.int .i64 c_1, .int .i64 c_2, .sl 0]] [.arr false .i2 c_3] (fun v c => v = .tup [.many [.int .i64 r1, .int .i64 r2, .sl 1], .one (.int .i64 r4)] ∧ c = [.arr true .i2 r3]) := by
  refine fn_run tab_holds eqs_holds mixed [(5, (.seg 1 [0, 1, 2, 5, 6, 7] (.seg 2 [3] (.seg 1 [4] (.seg 2 [8] (.seg 1 [9, 10] (.seg 2 [11] .fin)))))), [12, 13])] Try.func28 (by kernel_rfl) (by kernel_rfl) (Nat.le_of_ble_eq_true rfl) ?_
  intro O X hO hX
  rw [hO0, ← hO] at h
  unfold m_ref16_Fill at h
  have h0 := h; clear h
  cbv
  obtain ⟨l84, hi, h0⟩ := bindS h0
  obtain ⟨I1, hI1, hi⟩ := loopS hi
  refine loop1 tab_holds eqs_holds mixed [(5, (.seg 1 [0, 1, 2, 5, 6, 7] (.seg 2 [3] (.seg 1 [4] (.seg 2 [8] (.seg 1 [9, 10] (.seg 2 [11] .fin)))))), [12, 13])] hO hX I1 (fun y => [(4, .c (.sl 3)), (5, .c (.int .i64 y.2.1))]) (fun y => [(3, .own 49 .i2 y.2.2)]) (fun y => y.1) _ (by kernel_rfl) hi (by cbv; try simp) ?_
  rintro ⟨n1, k4, l83⟩ hi
  cbv
  rw [hI1] at hi
  obtain ⟨n1, rfl, x1, h1, hi1⟩ := iterS hi
  unfold m_ref16_Fill_L1 at h1
  try dsimp only at h1
  rcases condS h1 with ⟨hc0, h1⟩ | ⟨hc0, h1⟩
  · rw [hc0]
    cbv
    obtain ⟨hg1, h1⟩ := grdS h1
    refine ⟨inr_of hO hg1, ?_⟩
    obtain ⟨⟨n175, n176⟩, hv, h1⟩ := bindS h1
    try dsimp only at h1
    refine call_go hO hX (fn_ref16_Granule hO hv) (by kernel_rfl) [0] rfl ⟨rfl, rfl, trivial⟩ rfl ?_
    rintro _ _ ⟨rfl, rfl⟩
    cbv
    obtain ⟨⟨n177, n178⟩, hv, h1⟩ := bindS h1
    try dsimp only at h1
    refine call_go hO hX (fn_ref16_Granule hO hv) (by kernel_rfl) [0] rfl ⟨rfl, rfl, trivial⟩ rfl ?_
    rintro _ _ ⟨rfl, rfl⟩
    cbv
    obtain ⟨hg2, h1⟩ := grdS h1
    refine ⟨room_of hO hg2, ?_⟩
    obtain ⟨hg3, h1⟩ := grdS h1
    refine ⟨room_of hO hg3, ?_⟩
    refine ⟨inr_of hO hg1, ?_⟩
    cases h1
    exact ⟨_, [0, 1, 2, 5], nextI hI1 hi1, by cbv; try simp, by first | exact Nat.lt_succ_self _ | omega⟩
  · rw [hc0]
    cbv
    cases h1
    cases exitI hi1
    try dsimp only at h0
    obtain ⟨⟨n179, n180, l85, n181⟩, hv, h0⟩ := bindS h0
    try dsimp only at h0
    refine call_go hO hX (fn_ref16_Make hO hv) (by kernel_rfl) [3] rfl ⟨rfl, rfl, trivial⟩ rfl ?_
    rintro _ _ ⟨rfl, rfl⟩
    cbv
    cases h0
    exact fin_ok hX rfl ⟨[4], _, _, ⟨rfl, rfl⟩, rfl, rfl, rfl, rfl, by cbv; try simp⟩
end Go.Proofs.Ytoklfjkanipjkaa
