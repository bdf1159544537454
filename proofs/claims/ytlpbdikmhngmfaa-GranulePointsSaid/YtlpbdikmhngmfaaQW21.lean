/-
  The code does what its models say (printed by lift.py).
-/
import Derived.Test.YtlpbdikmhngmfaaQM
import Derived.Test.YtlpbdikmhngmfaaManWC
import Derived.Test.YtlpbdikmhngmfaaQW0
import Derived.Test.YtlpbdikmhngmfaaQW1
import Derived.Test.YtlpbdikmhngmfaaQW3
import Derived.Test.YtlpbdikmhngmfaaQW17
import Derived.Test.YtlpbdikmhngmfaaQW19
import Derived.Test.YtlpbdikmhngmfaaQW20
namespace Go.Proofs.Ytlpbdikmhngmfaa
open Go.RowKit
set_option maxRecDepth 100000

set_option maxHeartbeats 40000000 in
theorem fn_granule_Near {O0 : Ops} (hO0 : O0 = std) {c_1 : Int} {c_2 : Int} {x_1 : Int} {c_3 : List (Int × Int)} {r1 : Int} (h : m_granule_Near O0 c_1 c_2 x_1 c_3 = some r1) :
    Fn Try.prog 60 [.agg [.int .i64 c_1, .int .i64 c_2, .sl 0], .c (.int .i64 x_1)] [.arr false .i2 c_3] (fun v c => v = .c (.int .i64 r1) ∧ c = []) := by
  refine fn_run tab_holds eqs_holds mixed [] Try.func60 (by kernel_rfl) (by kernel_rfl) (Nat.le_of_ble_eq_true rfl) ?_
  intro O X hO hX
  rw [hO0, ← hO] at h
  unfold m_granule_Near at h
  have h0 := h; clear h
  cbv
  obtain ⟨x393, h1, h0⟩ := bindS h0
  obtain ⟨b120, hv, h1⟩ := bindS h1
  refine call_is hO hX (fn_granule_Valid hO hv) (by kernel_rfl) [0] rfl ⟨rfl, rfl, trivial⟩ rfl ?_
  cbv
  rcases condS h1 with ⟨hc1, h1⟩ | ⟨hc1, h1⟩
  · rw [hc1]
    cbv
    cases h1
    try dsimp only at h0
    replace h0 := condT h0 rfl
    cases h0
    exact fin_ok hX rfl ⟨[], _, _, ⟨rfl, rfl⟩, rfl, rfl, rfl, rfl, by cbv; try simp⟩
  · rw [hc1]
    cbv
    obtain ⟨b121, hv, h1⟩ := bindS h1
    refine call_is hO hX (fn_granule_line hO hv) (by kernel_rfl) [] rfl trivial rfl ?_
    cbv
    cases h1
    try dsimp only at h0
    rcases condS h0 with ⟨hc2, h0⟩ | ⟨hc2, h0⟩
    · rw [hc2]
      cbv
      cases h0
      exact fin_ok hX rfl ⟨[], _, _, ⟨rfl, rfl⟩, rfl, rfl, rfl, rfl, by cbv; try simp⟩
    · rw [hc2]
      cbv
      obtain ⟨hg3, h0⟩ := grdS h0
      refine ⟨inr_of hO hg3, ?_⟩
      obtain ⟨n159, hv, h0⟩ := bindS h0
      refine call_is hO hX (fn_integer_Floor hO hv) (by kernel_rfl) [] rfl trivial rfl ?_
      cbv
      refine ⟨inr_of hO hg3, ?_⟩
      obtain ⟨hg4, h0⟩ := grdS h0
      refine ⟨inr_of hO hg4, ?_⟩
      obtain ⟨hg5, h0⟩ := grdS h0
      refine ⟨inr_of hO hg5, ?_⟩
      obtain ⟨n160, hv, h0⟩ := bindS h0
      refine call_is hO hX (fn_sort_Search hO hv) (by kernel_rfl) [1, 2, 0] rfl ⟨rfl, rfl, rfl, rfl, rfl, rfl, trivial⟩ rfl ?_
      cbv
      obtain ⟨hg6, h0⟩ := grdS h0
      refine ⟨inr_of hO hg6, ?_⟩
      obtain ⟨hg7, h0⟩ := grdS h0
      refine ⟨inr_of hO hg7, ?_⟩
      obtain ⟨hg8, h0⟩ := grdS h0
      refine ⟨inr_of hO hg8, ?_⟩
      cases h0
      exact fin_ok hX rfl ⟨[], _, _, ⟨rfl, rfl⟩, rfl, rfl, rfl, rfl, by cbv; try simp⟩
set_option maxHeartbeats 40000000 in
theorem fn_granule_Find {O0 : Ops} (hO0 : O0 = std) {c_1 : Int} {c_2 : Int} {x_1 : Int} {c_3 : List (Int × Int)} {r1 : Int} {r2 : Bool} (h : m_granule_Find O0 c_1 c_2 x_1 c_3 = some (r1, r2)) :
    Fn Try.prog 25 [.agg [.int .i64 c_1, .int .i64 c_2, .sl 0], .c (.int .i64 x_1)] [.arr false .i2 c_3] (fun v c => v = .tup [.one (.int .i64 r1), .one (.bool r2)] ∧ c = []) := by
  refine fn_run tab_holds eqs_holds mixed [] Try.func25 (by kernel_rfl) (by kernel_rfl) (Nat.le_of_ble_eq_true rfl) ?_
  intro O X hO hX
  rw [hO0, ← hO] at h
  unfold m_granule_Find at h
  have h0 := h; clear h
  cbv
  obtain ⟨x391, h1, h0⟩ := bindS h0
  obtain ⟨b118, hv, h1⟩ := bindS h1
  refine call_is hO hX (fn_granule_Valid hO hv) (by kernel_rfl) [0] rfl ⟨rfl, rfl, trivial⟩ rfl ?_
  cbv
  rcases condS h1 with ⟨hc1, h1⟩ | ⟨hc1, h1⟩
  · rw [hc1]
    cbv
    cases h1
    try dsimp only at h0
    replace h0 := condT h0 rfl
    cases h0
    exact fin_ok hX rfl ⟨[], _, _, ⟨rfl, rfl⟩, rfl, rfl, rfl, rfl, by cbv; try simp⟩
  · rw [hc1]
    cbv
    obtain ⟨b119, hv, h1⟩ := bindS h1
    refine call_is hO hX (fn_granule_line hO hv) (by kernel_rfl) [] rfl trivial rfl ?_
    cbv
    cases h1
    try dsimp only at h0
    rcases condS h0 with ⟨hc2, h0⟩ | ⟨hc2, h0⟩
    · rw [hc2]
      cbv
      cases h0
      exact fin_ok hX rfl ⟨[], _, _, ⟨rfl, rfl⟩, rfl, rfl, rfl, rfl, by cbv; try simp⟩
    · rw [hc2]
      cbv
      obtain ⟨n161, hv, h0⟩ := bindS h0
      refine call_is hO hX (fn_granule_Near hO hv) (by kernel_rfl) [0] rfl ⟨rfl, rfl, trivial⟩ rfl ?_
      cbv
      obtain ⟨⟨n162, n163⟩, hv, h0⟩ := bindS h0
      try dsimp only at h0
      refine call_is hO hX (fn_granule_at hO hv) (by kernel_rfl) [0] rfl ⟨rfl, rfl, trivial⟩ rfl ?_
      cbv
      rcases condS h0 with ⟨hc3, h0⟩ | ⟨hc3, h0⟩
      · rw [hc3]
        cbv
        cases h0
        exact fin_ok hX rfl ⟨[], _, _, ⟨rfl, rfl⟩, rfl, rfl, rfl, rfl, by cbv; try simp⟩
      · rw [hc3]
        cbv
        cases h0
        exact fin_ok hX rfl ⟨[], _, _, ⟨rfl, rfl⟩, rfl, rfl, rfl, rfl, by cbv; try simp⟩
set_option maxHeartbeats 40000000 in
theorem fn_ref10_Line {O0 : Ops} (hO0 : O0 = std) {x_1 : Int} {r1 : Bool} (h : m_ref10_Line O0 x_1 = some r1) :
    Fn Try.prog 26 [.c (.int .i64 x_1)] [] (fun v c => v = .c (.bool r1) ∧ c = []) := by
  refine fn_run tab_holds eqs_holds mixed [] Try.func26 (by kernel_rfl) (by kernel_rfl) (Nat.le_of_ble_eq_true rfl) ?_
  intro O X hO hX
  rw [hO0, ← hO] at h
  unfold m_ref10_Line at h
  have h0 := h; clear h
  cbv
  obtain ⟨x395, h1, h0⟩ := bindS h0
  rcases condS h1 with ⟨hc1, h1⟩ | ⟨hc1, h1⟩
  · rw [hc1]
    cbv
    cases h1
    try dsimp only at h0
    cases h0
    exact fin_ok hX rfl ⟨[], _, _, ⟨rfl, rfl⟩, rfl, rfl, rfl, rfl, by cbv; try simp⟩
  · rw [hc1]
    cbv
    cases h1
    try dsimp only at h0
    cases h0
    exact fin_ok hX rfl ⟨[], _, _, ⟨rfl, rfl⟩, rfl, rfl, rfl, rfl, by cbv; try simp⟩
set_option maxHeartbeats 40000000 in
theorem fn_periodic_has_1 {O0 : Ops} (hO0 : O0 = std) {s_1 : Int} {s_2 : Int} {r_1 : Int} {r1 : Int} (h : m_periodic_has_1 O0 s_1 s_2 r_1 = some r1) :
    Fn Try.prog 86 [.agg [.int .i64 s_1, .int .i64 s_2], .c (.int .i64 r_1)] [] (fun v c => v = .c (.int .i64 r1) ∧ c = []) := by
  refine fn_run tab_holds eqs_holds mixed [] Try.func86 (by kernel_rfl) (by kernel_rfl) (Nat.le_of_ble_eq_true rfl) ?_
  intro O X hO hX
  rw [hO0, ← hO] at h
  unfold m_periodic_has_1 at h
  have h0 := h; clear h
  cbv
  rcases condS h0 with ⟨hc1, h0⟩ | ⟨hc1, h0⟩
  · rw [hc1]
    cbv
    cases h0
    exact fin_ok hX rfl ⟨[], _, _, ⟨rfl, rfl⟩, rfl, rfl, rfl, rfl, by cbv; try simp⟩
  · rw [hc1]
    cbv
    cases h0
    exact fin_ok hX rfl ⟨[], _, _, ⟨rfl, rfl⟩, rfl, rfl, rfl, rfl, by cbv; try simp⟩
set_option maxHeartbeats 40000000 in
theorem fn_slices_BinarySearchFunc {O0 : Ops} (hO0 : O0 = std) {target_1 : Int} {x_1 : List (Int × Int)} {r1 : Int} {r2 : Bool} (h : m_slices_BinarySearchFunc O0 target_1 x_1 = some (r1, r2)) :
    Fn Try.prog 85 [.c (.sl 0), .c (.int .i64 target_1), .c (.fn 86 [])] [.arr false .i2 x_1] (fun v c => v = .tup [.one (.int .i64 r1), .one (.bool r2)] ∧ c = []) := by
  refine fn_run tab_holds eqs_holds mixed [] Try.func85 (by kernel_rfl) (by kernel_rfl) (Nat.le_of_ble_eq_true rfl) ?_
  intro O X hO hX
  rw [hO0, ← hO] at h
  unfold m_slices_BinarySearchFunc at h
  have h0 := h; clear h
  cbv
  obtain ⟨i63, hi, h0⟩ := bindS h0
  obtain ⟨I1, hI1, hi⟩ := loopS hi
  refine loop1 tab_holds eqs_holds mixed [] hO hX I1 (fun y => [(9, .c (.int .i64 y.2.1)), (10, .c (.int .i64 y.2.2))]) (fun _ => []) (fun y => y.1) _ (by kernel_rfl) hi (by cbv; try simp) ?_
  refine allp ?_
  intro n1
  refine allp ?_
  intro i60
  intro j4 hi
  cbv
  rw [hI1] at hi
  obtain ⟨n1, rfl, x1, h1, hi1⟩ := iterS hi
  unfold m_slices_BinarySearchFunc_L1 at h1
  try dsimp only at h1
  rcases condS h1 with ⟨hc1, h1⟩ | ⟨hc1, h1⟩
  · rw [hc1]
    cbv
    obtain ⟨hg2, h1⟩ := grdS h1
    refine ⟨inr_of hO hg2, ?_⟩
    obtain ⟨hg3, h1⟩ := grdS h1
    refine ⟨inr_of hO hg3, ?_⟩
    obtain ⟨hg4, h1⟩ := grdS h1
    refine ⟨idx_of hO hg4, ?_⟩
    obtain ⟨hg5, h1⟩ := grdS h1
    refine ⟨inr_of hO hg5, ?_⟩
    obtain ⟨hg6, h1⟩ := grdS h1
    refine ⟨idx_of hO hg6, ?_⟩
    obtain ⟨hg7, h1⟩ := grdS h1
    refine ⟨kin_of hO hg7, ?_⟩
    obtain ⟨n166, hv, h1⟩ := bindS h1
    refine call_is hO hX (fn_periodic_has_1 hO hv) (by kernel_rfl) [] rfl trivial rfl ?_
    cbv
    obtain ⟨⟨i62, j6⟩, h2, h1⟩ := bindS h1
    rcases condS h2 with ⟨hc8, h2⟩ | ⟨hc8, h2⟩
    · rw [hc8]
      cbv
      obtain ⟨hg9, h2⟩ := grdS h2
      refine ⟨inr_of hO hg9, ?_⟩
      cases h2
      try dsimp only at h1
      cases h1
      exact ⟨_, [0], nextI hI1 hi1, by cbv; try simp, by first | exact Nat.lt_succ_self _ | omega⟩
    · rw [hc8]
      cbv
      cases h2
      try dsimp only at h1
      cases h1
      exact ⟨_, [0], nextI hI1 hi1, by cbv; try simp, by first | exact Nat.lt_succ_self _ | omega⟩
  · rw [hc1]
    cbv
    cases h1
    cases exitI hi1
    try dsimp only at h0
    obtain ⟨x397, h1, h0⟩ := bindS h0
    rcases condS h1 with ⟨hc10, h1⟩ | ⟨hc10, h1⟩
    · rw [hc10]
      cbv
      obtain ⟨hg11, h1⟩ := grdS h1
      refine ⟨idx_of hO hg11, ?_⟩
      obtain ⟨hg12, h1⟩ := grdS h1
      refine ⟨kin_of hO hg12, ?_⟩
      obtain ⟨n167, hv, h1⟩ := bindS h1
      refine call_is hO hX (fn_periodic_has_1 hO hv) (by kernel_rfl) [] rfl trivial rfl ?_
      cbv
      cases h1
      try dsimp only at h0
      cases h0
      exact fin_ok hX rfl ⟨[], _, _, ⟨rfl, rfl⟩, rfl, rfl, rfl, rfl, by cbv; try simp⟩
    · rw [hc10]
      cbv
      cases h1
      try dsimp only at h0
      cases h0
      exact fin_ok hX rfl ⟨[], _, _, ⟨rfl, rfl⟩, rfl, rfl, rfl, rfl, by cbv; try simp⟩
set_option maxHeartbeats 40000000 in
theorem fn_periodic_has {O0 : Ops} (hO0 : O0 = std) {p_1 : Int} {x_1 : Int} {p_2 : List (Int × Int)} {r1 : Bool} (h : m_periodic_has O0 p_1 x_1 p_2 = some r1) :
    Fn Try.prog 62 [.agg [.int .i64 p_1, .sl 0], .c (.int .i64 x_1)] [.arr false .i2 p_2] (fun v c => v = .c (.bool r1) ∧ c = []) := by
  refine fn_run tab_holds eqs_holds mixed [] Try.func62 (by kernel_rfl) (by kernel_rfl) (Nat.le_of_ble_eq_true rfl) ?_
  intro O X hO hX
  rw [hO0, ← hO] at h
  unfold m_periodic_has at h
  have h0 := h; clear h
  cbv
  obtain ⟨n165, hv, h0⟩ := bindS h0
  refine call_is hO hX (fn_integer_Mod hO hv) (by kernel_rfl) [] rfl trivial rfl ?_
  cbv
  obtain ⟨⟨n168, b126⟩, hv, h0⟩ := bindS h0
  try dsimp only at h0
  refine call_is hO hX (fn_slices_BinarySearchFunc hO hv) (by kernel_rfl) [0] rfl ⟨rfl, rfl, trivial⟩ rfl ?_
  cbv
  obtain ⟨x399, h1, h0⟩ := bindS h0
  rcases condS h1 with ⟨hc1, h1⟩ | ⟨hc1, h1⟩
  · rw [hc1]
    cbv
    obtain ⟨hg2, h1⟩ := grdS h1
    refine ⟨idx_of hO hg2, ?_⟩
    obtain ⟨hg3, h1⟩ := grdS h1
    refine ⟨kin_of hO hg3, ?_⟩
    cases h1
    try dsimp only at h0
    cases h0
    exact fin_ok hX rfl ⟨[], _, _, ⟨rfl, rfl⟩, rfl, rfl, rfl, rfl, by cbv; try simp⟩
  · rw [hc1]
    cbv
    cases h1
    try dsimp only at h0
    cases h0
    exact fin_ok hX rfl ⟨[], _, _, ⟨rfl, rfl⟩, rfl, rfl, rfl, rfl, by cbv; try simp⟩
set_option maxHeartbeats 40000000 in
theorem fn_periodic_Has {O0 : Ops} (hO0 : O0 = std) {p_1 : Int} {x_1 : Int} {p_2 : List (Int × Int)} {r1 : Bool} (h : m_periodic_Has O0 p_1 x_1 p_2 = some r1) :
    Fn Try.prog 27 [.agg [.int .i64 p_1, .sl 0], .c (.int .i64 x_1)] [.arr false .i2 p_2] (fun v c => v = .c (.bool r1) ∧ c = []) := by
  refine fn_run tab_holds eqs_holds mixed [] Try.func27 (by kernel_rfl) (by kernel_rfl) (Nat.le_of_ble_eq_true rfl) ?_
  intro O X hO hX
  rw [hO0, ← hO] at h
  unfold m_periodic_Has at h
  have h0 := h; clear h
  cbv
  obtain ⟨x401, h1, h0⟩ := bindS h0
  obtain ⟨b125, hv, h1⟩ := bindS h1
  refine call_is hO hX (fn_periodic_Valid hO hv) (by kernel_rfl) [0] rfl ⟨rfl, rfl, trivial⟩ rfl ?_
  cbv
  rcases condS h1 with ⟨hc1, h1⟩ | ⟨hc1, h1⟩
  · rw [hc1]
    cbv
    obtain ⟨b127, hv, h1⟩ := bindS h1
    refine call_is hO hX (fn_periodic_has hO hv) (by kernel_rfl) [0] rfl ⟨rfl, rfl, trivial⟩ rfl ?_
    cbv
    cases h1
    try dsimp only at h0
    cases h0
    exact fin_ok hX rfl ⟨[], _, _, ⟨rfl, rfl⟩, rfl, rfl, rfl, rfl, by cbv; try simp⟩
  · rw [hc1]
    cbv
    cases h1
    try dsimp only at h0
    cases h0
    exact fin_ok hX rfl ⟨[], _, _, ⟨rfl, rfl⟩, rfl, rfl, rfl, rfl, by cbv; try simp⟩
set_option maxHeartbeats 40000000 in
theorem fn_granule_Gapless {O0 : Ops} (hO0 : O0 = std) {c_1 : Int} {c_2 : Int} {c_3 : List (Int × Int)} {r1 : Bool} (h : m_granule_Gapless O0 c_1 c_2 c_3 = some r1) :
    Fn Try.prog 28 [.agg [.int .i64 c_1, .int .i64 c_2, .sl 0]] [.arr false .i2 c_3] (fun v c => v = .c (.bool r1) ∧ c = []) := by
  refine fn_run tab_holds eqs_holds mixed [] Try.func28 (by kernel_rfl) (by kernel_rfl) (Nat.le_of_ble_eq_true rfl) ?_
  intro O X hO hX
  rw [hO0, ← hO] at h
  unfold m_granule_Gapless at h
  have h0 := h; clear h
  cbv
  obtain ⟨b129, hv, h0⟩ := bindS h0
  refine call_is hO hX (fn_granule_Valid hO hv) (by kernel_rfl) [0] rfl ⟨rfl, rfl, trivial⟩ rfl ?_
  cbv
  rcases condS h0 with ⟨hc1, h0⟩ | ⟨hc1, h0⟩
  · rw [hc1]
    cbv
    cases h0
    exact fin_ok hX rfl ⟨[], _, _, ⟨rfl, rfl⟩, rfl, rfl, rfl, rfl, by cbv; try simp⟩
  · as_aux_lemma =>
    rw [hc1]
    cbv
    obtain ⟨e1, hi, h0⟩ := bindS h0
    obtain ⟨I1, hI1, hi⟩ := loopS hi
    refine loop1 tab_holds eqs_holds mixed [] hO hX I1 (fun y => [(9, .junk), (12, .c (.int .i64 y.2))]) (fun _ => []) (fun y => y.1) _ (by kernel_rfl) hi (by cbv; try simp) ?_
    refine allp ?_
    intro n1
    intro x404 hi
    cbv
    rw [hI1] at hi
    obtain ⟨n1, rfl, x1, h1, hi1⟩ := iterS hi
    unfold m_granule_Gapless_L1 at h1
    try dsimp only at h1
    rcases condS h1 with ⟨hc2, h1⟩ | ⟨hc2, h1⟩
    · as_aux_lemma =>
      rw [hc2]
      cbv
      obtain ⟨hg3, h1⟩ := grdS h1
      refine ⟨idx_of hO hg3, ?_⟩
      obtain ⟨hg4, h1⟩ := grdS h1
      refine ⟨kin_of hO hg4, ?_⟩
      obtain ⟨hg5, h1⟩ := grdS h1
      refine ⟨inr_of hO hg5, ?_⟩
      obtain ⟨next2, h2, h1⟩ := bindS h1
      rcases condS h2 with ⟨hc6, h2⟩ | ⟨hc6, h2⟩
      · rw [hc6]
        cbv
        refine ⟨inr_of hO hg5, ?_⟩
        obtain ⟨hg7, h2⟩ := grdS h2
        refine ⟨idx_of hO hg7, ?_⟩
        obtain ⟨hg8, h2⟩ := grdS h2
        refine ⟨kin_of hO hg8, ?_⟩
        cases h2
        try dsimp only at h1
        rcases condS h1 with ⟨hc9, h1⟩ | ⟨hc9, h1⟩
        · rw [hc9]
          cbv
          cases h1
          cases exitI hi1
          try dsimp only at h0
          cases h0
          exact fin_ok hX rfl ⟨[], _, _, ⟨rfl, rfl⟩, rfl, rfl, rfl, rfl, by cbv; try simp⟩
        · rw [hc9]
          cbv
          refine ⟨inr_of hO hg5, ?_⟩
          cases h1
          exact ⟨_, [0, 1], nextI hI1 hi1, by cbv; try simp, by first | exact Nat.lt_succ_self _ | omega⟩
      · rw [hc6]
        cbv
        cases h2
        try dsimp only at h1
        rcases condS h1 with ⟨hc10, h1⟩ | ⟨hc10, h1⟩
        · rw [hc10]
          cbv
          cases h1
          cases exitI hi1
          try dsimp only at h0
          cases h0
          exact fin_ok hX rfl ⟨[], _, _, ⟨rfl, rfl⟩, rfl, rfl, rfl, rfl, by cbv; try simp⟩
        · rw [hc10]
          cbv
          refine ⟨inr_of hO hg5, ?_⟩
          cases h1
          exact ⟨_, [0, 1], nextI hI1 hi1, by cbv; try simp, by first | exact Nat.lt_succ_self _ | omega⟩
    · rw [hc2]
      cbv
      cases h1
      cases exitI hi1
      try dsimp only at h0
      cases h0
      exact fin_ok hX rfl ⟨[], _, _, ⟨rfl, rfl⟩, rfl, rfl, rfl, rfl, by cbv; try simp⟩
set_option maxHeartbeats 40000000 in
theorem fn_law15_GranulePoints {O0 : Ops} (hO0 : O0 = std) {c_1 : Int} {c_2 : Int} {x_1 : Int} {c_3 : List (Int × Int)} {r1 : Bool} (h : m_law15_GranulePoints O0 c_1 c_2 x_1 c_3 = some r1) :
    Fn Try.prog 5 [.agg [.int .i64 c_1, .int .i64 c_2, .sl 0], .c (.int .i64 x_1)] [.arr false .i2 c_3] (fun v c => v = .c (.bool r1) ∧ c = []) := by
  refine fn_run tab_holds eqs_holds mixed [(14, (.seg 1 [0, 1, 2, 3, 5, 6] (.seg 2 [4] (.seg 2 [7] (.seg 1 [8, 9, 10] .fin)))), [])] Try.func5 (by kernel_rfl) (by kernel_rfl) (Nat.le_of_ble_eq_true rfl) ?_
  intro O X hO hX
  rw [hO0, ← hO] at h
  unfold m_law15_GranulePoints at h
  have h0 := h; clear h
  cbv
  obtain ⟨b115, hv, h0⟩ := bindS h0
  refine call_is hO hX (fn_law15_awake hO hv) (by kernel_rfl) [] rfl trivial rfl ?_
  cbv
  rcases condS h0 with ⟨hc1, h0⟩ | ⟨hc1, h0⟩
  · rw [hc1]
    cbv
    cases h0
    exact fin_ok hX rfl ⟨[], _, _, ⟨rfl, rfl⟩, rfl, rfl, rfl, rfl, by cbv; try simp⟩
  · as_aux_lemma =>
    rw [hc1]
    cbv
    rcases condS h0 with ⟨hc2, h0⟩ | ⟨hc2, h0⟩
    · rw [hc2]
      cbv
      cases h0
      exact fin_ok hX rfl ⟨[], _, _, ⟨rfl, rfl⟩, rfl, rfl, rfl, rfl, by cbv; try simp⟩
    · as_aux_lemma =>
      rw [hc2]
      cbv
      obtain ⟨⟨n157, l228, n158⟩, hv, h0⟩ := bindS h0
      try dsimp only at h0
      refine call_is hO hX (fn_granule_Points hO hv) (by kernel_rfl) [0] rfl ⟨rfl, rfl, trivial⟩ rfl ?_
      cbv
      obtain ⟨b117, hv, h0⟩ := bindS h0
      refine call_is hO hX (fn_granule_Valid hO hv) (by kernel_rfl) [0] rfl ⟨rfl, rfl, trivial⟩ rfl ?_
      cbv
      rcases condS h0 with ⟨hc3, h0⟩ | ⟨hc3, h0⟩
      · rw [hc3]
        cbv
        cases h0
        exact fin_ok hX rfl ⟨[], _, _, ⟨rfl, rfl⟩, rfl, rfl, rfl, rfl, by cbv; try simp⟩
      · as_aux_lemma =>
        rw [hc3]
        cbv
        rcases condS h0 with ⟨hc4, h0⟩ | ⟨hc4, h0⟩
        · rw [hc4]
          cbv
          cases h0
          exact fin_ok hX rfl ⟨[], _, _, ⟨rfl, rfl⟩, rfl, rfl, rfl, rfl, by cbv; try simp⟩
        · as_aux_lemma =>
          rw [hc4]
          cbv
          obtain ⟨⟨n164, b123⟩, hv, h0⟩ := bindS h0
          try dsimp only at h0
          refine call_is hO hX (fn_granule_Find hO hv) (by kernel_rfl) [0] rfl ⟨rfl, rfl, trivial⟩ rfl ?_
          cbv
          obtain ⟨x403, h1, h0⟩ := bindS h0
          obtain ⟨b124, hv, h1⟩ := bindS h1
          refine call_is hO hX (fn_ref10_Line hO hv) (by kernel_rfl) [] rfl trivial rfl ?_
          cbv
          rcases condS h1 with ⟨hc5, h1⟩ | ⟨hc5, h1⟩
          · rw [hc5]
            cbv
            obtain ⟨b128, hv, h1⟩ := bindS h1
            refine call_is hO hX (fn_periodic_Has hO hv) (by kernel_rfl) [2] rfl ⟨rfl, rfl, trivial⟩ rfl ?_
            cbv
            cases h1
            try dsimp only at h0
            rcases condS h0 with ⟨hc6, h0⟩ | ⟨hc6, h0⟩
            · rw [hc6]
              cbv
              cases h0
              exact fin_ok hX rfl ⟨[], _, _, ⟨rfl, rfl⟩, rfl, rfl, rfl, rfl, by cbv; try simp⟩
            · rw [hc6]
              cbv
              obtain ⟨⟨n169, l229, n170⟩, hv, h0⟩ := bindS h0
              try dsimp only at h0
              refine call_is hO hX (fn_periodic_Of hO hv) (by kernel_rfl) [4] rfl ⟨rfl, rfl, trivial⟩ rfl ?_
              cbv
              obtain ⟨x406, h1, h0⟩ := bindS h0
              rcases condS h1 with ⟨hc7, h1⟩ | ⟨hc7, h1⟩
              · rw [hc7]
                cbv
                obtain ⟨b130, hv, h1⟩ := bindS h1
                refine call_is hO hX (fn_granule_Gapless hO hv) (by kernel_rfl) [0] rfl ⟨rfl, rfl, trivial⟩ rfl ?_
                cbv
                obtain ⟨b131, hv, h1⟩ := bindS h1
                refine call_is hO hX (fn_periodic_Equal hO hv) (by kernel_rfl) [2, 5] rfl ⟨rfl, rfl, rfl, rfl, trivial⟩ rfl ?_
                cbv
                cases h1
                try dsimp only at h0
                cases h0
                exact fin_ok hX rfl ⟨[], _, _, ⟨rfl, rfl⟩, rfl, rfl, rfl, rfl, by cbv; try simp⟩
              · rw [hc7]
                cbv
                cases h1
                try dsimp only at h0
                cases h0
                exact fin_ok hX rfl ⟨[], _, _, ⟨rfl, rfl⟩, rfl, rfl, rfl, rfl, by cbv; try simp⟩
          · rw [hc5]
            cbv
            cases h1
            try dsimp only at h0
            replace h0 := condF h0 rfl
            obtain ⟨⟨n169, l229, n170⟩, hv, h0⟩ := bindS h0
            try dsimp only at h0
            refine call_is hO hX (fn_periodic_Of hO hv) (by kernel_rfl) [4] rfl ⟨rfl, rfl, trivial⟩ rfl ?_
            cbv
            obtain ⟨x406, h1, h0⟩ := bindS h0
            rcases condS h1 with ⟨hc8, h1⟩ | ⟨hc8, h1⟩
            · rw [hc8]
              cbv
              obtain ⟨b130, hv, h1⟩ := bindS h1
              refine call_is hO hX (fn_granule_Gapless hO hv) (by kernel_rfl) [0] rfl ⟨rfl, rfl, trivial⟩ rfl ?_
              cbv
              obtain ⟨b131, hv, h1⟩ := bindS h1
              refine call_is hO hX (fn_periodic_Equal hO hv) (by kernel_rfl) [2, 5] rfl ⟨rfl, rfl, rfl, rfl, trivial⟩ rfl ?_
              cbv
              cases h1
              try dsimp only at h0
              cases h0
              exact fin_ok hX rfl ⟨[], _, _, ⟨rfl, rfl⟩, rfl, rfl, rfl, rfl, by cbv; try simp⟩
            · rw [hc8]
              cbv
              cases h1
              try dsimp only at h0
              cases h0
              exact fin_ok hX rfl ⟨[], _, _, ⟨rfl, rfl⟩, rfl, rfl, rfl, rfl, by cbv; try simp⟩
end Go.Proofs.Ytlpbdikmhngmfaa
