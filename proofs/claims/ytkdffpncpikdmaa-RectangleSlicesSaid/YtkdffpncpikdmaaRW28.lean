/-
  The code does what its models say (printed by lift.py).
-/
import Derived.Test.YtkdffpncpikdmaaRM
import Derived.Test.YtkdffpncpikdmaaSrtR
import Derived.Test.YtkdffpncpikdmaaRW1
import Derived.Test.YtkdffpncpikdmaaRW2
import Derived.Test.YtkdffpncpikdmaaRW3
import Derived.Test.YtkdffpncpikdmaaRW5
import Derived.Test.YtkdffpncpikdmaaRW22
import Derived.Test.YtkdffpncpikdmaaRW23
import Derived.Test.YtkdffpncpikdmaaRW24
namespace Go.Proofs.Ytkdffpncpikdmaa
open Go.RowKit
set_option maxRecDepth 100000

set_option maxHeartbeats 40000000 in
theorem fn_rectangle_At {O0 : Ops} (hO0 : O0 = std) {tx_1 : Int} {l_1 : List (Int × Int × Int × Int)} {r1 : List (Int × Int)} (h : m_rectangle_At O0 tx_1 l_1 = some r1) :
    Fn Try.prog 34 [.c (.sl 0), .c (.int .i64 tx_1)] [.arr false .i4 l_1] (fun v c => v = .c (.sl 1) ∧ c = [.own 32 .i2 r1]) := by
  refine fn_run tab_holds eqs_holds mixed [] Try.func34 (by kernel_rfl) (by kernel_rfl) (Nat.le_of_ble_eq_true rfl) ?_
  intro O X hO hX
  rw [hO0, ← hO] at h
  unfold m_rectangle_At at h
  have h0 := h; clear h
  cbv
  obtain ⟨n113, hv, h0⟩ := bindS h0
  refine call_is hO hX (fn_rectangle_check_2 hO hv) (by kernel_rfl) [2, 0] rfl ⟨rfl, rfl, rfl, rfl, trivial⟩ rfl ?_
  cbv
  rcases condS h0 with ⟨hc1, h0⟩ | ⟨hc1, h0⟩
  · rw [hc1]
    cbv
    cases h0
    exact fin_ok hX rfl ⟨[3], _, _, ⟨rfl, rfl⟩, rfl, rfl, rfl, rfl, by cbv; try simp⟩
  · rw [hc1]
    cbv
    obtain ⟨l275, hv, h0⟩ := bindS h0
    refine call_is hO hX (fn_rectangle_times hO hv) (by kernel_rfl) [0] rfl ⟨rfl, rfl, trivial⟩ rfl ?_
    cbv
    cases h0
    exact fin_ok hX rfl ⟨[3], _, _, ⟨rfl, rfl⟩, rfl, rfl, rfl, rfl, by cbv; try simp⟩
set_option maxHeartbeats 40000000 in
theorem fn_rectangle_During {O0 : Ops} (hO0 : O0 = std) {valid_1 : Int} {l_1 : List (Int × Int × Int × Int)} {r1 : List (Int × Int)} (h : m_rectangle_During O0 valid_1 l_1 = some r1) :
    Fn Try.prog 35 [.c (.sl 0), .c (.int .i64 valid_1)] [.arr false .i4 l_1] (fun v c => v = .c (.sl 1) ∧ c = [.own 32 .i2 r1]) := by
  refine fn_run tab_holds eqs_holds mixed [] Try.func35 (by kernel_rfl) (by kernel_rfl) (Nat.le_of_ble_eq_true rfl) ?_
  intro O X hO hX
  rw [hO0, ← hO] at h
  unfold m_rectangle_During at h
  have h0 := h; clear h
  cbv
  obtain ⟨n114, hv, h0⟩ := bindS h0
  refine call_is hO hX (fn_rectangle_check_2 hO hv) (by kernel_rfl) [2, 0] rfl ⟨rfl, rfl, rfl, rfl, trivial⟩ rfl ?_
  cbv
  rcases condS h0 with ⟨hc1, h0⟩ | ⟨hc1, h0⟩
  · rw [hc1]
    cbv
    cases h0
    exact fin_ok hX rfl ⟨[3], _, _, ⟨rfl, rfl⟩, rfl, rfl, rfl, rfl, by cbv; try simp⟩
  · rw [hc1]
    cbv
    obtain ⟨l278, hi, h0⟩ := bindS h0
    obtain ⟨I1, hI1, hi⟩ := loopS hi
    refine loop1 tab_holds eqs_holds mixed [] hO hX I1 (fun y => [(4, .junk), (9, .junk), (5, .c (.sl 3)), (14, .c (.int .i64 y.2.1))]) (fun y => [(3, .own 34 .i4 y.2.2)]) (fun y => y.1) _ (by kernel_rfl) hi (by cbv; try simp) ?_
    refine allp ?_
    intro n1
    refine allp ?_
    intro x338
    intro l277 hi
    cbv
    rw [hI1] at hi
    obtain ⟨n1, rfl, x1, h1, hi1⟩ := iterS hi
    unfold m_rectangle_During_L1 at h1
    try dsimp only at h1
    rcases condS h1 with ⟨hc2, h1⟩ | ⟨hc2, h1⟩
    · rw [hc2]
      cbv
      obtain ⟨hg3, h1⟩ := grdS h1
      refine ⟨idx_of hO hg3, ?_⟩
      obtain ⟨hg4, h1⟩ := grdS h1
      refine ⟨kin_of hO hg4, ?_⟩
      obtain ⟨hg5, h1⟩ := grdS h1
      refine ⟨room_of hO hg5, ?_⟩
      obtain ⟨hg6, h1⟩ := grdS h1
      refine ⟨room_of hO hg6, ?_⟩
      obtain ⟨hg7, h1⟩ := grdS h1
      refine ⟨inr_of hO hg7, ?_⟩
      cases h1
      exact ⟨_, [0, 1, 2, 6], nextI hI1 hi1, by cbv; try simp, by first | exact Nat.lt_succ_self _ | omega⟩
    · rw [hc2]
      cbv
      cases h1
      cases exitI hi1
      try dsimp only at h0
      obtain ⟨l279, hv, h0⟩ := bindS h0
      refine call_is hO hX (fn_rectangle_times hO hv) (by kernel_rfl) [3] rfl ⟨rfl, rfl, trivial⟩ rfl ?_
      cbv
      cases h0
      exact fin_ok hX rfl ⟨[4], _, _, ⟨rfl, rfl⟩, rfl, rfl, rfl, rfl, by cbv; try simp⟩
set_option maxHeartbeats 40000000 in
theorem fn_runs_search_1 {O0 : Ops} (hO0 : O0 = std) {s_1 : Int} {s_2 : Int} {x_1 : Int} {r1 : Int} (h : m_runs_search_1 O0 s_1 s_2 x_1 = some r1) :
    Fn Try.prog 78 [.agg [.int .i64 s_1, .int .i64 s_2], .c (.int .i64 x_1)] [] (fun v c => v = .c (.int .i64 r1) ∧ c = []) := by
  refine fn_run tab_holds eqs_holds mixed [] Try.func78 (by kernel_rfl) (by kernel_rfl) (Nat.le_of_ble_eq_true rfl) ?_
  intro O X hO hX
  rw [hO0, ← hO] at h
  unfold m_runs_search_1 at h
  have h0 := h; clear h
  cbv
  rcases condS h0 with ⟨hc1, h0⟩ | ⟨hc1, h0⟩
  · rw [hc1]
    cbv
    cases h0
    exact fin_ok hX rfl ⟨[], _, _, ⟨rfl, rfl⟩, rfl, rfl, rfl, rfl, by cbv; try simp⟩
  · rw [hc1]
    cbv
    cases h0
    exact fin_ok hX rfl ⟨[], _, _, ⟨rfl, rfl⟩, rfl, rfl, rfl, rfl, by cbv; try simp⟩
set_option maxHeartbeats 40000000 in
theorem fn_slices_BinarySearchFunc {O0 : Ops} (hO0 : O0 = std) {target_1 : Int} {x_1 : List (Int × Int)} {r1 : Int} {r2 : Bool} (h : m_slices_BinarySearchFunc O0 target_1 x_1 = some (r1, r2)) :
    Fn Try.prog 77 [.c (.sl 0), .c (.int .i64 target_1), .c (.fn 78 [])] [.arr false .i2 x_1] (fun v c => v = .tup [.one (.int .i64 r1), .one (.bool r2)] ∧ c = []) := by
  refine fn_run tab_holds eqs_holds mixed [] Try.func77 (by kernel_rfl) (by kernel_rfl) (Nat.le_of_ble_eq_true rfl) ?_
  intro O X hO hX
  rw [hO0, ← hO] at h
  unfold m_slices_BinarySearchFunc at h
  have h0 := h; clear h
  cbv
  obtain ⟨i74, hi, h0⟩ := bindS h0
  obtain ⟨I1, hI1, hi⟩ := loopS hi
  refine loop1 tab_holds eqs_holds mixed [] hO hX I1 (fun y => [(9, .c (.int .i64 y.2.1)), (10, .c (.int .i64 y.2.2))]) (fun _ => []) (fun y => y.1) _ (by kernel_rfl) hi (by cbv; try simp) ?_
  refine allp ?_
  intro n1
  refine allp ?_
  intro i71
  intro j3 hi
  cbv
  rw [hI1] at hi
  obtain ⟨n1, rfl, x1, h1, hi1⟩ := iterS hi
  unfold m_slices_BinarySearchFunc_L1 at h1
  try dsimp only at h1
  rcases condS h1 with ⟨hc1, h1⟩ | ⟨hc1, h1⟩
  · rw [hc1]
    cbv
    obtain ⟨hg2, h1⟩ := grdS h1
    refine ⟨inr_of hO hg2, ?_⟩
    obtain ⟨hg3, h1⟩ := grdS h1
    refine ⟨inr_of hO hg3, ?_⟩
    obtain ⟨hg4, h1⟩ := grdS h1
    refine ⟨idx_of hO hg4, ?_⟩
    obtain ⟨hg5, h1⟩ := grdS h1
    refine ⟨inr_of hO hg5, ?_⟩
    obtain ⟨hg6, h1⟩ := grdS h1
    refine ⟨idx_of hO hg6, ?_⟩
    obtain ⟨hg7, h1⟩ := grdS h1
    refine ⟨kin_of hO hg7, ?_⟩
    obtain ⟨n115, hv, h1⟩ := bindS h1
    refine call_is hO hX (fn_runs_search_1 hO hv) (by kernel_rfl) [] rfl trivial rfl ?_
    cbv
    obtain ⟨⟨i73, j5⟩, h2, h1⟩ := bindS h1
    rcases condS h2 with ⟨hc8, h2⟩ | ⟨hc8, h2⟩
    · rw [hc8]
      cbv
      obtain ⟨hg9, h2⟩ := grdS h2
      refine ⟨inr_of hO hg9, ?_⟩
      cases h2
      try dsimp only at h1
      cases h1
      exact ⟨_, [0], nextI hI1 hi1, by cbv; try simp, by first | exact Nat.lt_succ_self _ | omega⟩
    · rw [hc8]
      cbv
      cases h2
      try dsimp only at h1
      cases h1
      exact ⟨_, [0], nextI hI1 hi1, by cbv; try simp, by first | exact Nat.lt_succ_self _ | omega⟩
  · rw [hc1]
    cbv
    cases h1
    cases exitI hi1
    try dsimp only at h0
    obtain ⟨x342, h1, h0⟩ := bindS h0
    rcases condS h1 with ⟨hc10, h1⟩ | ⟨hc10, h1⟩
    · rw [hc10]
      cbv
      obtain ⟨hg11, h1⟩ := grdS h1
      refine ⟨idx_of hO hg11, ?_⟩
      obtain ⟨hg12, h1⟩ := grdS h1
      refine ⟨kin_of hO hg12, ?_⟩
      obtain ⟨n116, hv, h1⟩ := bindS h1
      refine call_is hO hX (fn_runs_search_1 hO hv) (by kernel_rfl) [] rfl trivial rfl ?_
      cbv
      cases h1
      try dsimp only at h0
      cases h0
      exact fin_ok hX rfl ⟨[], _, _, ⟨rfl, rfl⟩, rfl, rfl, rfl, rfl, by cbv; try simp⟩
    · rw [hc10]
      cbv
      cases h1
      try dsimp only at h0
      cases h0
      exact fin_ok hX rfl ⟨[], _, _, ⟨rfl, rfl⟩, rfl, rfl, rfl, rfl, by cbv; try simp⟩
set_option maxHeartbeats 40000000 in
theorem fn_runs_search {O0 : Ops} (hO0 : O0 = std) {x_1 : Int} {a_1 : List (Int × Int)} {r1 : Int} (h : m_runs_search O0 x_1 a_1 = some r1) :
    Fn Try.prog 59 [.c (.sl 0), .c (.int .i64 x_1)] [.arr false .i2 a_1] (fun v c => v = .c (.int .i64 r1) ∧ c = []) := by
  refine fn_run tab_holds eqs_holds mixed [] Try.func59 (by kernel_rfl) (by kernel_rfl) (Nat.le_of_ble_eq_true rfl) ?_
  intro O X hO hX
  rw [hO0, ← hO] at h
  unfold m_runs_search at h
  have h0 := h; clear h
  cbv
  obtain ⟨⟨n117, b141⟩, hv, h0⟩ := bindS h0
  try dsimp only at h0
  refine call_is hO hX (fn_slices_BinarySearchFunc hO hv) (by kernel_rfl) [0] rfl ⟨rfl, rfl, trivial⟩ rfl ?_
  cbv
  cases h0
  exact fin_ok hX rfl ⟨[], _, _, ⟨rfl, rfl⟩, rfl, rfl, rfl, rfl, by cbv; try simp⟩
set_option maxHeartbeats 40000000 in
theorem fn_runs_Has {O0 : Ops} (hO0 : O0 = std) {x_1 : Int} {a_1 : List (Int × Int)} {r1 : Bool} (h : m_runs_Has O0 x_1 a_1 = some r1) :
    Fn Try.prog 36 [.c (.sl 0), .c (.int .i64 x_1)] [.arr false .i2 a_1] (fun v c => v = .c (.bool r1) ∧ c = []) := by
  refine fn_run tab_holds eqs_holds mixed [] Try.func36 (by kernel_rfl) (by kernel_rfl) (Nat.le_of_ble_eq_true rfl) ?_
  intro O X hO hX
  rw [hO0, ← hO] at h
  unfold m_runs_Has at h
  have h0 := h; clear h
  cbv
  obtain ⟨b140, hv, h0⟩ := bindS h0
  refine call_is hO hX (fn_runs_Valid hO hv) (by kernel_rfl) [0] rfl ⟨rfl, rfl, trivial⟩ rfl ?_
  cbv
  rcases condS h0 with ⟨hc1, h0⟩ | ⟨hc1, h0⟩
  · rw [hc1]
    cbv
    cases h0
    exact fin_ok hX rfl ⟨[], _, _, ⟨rfl, rfl⟩, rfl, rfl, rfl, rfl, by cbv; try simp⟩
  · rw [hc1]
    cbv
    obtain ⟨n118, hv, h0⟩ := bindS h0
    refine call_is hO hX (fn_runs_search hO hv) (by kernel_rfl) [0] rfl ⟨rfl, rfl, trivial⟩ rfl ?_
    cbv
    obtain ⟨x344, h1, h0⟩ := bindS h0
    rcases condS h1 with ⟨hc2, h1⟩ | ⟨hc2, h1⟩
    · rw [hc2]
      cbv
      obtain ⟨hg3, h1⟩ := grdS h1
      refine ⟨idx_of hO hg3, ?_⟩
      obtain ⟨hg4, h1⟩ := grdS h1
      refine ⟨kin_of hO hg4, ?_⟩
      cases h1
      try dsimp only at h0
      cases h0
      exact fin_ok hX rfl ⟨[], _, _, ⟨rfl, rfl⟩, rfl, rfl, rfl, rfl, by cbv; try simp⟩
    · rw [hc2]
      cbv
      cases h1
      try dsimp only at h0
      cases h0
      exact fin_ok hX rfl ⟨[], _, _, ⟨rfl, rfl⟩, rfl, rfl, rfl, rfl, by cbv; try simp⟩
set_option maxHeartbeats 40000000 in
theorem fn_law35_RectangleSlices {O0 : Ops} (hO0 : O0 = std) {valid_1 : Int} {tx_1 : Int} {l_1 : List (Int × Int × Int × Int)} {r1 : Bool} (h : m_law35_RectangleSlices O0 valid_1 tx_1 l_1 = some r1) :
    Fn Try.prog 9 [.c (.sl 0), .c (.int .i64 valid_1), .c (.int .i64 tx_1)] [.arr false .i4 l_1] (fun v c => v = .c (.bool r1) ∧ c = []) := by
  refine fn_run tab_holds eqs_holds mixed [] Try.func9 (by kernel_rfl) (by kernel_rfl) (Nat.le_of_ble_eq_true rfl) ?_
  intro O X hO hX
  rw [hO0, ← hO] at h
  unfold m_law35_RectangleSlices at h
  have h0 := h; clear h
  cbv
  obtain ⟨b132, hv, h0⟩ := bindS h0
  refine call_is hO hX (fn_law35_awake hO hv) (by kernel_rfl) [] rfl trivial rfl ?_
  cbv
  rcases condS h0 with ⟨hc1, h0⟩ | ⟨hc1, h0⟩
  · rw [hc1]
    cbv
    cases h0
    exact fin_ok hX rfl ⟨[], _, _, ⟨rfl, rfl⟩, rfl, rfl, rfl, rfl, by cbv; try simp⟩
  · as_aux_lemma =>
    rw [hc1]
    cbv
    obtain ⟨x334, h1, h0⟩ := bindS h0
    obtain ⟨b133, hv, h1⟩ := bindS h1
    refine call_is hO hX (fn_law35_few hO hv) (by kernel_rfl) [1, 0] rfl ⟨rfl, rfl, rfl, rfl, trivial⟩ rfl ?_
    cbv
    rcases condS h1 with ⟨hc2, h1⟩ | ⟨hc2, h1⟩
    · rw [hc2]
      cbv
      cases h1
      try dsimp only at h0
      replace h0 := condT h0 rfl
      cases h0
      exact fin_ok hX rfl ⟨[], _, _, ⟨rfl, rfl⟩, rfl, rfl, rfl, rfl, by cbv; try simp⟩
    · as_aux_lemma =>
      rw [hc2]
      cbv
      obtain ⟨b134, hv, h1⟩ := bindS h1
      refine call_is hO hX (fn_ref35_List hO hv) (by kernel_rfl) [0] rfl ⟨rfl, rfl, trivial⟩ rfl ?_
      cbv
      cases h1
      try dsimp only at h0
      rcases condS h0 with ⟨hc3, h0⟩ | ⟨hc3, h0⟩
      · rw [hc3]
        cbv
        cases h0
        exact fin_ok hX rfl ⟨[], _, _, ⟨rfl, rfl⟩, rfl, rfl, rfl, rfl, by cbv; try simp⟩
      · as_aux_lemma =>
        rw [hc3]
        cbv
        obtain ⟨l274, hi, h0⟩ := bindS h0
        obtain ⟨I1, hI1, hi⟩ := loopS hi
        refine loop1 tab_holds eqs_holds mixed [] hO hX I1 (fun y => [(16, .junk), (7, .c (.sl 2)), (26, .c (.int .i64 y.2.1))]) (fun y => [(2, .own 34 .i4 y.2.2)]) (fun y => y.1) _ (by kernel_rfl) hi (by cbv; try simp) ?_
        refine allp ?_
        intro n1
        refine allp ?_
        intro x336
        intro l273 hi
        cbv
        rw [hI1] at hi
        obtain ⟨n1, rfl, x1, h1, hi1⟩ := iterS hi
        unfold m_law35_RectangleSlices_L1 at h1
        try dsimp only at h1
        rcases condS h1 with ⟨hc4, h1⟩ | ⟨hc4, h1⟩
        · rw [hc4]
          cbv
          obtain ⟨hg5, h1⟩ := grdS h1
          refine ⟨idx_of hO hg5, ?_⟩
          obtain ⟨hg6, h1⟩ := grdS h1
          refine ⟨kin_of hO hg6, ?_⟩
          obtain ⟨hg7, h1⟩ := grdS h1
          refine ⟨room_of hO hg7, ?_⟩
          obtain ⟨hg8, h1⟩ := grdS h1
          refine ⟨room_of hO hg8, ?_⟩
          obtain ⟨hg9, h1⟩ := grdS h1
          refine ⟨inr_of hO hg9, ?_⟩
          cases h1
          exact ⟨_, [0, 1, 5], nextI hI1 hi1, by cbv; try simp, by first | exact Nat.lt_succ_self _ | omega⟩
        · as_aux_lemma =>
          rw [hc4]
          cbv
          cases h1
          cases exitI hi1
          try dsimp only at h0
          obtain ⟨l276, hv, h0⟩ := bindS h0
          refine call_is hO hX (fn_rectangle_At hO hv) (by kernel_rfl) [0] rfl ⟨rfl, rfl, trivial⟩ rfl ?_
          cbv
          obtain ⟨l280, hv, h0⟩ := bindS h0
          refine call_is hO hX (fn_rectangle_During hO hv) (by kernel_rfl) [0] rfl ⟨rfl, rfl, trivial⟩ rfl ?_
          cbv
          obtain ⟨x340, h1, h0⟩ := bindS h0
          obtain ⟨b135, hv, h1⟩ := bindS h1
          refine call_is hO hX (fn_runs_Valid hO hv) (by kernel_rfl) [3] rfl ⟨rfl, rfl, trivial⟩ rfl ?_
          cbv
          rcases condS h1 with ⟨hc10, h1⟩ | ⟨hc10, h1⟩
          · rw [hc10]
            cbv
            cases h1
            try dsimp only at h0
            replace h0 := condT h0 rfl
            cases h0
            exact fin_ok hX rfl ⟨[], _, _, ⟨rfl, rfl⟩, rfl, rfl, rfl, rfl, by cbv; try simp⟩
          · as_aux_lemma =>
            rw [hc10]
            cbv
            obtain ⟨b136, hv, h1⟩ := bindS h1
            refine call_is hO hX (fn_runs_Valid hO hv) (by kernel_rfl) [4] rfl ⟨rfl, rfl, trivial⟩ rfl ?_
            cbv
            rcases condS h1 with ⟨hc11, h1⟩ | ⟨hc11, h1⟩
            · rw [hc11]
              cbv
              cases h1
              try dsimp only at h0
              replace h0 := condT h0 rfl
              cases h0
              exact fin_ok hX rfl ⟨[], _, _, ⟨rfl, rfl⟩, rfl, rfl, rfl, rfl, by cbv; try simp⟩
            · as_aux_lemma =>
              rw [hc11]
              cbv
              obtain ⟨l281, hv, h1⟩ := bindS h1
              refine call_is hO hX (fn_rectangle_During hO hv) (by kernel_rfl) [2] rfl ⟨rfl, rfl, trivial⟩ rfl ?_
              cbv
              obtain ⟨b137, hv, h1⟩ := bindS h1
              refine call_is hO hX (fn_slices_Equal hO hv) (by kernel_rfl) [5, 3] rfl ⟨rfl, rfl, rfl, rfl, trivial⟩ rfl ?_
              cbv
              rcases condS h1 with ⟨hc12, h1⟩ | ⟨hc12, h1⟩
              · rw [hc12]
                cbv
                cases h1
                try dsimp only at h0
                replace h0 := condT h0 rfl
                cases h0
                exact fin_ok hX rfl ⟨[], _, _, ⟨rfl, rfl⟩, rfl, rfl, rfl, rfl, by cbv; try simp⟩
              · as_aux_lemma =>
                rw [hc12]
                cbv
                obtain ⟨l282, hv, h1⟩ := bindS h1
                refine call_is hO hX (fn_rectangle_At hO hv) (by kernel_rfl) [2] rfl ⟨rfl, rfl, trivial⟩ rfl ?_
                cbv
                obtain ⟨b138, hv, h1⟩ := bindS h1
                refine call_is hO hX (fn_slices_Equal hO hv) (by kernel_rfl) [6, 4] rfl ⟨rfl, rfl, rfl, rfl, trivial⟩ rfl ?_
                cbv
                cases h1
                try dsimp only at h0
                rcases condS h0 with ⟨hc13, h0⟩ | ⟨hc13, h0⟩
                · rw [hc13]
                  cbv
                  cases h0
                  exact fin_ok hX rfl ⟨[], _, _, ⟨rfl, rfl⟩, rfl, rfl, rfl, rfl, by cbv; try simp⟩
                · rw [hc13]
                  cbv
                  obtain ⟨b139, hv, h0⟩ := bindS h0
                  refine call_is hO hX (fn_law35_in hO hv) (by kernel_rfl) [0] rfl ⟨rfl, rfl, trivial⟩ rfl ?_
                  cbv
                  obtain ⟨x347, h1, h0⟩ := bindS h0
                  obtain ⟨b142, hv, h1⟩ := bindS h1
                  refine call_is hO hX (fn_runs_Has hO hv) (by kernel_rfl) [3] rfl ⟨rfl, rfl, trivial⟩ rfl ?_
                  cbv
                  rcases condS h1 with ⟨hc14, h1⟩ | ⟨hc14, h1⟩
                  · rw [hc14]
                    cbv
                    obtain ⟨b143, hv, h1⟩ := bindS h1
                    refine call_is hO hX (fn_runs_Has hO hv) (by kernel_rfl) [4] rfl ⟨rfl, rfl, trivial⟩ rfl ?_
                    cbv
                    rcases condS h1 with ⟨hc15, h1⟩ | ⟨hc15, h1⟩
                    · rw [hc15]
                      cbv
                      obtain ⟨b144, hv, h1⟩ := bindS h1
                      refine call_is hO hX (fn_rectangle_Has hO hv) (by kernel_rfl) [2] rfl ⟨rfl, rfl, trivial⟩ rfl ?_
                      cbv
                      cases h1
                      try dsimp only at h0
                      cases h0
                      exact fin_ok hX rfl ⟨[], _, _, ⟨rfl, rfl⟩, rfl, rfl, rfl, rfl, by cbv; try simp⟩
                    · rw [hc15]
                      cbv
                      cases h1
                      try dsimp only at h0
                      cases h0
                      exact fin_ok hX rfl ⟨[], _, _, ⟨rfl, rfl⟩, rfl, rfl, rfl, rfl, by cbv; try simp⟩
                  · rw [hc14]
                    cbv
                    cases h1
                    try dsimp only at h0
                    cases h0
                    exact fin_ok hX rfl ⟨[], _, _, ⟨rfl, rfl⟩, rfl, rfl, rfl, rfl, by cbv; try simp⟩
end Go.Proofs.Ytkdffpncpikdmaa
