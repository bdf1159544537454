/-
  The code does what its models say (printed by lift.py).
-/
import Derived.Test.YtkdffpncpikdmaaGreatZM
import Derived.Test.YtkdffpncpikdmaaGreatSrtZ
import Derived.Test.YtkdffpncpikdmaaGreatSrtR
import Derived.Test.YtkdffpncpikdmaaGreatZW1
import Derived.Test.YtkdffpncpikdmaaGreatZW3
namespace Go.Proofs.YtkdffpncpikdmaaGreat
open Go.RowKit
set_option maxRecDepth 100000

set_option maxHeartbeats 40000000 in
theorem fn_rectangle_Has_1 {O0 : Ops} (hO0 : O0 = std) {r_1 : Int} {r_2 : Int} {r_3 : Int} {r_4 : Int} {x_1 : Int} {x_2 : Int} {r1 : Bool} (h : m_rectangle_Has_1 O0 r_1 r_2 r_3 r_4 x_1 x_2 = some r1) :
    Fn Tryz.prog 25 [.agg [.int .i64 r_1, .int .i64 r_2, .int .i64 r_3, .int .i64 r_4], .c (.ptr 0 0), .c (.ptr 1 0)] [.ro 3 [.int .i64 x_1], .ro 3 [.int .i64 x_2]] (fun v c => v = .c (.bool r1) ∧ c = []) := by
  refine fn_run tab_holds eqs_holds mixed [] Tryz.func25 (by kernel_rfl) (by kernel_rfl) (Nat.le_of_ble_eq_true rfl) ?_
  intro O X hO hX
  rw [hO0, ← hO] at h
  unfold m_rectangle_Has_1 at h
  have h0 := h; clear h
  cbv
  obtain ⟨x64, h1, h0⟩ := bindS h0
  rcases condS h1 with ⟨hc1, h1⟩ | ⟨hc1, h1⟩
  · rw [hc1]
    cbv
    rcases condS h1 with ⟨hc2, h1⟩ | ⟨hc2, h1⟩
    · rw [hc2]
      cbv
      rcases condS h1 with ⟨hc3, h1⟩ | ⟨hc3, h1⟩
      · rw [hc3]
        cbv
        cases h1
        try dsimp only at h0
        cases h0
        exact fin_ok hX rfl ⟨[], _, _, ⟨rfl, rfl⟩, rfl, rfl, rfl, rfl, by cbv; try simp⟩
      · rw [hc3]
        cbv
        cases h1
        try dsimp only at h0
        cases h0
        exact fin_ok hX rfl ⟨[], _, _, ⟨rfl, rfl⟩, rfl, rfl, rfl, rfl, by cbv; try simp⟩
    · rw [hc2]
      cbv
      cases h1
      try dsimp only at h0
      cases h0
      exact fin_ok hX rfl ⟨[], _, _, ⟨rfl, rfl⟩, rfl, rfl, rfl, rfl, by cbv; try simp⟩
  · rw [hc1]
    cbv
    cases h1
    try dsimp only at h0
    cases h0
    exact fin_ok hX rfl ⟨[], _, _, ⟨rfl, rfl⟩, rfl, rfl, rfl, rfl, by cbv; try simp⟩
set_option maxHeartbeats 40000000 in
theorem fn_slices_IndexFunc_4 {O0 : Ops} (hO0 : O0 = std) {s_1 : List (Int × Int × Int × Int)} {c_1 : Int} {c_2 : Int} {r1 : Int} (h : m_slices_IndexFunc_4 O0 s_1 c_1 c_2 = some r1) :
    Fn Tryz.prog 43 [.c (.sl 0), .c (.fn 25 [1, 2])] [.arr false .i4 s_1, .ro 3 [.int .i64 c_1], .ro 3 [.int .i64 c_2]] (fun v c => v = .c (.int .i64 r1) ∧ c = []) := by
  refine fn_run tab_holds eqs_holds mixed [] Tryz.func43 (by kernel_rfl) (by kernel_rfl) (Nat.le_of_ble_eq_true rfl) ?_
  intro O X hO hX
  rw [hO0, ← hO] at h
  unfold m_slices_IndexFunc_4 at h
  have h0 := h; clear h
  cbv
  obtain ⟨e1, hi, h0⟩ := bindS h0
  obtain ⟨I1, hI1, hi⟩ := loopS hi
  refine loop1 tab_holds eqs_holds mixed [] hO hX I1 (fun y => [(8, .c (.int .i64 y.2))]) (fun _ => []) (fun y => y.1) _ (by kernel_rfl) hi (by cbv; try simp) ?_
  refine allp ?_
  intro n1
  intro x60 hi
  cbv
  rw [hI1] at hi
  obtain ⟨n1, rfl, x1, h1, hi1⟩ := iterS hi
  unfold m_slices_IndexFunc_4_L1 at h1
  try dsimp only at h1
  rcases condS h1 with ⟨hc1, h1⟩ | ⟨hc1, h1⟩
  · rw [hc1]
    cbv
    obtain ⟨hg2, h1⟩ := grdS h1
    refine ⟨idx_of hO hg2, ?_⟩
    obtain ⟨hg3, h1⟩ := grdS h1
    refine ⟨kin_of hO hg3, ?_⟩
    obtain ⟨b29, hv, h1⟩ := bindS h1
    refine call_is hO hX (fn_rectangle_Has_1 hO hv) (by kernel_rfl) [1, 2] rfl ⟨rfl, rfl, rfl, rfl, trivial⟩ rfl ?_
    cbv
    rcases condS h1 with ⟨hc4, h1⟩ | ⟨hc4, h1⟩
    · rw [hc4]
      cbv
      cases h1
      cases exitI hi1
      try dsimp only at h0
      cases h0
      exact fin_ok hX rfl ⟨[], _, _, ⟨rfl, rfl⟩, rfl, rfl, rfl, rfl, by cbv; try simp⟩
    · rw [hc4]
      cbv
      obtain ⟨hg5, h1⟩ := grdS h1
      refine ⟨inr_of hO hg5, ?_⟩
      cases h1
      exact ⟨_, [0, 1, 2], nextI hI1 hi1, by cbv; try simp, by first | exact Nat.lt_succ_self _ | omega⟩
  · rw [hc1]
    cbv
    cases h1
    cases exitI hi1
    try dsimp only at h0
    cases h0
    exact fin_ok hX rfl ⟨[], _, _, ⟨rfl, rfl⟩, rfl, rfl, rfl, rfl, by cbv; try simp⟩
set_option maxHeartbeats 40000000 in
theorem fn_slices_ContainsFunc_4 {O0 : Ops} (hO0 : O0 = std) {s_1 : List (Int × Int × Int × Int)} {c_1 : Int} {c_2 : Int} {r1 : Bool} (h : m_slices_ContainsFunc_4 O0 s_1 c_1 c_2 = some r1) :
    Fn Tryz.prog 24 [.c (.sl 0), .c (.fn 25 [1, 2])] [.arr false .i4 s_1, .ro 3 [.int .i64 c_1], .ro 3 [.int .i64 c_2]] (fun v c => v = .c (.bool r1) ∧ c = []) := by
  refine fn_run tab_holds eqs_holds mixed [] Tryz.func24 (by kernel_rfl) (by kernel_rfl) (Nat.le_of_ble_eq_true rfl) ?_
  intro O X hO hX
  rw [hO0, ← hO] at h
  unfold m_slices_ContainsFunc_4 at h
  have h0 := h; clear h
  cbv
  obtain ⟨n40, hv, h0⟩ := bindS h0
  refine call_is hO hX (fn_slices_IndexFunc_4 hO hv) (by kernel_rfl) [0, 1, 2] rfl ⟨rfl, rfl, rfl, rfl, rfl, rfl, trivial⟩ rfl ?_
  cbv
  cases h0
  exact fin_ok hX rfl ⟨[], _, _, ⟨rfl, rfl⟩, rfl, rfl, rfl, rfl, by cbv; try simp⟩
set_option maxHeartbeats 40000000 in
theorem fn_rectangle_Has {O0 : Ops} (hO0 : O0 = std) {valid_1 : Int} {tx_1 : Int} {l_1 : List (Int × Int × Int × Int)} {r1 : Bool} (h : m_rectangle_Has O0 valid_1 tx_1 l_1 = some r1) :
    Fn Tryz.prog 7 [.c (.sl 0), .c (.int .i64 valid_1), .c (.int .i64 tx_1)] [.arr false .i4 l_1] (fun v c => v = .c (.bool r1) ∧ c = []) := by
  refine fn_run tab_holds eqs_holds mixed [] Tryz.func7 (by kernel_rfl) (by kernel_rfl) (Nat.le_of_ble_eq_true rfl) ?_
  intro O X hO hX
  rw [hO0, ← hO] at h
  unfold m_rectangle_Has at h
  have h0 := h; clear h
  cbv
  obtain ⟨x67, h1, h0⟩ := bindS h0
  obtain ⟨n39, hv, h1⟩ := bindS h1
  refine call_is hO hX (fn_rectangle_check_2 hO hv) (by kernel_rfl) [3, 0] rfl ⟨rfl, rfl, rfl, rfl, trivial⟩ rfl ?_
  cbv
  rcases condS h1 with ⟨hc1, h1⟩ | ⟨hc1, h1⟩
  · rw [hc1]
    cbv
    obtain ⟨b30, hv, h1⟩ := bindS h1
    refine call_is hO hX (fn_slices_ContainsFunc_4 hO hv) (by kernel_rfl) [0, 1, 2] rfl ⟨rfl, rfl, rfl, rfl, rfl, rfl, trivial⟩ rfl ?_
    cbv
    cases h1
    try dsimp only at h0
    cases h0
    exact fin_ok hX rfl ⟨[], _, _, ⟨rfl, rfl⟩, rfl, rfl, rfl, rfl, by cbv; try simp⟩
  · rw [hc1]
    cbv
    cases h1
    try dsimp only at h0
    cases h0
    exact fin_ok hX rfl ⟨[], _, _, ⟨rfl, rfl⟩, rfl, rfl, rfl, rfl, by cbv; try simp⟩
set_option maxHeartbeats 40000000 in
theorem fn_rectangle_At {O0 : Ops} (hO0 : O0 = std) {tx_1 : Int} {l_1 : List (Int × Int × Int × Int)} {r1 : List (Int × Int)} (h : m_rectangle_At O0 tx_1 l_1 = some r1) :
    Fn Tryz.prog 8 [.c (.sl 0), .c (.int .i64 tx_1)] [.arr false .i4 l_1] (fun v c => v = .c (.sl 1) ∧ c = [.own 32 .i2 r1]) := by
  refine fn_run tab_holds eqs_holds mixed [] Tryz.func8 (by kernel_rfl) (by kernel_rfl) (Nat.le_of_ble_eq_true rfl) ?_
  intro O X hO hX
  rw [hO0, ← hO] at h
  unfold m_rectangle_At at h
  have h0 := h; clear h
  cbv
  obtain ⟨n41, hv, h0⟩ := bindS h0
  refine call_is hO hX (fn_rectangle_check_2 hO hv) (by kernel_rfl) [2, 0] rfl ⟨rfl, rfl, rfl, rfl, trivial⟩ rfl ?_
  cbv
  rcases condS h0 with ⟨hc1, h0⟩ | ⟨hc1, h0⟩
  · rw [hc1]
    cbv
    cases h0
    exact fin_ok hX rfl ⟨[3], _, _, ⟨rfl, rfl⟩, rfl, rfl, rfl, rfl, by cbv; try simp⟩
  · rw [hc1]
    cbv
    obtain ⟨l54, hv, h0⟩ := bindS h0
    refine call_is hO hX (fn_rectangle_times hO hv) (by kernel_rfl) [0] rfl ⟨rfl, rfl, trivial⟩ rfl ?_
    cbv
    cases h0
    exact fin_ok hX rfl ⟨[3], _, _, ⟨rfl, rfl⟩, rfl, rfl, rfl, rfl, by cbv; try simp⟩
set_option maxHeartbeats 40000000 in
theorem fn_rectangle_During {O0 : Ops} (hO0 : O0 = std) {valid_1 : Int} {l_1 : List (Int × Int × Int × Int)} {r1 : List (Int × Int)} (h : m_rectangle_During O0 valid_1 l_1 = some r1) :
    Fn Tryz.prog 9 [.c (.sl 0), .c (.int .i64 valid_1)] [.arr false .i4 l_1] (fun v c => v = .c (.sl 1) ∧ c = [.own 32 .i2 r1]) := by
  refine fn_run tab_holds eqs_holds mixed [] Tryz.func9 (by kernel_rfl) (by kernel_rfl) (Nat.le_of_ble_eq_true rfl) ?_
  intro O X hO hX
  rw [hO0, ← hO] at h
  unfold m_rectangle_During at h
  have h0 := h; clear h
  cbv
  obtain ⟨n42, hv, h0⟩ := bindS h0
  refine call_is hO hX (fn_rectangle_check_2 hO hv) (by kernel_rfl) [2, 0] rfl ⟨rfl, rfl, rfl, rfl, trivial⟩ rfl ?_
  cbv
  rcases condS h0 with ⟨hc1, h0⟩ | ⟨hc1, h0⟩
  · rw [hc1]
    cbv
    cases h0
    exact fin_ok hX rfl ⟨[3], _, _, ⟨rfl, rfl⟩, rfl, rfl, rfl, rfl, by cbv; try simp⟩
  · rw [hc1]
    cbv
    obtain ⟨l57, hi, h0⟩ := bindS h0
    obtain ⟨I1, hI1, hi⟩ := loopS hi
    refine loop1 tab_holds eqs_holds mixed [] hO hX I1 (fun y => [(4, .junk), (9, .junk), (5, .c (.sl 3)), (14, .c (.int .i64 y.2.1))]) (fun y => [(3, .own 39 .i4 y.2.2)]) (fun y => y.1) _ (by kernel_rfl) hi (by cbv; try simp) ?_
    refine allp ?_
    intro n1
    refine allp ?_
    intro x69
    intro l56 hi
    cbv
    rw [hI1] at hi
    obtain ⟨n1, rfl, x1, h1, hi1⟩ := iterS hi
    unfold m_rectangle_During_L1 at h1
    try dsimp only at h1
    rcases condS h1 with ⟨hc2, h1⟩ | ⟨hc2, h1⟩
    · rw [hc2]
      cbv
      obtain ⟨hg3, h1⟩ := grdS h1
      refine ⟨idx_of hO hg3, ?_⟩
      obtain ⟨hg4, h1⟩ := grdS h1
      refine ⟨kin_of hO hg4, ?_⟩
      obtain ⟨hg5, h1⟩ := grdS h1
      refine ⟨room_of hO hg5, ?_⟩
      obtain ⟨hg6, h1⟩ := grdS h1
      refine ⟨room_of hO hg6, ?_⟩
      obtain ⟨hg7, h1⟩ := grdS h1
      refine ⟨inr_of hO hg7, ?_⟩
      cases h1
      exact ⟨_, [0, 1, 2, 6], nextI hI1 hi1, by cbv; try simp, by first | exact Nat.lt_succ_self _ | omega⟩
    · rw [hc2]
      cbv
      cases h1
      cases exitI hi1
      try dsimp only at h0
      obtain ⟨l58, hv, h0⟩ := bindS h0
      refine call_is hO hX (fn_rectangle_times hO hv) (by kernel_rfl) [3] rfl ⟨rfl, rfl, trivial⟩ rfl ?_
      cbv
      cases h0
      exact fin_ok hX rfl ⟨[4], _, _, ⟨rfl, rfl⟩, rfl, rfl, rfl, rfl, by cbv; try simp⟩
set_option maxHeartbeats 40000000 in
theorem fn_runs_Measure {O0 : Ops} (hO0 : O0 = std) {a_1 : List (Int × Int)} {r1 : Int} (h : m_runs_Measure O0 a_1 = some r1) :
    Fn Tryz.prog 29 [.c (.sl 0)] [.arr false .i2 a_1] (fun v c => v = .c (.int .i64 r1) ∧ c = []) := by
  refine fn_run tab_holds eqs_holds mixed [] Tryz.func29 (by kernel_rfl) (by kernel_rfl) (Nat.le_of_ble_eq_true rfl) ?_
  intro O X hO hX
  rw [hO0, ← hO] at h
  unfold m_runs_Measure at h
  have h0 := h; clear h
  cbv
  obtain ⟨b32, hv, h0⟩ := bindS h0
  refine call_is hO hX (fn_runs_Valid hO hv) (by kernel_rfl) [0] rfl ⟨rfl, rfl, trivial⟩ rfl ?_
  cbv
  rcases condS h0 with ⟨hc1, h0⟩ | ⟨hc1, h0⟩
  · rw [hc1]
    cbv
    cases h0
    exact fin_ok hX rfl ⟨[], _, _, ⟨rfl, rfl⟩, rfl, rfl, rfl, rfl, by cbv; try simp⟩
  · rw [hc1]
    cbv
    obtain ⟨n45, hi, h0⟩ := bindS h0
    obtain ⟨I1, hI1, hi⟩ := loopS hi
    refine loop1 tab_holds eqs_holds mixed [] hO hX I1 (fun y => [(3, .c (.int .i64 y.2.1)), (11, .c (.int .i64 y.2.2))]) (fun _ => []) (fun y => y.1) _ (by kernel_rfl) hi (by cbv; try simp) ?_
    refine allp ?_
    intro n1
    refine allp ?_
    intro n44
    intro x72 hi
    cbv
    rw [hI1] at hi
    obtain ⟨n1, rfl, x1, h1, hi1⟩ := iterS hi
    unfold m_runs_Measure_L1 at h1
    try dsimp only at h1
    rcases condS h1 with ⟨hc2, h1⟩ | ⟨hc2, h1⟩
    · rw [hc2]
      cbv
      obtain ⟨hg3, h1⟩ := grdS h1
      refine ⟨idx_of hO hg3, ?_⟩
      obtain ⟨hg4, h1⟩ := grdS h1
      refine ⟨kin_of hO hg4, ?_⟩
      obtain ⟨hg5, h1⟩ := grdS h1
      refine ⟨inr_of hO hg5, ?_⟩
      obtain ⟨hg6, h1⟩ := grdS h1
      refine ⟨inr_of hO hg6, ?_⟩
      obtain ⟨hg7, h1⟩ := grdS h1
      refine ⟨inr_of hO hg7, ?_⟩
      cases h1
      exact ⟨_, [0], nextI hI1 hi1, by cbv; try simp, by first | exact Nat.lt_succ_self _ | omega⟩
    · rw [hc2]
      cbv
      cases h1
      cases exitI hi1
      try dsimp only at h0
      cases h0
      exact fin_ok hX rfl ⟨[], _, _, ⟨rfl, rfl⟩, rfl, rfl, rfl, rfl, by cbv; try simp⟩
set_option maxHeartbeats 40000000 in
theorem fn_rectangle_Area {O0 : Ops} (hO0 : O0 = std) {l_1 : List (Int × Int × Int × Int)} {r1 : Int} (h : m_rectangle_Area O0 l_1 = some r1) :
    Fn Tryz.prog 10 [.c (.sl 0)] [.arr false .i4 l_1] (fun v c => v = .c (.int .i64 r1) ∧ c = []) := by
  refine fn_run tab_holds eqs_holds mixed [(14, (.seg 1 [0, 1, 2, 3, 4, 5, 6, 7, 8, 9, 10, 11, 12, 13, 14, 15] (.seg 2 [16] (.seg 2 [17] (.seg 1 [18] (.seg 2 [19] (.seg 1 [20, 21, 22, 23, 24] .fin)))))), [])] Tryz.func10 (by kernel_rfl) (by kernel_rfl) (Nat.le_of_ble_eq_true rfl) ?_
  intro O X hO hX
  rw [hO0, ← hO] at h
  unfold m_rectangle_Area at h
  have h0 := h; clear h
  cbv
  obtain ⟨n43, hv, h0⟩ := bindS h0
  refine call_is hO hX (fn_rectangle_check_2 hO hv) (by kernel_rfl) [1, 0] rfl ⟨rfl, rfl, rfl, rfl, trivial⟩ rfl ?_
  cbv
  rcases condS h0 with ⟨hc1, h0⟩ | ⟨hc1, h0⟩
  · rw [hc1]
    cbv
    cases h0
    exact fin_ok hX rfl ⟨[], _, _, ⟨rfl, rfl⟩, rfl, rfl, rfl, rfl, by cbv; try simp⟩
  · as_aux_lemma =>
    rw [hc1]
    cbv
    obtain ⟨l61, hi, h0⟩ := bindS h0
    obtain ⟨I1, hI1, hi⟩ := loopS hi
    refine loop1 tab_holds eqs_holds mixed [(14, (.seg 1 [0, 1, 2, 3, 4, 5, 6, 7, 8, 9, 10, 11, 12, 13, 14, 15] (.seg 2 [16] (.seg 2 [17] (.seg 1 [18] (.seg 2 [19] (.seg 1 [20, 21, 22, 23, 24] .fin)))))), [])] hO hX I1 (fun y => [(13, .junk), (3, .c (.sl 2)), (18, .c (.int .i64 y.2.1))]) (fun y => [(2, .own 3 .i1 y.2.2)]) (fun y => y.1) _ (by kernel_rfl) hi (by cbv; try simp) ?_
    refine allp ?_
    intro n1
    refine allp ?_
    intro x71
    intro l60 hi
    cbv
    rw [hI1] at hi
    obtain ⟨n1, rfl, x1, h1, hi1⟩ := iterS hi
    unfold m_rectangle_Area_L1 at h1
    try dsimp only at h1
    rcases condS h1 with ⟨hc2, h1⟩ | ⟨hc2, h1⟩
    · rw [hc2]
      cbv
      obtain ⟨hg3, h1⟩ := grdS h1
      refine ⟨idx_of hO hg3, ?_⟩
      obtain ⟨hg4, h1⟩ := grdS h1
      refine ⟨kin_of hO hg4, ?_⟩
      obtain ⟨hg5, h1⟩ := grdS h1
      refine ⟨room_of hO hg5, ?_⟩
      obtain ⟨hg6, h1⟩ := grdS h1
      refine ⟨room_of hO hg6, ?_⟩
      obtain ⟨hg7, h1⟩ := grdS h1
      refine ⟨inr_of hO hg7, ?_⟩
      cases h1
      exact ⟨_, [0, 1, 5], nextI hI1 hi1, by cbv; try simp, by first | exact Nat.lt_succ_self _ | omega⟩
    · as_aux_lemma =>
      rw [hc2]
      cbv
      cases h1
      cases exitI hi1
      try dsimp only at h0
      refine call_inline tab_holds eqs_holds mixed [] hO hX (by kernel_rfl) Tryz.func27 (by kernel_rfl) (by kernel_rfl) rfl ?_
      intro X1 hX1 hF1
      cbv
      obtain ⟨l62, hv, h0⟩ := bindS h0
      refine srt_int hO hX1 (i := 2) rfl hv ?_
      cbv
      obtain ⟨l63, hv, h0⟩ := bindS h0
      refine cpt_int hO hX1 (i := 2) rfl hv ?_
      cbv
      refine hF1 _ _ ?_
      cbv
      obtain ⟨e1, hi, h0⟩ := bindS h0
      obtain ⟨I2, hI2, hi⟩ := loopS hi
      refine loop1 tab_holds eqs_holds mixed [(14, (.seg 1 [0, 1, 2, 3, 4, 5, 6, 7, 8, 9, 10, 11, 12, 13, 14, 15] (.seg 2 [16] (.seg 2 [17] (.seg 1 [18] (.seg 2 [19] (.seg 1 [20, 21, 22, 23, 24] .fin)))))), [])] hO hX I2 (fun y => [(32, .junk), (33, .junk), (6, .c (.int .u64 y.2.1)), (7, .c (.int .i64 y.2.2))]) (fun _ => []) (fun y => y.1) _ (by kernel_rfl) hi (by cbv; try simp) ?_
      refine allp ?_
      intro n2
      refine allp ?_
      intro sum2
      intro i11 hi
      cbv
      rw [hI2] at hi
      obtain ⟨n2, rfl, x2, h1, hi2⟩ := iterS hi
      unfold m_rectangle_Area_L2 at h1
      try dsimp only at h1
      obtain ⟨hg8, h1⟩ := grdS h1
      refine ⟨inr_of hO hg8, ?_⟩
      rcases condS h1 with ⟨hc9, h1⟩ | ⟨hc9, h1⟩
      · as_aux_lemma =>
        rw [hc9]
        cbv
        refine ⟨inr_of hO hg8, ?_⟩
        obtain ⟨hg10, h1⟩ := grdS h1
        refine ⟨idx_of hO hg10, ?_⟩
        obtain ⟨hg11, h1⟩ := grdS h1
        refine ⟨kin_of hO hg11, ?_⟩
        obtain ⟨hg12, h1⟩ := grdS h1
        refine ⟨idx_of hO hg12, ?_⟩
        obtain ⟨hg13, h1⟩ := grdS h1
        refine ⟨kin_of hO hg13, ?_⟩
        obtain ⟨hg14, h1⟩ := grdS h1
        refine ⟨inr_of hO hg14, ?_⟩
        obtain ⟨hg15, h1⟩ := grdS h1
        refine ⟨inr_of hO hg15, ?_⟩
        refine ⟨idx_of hO hg12, ?_⟩
        refine ⟨kin_of hO hg13, ?_⟩
        obtain ⟨l65, hv, h1⟩ := bindS h1
        refine call_is hO hX (fn_rectangle_times hO hv) (by kernel_rfl) [0] rfl ⟨rfl, rfl, trivial⟩ rfl ?_
        cbv
        obtain ⟨n51, hv, h1⟩ := bindS h1
        refine call_is hO hX (fn_runs_Measure hO hv) (by kernel_rfl) [5] rfl ⟨rfl, rfl, trivial⟩ rfl ?_
        cbv
        obtain ⟨hg16, h1⟩ := grdS h1
        refine ⟨inr_of hO hg16, ?_⟩
        obtain ⟨⟨n52, n53⟩, hv, h1⟩ := bindS h1
        try dsimp only at h1
        refine call_is hO hX (fn_bits_Mul64 hO hv) (by kernel_rfl) [] rfl trivial rfl ?_
        cbv
        obtain ⟨⟨n54, n55⟩, hv, h1⟩ := bindS h1
        try dsimp only at h1
        refine ext_add64 hO hX hv ?_
        cbv
        obtain ⟨x76, h2, h1⟩ := bindS h1
        rcases condS h2 with ⟨hc17, h2⟩ | ⟨hc17, h2⟩
        · rw [hc17]
          cbv
          cases h2
          try dsimp only at h1
          replace h1 := condT h1 rfl
          cases h1
          cases exitI hi2
          try dsimp only at h0
          cases h0
          exact fin_ok hX rfl ⟨[], _, _, ⟨rfl, rfl⟩, rfl, rfl, rfl, rfl, by cbv; try simp⟩
        · rw [hc17]
          cbv
          rcases condS h2 with ⟨hc18, h2⟩ | ⟨hc18, h2⟩
          · rw [hc18]
            cbv
            cases h2
            try dsimp only at h1
            replace h1 := condT h1 rfl
            cases h1
            cases exitI hi2
            try dsimp only at h0
            cases h0
            exact fin_ok hX rfl ⟨[], _, _, ⟨rfl, rfl⟩, rfl, rfl, rfl, rfl, by cbv; try simp⟩
          · rw [hc18]
            cbv
            cases h2
            try dsimp only at h1
            rcases condS h1 with ⟨hc19, h1⟩ | ⟨hc19, h1⟩
            · rw [hc19]
              cbv
              cases h1
              cases exitI hi2
              try dsimp only at h0
              cases h0
              exact fin_ok hX rfl ⟨[], _, _, ⟨rfl, rfl⟩, rfl, rfl, rfl, rfl, by cbv; try simp⟩
            · rw [hc19]
              cbv
              refine ⟨inr_of hO hg8, ?_⟩
              cases h1
              exact ⟨_, [0, 1, 2, 3, 4], nextI hI2 hi2, by cbv; try simp, by first | exact Nat.lt_succ_self _ | omega⟩
      · rw [hc9]
        cbv
        cases h1
        cases exitI hi2
        try dsimp only at h0
        obtain ⟨hg20, h0⟩ := grdS h0
        refine ⟨inr_of hO hg20, ?_⟩
        cases h0
        exact fin_ok hX rfl ⟨[], _, _, ⟨rfl, rfl⟩, rfl, rfl, rfl, rfl, by cbv; try simp⟩
set_option maxHeartbeats 40000000 in
theorem fn_ref35_Has {O0 : Ops} (hO0 : O0 = std) {valid_1 : Int} {tx_1 : Int} {l_1 : List (Int × Int × Int × Int)} {r1 : Bool} (h : m_ref35_Has O0 valid_1 tx_1 l_1 = some r1) :
    Fn Tryz.prog 11 [.c (.sl 0), .c (.int .i64 valid_1), .c (.int .i64 tx_1)] [.arr false .i4 l_1] (fun v c => v = .c (.bool r1) ∧ c = []) := by
  refine fn_run tab_holds eqs_holds mixed [] Tryz.func11 (by kernel_rfl) (by kernel_rfl) (Nat.le_of_ble_eq_true rfl) ?_
  intro O X hO hX
  rw [hO0, ← hO] at h
  unfold m_ref35_Has at h
  have h0 := h; clear h
  cbv
  obtain ⟨e1, hi, h0⟩ := bindS h0
  obtain ⟨I1, hI1, hi⟩ := loopS hi
  refine loop1 tab_holds eqs_holds mixed [] hO hX I1 (fun y => [(7, .c (.int .i64 y.2))]) (fun _ => []) (fun y => y.1) _ (by kernel_rfl) hi (by cbv; try simp) ?_
  refine allp ?_
  intro n1
  intro i12 hi
  cbv
  rw [hI1] at hi
  obtain ⟨n1, rfl, x1, h1, hi1⟩ := iterS hi
  unfold m_ref35_Has_L1 at h1
  try dsimp only at h1
  rcases condS h1 with ⟨hc1, h1⟩ | ⟨hc1, h1⟩
  · as_aux_lemma =>
    rw [hc1]
    cbv
    obtain ⟨x84, h2, h1⟩ := bindS h1
    rcases condS h2 with ⟨hc2, h2⟩ | ⟨hc2, h2⟩
    · as_aux_lemma =>
      rw [hc2]
      cbv
      rcases condS h2 with ⟨hc3, h2⟩ | ⟨hc3, h2⟩
      · as_aux_lemma =>
        rw [hc3]
        cbv
        rcases condS h2 with ⟨hc4, h2⟩ | ⟨hc4, h2⟩
        · rw [hc4]
          cbv
          obtain ⟨hg5, h2⟩ := grdS h2
          refine ⟨idx_of hO hg5, ?_⟩
          obtain ⟨hg6, h2⟩ := grdS h2
          refine ⟨kin_of hO hg6, ?_⟩
          cases h2
          try dsimp only at h1
          refine ⟨idx_of hO hg5, ?_⟩
          refine ⟨kin_of hO hg6, ?_⟩
          refine ⟨idx_of hO hg5, ?_⟩
          refine ⟨kin_of hO hg6, ?_⟩
          refine ⟨idx_of hO hg5, ?_⟩
          refine ⟨kin_of hO hg6, ?_⟩
          rcases condS h1 with ⟨hc7, h1⟩ | ⟨hc7, h1⟩
          · rw [hc7]
            cbv
            cases h1
            cases exitI hi1
            try dsimp only at h0
            cases h0
            exact fin_ok hX rfl ⟨[], _, _, ⟨rfl, rfl⟩, rfl, rfl, rfl, rfl, by cbv; try simp⟩
          · rw [hc7]
            cbv
            obtain ⟨hg8, h1⟩ := grdS h1
            refine ⟨inr_of hO hg8, ?_⟩
            cases h1
            exact ⟨_, [0], nextI hI1 hi1, by cbv; try simp, by first | exact Nat.lt_succ_self _ | omega⟩
        · rw [hc4]
          cbv
          obtain ⟨hg9, h2⟩ := grdS h2
          refine ⟨idx_of hO hg9, ?_⟩
          obtain ⟨hg10, h2⟩ := grdS h2
          refine ⟨kin_of hO hg10, ?_⟩
          cases h2
          try dsimp only at h1
          replace h1 := condF h1 rfl
          refine ⟨idx_of hO hg9, ?_⟩
          refine ⟨kin_of hO hg10, ?_⟩
          refine ⟨idx_of hO hg9, ?_⟩
          refine ⟨kin_of hO hg10, ?_⟩
          obtain ⟨hg11, h1⟩ := grdS h1
          refine ⟨inr_of hO hg11, ?_⟩
          cases h1
          exact ⟨_, [0], nextI hI1 hi1, by cbv; try simp, by first | exact Nat.lt_succ_self _ | omega⟩
      · rw [hc3]
        cbv
        obtain ⟨hg12, h2⟩ := grdS h2
        refine ⟨idx_of hO hg12, ?_⟩
        obtain ⟨hg13, h2⟩ := grdS h2
        refine ⟨kin_of hO hg13, ?_⟩
        cases h2
        try dsimp only at h1
        replace h1 := condF h1 rfl
        refine ⟨idx_of hO hg12, ?_⟩
        refine ⟨kin_of hO hg13, ?_⟩
        obtain ⟨hg14, h1⟩ := grdS h1
        refine ⟨inr_of hO hg14, ?_⟩
        cases h1
        exact ⟨_, [0], nextI hI1 hi1, by cbv; try simp, by first | exact Nat.lt_succ_self _ | omega⟩
    · rw [hc2]
      cbv
      obtain ⟨hg15, h2⟩ := grdS h2
      refine ⟨idx_of hO hg15, ?_⟩
      obtain ⟨hg16, h2⟩ := grdS h2
      refine ⟨kin_of hO hg16, ?_⟩
      cases h2
      try dsimp only at h1
      replace h1 := condF h1 rfl
      obtain ⟨hg17, h1⟩ := grdS h1
      refine ⟨inr_of hO hg17, ?_⟩
      cases h1
      exact ⟨_, [0], nextI hI1 hi1, by cbv; try simp, by first | exact Nat.lt_succ_self _ | omega⟩
  · rw [hc1]
    cbv
    cases h1
    cases exitI hi1
    try dsimp only at h0
    cases h0
    exact fin_ok hX rfl ⟨[], _, _, ⟨rfl, rfl⟩, rfl, rfl, rfl, rfl, by cbv; try simp⟩
set_option maxHeartbeats 40000000 in
theorem fn_ref12_Number {O0 : Ops} (hO0 : O0 = std) {x_1 : Int} {r1 : Bool} (h : m_ref12_Number O0 x_1 = some r1) :
    Fn Tryz.prog 87 [.c (.int .i64 x_1)] [] (fun v c => v = .c (.bool r1) ∧ c = []) := by
  refine fn_run tab_holds eqs_holds mixed [] Tryz.func87 (by kernel_rfl) (by kernel_rfl) (Nat.le_of_ble_eq_true rfl) ?_
  intro O X hO hX
  rw [hO0, ← hO] at h
  unfold m_ref12_Number at h
  have h0 := h; clear h
  cbv
  obtain ⟨x90, h1, h0⟩ := bindS h0
  rcases condS h1 with ⟨hc1, h1⟩ | ⟨hc1, h1⟩
  · rw [hc1]
    cbv
    cases h1
    try dsimp only at h0
    cases h0
    exact fin_ok hX rfl ⟨[], _, _, ⟨rfl, rfl⟩, rfl, rfl, rfl, rfl, by cbv; try simp⟩
  · rw [hc1]
    cbv
    cases h1
    try dsimp only at h0
    cases h0
    exact fin_ok hX rfl ⟨[], _, _, ⟨rfl, rfl⟩, rfl, rfl, rfl, rfl, by cbv; try simp⟩
set_option maxHeartbeats 40000000 in
theorem fn_ref12_Span {O0 : Ops} (hO0 : O0 = std) {s_1 : Int} {s_2 : Int} {r1 : Bool} (h : m_ref12_Span O0 s_1 s_2 = some r1) :
    Fn Tryz.prog 66 [.agg [.int .i64 s_1, .int .i64 s_2]] [] (fun v c => v = .c (.bool r1) ∧ c = []) := by
  refine fn_run tab_holds eqs_holds mixed [] Tryz.func66 (by kernel_rfl) (by kernel_rfl) (Nat.le_of_ble_eq_true rfl) ?_
  intro O X hO hX
  rw [hO0, ← hO] at h
  unfold m_ref12_Span at h
  have h0 := h; clear h
  cbv
  obtain ⟨x93, h1, h0⟩ := bindS h0
  obtain ⟨b35, hv, h1⟩ := bindS h1
  refine call_is hO hX (fn_ref12_Number hO hv) (by kernel_rfl) [] rfl trivial rfl ?_
  cbv
  rcases condS h1 with ⟨hc1, h1⟩ | ⟨hc1, h1⟩
  · rw [hc1]
    cbv
    obtain ⟨b36, hv, h1⟩ := bindS h1
    refine call_is hO hX (fn_ref12_Number hO hv) (by kernel_rfl) [] rfl trivial rfl ?_
    cbv
    rcases condS h1 with ⟨hc2, h1⟩ | ⟨hc2, h1⟩
    · rw [hc2]
      cbv
      cases h1
      try dsimp only at h0
      cases h0
      exact fin_ok hX rfl ⟨[], _, _, ⟨rfl, rfl⟩, rfl, rfl, rfl, rfl, by cbv; try simp⟩
    · rw [hc2]
      cbv
      cases h1
      try dsimp only at h0
      cases h0
      exact fin_ok hX rfl ⟨[], _, _, ⟨rfl, rfl⟩, rfl, rfl, rfl, rfl, by cbv; try simp⟩
  · rw [hc1]
    cbv
    cases h1
    try dsimp only at h0
    cases h0
    exact fin_ok hX rfl ⟨[], _, _, ⟨rfl, rfl⟩, rfl, rfl, rfl, rfl, by cbv; try simp⟩
end Go.Proofs.YtkdffpncpikdmaaGreat
