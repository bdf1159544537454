/-
  The code does what its models say (printed by lift.py).
-/
import Derived.Test.YtkdffpncpikdmaaRM
import Derived.Test.YtkdffpncpikdmaaSrtR
import Derived.Test.YtkdffpncpikdmaaSrtR
namespace Go.Proofs.Ytkdffpncpikdmaa
open Go.RowKit
set_option maxRecDepth 100000

set_option maxHeartbeats 40000000 in
theorem fn_law35_rect {O0 : Ops} (hO0 : O0 = std) {a_1 : Int} {b_1 : Int} {c_1 : Int} {d_1 : Int} {r1 : Int} {r2 : Int} {r3 : Int} {r4 : Int} (h : m_law35_rect O0 a_1 b_1 c_1 d_1 = some (r1, r2, r3, r4)) :
    Fn Try.prog 38 [.c (.int .i64 a_1), .c (.int .i64 b_1), .c (.int .i64 c_1), .c (.int .i64 d_1)] [] (fun v c => v = .agg [.int .i64 r1, .int .i64 r2, .int .i64 r3, .int .i64 r4] ∧ c = []) := by
  refine fn_run tab_holds eqs_holds mixed [] Try.func38 (by kernel_rfl) (by kernel_rfl) (Nat.le_of_ble_eq_true rfl) ?_
  intro O X hO hX
  rw [hO0, ← hO] at h
  unfold m_law35_rect at h
  have h0 := h; clear h
  cbv
  cases h0
  exact fin_ok hX rfl ⟨[], _, _, ⟨rfl, rfl⟩, rfl, rfl, rfl, rfl, by cbv; try simp⟩
set_option maxHeartbeats 40000000 in
theorem fn_rectangle_isSpan {O0 : Ops} (hO0 : O0 = std) {s_1 : Int} {s_2 : Int} {r1 : Bool} (h : m_rectangle_isSpan O0 s_1 s_2 = some r1) :
    Fn Try.prog 48 [.agg [.int .i64 s_1, .int .i64 s_2]] [] (fun v c => v = .c (.bool r1) ∧ c = []) := by
  refine fn_run tab_holds eqs_holds mixed [] Try.func48 (by kernel_rfl) (by kernel_rfl) (Nat.le_of_ble_eq_true rfl) ?_
  intro O X hO hX
  rw [hO0, ← hO] at h
  unfold m_rectangle_isSpan at h
  have h0 := h; clear h
  cbv
  obtain ⟨x4, h1, h0⟩ := bindS h0
  rcases condS h1 with ⟨hc1, h1⟩ | ⟨hc1, h1⟩
  · rw [hc1]
    cbv
    rcases condS h1 with ⟨hc2, h1⟩ | ⟨hc2, h1⟩
    · rw [hc2]
      cbv
      cases h1
      try dsimp only at h0
      cases h0
      exact fin_ok hX rfl ⟨[], _, _, ⟨rfl, rfl⟩, rfl, rfl, rfl, rfl, by cbv; try simp⟩
    · rw [hc2]
      cbv
      cases h1
      try dsimp only at h0
      cases h0
      exact fin_ok hX rfl ⟨[], _, _, ⟨rfl, rfl⟩, rfl, rfl, rfl, rfl, by cbv; try simp⟩
  · rw [hc1]
    cbv
    cases h1
    try dsimp only at h0
    cases h0
    exact fin_ok hX rfl ⟨[], _, _, ⟨rfl, rfl⟩, rfl, rfl, rfl, rfl, by cbv; try simp⟩
set_option maxHeartbeats 40000000 in
theorem fn_rectangle_Valid {O0 : Ops} (hO0 : O0 = std) {r_1 : Int} {r_2 : Int} {r_3 : Int} {r_4 : Int} {r1 : Bool} (h : m_rectangle_Valid O0 r_1 r_2 r_3 r_4 = some r1) :
    Fn Try.prog 18 [.agg [.int .i64 r_1, .int .i64 r_2, .int .i64 r_3, .int .i64 r_4]] [] (fun v c => v = .c (.bool r1) ∧ c = []) := by
  refine fn_run tab_holds eqs_holds mixed [] Try.func18 (by kernel_rfl) (by kernel_rfl) (Nat.le_of_ble_eq_true rfl) ?_
  intro O X hO hX
  rw [hO0, ← hO] at h
  unfold m_rectangle_Valid at h
  have h0 := h; clear h
  cbv
  obtain ⟨x6, h1, h0⟩ := bindS h0
  obtain ⟨b1, hv, h1⟩ := bindS h1
  refine call_is hO hX (fn_rectangle_isSpan hO hv) (by kernel_rfl) [] rfl trivial rfl ?_
  cbv
  rcases condS h1 with ⟨hc1, h1⟩ | ⟨hc1, h1⟩
  · rw [hc1]
    cbv
    obtain ⟨b2, hv, h1⟩ := bindS h1
    refine call_is hO hX (fn_rectangle_isSpan hO hv) (by kernel_rfl) [] rfl trivial rfl ?_
    cbv
    cases h1
    try dsimp only at h0
    cases h0
    exact fin_ok hX rfl ⟨[], _, _, ⟨rfl, rfl⟩, rfl, rfl, rfl, rfl, by cbv; try simp⟩
  · rw [hc1]
    cbv
    cases h1
    try dsimp only at h0
    cases h0
    exact fin_ok hX rfl ⟨[], _, _, ⟨rfl, rfl⟩, rfl, rfl, rfl, rfl, by cbv; try simp⟩
set_option maxHeartbeats 40000000 in
theorem fn_rectangle_check_1 {O0 : Ops} (hO0 : O0 = std) {r_1 : Int} {r_2 : Int} {r_3 : Int} {r_4 : Int} {r1 : Bool} (h : m_rectangle_check_1 O0 r_1 r_2 r_3 r_4 = some r1) :
    Fn Try.prog 75 [.agg [.int .i64 r_1, .int .i64 r_2, .int .i64 r_3, .int .i64 r_4]] [] (fun v c => v = .c (.bool r1) ∧ c = []) := by
  refine fn_run tab_holds eqs_holds mixed [] Try.func75 (by kernel_rfl) (by kernel_rfl) (Nat.le_of_ble_eq_true rfl) ?_
  intro O X hO hX
  rw [hO0, ← hO] at h
  unfold m_rectangle_check_1 at h
  have h0 := h; clear h
  cbv
  obtain ⟨b3, hv, h0⟩ := bindS h0
  refine call_is hO hX (fn_rectangle_Valid hO hv) (by kernel_rfl) [] rfl trivial rfl ?_
  cbv
  cases h0
  exact fin_ok hX rfl ⟨[], _, _, ⟨rfl, rfl⟩, rfl, rfl, rfl, rfl, by cbv; try simp⟩
set_option maxHeartbeats 40000000 in
theorem fn_slices_IndexFunc {O0 : Ops} (hO0 : O0 = std) {s_1 : List (Int × Int × Int × Int)} {r1 : Int} (h : m_slices_IndexFunc O0 s_1 = some r1) :
    Fn Try.prog 47 [.c (.sl 0), .c (.fn 75 [])] [.arr false .i4 s_1] (fun v c => v = .c (.int .i64 r1) ∧ c = []) := by
  refine fn_run tab_holds eqs_holds mixed [] Try.func47 (by kernel_rfl) (by kernel_rfl) (Nat.le_of_ble_eq_true rfl) ?_
  intro O X hO hX
  rw [hO0, ← hO] at h
  unfold m_slices_IndexFunc at h
  have h0 := h; clear h
  cbv
  obtain ⟨e1, hi, h0⟩ := bindS h0
  obtain ⟨I1, hI1, hi⟩ := loopS hi
  refine loop1 tab_holds eqs_holds mixed [] hO hX I1 (fun y => [(8, .c (.int .i64 y.2))]) (fun _ => []) (fun y => y.1) _ (by kernel_rfl) hi (by cbv; try simp) ?_
  refine allp ?_
  intro n1
  intro x1 hi
  cbv
  rw [hI1] at hi
  obtain ⟨n1, rfl, x1, h1, hi1⟩ := iterS hi
  unfold m_slices_IndexFunc_L1 at h1
  try dsimp only at h1
  rcases condS h1 with ⟨hc1, h1⟩ | ⟨hc1, h1⟩
  · rw [hc1]
    cbv
    obtain ⟨hg2, h1⟩ := grdS h1
    refine ⟨idx_of hO hg2, ?_⟩
    obtain ⟨hg3, h1⟩ := grdS h1
    refine ⟨kin_of hO hg3, ?_⟩
    obtain ⟨b4, hv, h1⟩ := bindS h1
    refine call_is hO hX (fn_rectangle_check_1 hO hv) (by kernel_rfl) [] rfl trivial rfl ?_
    cbv
    rcases condS h1 with ⟨hc4, h1⟩ | ⟨hc4, h1⟩
    · rw [hc4]
      cbv
      cases h1
      cases exitI hi1
      try dsimp only at h0
      cases h0
      exact fin_ok hX rfl ⟨[], _, _, ⟨rfl, rfl⟩, rfl, rfl, rfl, rfl, by cbv; try simp⟩
    · rw [hc4]
      cbv
      obtain ⟨hg5, h1⟩ := grdS h1
      refine ⟨inr_of hO hg5, ?_⟩
      cases h1
      exact ⟨_, [0], nextI hI1 hi1, by cbv; try simp, by first | exact Nat.lt_succ_self _ | omega⟩
  · rw [hc1]
    cbv
    cases h1
    cases exitI hi1
    try dsimp only at h0
    cases h0
    exact fin_ok hX rfl ⟨[], _, _, ⟨rfl, rfl⟩, rfl, rfl, rfl, rfl, by cbv; try simp⟩
set_option maxHeartbeats 40000000 in
theorem fn_slices_ContainsFunc {O0 : Ops} (hO0 : O0 = std) {s_1 : List (Int × Int × Int × Int)} {r1 : Bool} (h : m_slices_ContainsFunc O0 s_1 = some r1) :
    Fn Try.prog 16 [.c (.sl 0), .c (.fn 75 [])] [.arr false .i4 s_1] (fun v c => v = .c (.bool r1) ∧ c = []) := by
  refine fn_run tab_holds eqs_holds mixed [] Try.func16 (by kernel_rfl) (by kernel_rfl) (Nat.le_of_ble_eq_true rfl) ?_
  intro O X hO hX
  rw [hO0, ← hO] at h
  unfold m_slices_ContainsFunc at h
  have h0 := h; clear h
  cbv
  obtain ⟨n9, hv, h0⟩ := bindS h0
  refine call_is hO hX (fn_slices_IndexFunc hO hv) (by kernel_rfl) [0] rfl ⟨rfl, rfl, trivial⟩ rfl ?_
  cbv
  cases h0
  exact fin_ok hX rfl ⟨[], _, _, ⟨rfl, rfl⟩, rfl, rfl, rfl, rfl, by cbv; try simp⟩
set_option maxHeartbeats 40000000 in
theorem fn_rectangle_check {O0 : Ops} (hO0 : O0 = std) {lists_1 : List (Int × Int × Int × Int)} {lists_2 : List (Int × Int × Int × Int)} {r1 : Int} (h : m_rectangle_check O0 lists_1 lists_2 = some r1) :
    Fn Try.prog 55 [.c (.asl 0 2)] [.ro 22 [.sl 1, .sl 2], .arr false .i4 lists_1, .arr false .i4 lists_2] (fun v c => v = .c (.int .i64 r1) ∧ c = []) := by
  refine fn_run tab_holds eqs_holds mixed [] Try.func55 (by kernel_rfl) (by kernel_rfl) (Nat.le_of_ble_eq_true rfl) ?_
  intro O X hO hX
  rw [hO0, ← hO] at h
  unfold m_rectangle_check at h
  have h0 := h; clear h
  cbv
  refine loop_unroll tab_holds eqs_holds mixed [] hO hX 3 (by kernel_rfl) ?_
  cbv
  rw [show (O .lt 0 (Int.ofNat 2)) = true from by subst hO; rfl]
  cbv
  obtain ⟨b5, hv, h0⟩ := bindS h0
  refine call_is hO hX (fn_slices_ContainsFunc hO hv) (by kernel_rfl) [1] rfl ⟨rfl, rfl, trivial⟩ rfl ?_
  cbv
  rcases condS h0 with ⟨hc1, h0⟩ | ⟨hc1, h0⟩
  · rw [hc1]
    cbv
    cases h0
    exact fin_ok hX rfl ⟨[], _, _, ⟨rfl, rfl⟩, rfl, rfl, rfl, rfl, by cbv; try simp⟩
  · as_aux_lemma =>
    rw [hc1]
    cbv
    obtain ⟨hg2, h0⟩ := grdS h0
    refine ⟨inr_of hO hg2, ?_⟩
    try (rw [show (O .add 0 1) = 1 from by subst hO; rfl]; try cbv)
    try (rw [show (O .add 0 1) = 1 from by subst hO; rfl]; try cbv)
    rw [show (O .lt 1 (Int.ofNat 2)) = true from by subst hO; rfl]
    cbv
    obtain ⟨b6, hv, h0⟩ := bindS h0
    refine call_is hO hX (fn_slices_ContainsFunc hO hv) (by kernel_rfl) [2] rfl ⟨rfl, rfl, trivial⟩ rfl ?_
    cbv
    rcases condS h0 with ⟨hc3, h0⟩ | ⟨hc3, h0⟩
    · rw [hc3]
      cbv
      cases h0
      exact fin_ok hX rfl ⟨[], _, _, ⟨rfl, rfl⟩, rfl, rfl, rfl, rfl, by cbv; try simp⟩
    · rw [hc3]
      cbv
      obtain ⟨hg4, h0⟩ := grdS h0
      refine ⟨inr_of hO hg4, ?_⟩
      try (rw [show (O .add 1 1) = 2 from by subst hO; rfl]; try cbv)
      try (rw [show (O .add 1 1) = 2 from by subst hO; rfl]; try cbv)
      rw [show (O .lt 2 (Int.ofNat 2)) = false from by subst hO; rfl]
      cbv
      refine loop_unroll tab_holds eqs_holds mixed [] hO hX 3 (by kernel_rfl) ?_
      cbv
      rw [show (O .lt 0 (Int.ofNat 2)) = true from by subst hO; rfl]
      cbv
      rcases condS h0 with ⟨hc5, h0⟩ | ⟨hc5, h0⟩
      · rw [hc5]
        cbv
        cases h0
        exact fin_ok hX rfl ⟨[], _, _, ⟨rfl, rfl⟩, rfl, rfl, rfl, rfl, by cbv; try simp⟩
      · rw [hc5]
        cbv
        refine ⟨inr_of hO hg2, ?_⟩
        try (rw [show (O .add 0 1) = 1 from by subst hO; rfl]; try cbv)
        try (rw [show (O .add 0 1) = 1 from by subst hO; rfl]; try cbv)
        rw [show (O .lt 1 (Int.ofNat 2)) = true from by subst hO; rfl]
        cbv
        rcases condS h0 with ⟨hc6, h0⟩ | ⟨hc6, h0⟩
        · rw [hc6]
          cbv
          cases h0
          exact fin_ok hX rfl ⟨[], _, _, ⟨rfl, rfl⟩, rfl, rfl, rfl, rfl, by cbv; try simp⟩
        · rw [hc6]
          cbv
          refine ⟨inr_of hO hg4, ?_⟩
          try (rw [show (O .add 1 1) = 2 from by subst hO; rfl]; try cbv)
          try (rw [show (O .add 1 1) = 2 from by subst hO; rfl]; try cbv)
          rw [show (O .lt 2 (Int.ofNat 2)) = false from by subst hO; rfl]
          cbv
          cases h0
          exact fin_ok hX rfl ⟨[], _, _, ⟨rfl, rfl⟩, rfl, rfl, rfl, rfl, by cbv; try simp⟩
set_option maxHeartbeats 40000000 in
theorem fn_slices_Concat {O0 : Ops} (hO0 : O0 = std) {slices_1 : List (Int × Int × Int × Int)} {slices_2 : List (Int × Int × Int × Int)} {r1 : List (Int × Int × Int × Int)} (h : m_slices_Concat O0 slices_1 slices_2 = some r1) :
    Fn Try.prog 30 [.c (.asl 0 2)] [.ro 22 [.sl 1, .sl 2], .arr false .i4 slices_1, .arr false .i4 slices_2] (fun v c => v = .c (.sl 3) ∧ c = [.own 34 .i4 r1]) := by
  refine fn_run tab_holds eqs_holds mixed [] Try.func30 (by kernel_rfl) (by kernel_rfl) (Nat.le_of_ble_eq_true rfl) ?_
  intro O X hO hX
  rw [hO0, ← hO] at h
  unfold m_slices_Concat at h
  have h0 := h; clear h
  cbv
  refine loop_unroll tab_holds eqs_holds mixed [] hO hX 3 (by kernel_rfl) ?_
  cbv
  rw [show (O .lt 0 (Int.ofNat 2)) = true from by subst hO; rfl]
  cbv
  obtain ⟨hg1, h0⟩ := grdS h0
  refine ⟨inr_of hO hg1, ?_⟩
  rcases condS h0 with ⟨hc2, h0⟩ | ⟨hc2, h0⟩
  · rw [hc2]
    cbv
    cases h0
  · as_aux_lemma =>
    rw [hc2]
    cbv
    obtain ⟨hg3, h0⟩ := grdS h0
    refine ⟨inr_of hO hg3, ?_⟩
    try (rw [show (O .add 0 1) = 1 from by subst hO; rfl]; try cbv)
    try (rw [show (O .add 0 1) = 1 from by subst hO; rfl]; try cbv)
    rw [show (O .lt 1 (Int.ofNat 2)) = true from by subst hO; rfl]
    cbv
    obtain ⟨hg4, h0⟩ := grdS h0
    refine ⟨inr_of hO hg4, ?_⟩
    rcases condS h0 with ⟨hc5, h0⟩ | ⟨hc5, h0⟩
    · rw [hc5]
      cbv
      cases h0
    · rw [hc5]
      cbv
      obtain ⟨hg6, h0⟩ := grdS h0
      refine ⟨inr_of hO hg6, ?_⟩
      try (rw [show (O .add 1 1) = 2 from by subst hO; rfl]; try cbv)
      try (rw [show (O .add 1 1) = 2 from by subst hO; rfl]; try cbv)
      rw [show (O .lt 2 (Int.ofNat 2)) = false from by subst hO; rfl]
      cbv
      obtain ⟨l1, hv, h0⟩ := bindS h0
      refine grw_i4 hO hX hv ?_
      cbv
      refine loop_unroll tab_holds eqs_holds mixed [] hO hX 3 (by kernel_rfl) ?_
      cbv
      rw [show (O .lt 0 (Int.ofNat 2)) = true from by subst hO; rfl]
      cbv
      obtain ⟨hg7, h0⟩ := grdS h0
      refine ⟨room_of hO hg7, ?_⟩
      obtain ⟨hg8, h0⟩ := grdS h0
      refine ⟨room_of hO hg8, ?_⟩
      refine ⟨inr_of hO hg3, ?_⟩
      try (rw [show (O .add 0 1) = 1 from by subst hO; rfl]; try cbv)
      try (rw [show (O .add 0 1) = 1 from by subst hO; rfl]; try cbv)
      rw [show (O .lt 1 (Int.ofNat 2)) = true from by subst hO; rfl]
      cbv
      obtain ⟨hg9, h0⟩ := grdS h0
      refine ⟨room_of hO hg9, ?_⟩
      obtain ⟨hg10, h0⟩ := grdS h0
      refine ⟨room_of hO hg10, ?_⟩
      refine ⟨inr_of hO hg6, ?_⟩
      try (rw [show (O .add 1 1) = 2 from by subst hO; rfl]; try cbv)
      try (rw [show (O .add 1 1) = 2 from by subst hO; rfl]; try cbv)
      rw [show (O .lt 2 (Int.ofNat 2)) = false from by subst hO; rfl]
      cbv
      cases h0
      exact fin_ok hX rfl ⟨[6], _, _, ⟨rfl, rfl⟩, rfl, rfl, rfl, rfl, by cbv; try simp⟩
set_option maxHeartbeats 40000000 in
theorem fn_interval_line {O0 : Ops} (hO0 : O0 = std) {x_1 : Int} {r1 : Bool} (h : m_interval_line O0 x_1 = some r1) :
    Fn Try.prog 70 [.c (.int .i64 x_1)] [] (fun v c => v = .c (.bool r1) ∧ c = []) := by
  refine fn_run tab_holds eqs_holds mixed [] Try.func70 (by kernel_rfl) (by kernel_rfl) (Nat.le_of_ble_eq_true rfl) ?_
  intro O X hO hX
  rw [hO0, ← hO] at h
  unfold m_interval_line at h
  have h0 := h; clear h
  cbv
  obtain ⟨x18, h1, h0⟩ := bindS h0
  rcases condS h1 with ⟨hc1, h1⟩ | ⟨hc1, h1⟩
  · rw [hc1]
    cbv
    cases h1
    try dsimp only at h0
    cases h0
    exact fin_ok hX rfl ⟨[], _, _, ⟨rfl, rfl⟩, rfl, rfl, rfl, rfl, by cbv; try simp⟩
  · rw [hc1]
    cbv
    cases h1
    try dsimp only at h0
    cases h0
    exact fin_ok hX rfl ⟨[], _, _, ⟨rfl, rfl⟩, rfl, rfl, rfl, rfl, by cbv; try simp⟩
set_option maxHeartbeats 40000000 in
theorem fn_interval_Valid {O0 : Ops} (hO0 : O0 = std) {s_1 : Int} {s_2 : Int} {r1 : Bool} (h : m_interval_Valid O0 s_1 s_2 = some r1) :
    Fn Try.prog 49 [.agg [.int .i64 s_1, .int .i64 s_2]] [] (fun v c => v = .c (.bool r1) ∧ c = []) := by
  refine fn_run tab_holds eqs_holds mixed [] Try.func49 (by kernel_rfl) (by kernel_rfl) (Nat.le_of_ble_eq_true rfl) ?_
  intro O X hO hX
  rw [hO0, ← hO] at h
  unfold m_interval_Valid at h
  have h0 := h; clear h
  cbv
  obtain ⟨x21, h1, h0⟩ := bindS h0
  obtain ⟨b7, hv, h1⟩ := bindS h1
  refine call_is hO hX (fn_interval_line hO hv) (by kernel_rfl) [] rfl trivial rfl ?_
  cbv
  rcases condS h1 with ⟨hc1, h1⟩ | ⟨hc1, h1⟩
  · rw [hc1]
    cbv
    obtain ⟨b8, hv, h1⟩ := bindS h1
    refine call_is hO hX (fn_interval_line hO hv) (by kernel_rfl) [] rfl trivial rfl ?_
    cbv
    rcases condS h1 with ⟨hc2, h1⟩ | ⟨hc2, h1⟩
    · rw [hc2]
      cbv
      cases h1
      try dsimp only at h0
      cases h0
      exact fin_ok hX rfl ⟨[], _, _, ⟨rfl, rfl⟩, rfl, rfl, rfl, rfl, by cbv; try simp⟩
    · rw [hc2]
      cbv
      cases h1
      try dsimp only at h0
      cases h0
      exact fin_ok hX rfl ⟨[], _, _, ⟨rfl, rfl⟩, rfl, rfl, rfl, rfl, by cbv; try simp⟩
  · rw [hc1]
    cbv
    cases h1
    try dsimp only at h0
    cases h0
    exact fin_ok hX rfl ⟨[], _, _, ⟨rfl, rfl⟩, rfl, rfl, rfl, rfl, by cbv; try simp⟩
set_option maxHeartbeats 40000000 in
theorem fn_runs_Of_1 {O0 : Ops} (hO0 : O0 = std) {s_1 : Int} {s_2 : Int} {r1 : Bool} (h : m_runs_Of_1 O0 s_1 s_2 = some r1) :
    Fn Try.prog 97 [.agg [.int .i64 s_1, .int .i64 s_2]] [] (fun v c => v = .c (.bool r1) ∧ c = []) := by
  refine fn_run tab_holds eqs_holds mixed [] Try.func97 (by kernel_rfl) (by kernel_rfl) (Nat.le_of_ble_eq_true rfl) ?_
  intro O X hO hX
  rw [hO0, ← hO] at h
  unfold m_runs_Of_1 at h
  have h0 := h; clear h
  cbv
  obtain ⟨b9, hv, h0⟩ := bindS h0
  refine call_is hO hX (fn_interval_Valid hO hv) (by kernel_rfl) [] rfl trivial rfl ?_
  cbv
  cases h0
  exact fin_ok hX rfl ⟨[], _, _, ⟨rfl, rfl⟩, rfl, rfl, rfl, rfl, by cbv; try simp⟩
set_option maxHeartbeats 40000000 in
theorem fn_slices_IndexFunc_2 {O0 : Ops} (hO0 : O0 = std) {s_1 : List (Int × Int)} {r1 : Int} (h : m_slices_IndexFunc_2 O0 s_1 = some r1) :
    Fn Try.prog 111 [.c (.sl 0), .c (.fn 97 [])] [.arr false .i2 s_1] (fun v c => v = .c (.int .i64 r1) ∧ c = []) := by
  refine fn_run tab_holds eqs_holds mixed [] Try.func111 (by kernel_rfl) (by kernel_rfl) (Nat.le_of_ble_eq_true rfl) ?_
  intro O X hO hX
  rw [hO0, ← hO] at h
  unfold m_slices_IndexFunc_2 at h
  have h0 := h; clear h
  cbv
  obtain ⟨e1, hi, h0⟩ := bindS h0
  obtain ⟨I1, hI1, hi⟩ := loopS hi
  refine loop1 tab_holds eqs_holds mixed [] hO hX I1 (fun y => [(8, .c (.int .i64 y.2))]) (fun _ => []) (fun y => y.1) _ (by kernel_rfl) hi (by cbv; try simp) ?_
  refine allp ?_
  intro n1
  intro x16 hi
  cbv
  rw [hI1] at hi
  obtain ⟨n1, rfl, x1, h1, hi1⟩ := iterS hi
  unfold m_slices_IndexFunc_2_L1 at h1
  try dsimp only at h1
  rcases condS h1 with ⟨hc1, h1⟩ | ⟨hc1, h1⟩
  · rw [hc1]
    cbv
    obtain ⟨hg2, h1⟩ := grdS h1
    refine ⟨idx_of hO hg2, ?_⟩
    obtain ⟨hg3, h1⟩ := grdS h1
    refine ⟨kin_of hO hg3, ?_⟩
    obtain ⟨b10, hv, h1⟩ := bindS h1
    refine call_is hO hX (fn_runs_Of_1 hO hv) (by kernel_rfl) [] rfl trivial rfl ?_
    cbv
    rcases condS h1 with ⟨hc4, h1⟩ | ⟨hc4, h1⟩
    · rw [hc4]
      cbv
      cases h1
      cases exitI hi1
      try dsimp only at h0
      cases h0
      exact fin_ok hX rfl ⟨[], _, _, ⟨rfl, rfl⟩, rfl, rfl, rfl, rfl, by cbv; try simp⟩
    · rw [hc4]
      cbv
      obtain ⟨hg5, h1⟩ := grdS h1
      refine ⟨inr_of hO hg5, ?_⟩
      cases h1
      exact ⟨_, [0], nextI hI1 hi1, by cbv; try simp, by first | exact Nat.lt_succ_self _ | omega⟩
  · rw [hc1]
    cbv
    cases h1
    cases exitI hi1
    try dsimp only at h0
    cases h0
    exact fin_ok hX rfl ⟨[], _, _, ⟨rfl, rfl⟩, rfl, rfl, rfl, rfl, by cbv; try simp⟩
set_option maxHeartbeats 40000000 in
theorem fn_slices_ContainsFunc_2 {O0 : Ops} (hO0 : O0 = std) {s_1 : List (Int × Int)} {r1 : Bool} (h : m_slices_ContainsFunc_2 O0 s_1 = some r1) :
    Fn Try.prog 96 [.c (.sl 0), .c (.fn 97 [])] [.arr false .i2 s_1] (fun v c => v = .c (.bool r1) ∧ c = []) := by
  refine fn_run tab_holds eqs_holds mixed [] Try.func96 (by kernel_rfl) (by kernel_rfl) (Nat.le_of_ble_eq_true rfl) ?_
  intro O X hO hX
  rw [hO0, ← hO] at h
  unfold m_slices_ContainsFunc_2 at h
  have h0 := h; clear h
  cbv
  obtain ⟨n11, hv, h0⟩ := bindS h0
  refine call_is hO hX (fn_slices_IndexFunc_2 hO hv) (by kernel_rfl) [0] rfl ⟨rfl, rfl, trivial⟩ rfl ?_
  cbv
  cases h0
  exact fin_ok hX rfl ⟨[], _, _, ⟨rfl, rfl⟩, rfl, rfl, rfl, rfl, by cbv; try simp⟩
set_option maxHeartbeats 40000000 in
theorem fn_runs_done {O0 : Ops} (hO0 : O0 = std) {l_1 : List (Int × Int)} {e : ((List (Int × Int) × Int) ⊕ (Int))} (h : m_runs_done O0 l_1 = some e) :
    Fn Try.prog 80 [.c (.sl 0)] [.arr false .i2 l_1] (fun v c => match e with | .inl (r1, r2) => v = .tup [.one (.sl 1), .one (.int .i64 r2)] ∧ c = [.own 32 .i2 r1] | .inr (r1) => v = .tup [.one (.sl 0), .one (.int .i64 r1)] ∧ c = []) := by
  refine fn_run tab_holds eqs_holds mixed [] Try.func80 (by kernel_rfl) (by kernel_rfl) (Nat.le_of_ble_eq_true rfl) ?_
  intro O X hO hX
  rw [hO0, ← hO] at h
  unfold m_runs_done at h
  have h0 := h; clear h
  cbv
  rcases condS h0 with ⟨hc1, h0⟩ | ⟨hc1, h0⟩
  · rw [hc1]
    cbv
    cases h0
    exact fin_ok hX rfl ⟨[2], _, _, ⟨rfl, rfl⟩, rfl, rfl, rfl, rfl, by cbv; try simp⟩
  · rw [hc1]
    cbv
    cases h0
    exact fin_ok hX rfl ⟨[], _, _, ⟨rfl, rfl⟩, rfl, rfl, rfl, rfl, by cbv; try simp⟩
set_option maxHeartbeats 40000000 in
theorem fn_runs_Of {O0 : Ops} (hO0 : O0 = std) {l_1 : List (Int × Int)} {r1 : List (Int × Int)} {r2 : Int} (h : m_runs_Of O0 l_1 = some (r1, r2)) :
    Fn Try.prog 76 [.c (.sl 0)] [.arr false .i2 l_1] (fun v c => v = .tup [.one (.sl 1), .one (.int .i64 r2)] ∧ c = [.own 32 .i2 r1]) := by
  refine fn_run tab_holds eqs_holds mixed [(10, (.seg 1 [0, 1, 2, 3, 4, 5, 6, 7, 8, 9, 10, 11, 12] .fin), []), (11, (.seg 1 [0, 1, 2, 3, 4, 5, 6, 7, 8, 9, 10, 11, 12, 13] .fin), [14])] Try.func76 (by kernel_rfl) (by kernel_rfl) (Nat.le_of_ble_eq_true rfl) ?_
  intro O X hO hX
  rw [hO0, ← hO] at h
  unfold m_runs_Of at h
  have h0 := h; clear h
  cbv
  obtain ⟨b11, hv, h0⟩ := bindS h0
  refine call_is hO hX (fn_slices_ContainsFunc_2 hO hv) (by kernel_rfl) [0] rfl ⟨rfl, rfl, trivial⟩ rfl ?_
  cbv
  rcases condS h0 with ⟨hc1, h0⟩ | ⟨hc1, h0⟩
  · rw [hc1]
    cbv
    cases h0
    exact fin_ok hX rfl ⟨[2], _, _, ⟨rfl, rfl⟩, rfl, rfl, rfl, rfl, by cbv; try simp⟩
  · as_aux_lemma =>
    rw [hc1]
    cbv
    obtain ⟨l13, hv, h0⟩ := bindS h0
    refine call_is hO hX (fn_clone_i2 hO hv) (by kernel_rfl) [0] rfl ⟨rfl, rfl, trivial⟩ rfl ?_
    cbv
    obtain ⟨l14, hv, h0⟩ := bindS h0
    refine srt_runs hO hX (i := 2) rfl hv ?_
    cbv
    obtain ⟨l20, hi, h0⟩ := bindS h0
    obtain ⟨I1, hI1, hi⟩ := loopS hi
    refine loop1 tab_holds eqs_holds mixed [(10, (.seg 1 [0, 1, 2, 3, 4, 5, 6, 7, 8, 9, 10, 11, 12] .fin), []), (11, (.seg 1 [0, 1, 2, 3, 4, 5, 6, 7, 8, 9, 10, 11, 12, 13] .fin), [14])] hO hX I1 (fun y => [(2, .junk), (4, .junk), (12, .junk), (13, .junk), (5, .c (.sl 3)), (17, .c (.int .i64 y.2.1))]) (fun y => [(3, .own 32 .i2 y.2.2)]) (fun y => y.1) _ (by kernel_rfl) hi (by cbv; try simp) ?_
    refine allp ?_
    intro n1
    refine allp ?_
    intro x26
    intro l17 hi
    cbv
    rw [hI1] at hi
    obtain ⟨n1, rfl, x1, h1, hi1⟩ := iterS hi
    unfold m_runs_Of_L1 at h1
    try dsimp only at h1
    rcases condS h1 with ⟨hc2, h1⟩ | ⟨hc2, h1⟩
    · as_aux_lemma =>
      rw [hc2]
      cbv
      obtain ⟨hg3, h1⟩ := grdS h1
      refine ⟨idx_of hO hg3, ?_⟩
      obtain ⟨hg4, h1⟩ := grdS h1
      refine ⟨kin_of hO hg4, ?_⟩
      obtain ⟨x28, h2, h1⟩ := bindS h1
      rcases condS h2 with ⟨hc5, h2⟩ | ⟨hc5, h2⟩
      · as_aux_lemma =>
        rw [hc5]
        cbv
        obtain ⟨hg6, h2⟩ := grdS h2
        refine ⟨inr_of hO hg6, ?_⟩
        obtain ⟨hg7, h2⟩ := grdS h2
        refine ⟨idx_of hO hg7, ?_⟩
        obtain ⟨hg8, h2⟩ := grdS h2
        refine ⟨kin_of hO hg8, ?_⟩
        cases h2
        try dsimp only at h1
        obtain ⟨l19, h2, h1⟩ := bindS h1
        rcases condS h2 with ⟨hc9, h2⟩ | ⟨hc9, h2⟩
        · rw [hc9]
          cbv
          obtain ⟨hg10, h2⟩ := grdS h2
          refine ⟨inr_of hO hg10, ?_⟩
          refine ⟨inr_of hO hg10, ?_⟩
          obtain ⟨hg11, h2⟩ := grdS h2
          refine ⟨idx_of hO hg11, ?_⟩
          obtain ⟨hg12, h2⟩ := grdS h2
          refine ⟨kin_of hO hg12, ?_⟩
          cases h2
          try dsimp only at h1
          refine ⟨idx_of hO hg11, ?_⟩
          refine ⟨kin_of hO hg12, ?_⟩
          obtain ⟨hg13, h1⟩ := grdS h1
          refine ⟨inr_of hO hg13, ?_⟩
          cases h1
          exact ⟨_, [0, 1, 2, 3], nextI hI1 hi1, by cbv; try simp, by first | exact Nat.lt_succ_self _ | omega⟩
        · rw [hc9]
          cbv
          obtain ⟨hg14, h2⟩ := grdS h2
          refine ⟨room_of hO hg14, ?_⟩
          obtain ⟨hg15, h2⟩ := grdS h2
          refine ⟨room_of hO hg15, ?_⟩
          cases h2
          try dsimp only at h1
          obtain ⟨hg16, h1⟩ := grdS h1
          refine ⟨inr_of hO hg16, ?_⟩
          cases h1
          exact ⟨_, [0, 1, 2, 6], nextI hI1 hi1, by cbv; try simp, by first | exact Nat.lt_succ_self _ | omega⟩
      · rw [hc5]
        cbv
        cases h2
        try dsimp only at h1
        obtain ⟨l19, h2, h1⟩ := bindS h1
        replace h2 := condF h2 rfl
        obtain ⟨hg17, h2⟩ := grdS h2
        refine ⟨room_of hO hg17, ?_⟩
        obtain ⟨hg18, h2⟩ := grdS h2
        refine ⟨room_of hO hg18, ?_⟩
        cases h2
        try dsimp only at h1
        obtain ⟨hg19, h1⟩ := grdS h1
        refine ⟨inr_of hO hg19, ?_⟩
        cases h1
        exact ⟨_, [0, 1, 2, 6], nextI hI1 hi1, by cbv; try simp, by first | exact Nat.lt_succ_self _ | omega⟩
    · rw [hc2]
      cbv
      cases h1
      cases exitI hi1
      try dsimp only at h0
      obtain ⟨⟨x30, l23⟩, h1, h0⟩ := bindS h0
      obtain ⟨e1, hv, h1⟩ := bindS h1
      rcases e1 with ⟨l21, n12⟩ | n13
      · try dsimp only at h1
        refine call_is hO hX (fn_runs_done hO hv) (by kernel_rfl) [3] rfl ⟨rfl, rfl, trivial⟩ rfl ?_
        cbv
        cases h1
        try dsimp only at h0
        cases h0
        exact fin_ok hX rfl ⟨[4], _, _, ⟨rfl, rfl⟩, rfl, rfl, rfl, rfl, by cbv; try simp⟩
      · try dsimp only at h1
        refine call_is hO hX (fn_runs_done hO hv) (by kernel_rfl) [3] rfl ⟨rfl, rfl, trivial⟩ rfl ?_
        cbv
        cases h1
        try dsimp only at h0
        cases h0
        exact fin_ok hX rfl ⟨[3], _, _, ⟨rfl, rfl⟩, rfl, rfl, rfl, rfl, by cbv; try simp⟩
end Go.Proofs.Ytkdffpncpikdmaa
