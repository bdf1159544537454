/-
  The code does what its models say (printed by lift.py).
-/
import Derived.Test.YtegmjohhgedakaaBM
import Derived.Test.YtegmjohhgedakaaSrtB
namespace Go.Proofs.Ytegmjohhgedakaa
open Go.RowKit
set_option maxRecDepth 100000

set_option maxHeartbeats 40000000 in
theorem fn_bounds_right {O0 : Ops} (hO0 : O0 = std) {n_1 : Int} {b_1 : Int} {b_2 : Int} {b_3 : Int} {r1 : Bool} (h : m_bounds_right O0 n_1 b_1 b_2 b_3 = some r1) :
    Fn Try.prog 46 [.c (.int .i64 n_1), .agg [.int .i64 b_1, .int .i64 b_2, .int .i64 b_3]] [] (fun v c => v = .c (.bool r1) ∧ c = []) := by
  refine fn_run tab_holds eqs_holds mixed [] Try.func46 (by kernel_rfl) (by kernel_rfl) (Nat.le_of_ble_eq_true rfl) ?_
  intro O X hO hX
  rw [hO0, ← hO] at h
  unfold m_bounds_right at h
  have h0 := h; clear h
  cbv
  obtain ⟨x7, h1, h0⟩ := bindS h0
  rcases condS h1 with ⟨hc1, h1⟩ | ⟨hc1, h1⟩
  · rw [hc1]
    cbv
    rcases condS h1 with ⟨hc2, h1⟩ | ⟨hc2, h1⟩
    · rw [hc2]
      cbv
      rcases condS h1 with ⟨hc3, h1⟩ | ⟨hc3, h1⟩
      · rw [hc3]
        cbv
        rcases condS h1 with ⟨hc4, h1⟩ | ⟨hc4, h1⟩
        · rw [hc4]
          cbv
          rcases condS h1 with ⟨hc5, h1⟩ | ⟨hc5, h1⟩
          · rw [hc5]
            cbv
            cases h1
            try dsimp only at h0
            cases h0
            exact fin_ok hX rfl ⟨[], _, _, ⟨rfl, rfl⟩, rfl, rfl, rfl, rfl, by cbv; try simp⟩
          · rw [hc5]
            cbv
            cases h1
            try dsimp only at h0
            cases h0
            exact fin_ok hX rfl ⟨[], _, _, ⟨rfl, rfl⟩, rfl, rfl, rfl, rfl, by cbv; try simp⟩
        · rw [hc4]
          cbv
          cases h1
          try dsimp only at h0
          cases h0
          exact fin_ok hX rfl ⟨[], _, _, ⟨rfl, rfl⟩, rfl, rfl, rfl, rfl, by cbv; try simp⟩
      · rw [hc3]
        cbv
        cases h1
        try dsimp only at h0
        cases h0
        exact fin_ok hX rfl ⟨[], _, _, ⟨rfl, rfl⟩, rfl, rfl, rfl, rfl, by cbv; try simp⟩
    · rw [hc2]
      cbv
      cases h1
      try dsimp only at h0
      cases h0
      exact fin_ok hX rfl ⟨[], _, _, ⟨rfl, rfl⟩, rfl, rfl, rfl, rfl, by cbv; try simp⟩
  · rw [hc1]
    cbv
    cases h1
    try dsimp only at h0
    cases h0
    exact fin_ok hX rfl ⟨[], _, _, ⟨rfl, rfl⟩, rfl, rfl, rfl, rfl, by cbv; try simp⟩
set_option maxHeartbeats 40000000 in
theorem fn_bounds_Valid_1 {O0 : Ops} (hO0 : O0 = std) {b_1 : Int} {b_2 : Int} {b_3 : Int} {x_1 : Int} {r1 : Bool} (h : m_bounds_Valid_1 O0 b_1 b_2 b_3 x_1 = some r1) :
    Fn Try.prog 45 [.agg [.int .i64 b_1, .int .i64 b_2, .int .i64 b_3], .c (.ptr 0 0)] [.ro 3 [.int .i64 x_1]] (fun v c => v = .c (.bool r1) ∧ c = []) := by
  refine fn_run tab_holds eqs_holds mixed [] Try.func45 (by kernel_rfl) (by kernel_rfl) (Nat.le_of_ble_eq_true rfl) ?_
  intro O X hO hX
  rw [hO0, ← hO] at h
  unfold m_bounds_Valid_1 at h
  have h0 := h; clear h
  cbv
  obtain ⟨b1, hv, h0⟩ := bindS h0
  refine call_is hO hX (fn_bounds_right hO hv) (by kernel_rfl) [] rfl trivial rfl ?_
  cbv
  cases h0
  exact fin_ok hX rfl ⟨[], _, _, ⟨rfl, rfl⟩, rfl, rfl, rfl, rfl, by cbv; try simp⟩
set_option maxHeartbeats 40000000 in
theorem fn_slices_IndexFunc {O0 : Ops} (hO0 : O0 = std) {s_1 : List (Int × Int × Int)} {c_1 : Int} {r1 : Int} (h : m_slices_IndexFunc O0 s_1 c_1 = some r1) :
    Fn Try.prog 59 [.c (.sl 0), .c (.fn 45 [1])] [.arr false .i3 s_1, .ro 3 [.int .i64 c_1]] (fun v c => v = .c (.int .i64 r1) ∧ c = []) := by
  refine fn_run tab_holds eqs_holds mixed [] Try.func59 (by kernel_rfl) (by kernel_rfl) (Nat.le_of_ble_eq_true rfl) ?_
  intro O X hO hX
  rw [hO0, ← hO] at h
  unfold m_slices_IndexFunc at h
  have h0 := h; clear h
  cbv
  obtain ⟨e1, hi, h0⟩ := bindS h0
  obtain ⟨I1, hI1, hi⟩ := loopS hi
  refine loop1 tab_holds eqs_holds mixed [] hO hX I1 (fun y => [(8, .c (.int .i64 y.2))]) (fun _ => []) (fun y => y.1) _ (by kernel_rfl) hi (by cbv; try simp) ?_
  refine allp ?_
  intro n1
  intro x1 hi
  cbv
  rw [hI1] at hi
  obtain ⟨n1, rfl, x1, h1, hi1⟩ := iterS hi
  unfold m_slices_IndexFunc_L1 at h1
  try dsimp only at h1
  rcases condS h1 with ⟨hc1, h1⟩ | ⟨hc1, h1⟩
  · rw [hc1]
    cbv
    obtain ⟨hg2, h1⟩ := grdS h1
    refine ⟨idx_of hO hg2, ?_⟩
    obtain ⟨hg3, h1⟩ := grdS h1
    refine ⟨kin_of hO hg3, ?_⟩
    obtain ⟨b2, hv, h1⟩ := bindS h1
    refine call_is hO hX (fn_bounds_Valid_1 hO hv) (by kernel_rfl) [1] rfl ⟨rfl, rfl, trivial⟩ rfl ?_
    cbv
    rcases condS h1 with ⟨hc4, h1⟩ | ⟨hc4, h1⟩
    · rw [hc4]
      cbv
      cases h1
      cases exitI hi1
      try dsimp only at h0
      cases h0
      exact fin_ok hX rfl ⟨[], _, _, ⟨rfl, rfl⟩, rfl, rfl, rfl, rfl, by cbv; try simp⟩
    · rw [hc4]
      cbv
      obtain ⟨hg5, h1⟩ := grdS h1
      refine ⟨inr_of hO hg5, ?_⟩
      cases h1
      exact ⟨_, [0, 1], nextI hI1 hi1, by cbv; try simp, by first | exact Nat.lt_succ_self _ | omega⟩
  · rw [hc1]
    cbv
    cases h1
    cases exitI hi1
    try dsimp only at h0
    cases h0
    exact fin_ok hX rfl ⟨[], _, _, ⟨rfl, rfl⟩, rfl, rfl, rfl, rfl, by cbv; try simp⟩
set_option maxHeartbeats 40000000 in
theorem fn_slices_ContainsFunc {O0 : Ops} (hO0 : O0 = std) {s_1 : List (Int × Int × Int)} {c_1 : Int} {r1 : Bool} (h : m_slices_ContainsFunc O0 s_1 c_1 = some r1) :
    Fn Try.prog 44 [.c (.sl 0), .c (.fn 45 [1])] [.arr false .i3 s_1, .ro 3 [.int .i64 c_1]] (fun v c => v = .c (.bool r1) ∧ c = []) := by
  refine fn_run tab_holds eqs_holds mixed [] Try.func44 (by kernel_rfl) (by kernel_rfl) (Nat.le_of_ble_eq_true rfl) ?_
  intro O X hO hX
  rw [hO0, ← hO] at h
  unfold m_slices_ContainsFunc at h
  have h0 := h; clear h
  cbv
  obtain ⟨n1, hv, h0⟩ := bindS h0
  refine call_is hO hX (fn_slices_IndexFunc hO hv) (by kernel_rfl) [0, 1] rfl ⟨rfl, rfl, rfl, rfl, trivial⟩ rfl ?_
  cbv
  cases h0
  exact fin_ok hX rfl ⟨[], _, _, ⟨rfl, rfl⟩, rfl, rfl, rfl, rfl, by cbv; try simp⟩
set_option maxHeartbeats 40000000 in
theorem fn_bounds_Valid {O0 : Ops} (hO0 : O0 = std) {n_1 : Int} {l_1 : List (Int × Int × Int)} {r1 : Bool} (h : m_bounds_Valid O0 n_1 l_1 = some r1) :
    Fn Try.prog 20 [.c (.int .i64 n_1), .c (.sl 0)] [.arr false .i3 l_1] (fun v c => v = .c (.bool r1) ∧ c = []) := by
  refine fn_run tab_holds eqs_holds mixed [] Try.func20 (by kernel_rfl) (by kernel_rfl) (Nat.le_of_ble_eq_true rfl) ?_
  intro O X hO hX
  rw [hO0, ← hO] at h
  unfold m_bounds_Valid at h
  have h0 := h; clear h
  cbv
  obtain ⟨x12, h1, h0⟩ := bindS h0
  rcases condS h1 with ⟨hc1, h1⟩ | ⟨hc1, h1⟩
  · rw [hc1]
    cbv
    rcases condS h1 with ⟨hc2, h1⟩ | ⟨hc2, h1⟩
    · rw [hc2]
      cbv
      rcases condS h1 with ⟨hc3, h1⟩ | ⟨hc3, h1⟩
      · rw [hc3]
        cbv
        obtain ⟨b3, hv, h1⟩ := bindS h1
        refine call_is hO hX (fn_slices_ContainsFunc hO hv) (by kernel_rfl) [0, 1] rfl ⟨rfl, rfl, rfl, rfl, trivial⟩ rfl ?_
        cbv
        cases h1
        try dsimp only at h0
        cases h0
        exact fin_ok hX rfl ⟨[], _, _, ⟨rfl, rfl⟩, rfl, rfl, rfl, rfl, by cbv; try simp⟩
      · rw [hc3]
        cbv
        cases h1
        try dsimp only at h0
        cases h0
        exact fin_ok hX rfl ⟨[], _, _, ⟨rfl, rfl⟩, rfl, rfl, rfl, rfl, by cbv; try simp⟩
    · rw [hc2]
      cbv
      cases h1
      try dsimp only at h0
      cases h0
      exact fin_ok hX rfl ⟨[], _, _, ⟨rfl, rfl⟩, rfl, rfl, rfl, rfl, by cbv; try simp⟩
  · rw [hc1]
    cbv
    cases h1
    try dsimp only at h0
    cases h0
    exact fin_ok hX rfl ⟨[], _, _, ⟨rfl, rfl⟩, rfl, rfl, rfl, rfl, by cbv; try simp⟩
set_option maxHeartbeats 40000000 in
theorem fn_integer_Add {O0 : Ops} (hO0 : O0 = std) {a_1 : Int} {b_1 : Int} {r1 : Int} {r2 : Int} (h : m_integer_Add O0 a_1 b_1 = some (r1, r2)) :
    Fn Try.prog 61 [.c (.int .i64 a_1), .c (.int .i64 b_1)] [] (fun v c => v = .tup [.one (.int .i64 r1), .one (.int .i64 r2)] ∧ c = []) := by
  refine fn_run tab_holds eqs_holds mixed [] Try.func61 (by kernel_rfl) (by kernel_rfl) (Nat.le_of_ble_eq_true rfl) ?_
  intro O X hO hX
  rw [hO0, ← hO] at h
  unfold m_integer_Add at h
  have h0 := h; clear h
  cbv
  obtain ⟨hg1, h0⟩ := grdS h0
  refine ⟨inr_of hO hg1, ?_⟩
  obtain ⟨x25, h1, h0⟩ := bindS h0
  rcases condS h1 with ⟨hc2, h1⟩ | ⟨hc2, h1⟩
  · rw [hc2]
    cbv
    cases h1
    try dsimp only at h0
    rcases condS h0 with ⟨hc3, h0⟩ | ⟨hc3, h0⟩
    · rw [hc3]
      cbv
      cases h0
      exact fin_ok hX rfl ⟨[], _, _, ⟨rfl, rfl⟩, rfl, rfl, rfl, rfl, by cbv; try simp⟩
    · rw [hc3]
      cbv
      cases h0
      exact fin_ok hX rfl ⟨[], _, _, ⟨rfl, rfl⟩, rfl, rfl, rfl, rfl, by cbv; try simp⟩
  · rw [hc2]
    cbv
    cases h1
    try dsimp only at h0
    replace h0 := condF h0 rfl
    cases h0
    exact fin_ok hX rfl ⟨[], _, _, ⟨rfl, rfl⟩, rfl, rfl, rfl, rfl, by cbv; try simp⟩
set_option maxHeartbeats 40000000 in
theorem fn_bounds_plus {O0 : Ops} (hO0 : O0 = std) {a_1 : Int} {b_1 : Int} {r1 : Int} (h : m_bounds_plus O0 a_1 b_1 = some r1) :
    Fn Try.prog 49 [.c (.int .i64 a_1), .c (.int .i64 b_1)] [] (fun v c => v = .c (.int .i64 r1) ∧ c = []) := by
  refine fn_run tab_holds eqs_holds mixed [] Try.func49 (by kernel_rfl) (by kernel_rfl) (Nat.le_of_ble_eq_true rfl) ?_
  intro O X hO hX
  rw [hO0, ← hO] at h
  unfold m_bounds_plus at h
  have h0 := h; clear h
  cbv
  obtain ⟨x23, h1, h0⟩ := bindS h0
  rcases condS h1 with ⟨hc1, h1⟩ | ⟨hc1, h1⟩
  · rw [hc1]
    cbv
    cases h1
    try dsimp only at h0
    replace h0 := condT h0 rfl
    cases h0
    exact fin_ok hX rfl ⟨[], _, _, ⟨rfl, rfl⟩, rfl, rfl, rfl, rfl, by cbv; try simp⟩
  · rw [hc1]
    cbv
    cases h1
    try dsimp only at h0
    rcases condS h0 with ⟨hc2, h0⟩ | ⟨hc2, h0⟩
    · rw [hc2]
      cbv
      cases h0
      exact fin_ok hX rfl ⟨[], _, _, ⟨rfl, rfl⟩, rfl, rfl, rfl, rfl, by cbv; try simp⟩
    · rw [hc2]
      cbv
      obtain ⟨⟨n2, n3⟩, hv, h0⟩ := bindS h0
      try dsimp only at h0
      refine call_is hO hX (fn_integer_Add hO hv) (by kernel_rfl) [] rfl trivial rfl ?_
      cbv
      cases h0
      exact fin_ok hX rfl ⟨[], _, _, ⟨rfl, rfl⟩, rfl, rfl, rfl, rfl, by cbv; try simp⟩
set_option maxHeartbeats 40000000 in
theorem fn_slices_Min {O0 : Ops} (hO0 : O0 = std) {x_1 : List Int} {r1 : Int} (h : m_slices_Min O0 x_1 = some r1) :
    Fn Try.prog 58 [.c (.sl 0)] [.arr false .i1 x_1] (fun v c => v = .c (.int .i64 r1) ∧ c = []) := by
  refine fn_run tab_holds eqs_holds mixed [] Try.func58 (by kernel_rfl) (by kernel_rfl) (Nat.le_of_ble_eq_true rfl) ?_
  intro O X hO hX
  rw [hO0, ← hO] at h
  unfold m_slices_Min at h
  have h0 := h; clear h
  cbv
  rcases condS h0 with ⟨hc1, h0⟩ | ⟨hc1, h0⟩
  · rw [hc1]
    cbv
    cases h0
  · rw [hc1]
    cbv
    obtain ⟨hg2, h0⟩ := grdS h0
    refine ⟨idx_of hO hg2, ?_⟩
    obtain ⟨hg3, h0⟩ := grdS h0
    refine ⟨kin_of hO hg3, ?_⟩
    obtain ⟨m12, hi, h0⟩ := bindS h0
    obtain ⟨I1, hI1, hi⟩ := loopS hi
    refine loop1 tab_holds eqs_holds mixed [] hO hX I1 (fun y => [(3, .c (.int .i64 y.2.1)), (4, .c (.int .i64 y.2.2))]) (fun _ => []) (fun y => y.1) _ (by kernel_rfl) hi (by cbv; try simp) ?_
    refine allp ?_
    intro n1
    refine allp ?_
    intro m11
    intro i1 hi
    cbv
    rw [hI1] at hi
    obtain ⟨n1, rfl, x1, h1, hi1⟩ := iterS hi
    unfold m_slices_Min_L1 at h1
    try dsimp only at h1
    rcases condS h1 with ⟨hc4, h1⟩ | ⟨hc4, h1⟩
    · rw [hc4]
      cbv
      obtain ⟨hg5, h1⟩ := grdS h1
      refine ⟨idx_of hO hg5, ?_⟩
      obtain ⟨hg6, h1⟩ := grdS h1
      refine ⟨kin_of hO hg6, ?_⟩
      obtain ⟨hg7, h1⟩ := grdS h1
      refine ⟨inr_of hO hg7, ?_⟩
      cases h1
      exact ⟨_, [0], nextI hI1 hi1, by cbv; try simp, by first | exact Nat.lt_succ_self _ | omega⟩
    · rw [hc4]
      cbv
      cases h1
      cases exitI hi1
      try dsimp only at h0
      cases h0
      exact fin_ok hX rfl ⟨[], _, _, ⟨rfl, rfl⟩, rfl, rfl, rfl, rfl, by cbv; try simp⟩
set_option maxHeartbeats 40000000 in
theorem fn_bounds_tight_1 {O0 : Ops} (hO0 : O0 = std) {row_1 : List Int} {r1 : Bool} (h : m_bounds_tight_1 O0 row_1 = some r1) :
    Fn Try.prog 57 [.c (.sl 0)] [.arr false .i1 row_1] (fun v c => v = .c (.bool r1) ∧ c = []) := by
  refine fn_run tab_holds eqs_holds mixed [] Try.func57 (by kernel_rfl) (by kernel_rfl) (Nat.le_of_ble_eq_true rfl) ?_
  intro O X hO hX
  rw [hO0, ← hO] at h
  unfold m_bounds_tight_1 at h
  have h0 := h; clear h
  cbv
  obtain ⟨n8, hv, h0⟩ := bindS h0
  refine call_is hO hX (fn_slices_Min hO hv) (by kernel_rfl) [0] rfl ⟨rfl, rfl, trivial⟩ rfl ?_
  cbv
  cases h0
  exact fin_ok hX rfl ⟨[], _, _, ⟨rfl, rfl⟩, rfl, rfl, rfl, rfl, by cbv; try simp⟩
set_option maxHeartbeats 40000000 in
theorem fn_slices_IndexFunc_2 {O0 : Ops} (hO0 : O0 = std) {s_1 : List (List Int)} {r1 : Int} (h : m_slices_IndexFunc_2 O0 s_1 = some r1) :
    Fn Try.prog 47 [.c (.sl 0), .c (.fn 57 [])] [.mat false s_1] (fun v c => v = .c (.int .i64 r1) ∧ c = []) := by
  refine fn_run tab_holds eqs_holds mixed [] Try.func47 (by kernel_rfl) (by kernel_rfl) (Nat.le_of_ble_eq_true rfl) ?_
  intro O X hO hX
  rw [hO0, ← hO] at h
  unfold m_slices_IndexFunc_2 at h
  have h0 := h; clear h
  cbv
  obtain ⟨e1, hi, h0⟩ := bindS h0
  obtain ⟨I1, hI1, hi⟩ := loopS hi
  refine loop1 tab_holds eqs_holds mixed [] hO hX I1 (fun y => [(8, .c (.int .i64 y.2))]) (fun _ => []) (fun y => y.1) _ (by kernel_rfl) hi (by cbv; try simp) ?_
  refine allp ?_
  intro n1
  intro x30 hi
  cbv
  rw [hI1] at hi
  obtain ⟨n1, rfl, x1, h1, hi1⟩ := iterS hi
  unfold m_slices_IndexFunc_2_L1 at h1
  try dsimp only at h1
  rcases condS h1 with ⟨hc1, h1⟩ | ⟨hc1, h1⟩
  · rw [hc1]
    cbv
    obtain ⟨hg2, h1⟩ := grdS h1
    refine ⟨idx_of hO hg2, ?_⟩
    obtain ⟨hg3, h1⟩ := grdS h1
    refine ⟨kin_of hO hg3, ?_⟩
    obtain ⟨b5, hv, h1⟩ := bindS h1
    refine call_is hO hX (fn_bounds_tight_1 hO hv) (by kernel_rfl) [1] rfl ⟨rfl, rfl, trivial⟩ rfl ?_
    cbv
    rcases condS h1 with ⟨hc4, h1⟩ | ⟨hc4, h1⟩
    · rw [hc4]
      cbv
      cases h1
      cases exitI hi1
      try dsimp only at h0
      cases h0
      exact fin_ok hX rfl ⟨[], _, _, ⟨rfl, rfl⟩, rfl, rfl, rfl, rfl, by cbv; try simp⟩
    · rw [hc4]
      cbv
      obtain ⟨hg5, h1⟩ := grdS h1
      refine ⟨inr_of hO hg5, ?_⟩
      cases h1
      exact ⟨_, [0], nextI hI1 hi1, by cbv; try simp, by first | exact Nat.lt_succ_self _ | omega⟩
  · rw [hc1]
    cbv
    cases h1
    cases exitI hi1
    try dsimp only at h0
    cases h0
    exact fin_ok hX rfl ⟨[], _, _, ⟨rfl, rfl⟩, rfl, rfl, rfl, rfl, by cbv; try simp⟩
set_option maxHeartbeats 40000000 in
theorem fn_slices_ContainsFunc_2 {O0 : Ops} (hO0 : O0 = std) {s_1 : List (List Int)} {r1 : Bool} (h : m_slices_ContainsFunc_2 O0 s_1 = some r1) :
    Fn Try.prog 23 [.c (.sl 0), .c (.fn 57 [])] [.mat false s_1] (fun v c => v = .c (.bool r1) ∧ c = []) := by
  refine fn_run tab_holds eqs_holds mixed [] Try.func23 (by kernel_rfl) (by kernel_rfl) (Nat.le_of_ble_eq_true rfl) ?_
  intro O X hO hX
  rw [hO0, ← hO] at h
  unfold m_slices_ContainsFunc_2 at h
  have h0 := h; clear h
  cbv
  obtain ⟨n9, hv, h0⟩ := bindS h0
  refine call_is hO hX (fn_slices_IndexFunc_2 hO hv) (by kernel_rfl) [0] rfl ⟨rfl, rfl, trivial⟩ rfl ?_
  cbv
  cases h0
  exact fin_ok hX rfl ⟨[], _, _, ⟨rfl, rfl⟩, rfl, rfl, rfl, rfl, by cbv; try simp⟩
set_option maxHeartbeats 40000000 in
theorem fn_bounds_tight {O0 : Ops} (hO0 : O0 = std) {n_1 : Int} {l_1 : List (Int × Int × Int)} {r1 : List (List Int)} {r2 : Bool} (h : m_bounds_tight O0 n_1 l_1 = some (r1, r2)) :
    Fn Try.prog 43 [.c (.int .i64 n_1), .c (.sl 0)] [.arr false .i3 l_1] (fun v c => v = .tup [.one (.sl 1), .one (.bool r2)] ∧ c = [.mat true r1]) := by
  refine fn_run tab_holds eqs_holds mixed [(11, (.seg 1 [0, 1, 2, 3, 4, 5, 6, 7, 8, 9, 10, 11, 12, 13, 14, 15, 16, 17, 18, 19] .fin), [20]), (22, (.seg 1 [0, 1, 2, 3, 4, 5, 6, 7, 8, 9, 10, 11, 12, 13, 14, 15, 16, 17, 18, 19, 20, 21, 22, 23, 24, 25] (.seg 2 [26] (.seg 1 [27, 28] .fin))), [29])] Try.func43 (by kernel_rfl) (by kernel_rfl) (Nat.le_of_ble_eq_true rfl) ?_
  intro O X hO hX
  rw [hO0, ← hO] at h
  unfold m_bounds_tight at h
  have h0 := h; clear h
  cbv
  obtain ⟨hg1, h0⟩ := grdS h0
  refine ⟨rng_of hO hg1, ?_⟩
  refine ⟨rng_of hO hg1, ?_⟩
  obtain ⟨hg2, h0⟩ := grdS h0
  refine ⟨room_of hO hg2, ?_⟩
  obtain ⟨m2, hi, h0⟩ := bindS h0
  obtain ⟨I1, hI1, hi⟩ := loopS hi
  refine loop1 tab_holds eqs_holds mixed [(11, (.seg 1 [0, 1, 2, 3, 4, 5, 6, 7, 8, 9, 10, 11, 12, 13, 14, 15, 16, 17, 18, 19] .fin), [20]), (22, (.seg 1 [0, 1, 2, 3, 4, 5, 6, 7, 8, 9, 10, 11, 12, 13, 14, 15, 16, 17, 18, 19, 20, 21, 22, 23, 24, 25] (.seg 2 [26] (.seg 1 [27, 28] .fin))), [29])] hO hX I1 (fun y => [(4, .junk), (15, .junk), (16, .junk), (18, .c (.int .i64 y.2.1))]) (fun y => [(2, .mtw 26 3 y.2.2)]) (fun y => y.1) _ (by kernel_rfl) hi (by cbv; try simp) ?_
  refine allp ?_
  intro n1
  refine allp ?_
  intro x16
  intro m1 hi
  cbv
  rw [hI1] at hi
  obtain ⟨n1, rfl, x1, h1, hi1⟩ := iterS hi
  unfold m_bounds_tight_L1 at h1
  try dsimp only at h1
  rcases condS h1 with ⟨hc3, h1⟩ | ⟨hc3, h1⟩
  · rw [hc3]
    cbv
    obtain ⟨l2, hv, h1⟩ := bindS h1
    refine call_is hO hX (fn_rep_i1 hO hv) (by kernel_rfl) [3] rfl ⟨rfl, rfl, trivial⟩ rfl ?_
    cbv
    obtain ⟨hg4, h1⟩ := grdS h1
    refine ⟨idx_of hO hg4, ?_⟩
    obtain ⟨hg5, h1⟩ := grdS h1
    refine ⟨kin_of hO hg5, ?_⟩
    obtain ⟨hg6, h1⟩ := grdS h1
    refine ⟨idx_of hO hg6, ?_⟩
    obtain ⟨hg7, h1⟩ := grdS h1
    refine ⟨kin_of hO hg7, ?_⟩
    obtain ⟨hg8, h1⟩ := grdS h1
    refine ⟨idx_of hO hg8, ?_⟩
    obtain ⟨hg9, h1⟩ := grdS h1
    refine ⟨kin_of hO hg9, ?_⟩
    obtain ⟨hg10, h1⟩ := grdS h1
    refine ⟨inr_of hO hg10, ?_⟩
    cases h1
    exact ⟨_, [0, 1, 5], nextI hI1 hi1, by cbv; try simp, by first | exact Nat.lt_succ_self _ | omega⟩
  · rw [hc3]
    cbv
    cases h1
    cases exitI hi1
    try dsimp only at h0
    obtain ⟨m4, hi, h0⟩ := bindS h0
    obtain ⟨I2, hI2, hi⟩ := loopS hi
    refine loop1 tab_holds eqs_holds mixed [(11, (.seg 1 [0, 1, 2, 3, 4, 5, 6, 7, 8, 9, 10, 11, 12, 13, 14, 15, 16, 17, 18, 19] .fin), [20]), (22, (.seg 1 [0, 1, 2, 3, 4, 5, 6, 7, 8, 9, 10, 11, 12, 13, 14, 15, 16, 17, 18, 19, 20, 21, 22, 23, 24, 25] (.seg 2 [26] (.seg 1 [27, 28] .fin))), [29])] hO hX I2 (fun y => [(36, .c (.int .i64 y.2.1))]) (fun y => [(2, .mtw 26 3 y.2.2)]) (fun y => y.1) _ (by kernel_rfl) hi (by cbv; try simp) ?_
    refine allp ?_
    intro n2
    refine allp ?_
    intro x18
    intro m3 hi
    cbv
    rw [hI2] at hi
    obtain ⟨n2, rfl, x2, h1, hi2⟩ := iterS hi
    unfold m_bounds_tight_L2 at h1
    try dsimp only at h1
    rcases condS h1 with ⟨hc11, h1⟩ | ⟨hc11, h1⟩
    · rw [hc11]
      cbv
      obtain ⟨hg12, h1⟩ := grdS h1
      refine ⟨idx_of hO hg12, ?_⟩
      obtain ⟨hg13, h1⟩ := grdS h1
      refine ⟨kin_of hO hg13, ?_⟩
      obtain ⟨hg14, h1⟩ := grdS h1
      refine ⟨idx_of hO hg14, ?_⟩
      obtain ⟨hg15, h1⟩ := grdS h1
      refine ⟨kin_of hO hg15, ?_⟩
      refine ⟨idx_of hO hg14, ?_⟩
      refine ⟨kin_of hO hg15, ?_⟩
      obtain ⟨hg16, h1⟩ := grdS h1
      refine ⟨idx_of hO hg16, ?_⟩
      obtain ⟨hg17, h1⟩ := grdS h1
      refine ⟨kin_of hO hg17, ?_⟩
      refine ⟨idx_of hO hg16, ?_⟩
      refine ⟨kin_of hO hg17, ?_⟩
      obtain ⟨hg18, h1⟩ := grdS h1
      refine ⟨inr_of hO hg18, ?_⟩
      cases h1
      exact ⟨_, [0, 1, 2], nextI hI2 hi2, by cbv; try simp, by first | exact Nat.lt_succ_self _ | omega⟩
    · rw [hc11]
      cbv
      cases h1
      cases exitI hi2
      try dsimp only at h0
      obtain ⟨e1, hi, h0⟩ := bindS h0
      obtain ⟨I5, hI5, hi⟩ := loopS hi
      refine loop1 tab_holds eqs_holds mixed [(11, (.seg 1 [0, 1, 2, 3, 4, 5, 6, 7, 8, 9, 10, 11, 12, 13, 14, 15, 16, 17, 18, 19] .fin), [20]), (22, (.seg 1 [0, 1, 2, 3, 4, 5, 6, 7, 8, 9, 10, 11, 12, 13, 14, 15, 16, 17, 18, 19, 20, 21, 22, 23, 24, 25] (.seg 2 [26] (.seg 1 [27, 28] .fin))), [29])] hO hX I5 (fun y => [(62, .c (.int .i64 y.2.1))]) (fun y => [(2, .mtw 26 3 y.2.2)]) (fun y => y.1) _ (by kernel_rfl) hi (by cbv; try simp) ?_
      refine allp ?_
      intro n5
      refine allp ?_
      intro x32
      intro m13 hi
      cbv
      rw [hI5] at hi
      obtain ⟨n5, rfl, x5, h1, hi5⟩ := iterS hi
      unfold m_bounds_tight_L5 at h1
      try dsimp only at h1
      rcases condS h1 with ⟨hc19, h1⟩ | ⟨hc19, h1⟩
      · rw [hc19]
        cbv
        obtain ⟨m19, hi, h1⟩ := bindS h1
        obtain ⟨I4, hI4, hi⟩ := loopS hi
        refine loop1 tab_holds eqs_holds mixed [(11, (.seg 1 [0, 1, 2, 3, 4, 5, 6, 7, 8, 9, 10, 11, 12, 13, 14, 15, 16, 17, 18, 19] .fin), [20]), (22, (.seg 1 [0, 1, 2, 3, 4, 5, 6, 7, 8, 9, 10, 11, 12, 13, 14, 15, 16, 17, 18, 19, 20, 21, 22, 23, 24, 25] (.seg 2 [26] (.seg 1 [27, 28] .fin))), [29])] hO hX I4 (fun y => [(66, .c (.int .i64 y.2.1))]) (fun y => [(2, .mtw 26 3 y.2.2)]) (fun y => y.1) _ (by kernel_rfl) hi (by cbv; try simp) ?_
        refine allp ?_
        intro n4
        refine allp ?_
        intro x36
        intro m16 hi
        cbv
        rw [hI4] at hi
        obtain ⟨n4, rfl, x4, h2, hi4⟩ := iterS hi
        unfold m_bounds_tight_L4 at h2
        try dsimp only at h2
        rcases condS h2 with ⟨hc20, h2⟩ | ⟨hc20, h2⟩
        · rw [hc20]
          cbv
          obtain ⟨m18, hi, h2⟩ := bindS h2
          obtain ⟨I3, hI3, hi⟩ := loopS hi
          refine loop1 tab_holds eqs_holds mixed [(11, (.seg 1 [0, 1, 2, 3, 4, 5, 6, 7, 8, 9, 10, 11, 12, 13, 14, 15, 16, 17, 18, 19] .fin), [20]), (22, (.seg 1 [0, 1, 2, 3, 4, 5, 6, 7, 8, 9, 10, 11, 12, 13, 14, 15, 16, 17, 18, 19, 20, 21, 22, 23, 24, 25] (.seg 2 [26] (.seg 1 [27, 28] .fin))), [29])] hO hX I3 (fun y => [(70, .c (.int .i64 y.2.1))]) (fun y => [(2, .mtw 26 3 y.2.2)]) (fun y => y.1) _ (by kernel_rfl) hi (by cbv; try simp) ?_
          refine allp ?_
          intro n3
          refine allp ?_
          intro x38
          intro m17 hi
          cbv
          rw [hI3] at hi
          obtain ⟨n3, rfl, x3, h3, hi3⟩ := iterS hi
          unfold m_bounds_tight_L3 at h3
          try dsimp only at h3
          rcases condS h3 with ⟨hc21, h3⟩ | ⟨hc21, h3⟩
          · rw [hc21]
            cbv
            obtain ⟨hg22, h3⟩ := grdS h3
            refine ⟨idx_of hO hg22, ?_⟩
            obtain ⟨hg23, h3⟩ := grdS h3
            refine ⟨kin_of hO hg23, ?_⟩
            refine ⟨idx_of hO hg22, ?_⟩
            refine ⟨kin_of hO hg23, ?_⟩
            obtain ⟨hg24, h3⟩ := grdS h3
            refine ⟨idx_of hO hg24, ?_⟩
            obtain ⟨hg25, h3⟩ := grdS h3
            refine ⟨kin_of hO hg25, ?_⟩
            refine ⟨idx_of hO hg22, ?_⟩
            refine ⟨kin_of hO hg23, ?_⟩
            obtain ⟨hg26, h3⟩ := grdS h3
            refine ⟨idx_of hO hg26, ?_⟩
            obtain ⟨hg27, h3⟩ := grdS h3
            refine ⟨kin_of hO hg27, ?_⟩
            obtain ⟨hg28, h3⟩ := grdS h3
            refine ⟨idx_of hO hg28, ?_⟩
            obtain ⟨hg29, h3⟩ := grdS h3
            refine ⟨kin_of hO hg29, ?_⟩
            obtain ⟨hg30, h3⟩ := grdS h3
            refine ⟨idx_of hO hg30, ?_⟩
            obtain ⟨hg31, h3⟩ := grdS h3
            refine ⟨kin_of hO hg31, ?_⟩
            obtain ⟨n13, hv, h3⟩ := bindS h3
            refine call_is hO hX (fn_bounds_plus hO hv) (by kernel_rfl) [] rfl trivial rfl ?_
            cbv
            refine ⟨idx_of hO hg24, ?_⟩
            refine ⟨kin_of hO hg25, ?_⟩
            obtain ⟨hg32, h3⟩ := grdS h3
            refine ⟨inr_of hO hg32, ?_⟩
            cases h3
            exact ⟨_, [0, 1, 2], nextI hI3 hi3, by cbv; try simp, by first | exact Nat.lt_succ_self _ | omega⟩
          · rw [hc21]
            cbv
            cases h3
            cases exitI hi3
            try dsimp only at h2
            obtain ⟨hg33, h2⟩ := grdS h2
            refine ⟨inr_of hO hg33, ?_⟩
            cases h2
            exact ⟨_, [0, 1, 2], nextI hI4 hi4, by cbv; try simp, by first | exact Nat.lt_succ_self _ | omega⟩
        · rw [hc20]
          cbv
          cases h2
          cases exitI hi4
          try dsimp only at h1
          obtain ⟨b7, hv, h1⟩ := bindS h1
          refine call_is hO hX (fn_slices_ContainsFunc_2 hO hv) (by kernel_rfl) [2] rfl ⟨rfl, rfl, trivial⟩ rfl ?_
          cbv
          rcases condS h1 with ⟨hc34, h1⟩ | ⟨hc34, h1⟩
          · rw [hc34]
            cbv
            cases h1
            cases exitI hi5
            try dsimp only at h0
            cases h0
            refine fin_frz hX 3 ?_
            cbv
            exact fin_ok hX rfl ⟨[3], _, _, ⟨rfl, rfl⟩, rfl, rfl, rfl, rfl, by cbv; try simp⟩
          · rw [hc34]
            cbv
            obtain ⟨hg35, h1⟩ := grdS h1
            refine ⟨inr_of hO hg35, ?_⟩
            cases h1
            exact ⟨_, [0, 1, 2], nextI hI5 hi5, by cbv; try simp, by first | exact Nat.lt_succ_self _ | omega⟩
      · rw [hc19]
        cbv
        cases h1
        cases exitI hi5
        try dsimp only at h0
        obtain ⟨e1, hi, h0⟩ := bindS h0
        obtain ⟨I6, hI6, hi⟩ := loopS hi
        refine loop1 tab_holds eqs_holds mixed [(11, (.seg 1 [0, 1, 2, 3, 4, 5, 6, 7, 8, 9, 10, 11, 12, 13, 14, 15, 16, 17, 18, 19] .fin), [20]), (22, (.seg 1 [0, 1, 2, 3, 4, 5, 6, 7, 8, 9, 10, 11, 12, 13, 14, 15, 16, 17, 18, 19, 20, 21, 22, 23, 24, 25] (.seg 2 [26] (.seg 1 [27, 28] .fin))), [29])] hO hX I6 (fun y => [(108, .c (.int .i64 y.2))]) (fun _ => []) (fun y => y.1) _ (by kernel_rfl) hi (by cbv; try simp) ?_
        refine allp ?_
        intro n6
        intro x39 hi
        cbv
        rw [hI6] at hi
        obtain ⟨n6, rfl, x6, h1, hi6⟩ := iterS hi
        unfold m_bounds_tight_L6 at h1
        try dsimp only at h1
        rcases condS h1 with ⟨hc36, h1⟩ | ⟨hc36, h1⟩
        · rw [hc36]
          cbv
          obtain ⟨hg37, h1⟩ := grdS h1
          refine ⟨idx_of hO hg37, ?_⟩
          obtain ⟨hg38, h1⟩ := grdS h1
          refine ⟨kin_of hO hg38, ?_⟩
          obtain ⟨hg39, h1⟩ := grdS h1
          refine ⟨idx_of hO hg39, ?_⟩
          obtain ⟨hg40, h1⟩ := grdS h1
          refine ⟨kin_of hO hg40, ?_⟩
          rcases condS h1 with ⟨hc41, h1⟩ | ⟨hc41, h1⟩
          · rw [hc41]
            cbv
            cases h1
            cases exitI hi6
            try dsimp only at h0
            cases h0
            refine fin_frz hX 3 ?_
            cbv
            exact fin_ok hX rfl ⟨[3], _, _, ⟨rfl, rfl⟩, rfl, rfl, rfl, rfl, by cbv; try simp⟩
          · rw [hc41]
            cbv
            obtain ⟨hg42, h1⟩ := grdS h1
            refine ⟨inr_of hO hg42, ?_⟩
            cases h1
            exact ⟨_, [0, 1, 2], nextI hI6 hi6, by cbv; try simp, by first | exact Nat.lt_succ_self _ | omega⟩
        · rw [hc36]
          cbv
          cases h1
          cases exitI hi6
          try dsimp only at h0
          cases h0
          refine fin_frz hX 2 ?_
          cbv
          exact fin_ok hX rfl ⟨[2], _, _, ⟨rfl, rfl⟩, rfl, rfl, rfl, rfl, by cbv; try simp⟩
end Go.Proofs.Ytegmjohhgedakaa
