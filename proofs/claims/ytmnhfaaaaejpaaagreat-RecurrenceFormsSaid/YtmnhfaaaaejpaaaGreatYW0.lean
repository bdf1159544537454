/-
  The code does what its models say (printed by lift.py).
  The code does what its models say (printed by lift.py).
  The code does what its models say (printed by lift.py).
  The code does what its models say (printed by lift.py).
  The code does what its models say (printed by lift.py).
-/
import Derived.Test.YtmnhfaaaaejpaaaGreatYM
import Derived.Test.YtmnhfaaaaejpaaaGreatManWL
import Derived.Test.YtmnhfaaaaejpaaaGreatSrtN
namespace Go.Proofs.YtmnhfaaaaejpaaaGreat
open Go.RowKit
set_option maxRecDepth 100000

set_option maxHeartbeats 40000000 in
theorem fn_recurrence_local {O0 : Ops} (hO0 : O0 = std) {l_1 : Int} {r1 : Bool} (h : m_recurrence_local O0 l_1 = some r1) :
    Fn Tryz.prog 25 [.c (.int .i64 l_1)] [] (fun v c => v = .c (.bool r1) ∧ c = []) := by
  refine fn_run tab_holds eqs_holds mixed [] Tryz.func25 (by kernel_rfl) (by kernel_rfl) (Nat.le_of_ble_eq_true rfl) ?_
  intro O X hO hX
  rw [hO0, ← hO] at h
  unfold m_recurrence_local at h
  have h0 := h; clear h
  cbv
  obtain ⟨x14, h1, h0⟩ := bindS h0
  rcases condS h1 with ⟨hc1, h1⟩ | ⟨hc1, h1⟩
  · rw [hc1]
    cbv
    cases h1
    try dsimp only at h0
    cases h0
    exact fin_ok hX rfl ⟨[], _, _, ⟨rfl, rfl⟩, rfl, rfl, rfl, rfl, by cbv; try simp⟩
  · rw [hc1]
    cbv
    cases h1
    try dsimp only at h0
    cases h0
    exact fin_ok hX rfl ⟨[], _, _, ⟨rfl, rfl⟩, rfl, rfl, rfl, rfl, by cbv; try simp⟩
end Go.Proofs.YtmnhfaaaaejpaaaGreat
namespace Go.Proofs.YtmnhfaaaaejpaaaGreat
open Go.RowKit
set_option maxRecDepth 100000

set_option maxHeartbeats 40000000 in
theorem fn_recurrence_between_1 {O0 : Ops} (hO0 : O0 = std) {n_1 : Int} {x_1 : Int} {x_2 : Int} {x_3 : Bool} {r1 : Bool} (h : m_recurrence_between_1 O0 n_1 x_1 x_2 x_3 = some r1) :
    Fn Tryz.prog 52 [.c (.int .i64 n_1), .c (.ptr 0 0), .c (.ptr 1 0), .c (.ptr 2 0)] [.ro 3 [.int .i64 x_1], .ro 3 [.int .i64 x_2], .ro 4 [.bool x_3]] (fun v c => v = .c (.bool r1) ∧ c = []) := by
  refine fn_run tab_holds eqs_holds mixed [] Tryz.func52 (by kernel_rfl) (by kernel_rfl) (Nat.le_of_ble_eq_true rfl) ?_
  intro O X hO hX
  rw [hO0, ← hO] at h
  unfold m_recurrence_between_1 at h
  have h0 := h; clear h
  cbv
  obtain ⟨⟨x32, x33⟩, h1, h0⟩ := bindS h0
  rcases condS h1 with ⟨hc1, h1⟩ | ⟨hc1, h1⟩
  · rw [hc1]
    cbv
    rcases condS h1 with ⟨hc2, h1⟩ | ⟨hc2, h1⟩
    · rw [hc2]
      cbv
      rcases condS h1 with ⟨hc3, h1⟩ | ⟨hc3, h1⟩
      · rw [hc3]
        cbv
        obtain ⟨hg4, h1⟩ := grdS h1
        refine ⟨inr_of hO hg4, ?_⟩
        obtain ⟨hg5, h1⟩ := grdS h1
        refine ⟨inr_of hO hg5, ?_⟩
        cases h1
        try dsimp only at h0
        cases h0
        exact fin_ok hX rfl ⟨[], _, _, ⟨rfl, rfl⟩, rfl, rfl, rfl, rfl, by cbv; try simp⟩
      · rw [hc3]
        cbv
        obtain ⟨hg6, h1⟩ := grdS h1
        refine ⟨inr_of hO hg6, ?_⟩
        cases h1
        try dsimp only at h0
        cases h0
        exact fin_ok hX rfl ⟨[], _, _, ⟨rfl, rfl⟩, rfl, rfl, rfl, rfl, by cbv; try simp⟩
    · rw [hc2]
      cbv
      cases h1
      try dsimp only at h0
      cases h0
      exact fin_ok hX rfl ⟨[], _, _, ⟨rfl, rfl⟩, rfl, rfl, rfl, rfl, by cbv; try simp⟩
  · rw [hc1]
    cbv
    rcases condS h1 with ⟨hc7, h1⟩ | ⟨hc7, h1⟩
    · rw [hc7]
      cbv
      rcases condS h1 with ⟨hc8, h1⟩ | ⟨hc8, h1⟩
      · rw [hc8]
        cbv
        rcases condS h1 with ⟨hc9, h1⟩ | ⟨hc9, h1⟩
        · rw [hc9]
          cbv
          obtain ⟨hg10, h1⟩ := grdS h1
          refine ⟨inr_of hO hg10, ?_⟩
          obtain ⟨hg11, h1⟩ := grdS h1
          refine ⟨inr_of hO hg11, ?_⟩
          cases h1
          try dsimp only at h0
          cases h0
          exact fin_ok hX rfl ⟨[], _, _, ⟨rfl, rfl⟩, rfl, rfl, rfl, rfl, by cbv; try simp⟩
        · rw [hc9]
          cbv
          obtain ⟨hg12, h1⟩ := grdS h1
          refine ⟨inr_of hO hg12, ?_⟩
          cases h1
          try dsimp only at h0
          cases h0
          exact fin_ok hX rfl ⟨[], _, _, ⟨rfl, rfl⟩, rfl, rfl, rfl, rfl, by cbv; try simp⟩
      · rw [hc8]
        cbv
        cases h1
        try dsimp only at h0
        cases h0
        exact fin_ok hX rfl ⟨[], _, _, ⟨rfl, rfl⟩, rfl, rfl, rfl, rfl, by cbv; try simp⟩
    · rw [hc7]
      cbv
      cases h1
      try dsimp only at h0
      cases h0
      exact fin_ok hX rfl ⟨[], _, _, ⟨rfl, rfl⟩, rfl, rfl, rfl, rfl, by cbv; try simp⟩
set_option maxHeartbeats 40000000 in
theorem fn_slices_IndexFunc {O0 : Ops} (hO0 : O0 = std) {s_1 : List Int} {c_1 : Int} {c_2 : Int} {c_3 : Bool} {r1 : Int} (h : m_slices_IndexFunc O0 s_1 c_1 c_2 c_3 = some r1) :
    Fn Tryz.prog 74 [.c (.sl 0), .c (.fn 52 [1, 2, 3])] [.arr false .i1 s_1, .ro 3 [.int .i64 c_1], .ro 3 [.int .i64 c_2], .ro 4 [.bool c_3]] (fun v c => v = .c (.int .i64 r1) ∧ c = []) := by
  refine fn_run tab_holds eqs_holds mixed [] Tryz.func74 (by kernel_rfl) (by kernel_rfl) (Nat.le_of_ble_eq_true rfl) ?_
  intro O X hO hX
  rw [hO0, ← hO] at h
  unfold m_slices_IndexFunc at h
  have h0 := h; clear h
  cbv
  obtain ⟨e1, hi, h0⟩ := bindS h0
  obtain ⟨I1, hI1, hi⟩ := loopS hi
  refine loop1 tab_holds eqs_holds mixed [] hO hX I1 (fun y => [(8, .c (.int .i64 y.2))]) (fun _ => []) (fun y => y.1) _ (by kernel_rfl) hi (by cbv; try simp) ?_
  refine allp ?_
  intro n1
  intro x20 hi
  cbv
  rw [hI1] at hi
  obtain ⟨n1, rfl, x1, h1, hi1⟩ := iterS hi
  unfold m_slices_IndexFunc_L1 at h1
  try dsimp only at h1
  rcases condS h1 with ⟨hc1, h1⟩ | ⟨hc1, h1⟩
  · rw [hc1]
    cbv
    obtain ⟨hg2, h1⟩ := grdS h1
    refine ⟨idx_of hO hg2, ?_⟩
    obtain ⟨hg3, h1⟩ := grdS h1
    refine ⟨kin_of hO hg3, ?_⟩
    obtain ⟨b2, hv, h1⟩ := bindS h1
    refine call_is hO hX (fn_recurrence_between_1 hO hv) (by kernel_rfl) [1, 2, 3] rfl ⟨rfl, rfl, rfl, rfl, rfl, rfl, trivial⟩ rfl ?_
    cbv
    rcases condS h1 with ⟨hc4, h1⟩ | ⟨hc4, h1⟩
    · rw [hc4]
      cbv
      cases h1
      cases exitI hi1
      try dsimp only at h0
      cases h0
      exact fin_ok hX rfl ⟨[], _, _, ⟨rfl, rfl⟩, rfl, rfl, rfl, rfl, by cbv; try simp⟩
    · rw [hc4]
      cbv
      obtain ⟨hg5, h1⟩ := grdS h1
      refine ⟨inr_of hO hg5, ?_⟩
      cases h1
      exact ⟨_, [0, 1, 2, 3], nextI hI1 hi1, by cbv; try simp, by first | exact Nat.lt_succ_self _ | omega⟩
  · rw [hc1]
    cbv
    cases h1
    cases exitI hi1
    try dsimp only at h0
    cases h0
    exact fin_ok hX rfl ⟨[], _, _, ⟨rfl, rfl⟩, rfl, rfl, rfl, rfl, by cbv; try simp⟩
set_option maxHeartbeats 40000000 in
theorem fn_slices_ContainsFunc {O0 : Ops} (hO0 : O0 = std) {s_1 : List Int} {c_1 : Int} {c_2 : Int} {c_3 : Bool} {r1 : Bool} (h : m_slices_ContainsFunc O0 s_1 c_1 c_2 c_3 = some r1) :
    Fn Tryz.prog 51 [.c (.sl 0), .c (.fn 52 [1, 2, 3])] [.arr false .i1 s_1, .ro 3 [.int .i64 c_1], .ro 3 [.int .i64 c_2], .ro 4 [.bool c_3]] (fun v c => v = .c (.bool r1) ∧ c = []) := by
  refine fn_run tab_holds eqs_holds mixed [] Tryz.func51 (by kernel_rfl) (by kernel_rfl) (Nat.le_of_ble_eq_true rfl) ?_
  intro O X hO hX
  rw [hO0, ← hO] at h
  unfold m_slices_ContainsFunc at h
  have h0 := h; clear h
  cbv
  obtain ⟨n1, hv, h0⟩ := bindS h0
  refine call_is hO hX (fn_slices_IndexFunc hO hv) (by kernel_rfl) [0, 1, 2, 3] rfl ⟨rfl, rfl, rfl, rfl, rfl, rfl, rfl, rfl, trivial⟩ rfl ?_
  cbv
  cases h0
  exact fin_ok hX rfl ⟨[], _, _, ⟨rfl, rfl⟩, rfl, rfl, rfl, rfl, by cbv; try simp⟩
set_option maxHeartbeats 40000000 in
theorem fn_recurrence_between {O0 : Ops} (hO0 : O0 = std) {low_1 : Int} {high_1 : Int} {signed_1 : Bool} {l_1 : List Int} {r1 : Bool} (h : m_recurrence_between O0 low_1 high_1 signed_1 l_1 = some r1) :
    Fn Tryz.prog 26 [.c (.sl 0), .c (.int .i64 low_1), .c (.int .i64 high_1), .c (.bool signed_1)] [.arr false .i1 l_1] (fun v c => v = .c (.bool r1) ∧ c = []) := by
  refine fn_run tab_holds eqs_holds mixed [] Tryz.func26 (by kernel_rfl) (by kernel_rfl) (Nat.le_of_ble_eq_true rfl) ?_
  intro O X hO hX
  rw [hO0, ← hO] at h
  unfold m_recurrence_between at h
  have h0 := h; clear h
  cbv
  obtain ⟨x36, h1, h0⟩ := bindS h0
  rcases condS h1 with ⟨hc1, h1⟩ | ⟨hc1, h1⟩
  · rw [hc1]
    cbv
    obtain ⟨b3, hv, h1⟩ := bindS h1
    refine call_is hO hX (fn_slices_ContainsFunc hO hv) (by kernel_rfl) [0, 1, 2, 3] rfl ⟨rfl, rfl, rfl, rfl, rfl, rfl, rfl, rfl, trivial⟩ rfl ?_
    cbv
    cases h1
    try dsimp only at h0
    cases h0
    exact fin_ok hX rfl ⟨[], _, _, ⟨rfl, rfl⟩, rfl, rfl, rfl, rfl, by cbv; try simp⟩
  · rw [hc1]
    cbv
    cases h1
    try dsimp only at h0
    cases h0
    exact fin_ok hX rfl ⟨[], _, _, ⟨rfl, rfl⟩, rfl, rfl, rfl, rfl, by cbv; try simp⟩
end Go.Proofs.YtmnhfaaaaejpaaaGreat
namespace Go.Proofs.YtmnhfaaaaejpaaaGreat
open Go.RowKit
set_option maxRecDepth 100000

set_option maxHeartbeats 40000000 in
theorem fn_integer_Div {O0 : Ops} (hO0 : O0 = std) {a_1 : Int} {b_1 : Int} {r1 : Int} {r2 : Int} {r3 : Int} (h : m_integer_Div O0 a_1 b_1 = some (r1, r2, r3)) :
    Fn Tryz.prog 54 [.c (.int .i64 a_1), .c (.int .i64 b_1)] [] (fun v c => v = .tup [.one (.int .i64 r1), .one (.int .i64 r2), .one (.int .i64 r3)] ∧ c = []) := by
  refine fn_run tab_holds eqs_holds mixed [(5, (.seg 1 [0, 1, 2, 3, 4, 5, 6, 7] .fin), [])] Tryz.func54 (by kernel_rfl) (by kernel_rfl) (Nat.le_of_ble_eq_true rfl) ?_
  intro O X hO hX
  rw [hO0, ← hO] at h
  unfold m_integer_Div at h
  have h0 := h; clear h
  cbv
  obtain ⟨e1, h1, h0⟩ := bindS h0
  rcases condS h1 with ⟨hc1, h1⟩ | ⟨hc1, h1⟩
  · rw [hc1]
    cbv
    cases h1
    try dsimp only at h0
    cases h0
    exact fin_ok hX rfl ⟨[], _, _, ⟨rfl, rfl⟩, rfl, rfl, rfl, rfl, by cbv; try simp⟩
  · rw [hc1]
    cbv
    obtain ⟨x51, h2, h1⟩ := bindS h1
    rcases condS h2 with ⟨hc2, h2⟩ | ⟨hc2, h2⟩
    · rw [hc2]
      cbv
      cases h2
      try dsimp only at h1
      rcases condS h1 with ⟨hc3, h1⟩ | ⟨hc3, h1⟩
      · rw [hc3]
        cbv
        cases h1
        try dsimp only at h0
        cases h0
        exact fin_ok hX rfl ⟨[], _, _, ⟨rfl, rfl⟩, rfl, rfl, rfl, rfl, by cbv; try simp⟩
      · rw [hc3]
        cbv
        cases h1
        try dsimp only at h0
        obtain ⟨hg4, h0⟩ := grdS h0
        refine ⟨nz_of hO hg4, ?_⟩
        obtain ⟨hg5, h0⟩ := grdS h0
        refine ⟨inr_of hO hg5, ?_⟩
        obtain ⟨x55, h1, h0⟩ := bindS h0
        refine ⟨nz_of hO hg4, ?_⟩
        rcases condS h1 with ⟨hc6, h1⟩ | ⟨hc6, h1⟩
        · rw [hc6]
          cbv
          cases h1
          try dsimp only at h0
          obtain ⟨⟨q2, r2⟩, h1, h0⟩ := bindS h0
          rcases condS h1 with ⟨hc7, h1⟩ | ⟨hc7, h1⟩
          · rw [hc7]
            cbv
            obtain ⟨hg8, h1⟩ := grdS h1
            refine ⟨inr_of hO hg8, ?_⟩
            obtain ⟨hg9, h1⟩ := grdS h1
            refine ⟨inr_of hO hg9, ?_⟩
            cases h1
            try dsimp only at h0
            cases h0
            exact fin_ok hX rfl ⟨[], _, _, ⟨rfl, rfl⟩, rfl, rfl, rfl, rfl, by cbv; try simp⟩
          · rw [hc7]
            cbv
            cases h1
            try dsimp only at h0
            cases h0
            exact fin_ok hX rfl ⟨[], _, _, ⟨rfl, rfl⟩, rfl, rfl, rfl, rfl, by cbv; try simp⟩
        · rw [hc6]
          cbv
          cases h1
          try dsimp only at h0
          obtain ⟨⟨q2, r2⟩, h1, h0⟩ := bindS h0
          replace h1 := condF h1 rfl
          cases h1
          try dsimp only at h0
          cases h0
          exact fin_ok hX rfl ⟨[], _, _, ⟨rfl, rfl⟩, rfl, rfl, rfl, rfl, by cbv; try simp⟩
    · rw [hc2]
      cbv
      cases h2
      try dsimp only at h1
      replace h1 := condF h1 rfl
      cases h1
      try dsimp only at h0
      obtain ⟨hg10, h0⟩ := grdS h0
      refine ⟨nz_of hO hg10, ?_⟩
      obtain ⟨hg11, h0⟩ := grdS h0
      refine ⟨inr_of hO hg11, ?_⟩
      obtain ⟨x55, h1, h0⟩ := bindS h0
      refine ⟨nz_of hO hg10, ?_⟩
      rcases condS h1 with ⟨hc12, h1⟩ | ⟨hc12, h1⟩
      · rw [hc12]
        cbv
        cases h1
        try dsimp only at h0
        obtain ⟨⟨q2, r2⟩, h1, h0⟩ := bindS h0
        rcases condS h1 with ⟨hc13, h1⟩ | ⟨hc13, h1⟩
        · rw [hc13]
          cbv
          obtain ⟨hg14, h1⟩ := grdS h1
          refine ⟨inr_of hO hg14, ?_⟩
          obtain ⟨hg15, h1⟩ := grdS h1
          refine ⟨inr_of hO hg15, ?_⟩
          cases h1
          try dsimp only at h0
          cases h0
          exact fin_ok hX rfl ⟨[], _, _, ⟨rfl, rfl⟩, rfl, rfl, rfl, rfl, by cbv; try simp⟩
        · rw [hc13]
          cbv
          cases h1
          try dsimp only at h0
          cases h0
          exact fin_ok hX rfl ⟨[], _, _, ⟨rfl, rfl⟩, rfl, rfl, rfl, rfl, by cbv; try simp⟩
      · rw [hc12]
        cbv
        cases h1
        try dsimp only at h0
        obtain ⟨⟨q2, r2⟩, h1, h0⟩ := bindS h0
        replace h1 := condF h1 rfl
        cases h1
        try dsimp only at h0
        cases h0
        exact fin_ok hX rfl ⟨[], _, _, ⟨rfl, rfl⟩, rfl, rfl, rfl, rfl, by cbv; try simp⟩
end Go.Proofs.YtmnhfaaaaejpaaaGreat
namespace Go.Proofs.YtmnhfaaaaejpaaaGreat
open Go.RowKit
set_option maxRecDepth 100000

set_option maxHeartbeats 40000000 in
theorem fn_integer_Mod {O0 : Ops} (hO0 : O0 = std) {a_1 : Int} {b_1 : Int} {r1 : Int} (h : m_integer_Mod O0 a_1 b_1 = some r1) :
    Fn Tryz.prog 40 [.c (.int .i64 a_1), .c (.int .i64 b_1)] [] (fun v c => v = .c (.int .i64 r1) ∧ c = []) := by
  refine fn_run tab_holds eqs_holds mixed [] Tryz.func40 (by kernel_rfl) (by kernel_rfl) (Nat.le_of_ble_eq_true rfl) ?_
  intro O X hO hX
  rw [hO0, ← hO] at h
  unfold m_integer_Mod at h
  have h0 := h; clear h
  cbv
  obtain ⟨⟨n2, n3, n4⟩, hv, h0⟩ := bindS h0
  try dsimp only at h0
  refine call_is hO hX (fn_integer_Div hO hv) (by kernel_rfl) [] rfl trivial rfl ?_
  cbv
  cases h0
  exact fin_ok hX rfl ⟨[], _, _, ⟨rfl, rfl⟩, rfl, rfl, rfl, rfl, by cbv; try simp⟩
end Go.Proofs.YtmnhfaaaaejpaaaGreat
namespace Go.Proofs.YtmnhfaaaaejpaaaGreat
open Go.RowKit
set_option maxRecDepth 100000

set_option maxHeartbeats 40000000 in
theorem fn_recurrence_set {O0 : Ops} (hO0 : O0 = std) {l_1 : List Int} {r1 : List Int} (h : m_recurrence_set O0 l_1 = some r1) :
    Fn Tryz.prog 14 [.c (.sl 0)] [.arr false .i1 l_1] (fun v c => v = .c (.sl 1) ∧ c = [.own 3 .i1 r1]) := by
  refine fn_run tab_holds eqs_holds mixed [] Tryz.func14 (by kernel_rfl) (by kernel_rfl) (Nat.le_of_ble_eq_true rfl) ?_
  intro O X hO hX
  rw [hO0, ← hO] at h
  unfold m_recurrence_set at h
  have h0 := h; clear h
  cbv
  obtain ⟨l1, hv, h0⟩ := bindS h0
  refine call_is hO hX (fn_clone_i1 hO hv) (by kernel_rfl) [0] rfl ⟨rfl, rfl, trivial⟩ rfl ?_
  cbv
  obtain ⟨l2, hv, h0⟩ := bindS h0
  refine srt_int hO hX (i := 2) rfl hv ?_
  cbv
  obtain ⟨l3, hv, h0⟩ := bindS h0
  refine cpt_int hO hX (i := 2) rfl hv ?_
  cbv
  cases h0
  exact fin_ok hX rfl ⟨[3], _, _, ⟨rfl, rfl⟩, rfl, rfl, rfl, rfl, by cbv; try simp⟩
set_option maxHeartbeats 40000000 in
theorem fn_recurrence_times_1 {O0 : Ops} (hO0 : O0 = std) {other_1 : Int} {l_1 : List Int} {r1 : List Int} (h : m_recurrence_times_1 O0 other_1 l_1 = some r1) :
    Fn Tryz.prog 53 [.c (.sl 0), .c (.int .i64 other_1)] [.arr false .i1 l_1] (fun v c => v = .c (.sl 1) ∧ c = [.own 3 .i1 r1]) := by
  refine fn_run tab_holds eqs_holds mixed [] Tryz.func53 (by kernel_rfl) (by kernel_rfl) (Nat.le_of_ble_eq_true rfl) ?_
  intro O X hO hX
  rw [hO0, ← hO] at h
  unfold m_recurrence_times_1 at h
  have h0 := h; clear h
  cbv
  rcases condS h0 with ⟨hc1, h0⟩ | ⟨hc1, h0⟩
  · rw [hc1]
    cbv
    cases h0
    exact fin_ok hX rfl ⟨[2], _, _, ⟨rfl, rfl⟩, rfl, rfl, rfl, rfl, by cbv; try simp⟩
  · rw [hc1]
    cbv
    obtain ⟨l4, hv, h0⟩ := bindS h0
    refine call_is hO hX (fn_recurrence_set hO hv) (by kernel_rfl) [0] rfl ⟨rfl, rfl, trivial⟩ rfl ?_
    cbv
    cases h0
    exact fin_ok hX rfl ⟨[2], _, _, ⟨rfl, rfl⟩, rfl, rfl, rfl, rfl, by cbv; try simp⟩
set_option maxHeartbeats 40000000 in
theorem fn_recurrence_times {O0 : Ops} (hO0 : O0 = std) {r_1 : Int} {r_2 : Int} {r_3 : Int} {r_4 : Int} {r_5 : Int} {start_1 : Int} {r_6 : List Int} {r_7 : List Int} {r_8 : List Int} {r_9 : List Int} {r_10 : List (Int × Int)} {r_11 : List Int} {r_12 : List Int} {r_13 : List Int} {r_14 : List Int} {r1 : List Int} (h : m_recurrence_times O0 r_1 r_2 r_3 r_4 r_5 start_1 r_6 r_7 r_8 r_9 r_10 r_11 r_12 r_13 r_14 = some r1) :
    Fn Tryz.prog 27 [.agg [.int .i64 r_1, .int .i64 r_2, .int .i64 r_3, .int .i64 r_4, .sl 0, .sl 1, .sl 2, .sl 3, .sl 4, .sl 5, .sl 6, .sl 7, .sl 8, .int .i64 r_5], .c (.int .i64 start_1)] [.arr false .i1 r_6, .arr false .i1 r_7, .arr false .i1 r_8, .arr false .i1 r_9, .arr false .i2 r_10, .arr false .i1 r_11, .arr false .i1 r_12, .arr false .i1 r_13, .arr false .i1 r_14] (fun v c => v = .c (.sl 9) ∧ c = [.own 3 .i1 r1]) := by
  refine fn_run tab_holds eqs_holds mixed [(11, (.seg 1 [0, 1, 2, 3, 4, 5, 7, 8, 9, 10, 11] (.seg 2 [6] (.seg 2 [12] (.seg 1 [13, 14] .fin)))), [])] Tryz.func27 (by kernel_rfl) (by kernel_rfl) (Nat.le_of_ble_eq_true rfl) ?_
  intro O X hO hX
  rw [hO0, ← hO] at h
  unfold m_recurrence_times at h
  have h0 := h; clear h
  cbv
  obtain ⟨n5, hv, h0⟩ := bindS h0
  refine call_is hO hX (fn_integer_Mod hO hv) (by kernel_rfl) [] rfl trivial rfl ?_
  cbv
  obtain ⟨hg1, h0⟩ := grdS h0
  refine ⟨nz_of hO hg1, ?_⟩
  obtain ⟨hg2, h0⟩ := grdS h0
  refine ⟨inr_of hO hg2, ?_⟩
  obtain ⟨l5, hv, h0⟩ := bindS h0
  refine call_is hO hX (fn_recurrence_times_1 hO hv) (by kernel_rfl) [5] rfl ⟨rfl, rfl, trivial⟩ rfl ?_
  cbv
  obtain ⟨x57, h1, h0⟩ := bindS h0
  rcases condS h1 with ⟨hc3, h1⟩ | ⟨hc3, h1⟩
  · rw [hc3]
    cbv
    cases h1
    try dsimp only at h0
    obtain ⟨l9, h1, h0⟩ := bindS h0
    rcases condS h1 with ⟨hc4, h1⟩ | ⟨hc4, h1⟩
    · rw [hc4]
      cbv
      obtain ⟨l7, hi, h1⟩ := bindS h1
      obtain ⟨I1, hI1, hi⟩ := loopS hi
      refine loop1 tab_holds eqs_holds mixed [(11, (.seg 1 [0, 1, 2, 3, 4, 5, 7, 8, 9, 10, 11] (.seg 2 [6] (.seg 2 [12] (.seg 1 [13, 14] .fin)))), [])] hO hX I1 (fun y => [(4, .junk), (21, .junk), (25, .junk), (26, .junk), (31, .junk), (7, .c (.sl 12)), (35, .c (.int .i64 y.2.1))]) (fun y => [(12, .own 3 .i1 y.2.2)]) (fun y => y.1) _ (by kernel_rfl) hi (by cbv; try simp) ?_
      refine allp ?_
      intro n1
      refine allp ?_
      intro x59
      intro l6 hi
      cbv
      rw [hI1] at hi
      obtain ⟨n1, rfl, x1, h2, hi1⟩ := iterS hi
      unfold m_recurrence_times_L1 at h2
      try dsimp only at h2
      rcases condS h2 with ⟨hc5, h2⟩ | ⟨hc5, h2⟩
      · rw [hc5]
        cbv
        obtain ⟨hg6, h2⟩ := grdS h2
        refine ⟨room_of hO hg6, ?_⟩
        obtain ⟨hg7, h2⟩ := grdS h2
        refine ⟨room_of hO hg7, ?_⟩
        obtain ⟨hg8, h2⟩ := grdS h2
        refine ⟨inr_of hO hg8, ?_⟩
        cases h2
        exact ⟨_, [0, 1, 2, 3, 4, 5, 6, 7, 8, 9, 10, 11, 14], nextI hI1 hi1, by cbv; try simp, by first | exact Nat.lt_succ_self _ | omega⟩
      · rw [hc5]
        cbv
        cases h2
        cases exitI hi1
        try dsimp only at h1
        cases h1
        try dsimp only at h0
        obtain ⟨hg9, h0⟩ := grdS h0
        refine ⟨nz_of hO hg9, ?_⟩
        obtain ⟨hg10, h0⟩ := grdS h0
        refine ⟨inr_of hO hg10, ?_⟩
        refine ⟨nz_of hO hg9, ?_⟩
        refine ⟨nz_of hO hg9, ?_⟩
        obtain ⟨l10, hv, h0⟩ := bindS h0
        refine call_is hO hX (fn_recurrence_times_1 hO hv) (by kernel_rfl) [6] rfl ⟨rfl, rfl, trivial⟩ rfl ?_
        cbv
        obtain ⟨l11, hv, h0⟩ := bindS h0
        refine call_is hO hX (fn_recurrence_times_1 hO hv) (by kernel_rfl) [7] rfl ⟨rfl, rfl, trivial⟩ rfl ?_
        cbv
        obtain ⟨l25, hi, h0⟩ := bindS h0
        obtain ⟨I4, hI4, hi⟩ := loopS hi
        refine loop1 tab_holds eqs_holds mixed [(11, (.seg 1 [0, 1, 2, 3, 4, 5, 7, 8, 9, 10, 11] (.seg 2 [6] (.seg 2 [12] (.seg 1 [13, 14] .fin)))), [])] hO hX I4 (fun y => [(2, .junk), (7, .junk), (44, .junk), (49, .junk), (51, .junk), (55, .junk), (11, .c (.sl 15)), (58, .c (.int .i64 y.2.1))]) (fun y => [(15, .own 3 .i1 y.2.2)]) (fun y => y.1) _ (by kernel_rfl) hi (by cbv; try simp) ?_
        refine allp ?_
        intro n4
        refine allp ?_
        intro x67
        intro l18 hi
        cbv
        rw [hI4] at hi
        obtain ⟨n4, rfl, x4, h1, hi4⟩ := iterS hi
        unfold m_recurrence_times_L4 at h1
        try dsimp only at h1
        rcases condS h1 with ⟨hc11, h1⟩ | ⟨hc11, h1⟩
        · rw [hc11]
          cbv
          obtain ⟨hg12, h1⟩ := grdS h1
          refine ⟨idx_of hO hg12, ?_⟩
          obtain ⟨hg13, h1⟩ := grdS h1
          refine ⟨kin_of hO hg13, ?_⟩
          obtain ⟨l24, hi, h1⟩ := bindS h1
          obtain ⟨I3, hI3, hi⟩ := loopS hi
          refine loop1 tab_holds eqs_holds mixed [(11, (.seg 1 [0, 1, 2, 3, 4, 5, 7, 8, 9, 10, 11] (.seg 2 [6] (.seg 2 [12] (.seg 1 [13, 14] .fin)))), [])] hO hX I3 (fun y => [(60, .junk), (11, .c (.sl 15)), (64, .c (.int .i64 y.2.1))]) (fun y => [(15, .own 3 .i1 y.2.2)]) (fun y => y.1) _ (by kernel_rfl) hi (by cbv; try simp) ?_
          refine allp ?_
          intro n3
          refine allp ?_
          intro x71
          intro l21 hi
          cbv
          rw [hI3] at hi
          obtain ⟨n3, rfl, x3, h2, hi3⟩ := iterS hi
          unfold m_recurrence_times_L3 at h2
          try dsimp only at h2
          rcases condS h2 with ⟨hc14, h2⟩ | ⟨hc14, h2⟩
          · rw [hc14]
            cbv
            obtain ⟨hg15, h2⟩ := grdS h2
            refine ⟨idx_of hO hg15, ?_⟩
            obtain ⟨hg16, h2⟩ := grdS h2
            refine ⟨kin_of hO hg16, ?_⟩
            obtain ⟨l23, hi, h2⟩ := bindS h2
            obtain ⟨I2, hI2, hi⟩ := loopS hi
            refine loop1 tab_holds eqs_holds mixed [(11, (.seg 1 [0, 1, 2, 3, 4, 5, 7, 8, 9, 10, 11] (.seg 2 [6] (.seg 2 [12] (.seg 1 [13, 14] .fin)))), [])] hO hX I2 (fun y => [(66, .junk), (11, .c (.sl 15)), (70, .c (.int .i64 y.2.1))]) (fun y => [(15, .own 3 .i1 y.2.2)]) (fun y => y.1) _ (by kernel_rfl) hi (by cbv; try simp) ?_
            refine allp ?_
            intro n2
            refine allp ?_
            intro x73
            intro l22 hi
            cbv
            rw [hI2] at hi
            obtain ⟨n2, rfl, x2, h3, hi2⟩ := iterS hi
            unfold m_recurrence_times_L2 at h3
            try dsimp only at h3
            rcases condS h3 with ⟨hc17, h3⟩ | ⟨hc17, h3⟩
            · rw [hc17]
              cbv
              obtain ⟨hg18, h3⟩ := grdS h3
              refine ⟨idx_of hO hg18, ?_⟩
              obtain ⟨hg19, h3⟩ := grdS h3
              refine ⟨kin_of hO hg19, ?_⟩
              obtain ⟨hg20, h3⟩ := grdS h3
              refine ⟨inr_of hO hg20, ?_⟩
              obtain ⟨hg21, h3⟩ := grdS h3
              refine ⟨inr_of hO hg21, ?_⟩
              obtain ⟨hg22, h3⟩ := grdS h3
              refine ⟨inr_of hO hg22, ?_⟩
              obtain ⟨hg23, h3⟩ := grdS h3
              refine ⟨inr_of hO hg23, ?_⟩
              obtain ⟨hg24, h3⟩ := grdS h3
              refine ⟨room_of hO hg24, ?_⟩
              obtain ⟨hg25, h3⟩ := grdS h3
              refine ⟨room_of hO hg25, ?_⟩
              obtain ⟨hg26, h3⟩ := grdS h3
              refine ⟨inr_of hO hg26, ?_⟩
              cases h3
              exact ⟨_, [0, 1, 2, 3, 4, 5, 6, 7, 8, 9, 10, 11, 12, 13, 14, 17], nextI hI2 hi2, by cbv; try simp, by first | exact Nat.lt_succ_self _ | omega⟩
            · rw [hc17]
              cbv
              cases h3
              cases exitI hi2
              try dsimp only at h2
              obtain ⟨hg27, h2⟩ := grdS h2
              refine ⟨inr_of hO hg27, ?_⟩
              cases h2
              exact ⟨_, [0, 1, 2, 3, 4, 5, 6, 7, 8, 9, 10, 11, 12, 13, 14, 15], nextI hI3 hi3, by cbv; try simp, by first | exact Nat.lt_succ_self _ | omega⟩
          · rw [hc14]
            cbv
            cases h2
            cases exitI hi3
            try dsimp only at h1
            obtain ⟨hg28, h1⟩ := grdS h1
            refine ⟨inr_of hO hg28, ?_⟩
            cases h1
            exact ⟨_, [0, 1, 2, 3, 4, 5, 6, 7, 8, 9, 10, 11, 12, 13, 14, 15], nextI hI4 hi4, by cbv; try simp, by first | exact Nat.lt_succ_self _ | omega⟩
        · rw [hc11]
          cbv
          cases h1
          cases exitI hi4
          try dsimp only at h0
          cases h0
          exact fin_ok hX rfl ⟨[15], _, _, ⟨rfl, rfl⟩, rfl, rfl, rfl, rfl, by cbv; try simp⟩
    · rw [hc4]
      cbv
      cases h1
      try dsimp only at h0
      obtain ⟨hg29, h0⟩ := grdS h0
      refine ⟨nz_of hO hg29, ?_⟩
      obtain ⟨hg30, h0⟩ := grdS h0
      refine ⟨inr_of hO hg30, ?_⟩
      refine ⟨nz_of hO hg29, ?_⟩
      refine ⟨nz_of hO hg29, ?_⟩
      obtain ⟨l10, hv, h0⟩ := bindS h0
      refine call_is hO hX (fn_recurrence_times_1 hO hv) (by kernel_rfl) [6] rfl ⟨rfl, rfl, trivial⟩ rfl ?_
      cbv
      obtain ⟨l11, hv, h0⟩ := bindS h0
      refine call_is hO hX (fn_recurrence_times_1 hO hv) (by kernel_rfl) [7] rfl ⟨rfl, rfl, trivial⟩ rfl ?_
      cbv
      obtain ⟨l25, hi, h0⟩ := bindS h0
      obtain ⟨I4, hI4, hi⟩ := loopS hi
      refine loop1 tab_holds eqs_holds mixed [(11, (.seg 1 [0, 1, 2, 3, 4, 5, 7, 8, 9, 10, 11] (.seg 2 [6] (.seg 2 [12] (.seg 1 [13, 14] .fin)))), [])] hO hX I4 (fun y => [(2, .junk), (4, .junk), (7, .junk), (21, .junk), (25, .junk), (26, .junk), (31, .junk), (44, .junk), (49, .junk), (51, .junk), (55, .junk), (11, .c (.sl 14)), (58, .c (.int .i64 y.2.1))]) (fun y => [(14, .own 3 .i1 y.2.2)]) (fun y => y.1) _ (by kernel_rfl) hi (by cbv; try simp) ?_
      refine allp ?_
      intro n4
      refine allp ?_
      intro x67
      intro l18 hi
      cbv
      rw [hI4] at hi
      obtain ⟨n4, rfl, x4, h1, hi4⟩ := iterS hi
      unfold m_recurrence_times_L4 at h1
      try dsimp only at h1
      rcases condS h1 with ⟨hc31, h1⟩ | ⟨hc31, h1⟩
      · rw [hc31]
        cbv
        obtain ⟨hg32, h1⟩ := grdS h1
        refine ⟨idx_of hO hg32, ?_⟩
        obtain ⟨hg33, h1⟩ := grdS h1
        refine ⟨kin_of hO hg33, ?_⟩
        obtain ⟨l24, hi, h1⟩ := bindS h1
        obtain ⟨I3, hI3, hi⟩ := loopS hi
        refine loop1 tab_holds eqs_holds mixed [(11, (.seg 1 [0, 1, 2, 3, 4, 5, 7, 8, 9, 10, 11] (.seg 2 [6] (.seg 2 [12] (.seg 1 [13, 14] .fin)))), [])] hO hX I3 (fun y => [(60, .junk), (11, .c (.sl 14)), (64, .c (.int .i64 y.2.1))]) (fun y => [(14, .own 3 .i1 y.2.2)]) (fun y => y.1) _ (by kernel_rfl) hi (by cbv; try simp) ?_
        refine allp ?_
        intro n3
        refine allp ?_
        intro x71
        intro l21 hi
        cbv
        rw [hI3] at hi
        obtain ⟨n3, rfl, x3, h2, hi3⟩ := iterS hi
        unfold m_recurrence_times_L3 at h2
        try dsimp only at h2
        rcases condS h2 with ⟨hc34, h2⟩ | ⟨hc34, h2⟩
        · rw [hc34]
          cbv
          obtain ⟨hg35, h2⟩ := grdS h2
          refine ⟨idx_of hO hg35, ?_⟩
          obtain ⟨hg36, h2⟩ := grdS h2
          refine ⟨kin_of hO hg36, ?_⟩
          obtain ⟨l23, hi, h2⟩ := bindS h2
          obtain ⟨I2, hI2, hi⟩ := loopS hi
          refine loop1 tab_holds eqs_holds mixed [(11, (.seg 1 [0, 1, 2, 3, 4, 5, 7, 8, 9, 10, 11] (.seg 2 [6] (.seg 2 [12] (.seg 1 [13, 14] .fin)))), [])] hO hX I2 (fun y => [(66, .junk), (11, .c (.sl 14)), (70, .c (.int .i64 y.2.1))]) (fun y => [(14, .own 3 .i1 y.2.2)]) (fun y => y.1) _ (by kernel_rfl) hi (by cbv; try simp) ?_
          refine allp ?_
          intro n2
          refine allp ?_
          intro x73
          intro l22 hi
          cbv
          rw [hI2] at hi
          obtain ⟨n2, rfl, x2, h3, hi2⟩ := iterS hi
          unfold m_recurrence_times_L2 at h3
          try dsimp only at h3
          rcases condS h3 with ⟨hc37, h3⟩ | ⟨hc37, h3⟩
          · rw [hc37]
            cbv
            obtain ⟨hg38, h3⟩ := grdS h3
            refine ⟨idx_of hO hg38, ?_⟩
            obtain ⟨hg39, h3⟩ := grdS h3
            refine ⟨kin_of hO hg39, ?_⟩
            obtain ⟨hg40, h3⟩ := grdS h3
            refine ⟨inr_of hO hg40, ?_⟩
            obtain ⟨hg41, h3⟩ := grdS h3
            refine ⟨inr_of hO hg41, ?_⟩
            obtain ⟨hg42, h3⟩ := grdS h3
            refine ⟨inr_of hO hg42, ?_⟩
            obtain ⟨hg43, h3⟩ := grdS h3
            refine ⟨inr_of hO hg43, ?_⟩
            obtain ⟨hg44, h3⟩ := grdS h3
            refine ⟨room_of hO hg44, ?_⟩
            obtain ⟨hg45, h3⟩ := grdS h3
            refine ⟨room_of hO hg45, ?_⟩
            obtain ⟨hg46, h3⟩ := grdS h3
            refine ⟨inr_of hO hg46, ?_⟩
            cases h3
            exact ⟨_, [0, 1, 2, 3, 4, 5, 6, 7, 8, 9, 10, 11, 12, 13, 16], nextI hI2 hi2, by cbv; try simp, by first | exact Nat.lt_succ_self _ | omega⟩
          · rw [hc37]
            cbv
            cases h3
            cases exitI hi2
            try dsimp only at h2
            obtain ⟨hg47, h2⟩ := grdS h2
            refine ⟨inr_of hO hg47, ?_⟩
            cases h2
            exact ⟨_, [0, 1, 2, 3, 4, 5, 6, 7, 8, 9, 10, 11, 12, 13, 14], nextI hI3 hi3, by cbv; try simp, by first | exact Nat.lt_succ_self _ | omega⟩
        · rw [hc34]
          cbv
          cases h2
          cases exitI hi3
          try dsimp only at h1
          obtain ⟨hg48, h1⟩ := grdS h1
          refine ⟨inr_of hO hg48, ?_⟩
          cases h1
          exact ⟨_, [0, 1, 2, 3, 4, 5, 6, 7, 8, 9, 10, 11, 12, 13, 14], nextI hI4 hi4, by cbv; try simp, by first | exact Nat.lt_succ_self _ | omega⟩
      · rw [hc31]
        cbv
        cases h1
        cases exitI hi4
        try dsimp only at h0
        cases h0
        exact fin_ok hX rfl ⟨[14], _, _, ⟨rfl, rfl⟩, rfl, rfl, rfl, rfl, by cbv; try simp⟩
  · rw [hc3]
    cbv
    cases h1
    try dsimp only at h0
    obtain ⟨l9, h1, h0⟩ := bindS h0
    replace h1 := condF h1 rfl
    cases h1
    try dsimp only at h0
    obtain ⟨hg49, h0⟩ := grdS h0
    refine ⟨nz_of hO hg49, ?_⟩
    obtain ⟨hg50, h0⟩ := grdS h0
    refine ⟨inr_of hO hg50, ?_⟩
    refine ⟨nz_of hO hg49, ?_⟩
    refine ⟨nz_of hO hg49, ?_⟩
    obtain ⟨l10, hv, h0⟩ := bindS h0
    refine call_is hO hX (fn_recurrence_times_1 hO hv) (by kernel_rfl) [6] rfl ⟨rfl, rfl, trivial⟩ rfl ?_
    cbv
    obtain ⟨l11, hv, h0⟩ := bindS h0
    refine call_is hO hX (fn_recurrence_times_1 hO hv) (by kernel_rfl) [7] rfl ⟨rfl, rfl, trivial⟩ rfl ?_
    cbv
    obtain ⟨l25, hi, h0⟩ := bindS h0
    obtain ⟨I4, hI4, hi⟩ := loopS hi
    refine loop1 tab_holds eqs_holds mixed [(11, (.seg 1 [0, 1, 2, 3, 4, 5, 7, 8, 9, 10, 11] (.seg 2 [6] (.seg 2 [12] (.seg 1 [13, 14] .fin)))), [])] hO hX I4 (fun y => [(2, .junk), (4, .junk), (7, .junk), (21, .junk), (25, .junk), (26, .junk), (44, .junk), (49, .junk), (51, .junk), (55, .junk), (11, .c (.sl 14)), (58, .c (.int .i64 y.2.1))]) (fun y => [(14, .own 3 .i1 y.2.2)]) (fun y => y.1) _ (by kernel_rfl) hi (by cbv; try simp) ?_
    refine allp ?_
    intro n4
    refine allp ?_
    intro x67
    intro l18 hi
    cbv
    rw [hI4] at hi
    obtain ⟨n4, rfl, x4, h1, hi4⟩ := iterS hi
    unfold m_recurrence_times_L4 at h1
    try dsimp only at h1
    rcases condS h1 with ⟨hc51, h1⟩ | ⟨hc51, h1⟩
    · rw [hc51]
      cbv
      obtain ⟨hg52, h1⟩ := grdS h1
      refine ⟨idx_of hO hg52, ?_⟩
      obtain ⟨hg53, h1⟩ := grdS h1
      refine ⟨kin_of hO hg53, ?_⟩
      obtain ⟨l24, hi, h1⟩ := bindS h1
      obtain ⟨I3, hI3, hi⟩ := loopS hi
      refine loop1 tab_holds eqs_holds mixed [(11, (.seg 1 [0, 1, 2, 3, 4, 5, 7, 8, 9, 10, 11] (.seg 2 [6] (.seg 2 [12] (.seg 1 [13, 14] .fin)))), [])] hO hX I3 (fun y => [(60, .junk), (11, .c (.sl 14)), (64, .c (.int .i64 y.2.1))]) (fun y => [(14, .own 3 .i1 y.2.2)]) (fun y => y.1) _ (by kernel_rfl) hi (by cbv; try simp) ?_
      refine allp ?_
      intro n3
      refine allp ?_
      intro x71
      intro l21 hi
      cbv
      rw [hI3] at hi
      obtain ⟨n3, rfl, x3, h2, hi3⟩ := iterS hi
      unfold m_recurrence_times_L3 at h2
      try dsimp only at h2
      rcases condS h2 with ⟨hc54, h2⟩ | ⟨hc54, h2⟩
      · rw [hc54]
        cbv
        obtain ⟨hg55, h2⟩ := grdS h2
        refine ⟨idx_of hO hg55, ?_⟩
        obtain ⟨hg56, h2⟩ := grdS h2
        refine ⟨kin_of hO hg56, ?_⟩
        obtain ⟨l23, hi, h2⟩ := bindS h2
        obtain ⟨I2, hI2, hi⟩ := loopS hi
        refine loop1 tab_holds eqs_holds mixed [(11, (.seg 1 [0, 1, 2, 3, 4, 5, 7, 8, 9, 10, 11] (.seg 2 [6] (.seg 2 [12] (.seg 1 [13, 14] .fin)))), [])] hO hX I2 (fun y => [(66, .junk), (11, .c (.sl 14)), (70, .c (.int .i64 y.2.1))]) (fun y => [(14, .own 3 .i1 y.2.2)]) (fun y => y.1) _ (by kernel_rfl) hi (by cbv; try simp) ?_
        refine allp ?_
        intro n2
        refine allp ?_
        intro x73
        intro l22 hi
        cbv
        rw [hI2] at hi
        obtain ⟨n2, rfl, x2, h3, hi2⟩ := iterS hi
        unfold m_recurrence_times_L2 at h3
        try dsimp only at h3
        rcases condS h3 with ⟨hc57, h3⟩ | ⟨hc57, h3⟩
        · rw [hc57]
          cbv
          obtain ⟨hg58, h3⟩ := grdS h3
          refine ⟨idx_of hO hg58, ?_⟩
          obtain ⟨hg59, h3⟩ := grdS h3
          refine ⟨kin_of hO hg59, ?_⟩
          obtain ⟨hg60, h3⟩ := grdS h3
          refine ⟨inr_of hO hg60, ?_⟩
          obtain ⟨hg61, h3⟩ := grdS h3
          refine ⟨inr_of hO hg61, ?_⟩
          obtain ⟨hg62, h3⟩ := grdS h3
          refine ⟨inr_of hO hg62, ?_⟩
          obtain ⟨hg63, h3⟩ := grdS h3
          refine ⟨inr_of hO hg63, ?_⟩
          obtain ⟨hg64, h3⟩ := grdS h3
          refine ⟨room_of hO hg64, ?_⟩
          obtain ⟨hg65, h3⟩ := grdS h3
          refine ⟨room_of hO hg65, ?_⟩
          obtain ⟨hg66, h3⟩ := grdS h3
          refine ⟨inr_of hO hg66, ?_⟩
          cases h3
          exact ⟨_, [0, 1, 2, 3, 4, 5, 6, 7, 8, 9, 10, 11, 12, 13, 16], nextI hI2 hi2, by cbv; try simp, by first | exact Nat.lt_succ_self _ | omega⟩
        · rw [hc57]
          cbv
          cases h3
          cases exitI hi2
          try dsimp only at h2
          obtain ⟨hg67, h2⟩ := grdS h2
          refine ⟨inr_of hO hg67, ?_⟩
          cases h2
          exact ⟨_, [0, 1, 2, 3, 4, 5, 6, 7, 8, 9, 10, 11, 12, 13, 14], nextI hI3 hi3, by cbv; try simp, by first | exact Nat.lt_succ_self _ | omega⟩
      · rw [hc54]
        cbv
        cases h2
        cases exitI hi3
        try dsimp only at h1
        obtain ⟨hg68, h1⟩ := grdS h1
        refine ⟨inr_of hO hg68, ?_⟩
        cases h1
        exact ⟨_, [0, 1, 2, 3, 4, 5, 6, 7, 8, 9, 10, 11, 12, 13, 14], nextI hI4 hi4, by cbv; try simp, by first | exact Nat.lt_succ_self _ | omega⟩
    · rw [hc51]
      cbv
      cases h1
      cases exitI hi4
      try dsimp only at h0
      cases h0
      exact fin_ok hX rfl ⟨[14], _, _, ⟨rfl, rfl⟩, rfl, rfl, rfl, rfl, by cbv; try simp⟩
end Go.Proofs.YtmnhfaaaaejpaaaGreat
