/-
  The code does what its models say (printed by lift.py).
-/
import Derived.Test.YtoklfjkanipjkaaGM
import Derived.Test.YtoklfjkanipjkaaManW
import Derived.Test.YtoklfjkanipjkaaGW1
import Derived.Test.YtoklfjkanipjkaaGW2
import Derived.Test.YtoklfjkanipjkaaGW3
import Derived.Test.YtoklfjkanipjkaaGW9
namespace Go.Proofs.Ytoklfjkanipjkaa
open Go.RowKit
set_option maxRecDepth 100000

set_option maxHeartbeats 4000000 in
theorem fn_group_Split_2 {O0 : Ops} (hO0 : O0 = std) {i_1 : Int} {x_1 : Int} {x_2 : Int} {x_3 : Int} {x_4 : List (Int × Int)} {r1 : Int} {r2 : Int} {r3 : Bool} (h : m_group_Split_2 O0 i_1 x_1 x_2 x_3 x_4 = some (r1, r2, r3)) :
    Fn Try.prog 57 [.c (.int .i64 i_1), .c (.ptr 0 0), .c (.ptr 1 0)] [.ro 24 [.int .i64 x_1, .int .i64 x_2, .sl 2], .ro 3 [.int .i64 x_3], .arr false .i2 x_4] (fun v c => v = .tup [.many [.int .i64 r1, .int .i64 r2], .one (.bool r3)] ∧ c = []) := by
  refine fn_run tab_holds eqs_holds mixed [(1, (.seg 1 [0, 1, 2, 3] (.alt 4 (.seg 2 [5] (.seg 3 [6] .fin)) (.alt 5 (.seg 2 [4] (.seg 3 [6] .fin)) .no))), []), (3, (.seg 1 [0, 1, 2, 3, 4, 5, 6, 7, 8, 9, 10, 11, 12, 13, 14, 15, 16, 17] .fin), [18, 19])] Try.func57 (by kernel_rfl) (by kernel_rfl) (Nat.le_of_ble_eq_true rfl) ?_
  intro O X hO hX
  rw [hO0, ← hO] at h
  unfold m_group_Split_2 at h
  have h0 := h; clear h
  cbv
  refine ⟨?_, ?_, trivial⟩
  · obtain ⟨hg0, h0⟩ := grdS h0
    refine ⟨nz_of hO hg0, ?_⟩
    obtain ⟨hg1, h0⟩ := grdS h0
    refine ⟨inr_of hO hg1, ?_⟩
    obtain ⟨⟨n78, n79⟩, hv, h0⟩ := bindS h0
    try dsimp only at h0
    refine call_go hO hX (fn_group_at hO hv) (by kernel_rfl) [2] rfl ⟨rfl, rfl, trivial⟩ rfl ?_
    rintro _ _ ⟨rfl, rfl⟩
    cbv
    obtain ⟨hg2, h0⟩ := grdS h0
    refine ⟨inr_of hO hg2, ?_⟩
    refine ⟨nz_of hO hg0, ?_⟩
    obtain ⟨hg3, h0⟩ := grdS h0
    refine ⟨inr_of hO hg3, ?_⟩
    refine ⟨nz_of hO hg0, ?_⟩
    obtain ⟨hg4, h0⟩ := grdS h0
    refine ⟨inr_of hO hg4, ?_⟩
    obtain ⟨hg5, h0⟩ := grdS h0
    refine ⟨inr_of hO hg5, ?_⟩
    refine ⟨nz_of hO hg0, ?_⟩
    obtain ⟨hg6, h0⟩ := grdS h0
    refine ⟨inr_of hO hg6, ?_⟩
    obtain ⟨hg7, h0⟩ := grdS h0
    refine ⟨inr_of hO hg7, ?_⟩
    obtain ⟨hg8, h0⟩ := grdS h0
    refine ⟨inr_of hO hg8, ?_⟩
    cases h0
    exact fin_ok hX rfl ⟨[], _, _, ⟨rfl, rfl⟩, rfl, rfl, rfl, rfl, by cbv; try simp⟩
  · obtain ⟨hg0, h0⟩ := grdS h0
    refine ⟨nz_of hO hg0, ?_⟩
    obtain ⟨hg1, h0⟩ := grdS h0
    refine ⟨inr_of hO hg1, ?_⟩
    obtain ⟨⟨n78, n79⟩, hv, h0⟩ := bindS h0
    try dsimp only at h0
    refine call_go hO hX (fn_group_at hO hv) (by kernel_rfl) [2] rfl ⟨rfl, rfl, trivial⟩ rfl ?_
    rintro _ _ ⟨rfl, rfl⟩
    cbv
    obtain ⟨hg2, h0⟩ := grdS h0
    refine ⟨inr_of hO hg2, ?_⟩
    refine ⟨nz_of hO hg0, ?_⟩
    obtain ⟨hg3, h0⟩ := grdS h0
    refine ⟨inr_of hO hg3, ?_⟩
    refine ⟨nz_of hO hg0, ?_⟩
    obtain ⟨hg4, h0⟩ := grdS h0
    refine ⟨inr_of hO hg4, ?_⟩
    obtain ⟨hg5, h0⟩ := grdS h0
    refine ⟨inr_of hO hg5, ?_⟩
    refine ⟨nz_of hO hg0, ?_⟩
    obtain ⟨hg6, h0⟩ := grdS h0
    refine ⟨inr_of hO hg6, ?_⟩
    obtain ⟨hg7, h0⟩ := grdS h0
    refine ⟨inr_of hO hg7, ?_⟩
    obtain ⟨hg8, h0⟩ := grdS h0
    refine ⟨inr_of hO hg8, ?_⟩
    cases h0
    exact fin_ok hX rfl ⟨[], _, _, ⟨rfl, rfl⟩, rfl, rfl, rfl, rfl, by cbv; try simp⟩
set_option maxHeartbeats 4000000 in
theorem fn_group_collect_2 {O0 : Ops} (hO0 : O0 = std) {period_1 : Int} {n_1 : Int} {c_1 : Int} {c_2 : Int} {c_3 : Int} {c_4 : List (Int × Int)} {r1 : Int} {r2 : Int} {r3 : List (Int × Int)} {r4 : Int} (h : m_group_collect_2 O0 period_1 n_1 c_1 c_2 c_3 c_4 = some (r1, r2, r3, r4)) :
    Fn Try.prog 48 [.c (.int .i64 period_1), .c (.int .i64 n_1), .c (.fn 57 [0, 1])] [.ro 24 [.int .i64 c_1, .int .i64 c_2, .sl 2], .ro 3 [.int .i64 c_3], .arr false .i2 c_4] (fun v c => v = .tup [.many [.int .i64 r1, .int .i64 r2, .sl 3], .one (.int .i64 r4)] ∧ c = [.arr true .i2 r3]) := by
  refine fn_run tab_holds eqs_holds mixed [] Try.func48 (by kernel_rfl) (by kernel_rfl) (Nat.le_of_ble_eq_true rfl) ?_
  intro O X hO hX
  rw [hO0, ← hO] at h
  unfold m_group_collect_2 at h
  have h0 := h; clear h
  cbv
  obtain ⟨l35, hi, h0⟩ := bindS h0
  obtain ⟨I1, hI1, hi⟩ := loopS hi
  refine loop1 tab_holds eqs_holds mixed [] hO hX I1 (fun y => [(8, .c (.sl 4)), (13, .c (.int .i64 y.2.1))]) (fun y => [(4, .own 49 .i2 y.2.2)]) (fun y => y.1) _ (by kernel_rfl) hi (by cbv; try simp) ?_
  rintro ⟨n1, x109, l32⟩ hi
  cbv
  rw [hI1] at hi
  obtain ⟨n1, rfl, x1, h1, hi1⟩ := iterS hi
  unfold m_group_collect_2_L1 at h1
  try dsimp only at h1
  rcases condS h1 with ⟨hc0, h1⟩ | ⟨hc0, h1⟩
  · rw [hc0]
    cbv
    obtain ⟨⟨n82, n83, b35⟩, hv, h1⟩ := bindS h1
    try dsimp only at h1
    refine call_go hO hX (fn_group_Split_2 hO hv) (by kernel_rfl) [0, 1, 2] rfl ⟨rfl, rfl, rfl, rfl, rfl, rfl, trivial⟩ rfl ?_
    rintro _ _ ⟨rfl, rfl⟩
    cbv
    obtain ⟨l34, h2, h1⟩ := bindS h1
    rcases condS h2 with ⟨hc1, h2⟩ | ⟨hc1, h2⟩
    · rw [hc1]
      cbv
      obtain ⟨hg2, h2⟩ := grdS h2
      refine ⟨room_of hO hg2, ?_⟩
      obtain ⟨hg3, h2⟩ := grdS h2
      refine ⟨room_of hO hg3, ?_⟩
      cases h2
      try dsimp only at h1
      obtain ⟨hg4, h1⟩ := grdS h1
      refine ⟨inr_of hO hg4, ?_⟩
      cases h1
      exact ⟨_, [0, 1, 2, 3, 7], nextI hI1 hi1, by cbv; try simp, by first | exact Nat.lt_succ_self _ | omega⟩
    · rw [hc1]
      cbv
      cases h2
      try dsimp only at h1
      obtain ⟨hg2, h1⟩ := grdS h1
      refine ⟨inr_of hO hg2, ?_⟩
      cases h1
      exact ⟨_, [0, 1, 2, 3, 4], nextI hI1 hi1, by cbv; try simp, by first | exact Nat.lt_succ_self _ | omega⟩
  · rw [hc0]
    cbv
    cases h1
    cases exitI hi1
    try dsimp only at h0
    rcases condS h0 with ⟨hc1, h0⟩ | ⟨hc1, h0⟩
    · rw [hc1]
      cbv
      cases h0
      refine fin_nil hX .i2 5 rfl ?_
      cbv
      exact fin_ok hX rfl ⟨[5], _, _, ⟨rfl, rfl⟩, rfl, rfl, rfl, rfl, by cbv; try simp⟩
    · rw [hc1]
      cbv
      obtain ⟨⟨n84, n85, l36, n86⟩, hv, h0⟩ := bindS h0
      try dsimp only at h0
      refine call_go hO hX (fn_group_made hO hv) (by kernel_rfl) [4] rfl ⟨rfl, rfl, trivial⟩ rfl ?_
      rintro _ _ ⟨rfl, rfl⟩
      cbv
      cases h0
      exact fin_ok hX rfl ⟨[5], _, _, ⟨rfl, rfl⟩, rfl, rfl, rfl, rfl, by cbv; try simp⟩
set_option maxHeartbeats 4000000 in
theorem fn_group_Split {O0 : Ops} (hO0 : O0 = std) {c_1 : Int} {c_2 : Int} {m_1 : Int} {c_3 : List (Int × Int)} {r1 : Int} {r2 : Int} {r3 : List (Int × Int)} {r4 : Int} (h : m_group_Split O0 c_1 c_2 m_1 c_3 = some (r1, r2, r3, r4)) :
    Fn Try.prog 19 [.agg [.int .i64 c_1, .int .i64 c_2, .sl 0], .c (.int .i64 m_1)] [.arr false .i2 c_3] (fun v c => v = .tup [.many [.int .i64 r1, .int .i64 r2, .sl 1], .one (.int .i64 r4)] ∧ c = [.arr true .i2 r3]) := by
  refine fn_run tab_holds eqs_holds mixed [] Try.func19 (by kernel_rfl) (by kernel_rfl) (Nat.le_of_ble_eq_true rfl) ?_
  intro O X hO hX
  rw [hO0, ← hO] at h
  unfold m_group_Split at h
  have h0 := h; clear h
  cbv
  obtain ⟨x101, h1, h0⟩ := bindS h0
  obtain ⟨b31, hv, h1⟩ := bindS h1
  refine call_go hO hX (fn_granule_Valid hO hv) (by kernel_rfl) [0] rfl ⟨rfl, rfl, trivial⟩ rfl ?_
  rintro _ _ ⟨rfl, rfl⟩
  cbv
  rcases condS h1 with ⟨hc0, h1⟩ | ⟨hc0, h1⟩
  · rw [hc0]
    cbv
    cases h1
    try dsimp only at h0
    obtain ⟨e1, h1, h0⟩ := bindS h0
    replace h1 := condT h1 rfl
    cases h1
    try dsimp only at h0
    cases h0
    refine fin_nil hX .i2 4 rfl ?_
    cbv
    exact fin_ok hX rfl ⟨[4], _, _, ⟨rfl, rfl⟩, rfl, rfl, rfl, rfl, by cbv; try simp⟩
  · rw [hc0]
    cbv
    rcases condS h1 with ⟨hc1, h1⟩ | ⟨hc1, h1⟩
    · rw [hc1]
      cbv
      cases h1
      try dsimp only at h0
      obtain ⟨e1, h1, h0⟩ := bindS h0
      replace h1 := condT h1 rfl
      cases h1
      try dsimp only at h0
      cases h0
      refine fin_nil hX .i2 4 rfl ?_
      cbv
      exact fin_ok hX rfl ⟨[4], _, _, ⟨rfl, rfl⟩, rfl, rfl, rfl, rfl, by cbv; try simp⟩
    · rw [hc1]
      cbv
      cases h1
      try dsimp only at h0
      obtain ⟨e1, h1, h0⟩ := bindS h0
      rcases condS h1 with ⟨hc2, h1⟩ | ⟨hc2, h1⟩
      · rw [hc2]
        cbv
        cases h1
        try dsimp only at h0
        cases h0
        refine fin_nil hX .i2 4 rfl ?_
        cbv
        exact fin_ok hX rfl ⟨[4], _, _, ⟨rfl, rfl⟩, rfl, rfl, rfl, rfl, by cbv; try simp⟩
      · rw [hc2]
        cbv
        obtain ⟨hg3, h1⟩ := grdS h1
        refine ⟨inr_of hO hg3, ?_⟩
        obtain ⟨e2, h2, h1⟩ := bindS h1
        rcases condS h2 with ⟨hc4, h2⟩ | ⟨hc4, h2⟩
        · rw [hc4]
          cbv
          cases h2
          try dsimp only at h1
          cases h1
          try dsimp only at h0
          cases h0
          refine fin_nil hX .i2 4 rfl ?_
          cbv
          exact fin_ok hX rfl ⟨[4], _, _, ⟨rfl, rfl⟩, rfl, rfl, rfl, rfl, by cbv; try simp⟩
        · rw [hc4]
          cbv
          obtain ⟨b33, hv, h2⟩ := bindS h2
          refine call_go hO hX (fn_slices_ContainsFunc_3 hO hv) (by kernel_rfl) [0, 2] rfl ⟨rfl, rfl, rfl, rfl, trivial⟩ rfl ?_
          rintro _ _ ⟨rfl, rfl⟩
          cbv
          rcases condS h2 with ⟨hc5, h2⟩ | ⟨hc5, h2⟩
          · rw [hc5]
            cbv
            cases h2
            try dsimp only at h1
            cases h1
            try dsimp only at h0
            cases h0
            refine fin_nil hX .i2 4 rfl ?_
            cbv
            exact fin_ok hX rfl ⟨[4], _, _, ⟨rfl, rfl⟩, rfl, rfl, rfl, rfl, by cbv; try simp⟩
          · rw [hc5]
            cbv
            cases h2
            try dsimp only at h1
            cases h1
            try dsimp only at h0
            refine ⟨inr_of hO hg3, ?_⟩
            obtain ⟨⟨n87, n88, l37, n89⟩, hv, h0⟩ := bindS h0
            try dsimp only at h0
            refine call_go hO hX (fn_group_collect_2 hO hv) (by kernel_rfl) [1, 2, 0] rfl ⟨rfl, rfl, rfl, rfl, rfl, rfl, trivial⟩ rfl ?_
            rintro _ _ ⟨rfl, rfl⟩
            cbv
            cases h0
            exact fin_ok hX rfl ⟨[4], _, _, ⟨rfl, rfl⟩, rfl, rfl, rfl, rfl, by cbv; try simp⟩
end Go.Proofs.Ytoklfjkanipjkaa
