/-
  The code does what its models say (printed by lift.py).
-/
import Derived.Test.YtoklfjkanipjkaaGM
import Derived.Test.YtoklfjkanipjkaaManW
import Derived.Test.YtoklfjkanipjkaaGW6
namespace Go.Proofs.Ytoklfjkanipjkaa
open Go.RowKit
set_option maxRecDepth 100000

set_option maxHeartbeats 4000000 in
theorem fn_ref01_Gcd {O0 : Ops} (hO0 : O0 = std) {a_1 : Int} {b_1 : Int} {r1 : Int} (h : m_ref01_Gcd O0 a_1 b_1 = some r1) :
    Fn Try.prog 52 [.c (.int .i64 a_1), .c (.int .i64 b_1)] [] (fun v c => v = .c (.int .i64 r1) ∧ c = []) := by
  refine fn_run tab_holds eqs_holds mixed [(4, (.seg 1 [0, 1, 2, 3, 4, 5] .fin), [])] Try.func52 (by kernel_rfl) (by kernel_rfl) (Nat.le_of_ble_eq_true rfl) ?_
  intro O X hO hX
  rw [hO0, ← hO] at h
  unfold m_ref01_Gcd at h
  have h0 := h; clear h
  cbv
  obtain ⟨e1, hi, h0⟩ := bindS h0
  obtain ⟨I1, hI1, hi⟩ := loopS hi
  refine loop1 tab_holds eqs_holds mixed [(4, (.seg 1 [0, 1, 2, 3, 4, 5] .fin), [])] hO hX I1 (fun y => [(0, .c (.int .i64 y.2.1)), (1, .c (.int .i64 y.2.2))]) (fun _ => []) (fun y => y.1) _ (by kernel_rfl) hi (by cbv; try simp) ?_
  rintro ⟨n1, a1, b27⟩ hi
  cbv
  rw [hI1] at hi
  obtain ⟨n1, rfl, x1, h1, hi1⟩ := iterS hi
  unfold m_ref01_Gcd_L1 at h1
  try dsimp only at h1
  rcases condS h1 with ⟨hc0, h1⟩ | ⟨hc0, h1⟩
  · rw [hc0]
    cbv
    rcases condS h1 with ⟨hc1, h1⟩ | ⟨hc1, h1⟩
    · rw [hc1]
      cbv
      cases h1
      cases exitI hi1
      try dsimp only at h0
      cases h0
      exact fin_ok hX rfl ⟨[], _, _, ⟨rfl, rfl⟩, rfl, rfl, rfl, rfl, by cbv; try simp⟩
    · rw [hc1]
      cbv
      obtain ⟨hg2, h1⟩ := grdS h1
      refine ⟨nz_of hO hg2, ?_⟩
      cases h1
      exact ⟨_, [], nextI hI1 hi1, by cbv; try simp, by first | exact Nat.lt_succ_self _ | omega⟩
  · rw [hc0]
    cbv
    cases h1
    cases exitI hi1
    try dsimp only at h0
    rcases condS h0 with ⟨hc1, h0⟩ | ⟨hc1, h0⟩
    · rw [hc1]
      cbv
      cases h0
      exact fin_ok hX rfl ⟨[], _, _, ⟨rfl, rfl⟩, rfl, rfl, rfl, rfl, by cbv; try simp⟩
    · rw [hc1]
      cbv
      obtain ⟨a4, h1, h0⟩ := bindS h0
      rcases condS h1 with ⟨hc2, h1⟩ | ⟨hc2, h1⟩
      · rw [hc2]
        cbv
        obtain ⟨hg3, h1⟩ := grdS h1
        refine ⟨inr_of hO hg3, ?_⟩
        cases h1
        try dsimp only at h0
        cases h0
        exact fin_ok hX rfl ⟨[], _, _, ⟨rfl, rfl⟩, rfl, rfl, rfl, rfl, by cbv; try simp⟩
      · rw [hc2]
        cbv
        cases h1
        try dsimp only at h0
        cases h0
        exact fin_ok hX rfl ⟨[], _, _, ⟨rfl, rfl⟩, rfl, rfl, rfl, rfl, by cbv; try simp⟩
set_option maxHeartbeats 4000000 in
theorem fn_ref01_Div {O0 : Ops} (hO0 : O0 = std) {a_1 : Int} {b_1 : Int} {r1 : Int} {r2 : Int} {r3 : Int} (h : m_ref01_Div O0 a_1 b_1 = some (r1, r2, r3)) :
    Fn Try.prog 108 [.c (.int .i64 a_1), .c (.int .i64 b_1)] [] (fun v c => v = .tup [.one (.int .i64 r1), .one (.int .i64 r2), .one (.int .i64 r3)] ∧ c = []) := by
  refine fn_run tab_holds eqs_holds mixed [(5, (.seg 1 [0, 1, 2, 3, 4, 5, 6, 7] .fin), [])] Try.func108 (by kernel_rfl) (by kernel_rfl) (Nat.le_of_ble_eq_true rfl) ?_
  intro O X hO hX
  rw [hO0, ← hO] at h
  unfold m_ref01_Div at h
  have h0 := h; clear h
  cbv
  rcases condS h0 with ⟨hc0, h0⟩ | ⟨hc0, h0⟩
  · rw [hc0]
    cbv
    cases h0
    exact fin_ok hX rfl ⟨[], _, _, ⟨rfl, rfl⟩, rfl, rfl, rfl, rfl, by cbv; try simp⟩
  · rw [hc0]
    cbv
    obtain ⟨x95, h1, h0⟩ := bindS h0
    rcases condS h1 with ⟨hc1, h1⟩ | ⟨hc1, h1⟩
    · rw [hc1]
      cbv
      cases h1
      try dsimp only at h0
      rcases condS h0 with ⟨hc2, h0⟩ | ⟨hc2, h0⟩
      · rw [hc2]
        cbv
        cases h0
        exact fin_ok hX rfl ⟨[], _, _, ⟨rfl, rfl⟩, rfl, rfl, rfl, rfl, by cbv; try simp⟩
      · rw [hc2]
        cbv
        obtain ⟨hg3, h0⟩ := grdS h0
        refine ⟨nz_of hO hg3, ?_⟩
        obtain ⟨hg4, h0⟩ := grdS h0
        refine ⟨inr_of hO hg4, ?_⟩
        obtain ⟨x97, h1, h0⟩ := bindS h0
        refine ⟨nz_of hO hg3, ?_⟩
        rcases condS h1 with ⟨hc5, h1⟩ | ⟨hc5, h1⟩
        · rw [hc5]
          cbv
          cases h1
          try dsimp only at h0
          obtain ⟨⟨q4, r4⟩, h1, h0⟩ := bindS h0
          rcases condS h1 with ⟨hc6, h1⟩ | ⟨hc6, h1⟩
          · rw [hc6]
            cbv
            obtain ⟨hg7, h1⟩ := grdS h1
            refine ⟨inr_of hO hg7, ?_⟩
            obtain ⟨hg8, h1⟩ := grdS h1
            refine ⟨inr_of hO hg8, ?_⟩
            cases h1
            try dsimp only at h0
            cases h0
            exact fin_ok hX rfl ⟨[], _, _, ⟨rfl, rfl⟩, rfl, rfl, rfl, rfl, by cbv; try simp⟩
          · rw [hc6]
            cbv
            cases h1
            try dsimp only at h0
            cases h0
            exact fin_ok hX rfl ⟨[], _, _, ⟨rfl, rfl⟩, rfl, rfl, rfl, rfl, by cbv; try simp⟩
        · rw [hc5]
          cbv
          cases h1
          try dsimp only at h0
          obtain ⟨⟨q4, r4⟩, h1, h0⟩ := bindS h0
          replace h1 := condF h1 rfl
          cases h1
          try dsimp only at h0
          cases h0
          exact fin_ok hX rfl ⟨[], _, _, ⟨rfl, rfl⟩, rfl, rfl, rfl, rfl, by cbv; try simp⟩
    · rw [hc1]
      cbv
      cases h1
      try dsimp only at h0
      replace h0 := condF h0 rfl
      obtain ⟨hg2, h0⟩ := grdS h0
      refine ⟨nz_of hO hg2, ?_⟩
      obtain ⟨hg3, h0⟩ := grdS h0
      refine ⟨inr_of hO hg3, ?_⟩
      obtain ⟨x97, h1, h0⟩ := bindS h0
      refine ⟨nz_of hO hg2, ?_⟩
      rcases condS h1 with ⟨hc4, h1⟩ | ⟨hc4, h1⟩
      · rw [hc4]
        cbv
        cases h1
        try dsimp only at h0
        obtain ⟨⟨q4, r4⟩, h1, h0⟩ := bindS h0
        rcases condS h1 with ⟨hc5, h1⟩ | ⟨hc5, h1⟩
        · rw [hc5]
          cbv
          obtain ⟨hg6, h1⟩ := grdS h1
          refine ⟨inr_of hO hg6, ?_⟩
          obtain ⟨hg7, h1⟩ := grdS h1
          refine ⟨inr_of hO hg7, ?_⟩
          cases h1
          try dsimp only at h0
          cases h0
          exact fin_ok hX rfl ⟨[], _, _, ⟨rfl, rfl⟩, rfl, rfl, rfl, rfl, by cbv; try simp⟩
        · rw [hc5]
          cbv
          cases h1
          try dsimp only at h0
          cases h0
          exact fin_ok hX rfl ⟨[], _, _, ⟨rfl, rfl⟩, rfl, rfl, rfl, rfl, by cbv; try simp⟩
      · rw [hc4]
        cbv
        cases h1
        try dsimp only at h0
        obtain ⟨⟨q4, r4⟩, h1, h0⟩ := bindS h0
        replace h1 := condF h1 rfl
        cases h1
        try dsimp only at h0
        cases h0
        exact fin_ok hX rfl ⟨[], _, _, ⟨rfl, rfl⟩, rfl, rfl, rfl, rfl, by cbv; try simp⟩
set_option maxHeartbeats 4000000 in
theorem fn_ref01_Floor {O0 : Ops} (hO0 : O0 = std) {a_1 : Int} {b_1 : Int} {r1 : Int} (h : m_ref01_Floor O0 a_1 b_1 = some r1) :
    Fn Try.prog 90 [.c (.int .i64 a_1), .c (.int .i64 b_1)] [] (fun v c => v = .c (.int .i64 r1) ∧ c = []) := by
  refine fn_run tab_holds eqs_holds mixed [] Try.func90 (by kernel_rfl) (by kernel_rfl) (Nat.le_of_ble_eq_true rfl) ?_
  intro O X hO hX
  rw [hO0, ← hO] at h
  unfold m_ref01_Floor at h
  have h0 := h; clear h
  cbv
  obtain ⟨⟨n58, n59, n60⟩, hv, h0⟩ := bindS h0
  try dsimp only at h0
  refine call_go hO hX (fn_ref01_Div hO hv) (by kernel_rfl) [] rfl trivial rfl ?_
  rintro _ _ ⟨rfl, rfl⟩
  cbv
  cases h0
  exact fin_ok hX rfl ⟨[], _, _, ⟨rfl, rfl⟩, rfl, rfl, rfl, rfl, by cbv; try simp⟩
set_option maxHeartbeats 4000000 in
theorem fn_ref16_Granule {O0 : Ops} (hO0 : O0 = std) {c_1 : Int} {c_2 : Int} {k_1 : Int} {c_3 : List (Int × Int)} {r1 : Int} {r2 : Int} (h : m_ref16_Granule O0 c_1 c_2 k_1 c_3 = some (r1, r2)) :
    Fn Try.prog 53 [.agg [.int .i64 c_1, .int .i64 c_2, .sl 0], .c (.int .i64 k_1)] [.arr false .i2 c_3] (fun v c => v = .agg [.int .i64 r1, .int .i64 r2] ∧ c = []) := by
  refine fn_run tab_holds eqs_holds mixed [] Try.func53 (by kernel_rfl) (by kernel_rfl) (Nat.le_of_ble_eq_true rfl) ?_
  intro O X hO hX
  rw [hO0, ← hO] at h
  unfold m_ref16_Granule at h
  have h0 := h; clear h
  cbv
  obtain ⟨n61, hv, h0⟩ := bindS h0
  refine call_go hO hX (fn_ref01_Floor hO hv) (by kernel_rfl) [] rfl trivial rfl ?_
  rintro _ _ ⟨rfl, rfl⟩
  cbv
  obtain ⟨hg0, h0⟩ := grdS h0
  refine ⟨inr_of hO hg0, ?_⟩
  obtain ⟨hg1, h0⟩ := grdS h0
  refine ⟨inr_of hO hg1, ?_⟩
  obtain ⟨hg2, h0⟩ := grdS h0
  refine ⟨idx_of hO hg2, ?_⟩
  obtain ⟨hg3, h0⟩ := grdS h0
  refine ⟨kin_of hO hg3, ?_⟩
  obtain ⟨hg4, h0⟩ := grdS h0
  refine ⟨inr_of hO hg4, ?_⟩
  obtain ⟨hg5, h0⟩ := grdS h0
  refine ⟨inr_of hO hg5, ?_⟩
  obtain ⟨hg6, h0⟩ := grdS h0
  refine ⟨inr_of hO hg6, ?_⟩
  obtain ⟨hg7, h0⟩ := grdS h0
  refine ⟨inr_of hO hg7, ?_⟩
  cases h0
  exact fin_ok hX rfl ⟨[], _, _, ⟨rfl, rfl⟩, rfl, rfl, rfl, rfl, by cbv; try simp⟩
set_option maxHeartbeats 4000000 in
theorem fn_ref16_Make {O0 : Ops} (hO0 : O0 = std) {period_1 : Int} {l_1 : List (Int × Int)} {r1 : Int} {r2 : Int} {r3 : List (Int × Int)} {r4 : Int} (h : m_ref16_Make O0 period_1 l_1 = some (r1, r2, r3, r4)) :
    Fn Try.prog 54 [.c (.int .i64 period_1), .c (.sl 0)] [.arr false .i2 l_1] (fun v c => v = .tup [.many [.int .i64 r1, .int .i64 r2, .sl 1], .one (.int .i64 r4)] ∧ c = [.arr true .i2 r3]) := by
  refine fn_run tab_holds eqs_holds mixed [(8, (.seg 1 [0, 1, 2, 3, 4, 5, 6, 7, 8, 9, 10, 11, 12, 13, 14, 15] (.seg 2 [16] .fin)), [17, 18]), (10, (.seg 1 [0, 1, 2, 3, 4, 5, 6, 7, 8, 9, 10] .fin), [11, 12])] Try.func54 (by kernel_rfl) (by kernel_rfl) (Nat.le_of_ble_eq_true rfl) ?_
  intro O X hO hX
  rw [hO0, ← hO] at h
  unfold m_ref16_Make at h
  have h0 := h; clear h
  cbv
  obtain ⟨hg0, h0⟩ := grdS h0
  refine ⟨idx_of hO hg0, ?_⟩
  obtain ⟨hg1, h0⟩ := grdS h0
  refine ⟨kin_of hO hg1, ?_⟩
  obtain ⟨x99, h1, h0⟩ := bindS h0
  rcases condS h1 with ⟨hc2, h1⟩ | ⟨hc2, h1⟩
  · rw [hc2]
    cbv
    cases h1
    try dsimp only at h0
    replace h0 := condT h0 rfl
    cases h0
    refine fin_nil hX .i2 2 rfl ?_
    cbv
    exact fin_ok hX rfl ⟨[2], _, _, ⟨rfl, rfl⟩, rfl, rfl, rfl, rfl, by cbv; try simp⟩
  · rw [hc2]
    cbv
    cases h1
    try dsimp only at h0
    rcases condS h0 with ⟨hc3, h0⟩ | ⟨hc3, h0⟩
    · rw [hc3]
      cbv
      cases h0
      refine fin_nil hX .i2 2 rfl ?_
      cbv
      exact fin_ok hX rfl ⟨[2], _, _, ⟨rfl, rfl⟩, rfl, rfl, rfl, rfl, by cbv; try simp⟩
    · rw [hc3]
      cbv
      obtain ⟨l27, hi, h0⟩ := bindS h0
      obtain ⟨I1, hI1, hi⟩ := loopS hi
      refine loop1 tab_holds eqs_holds mixed [(8, (.seg 1 [0, 1, 2, 3, 4, 5, 6, 7, 8, 9, 10, 11, 12, 13, 14, 15] (.seg 2 [16] .fin)), [17, 18]), (10, (.seg 1 [0, 1, 2, 3, 4, 5, 6, 7, 8, 9, 10] .fin), [11, 12])] hO hX I1 (fun y => [(7, .c (.sl 2)), (8, .c (.int .i64 y.2.1))]) (fun y => [(2, .own 49 .i2 y.2.2)]) (fun y => y.1) _ (by kernel_rfl) hi (by cbv; try simp) ?_
      rintro ⟨n1, i6, l26⟩ hi
      cbv
      rw [hI1] at hi
      obtain ⟨n1, rfl, x1, h1, hi1⟩ := iterS hi
      unfold m_ref16_Make_L1 at h1
      try dsimp only at h1
      rcases condS h1 with ⟨hc4, h1⟩ | ⟨hc4, h1⟩
      · rw [hc4]
        cbv
        obtain ⟨hg5, h1⟩ := grdS h1
        refine ⟨idx_of hO hg5, ?_⟩
        obtain ⟨hg6, h1⟩ := grdS h1
        refine ⟨kin_of hO hg6, ?_⟩
        obtain ⟨hg7, h1⟩ := grdS h1
        refine ⟨inr_of hO hg7, ?_⟩
        refine ⟨idx_of hO hg5, ?_⟩
        refine ⟨kin_of hO hg6, ?_⟩
        obtain ⟨hg8, h1⟩ := grdS h1
        refine ⟨inr_of hO hg8, ?_⟩
        obtain ⟨hg9, h1⟩ := grdS h1
        refine ⟨room_of hO hg9, ?_⟩
        obtain ⟨hg10, h1⟩ := grdS h1
        refine ⟨room_of hO hg10, ?_⟩
        obtain ⟨hg11, h1⟩ := grdS h1
        refine ⟨inr_of hO hg11, ?_⟩
        cases h1
        exact ⟨_, [0, 1, 4], nextI hI1 hi1, by cbv; try simp, by first | exact Nat.lt_succ_self _ | omega⟩
      · rw [hc4]
        cbv
        cases h1
        cases exitI hi1
        try dsimp only at h0
        obtain ⟨n70, hv, h0⟩ := bindS h0
        refine call_go hO hX (fn_ref16_least hO hv) (by kernel_rfl) [2] rfl ⟨rfl, rfl, trivial⟩ rfl ?_
        rintro _ _ ⟨rfl, rfl⟩
        cbv
        obtain ⟨hg5, h0⟩ := grdS h0
        refine ⟨nz_of hO hg5, ?_⟩
        obtain ⟨hg6, h0⟩ := grdS h0
        refine ⟨inr_of hO hg6, ?_⟩
        obtain ⟨hg7, h0⟩ := grdS h0
        refine ⟨nz_of hO hg7, ?_⟩
        obtain ⟨hg8, h0⟩ := grdS h0
        refine ⟨inr_of hO hg8, ?_⟩
        obtain ⟨hg9, h0⟩ := grdS h0
        refine ⟨rng_of hO hg9, ?_⟩
        cases h0
        exact fin_ok hX rfl ⟨[3], _, _, ⟨rfl, rfl⟩, rfl, rfl, rfl, rfl, by cbv; try simp⟩
end Go.Proofs.Ytoklfjkanipjkaa
