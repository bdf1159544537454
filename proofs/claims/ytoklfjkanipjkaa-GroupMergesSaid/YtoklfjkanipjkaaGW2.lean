/-
  The code does what its models say (printed by lift.py).
-/
import Derived.Test.YtoklfjkanipjkaaGM
import Derived.Test.YtoklfjkanipjkaaManW
import Derived.Test.YtoklfjkanipjkaaGW0
import Derived.Test.YtoklfjkanipjkaaGW1
namespace Go.Proofs.Ytoklfjkanipjkaa
open Go.RowKit
set_option maxRecDepth 100000

set_option maxHeartbeats 4000000 in
theorem fn_ref01_Gcd {O0 : Ops} (hO0 : O0 = std) {a_1 : Int} {b_1 : Int} {r1 : Int} (h : m_ref01_Gcd O0 a_1 b_1 = some r1) :
    Fn Try.prog 52 [.c (.int .i64 a_1), .c (.int .i64 b_1)] [] (fun v c => v = .c (.int .i64 r1) ∧ c = []) := by
  refine fn_run tab_holds eqs_holds mixed [(4, (.seg 1 [0, 1, 2, 3, 4, 5] .fin), [])] Try.func52 (by kernel_rfl) (by kernel_rfl) (Nat.le_of_ble_eq_true rfl) ?_
  intro O X hO hX
  rw [hO0, ← hO] at h
  unfold m_ref01_Gcd at h
  have h0 := h; clear h
  cbv
  obtain ⟨e1, hi, h0⟩ := bindS h0
  obtain ⟨I1, hI1, hi⟩ := loopS hi
  refine loop1 tab_holds eqs_holds mixed [(4, (.seg 1 [0, 1, 2, 3, 4, 5] .fin), [])] hO hX I1 (fun y => [(0, .c (.int .i64 y.2.1)), (1, .c (.int .i64 y.2.2))]) (fun _ => []) (fun y => y.1) _ (by kernel_rfl) hi (by cbv; try simp) ?_
  rintro ⟨n1, a1, b27⟩ hi
  cbv
  rw [hI1] at hi
  obtain ⟨n1, rfl, x1, h1, hi1⟩ := iterS hi
  unfold m_ref01_Gcd_L1 at h1
  try dsimp only at h1
  rcases condS h1 with ⟨hc0, h1⟩ | ⟨hc0, h1⟩
  · rw [hc0]
    cbv
    rcases condS h1 with ⟨hc1, h1⟩ | ⟨hc1, h1⟩
    · rw [hc1]
      cbv
      cases h1
      cases exitI hi1
      try dsimp only at h0
      cases h0
      exact fin_ok hX rfl ⟨[], _, _, ⟨rfl, rfl⟩, rfl, rfl, rfl, rfl, by cbv; try simp⟩
    · rw [hc1]
      cbv
      obtain ⟨hg2, h1⟩ := grdS h1
      refine ⟨nz_of hO hg2, ?_⟩
      cases h1
      exact ⟨_, [], nextI hI1 hi1, by cbv; try simp, by first | exact Nat.lt_succ_self _ | omega⟩
  · rw [hc0]
    cbv
    cases h1
    cases exitI hi1
    try dsimp only at h0
    rcases condS h0 with ⟨hc1, h0⟩ | ⟨hc1, h0⟩
    · rw [hc1]
      cbv
      cases h0
      exact fin_ok hX rfl ⟨[], _, _, ⟨rfl, rfl⟩, rfl, rfl, rfl, rfl, by cbv; try simp⟩
    · rw [hc1]
      cbv
      obtain ⟨a4, h1, h0⟩ := bindS h0
      rcases condS h1 with ⟨hc2, h1⟩ | ⟨hc2, h1⟩
      · rw [hc2]
        cbv
        obtain ⟨hg3, h1⟩ := grdS h1
        refine ⟨inr_of hO hg3, ?_⟩
        cases h1
        try dsimp only at h0
        cases h0
        exact fin_ok hX rfl ⟨[], _, _, ⟨rfl, rfl⟩, rfl, rfl, rfl, rfl, by cbv; try simp⟩
      · rw [hc2]
        cbv
        cases h1
        try dsimp only at h0
        cases h0
        exact fin_ok hX rfl ⟨[], _, _, ⟨rfl, rfl⟩, rfl, rfl, rfl, rfl, by cbv; try simp⟩
set_option maxHeartbeats 4000000 in
theorem fn_ref01_Div {O0 : Ops} (hO0 : O0 = std) {a_1 : Int} {b_1 : Int} {r1 : Int} {r2 : Int} {r3 : Int} (h : m_ref01_Div O0 a_1 b_1 = some (r1, r2, r3)) :
    Fn Try.prog 108 [.c (.int .i64 a_1), .c (.int .i64 b_1)] [] (fun v c => v = .tup [.one (.int .i64 r1), .one (.int .i64 r2), .one (.int .i64 r3)] ∧ c = []) := by
  refine fn_run tab_holds eqs_holds mixed [(5, (.seg 1 [0, 1, 2, 3, 4, 5, 6, 7] .fin), [])] Try.func108 (by kernel_rfl) (by kernel_rfl) (Nat.le_of_ble_eq_true rfl) ?_
  intro O X hO hX
  rw [hO0, ← hO] at h
  unfold m_ref01_Div at h
  have h0 := h; clear h
  cbv
  rcases condS h0 with ⟨hc0, h0⟩ | ⟨hc0, h0⟩
  · rw [hc0]
    cbv
    cases h0
    exact fin_ok hX rfl ⟨[], _, _, ⟨rfl, rfl⟩, rfl, rfl, rfl, rfl, by cbv; try simp⟩
  · as_aux_lemma =>
    rw [hc0]
    cbv
    obtain ⟨x95, h1, h0⟩ := bindS h0
    rcases condS h1 with ⟨hc1, h1⟩ | ⟨hc1, h1⟩
    · as_aux_lemma =>
      rw [hc1]
      cbv
      cases h1
      try dsimp only at h0
      rcases condS h0 with ⟨hc2, h0⟩ | ⟨hc2, h0⟩
      · rw [hc2]
        cbv
        cases h0
        exact fin_ok hX rfl ⟨[], _, _, ⟨rfl, rfl⟩, rfl, rfl, rfl, rfl, by cbv; try simp⟩
      · as_aux_lemma =>
        rw [hc2]
        cbv
        obtain ⟨hg3, h0⟩ := grdS h0
        refine ⟨nz_of hO hg3, ?_⟩
        obtain ⟨hg4, h0⟩ := grdS h0
        refine ⟨inr_of hO hg4, ?_⟩
        obtain ⟨x97, h1, h0⟩ := bindS h0
        refine ⟨nz_of hO hg3, ?_⟩
        rcases condS h1 with ⟨hc5, h1⟩ | ⟨hc5, h1⟩
        · rw [hc5]
          cbv
          cases h1
          try dsimp only at h0
          obtain ⟨⟨q4, r4⟩, h1, h0⟩ := bindS h0
          rcases condS h1 with ⟨hc6, h1⟩ | ⟨hc6, h1⟩
          · rw [hc6]
            cbv
            obtain ⟨hg7, h1⟩ := grdS h1
            refine ⟨inr_of hO hg7, ?_⟩
            obtain ⟨hg8, h1⟩ := grdS h1
            refine ⟨inr_of hO hg8, ?_⟩
            cases h1
            try dsimp only at h0
            cases h0
            exact fin_ok hX rfl ⟨[], _, _, ⟨rfl, rfl⟩, rfl, rfl, rfl, rfl, by cbv; try simp⟩
          · rw [hc6]
            cbv
            cases h1
            try dsimp only at h0
            cases h0
            exact fin_ok hX rfl ⟨[], _, _, ⟨rfl, rfl⟩, rfl, rfl, rfl, rfl, by cbv; try simp⟩
        · rw [hc5]
          cbv
          cases h1
          try dsimp only at h0
          obtain ⟨⟨q4, r4⟩, h1, h0⟩ := bindS h0
          replace h1 := condF h1 rfl
          cases h1
          try dsimp only at h0
          cases h0
          exact fin_ok hX rfl ⟨[], _, _, ⟨rfl, rfl⟩, rfl, rfl, rfl, rfl, by cbv; try simp⟩
    · as_aux_lemma =>
      rw [hc1]
      cbv
      cases h1
      try dsimp only at h0
      replace h0 := condF h0 rfl
      obtain ⟨hg2, h0⟩ := grdS h0
      refine ⟨nz_of hO hg2, ?_⟩
      obtain ⟨hg3, h0⟩ := grdS h0
      refine ⟨inr_of hO hg3, ?_⟩
      obtain ⟨x97, h1, h0⟩ := bindS h0
      refine ⟨nz_of hO hg2, ?_⟩
      rcases condS h1 with ⟨hc4, h1⟩ | ⟨hc4, h1⟩
      · rw [hc4]
        cbv
        cases h1
        try dsimp only at h0
        obtain ⟨⟨q4, r4⟩, h1, h0⟩ := bindS h0
        rcases condS h1 with ⟨hc5, h1⟩ | ⟨hc5, h1⟩
        · rw [hc5]
          cbv
          obtain ⟨hg6, h1⟩ := grdS h1
          refine ⟨inr_of hO hg6, ?_⟩
          obtain ⟨hg7, h1⟩ := grdS h1
          refine ⟨inr_of hO hg7, ?_⟩
          cases h1
          try dsimp only at h0
          cases h0
          exact fin_ok hX rfl ⟨[], _, _, ⟨rfl, rfl⟩, rfl, rfl, rfl, rfl, by cbv; try simp⟩
        · rw [hc5]
          cbv
          cases h1
          try dsimp only at h0
          cases h0
          exact fin_ok hX rfl ⟨[], _, _, ⟨rfl, rfl⟩, rfl, rfl, rfl, rfl, by cbv; try simp⟩
      · rw [hc4]
        cbv
        cases h1
        try dsimp only at h0
        obtain ⟨⟨q4, r4⟩, h1, h0⟩ := bindS h0
        replace h1 := condF h1 rfl
        cases h1
        try dsimp only at h0
        cases h0
        exact fin_ok hX rfl ⟨[], _, _, ⟨rfl, rfl⟩, rfl, rfl, rfl, rfl, by cbv; try simp⟩
set_option maxHeartbeats 4000000 in
theorem fn_ref01_Floor {O0 : Ops} (hO0 : O0 = std) {a_1 : Int} {b_1 : Int} {r1 : Int} (h : m_ref01_Floor O0 a_1 b_1 = some r1) :
    Fn Try.prog 90 [.c (.int .i64 a_1), .c (.int .i64 b_1)] [] (fun v c => v = .c (.int .i64 r1) ∧ c = []) := by
  refine fn_run tab_holds eqs_holds mixed [] Try.func90 (by kernel_rfl) (by kernel_rfl) (Nat.le_of_ble_eq_true rfl) ?_
  intro O X hO hX
  rw [hO0, ← hO] at h
  unfold m_ref01_Floor at h
  have h0 := h; clear h
  cbv
  obtain ⟨⟨n58, n59, n60⟩, hv, h0⟩ := bindS h0
  try dsimp only at h0
  refine call_go hO hX (fn_ref01_Div hO hv) (by kernel_rfl) [] rfl trivial rfl ?_
  rintro _ _ ⟨rfl, rfl⟩
  cbv
  cases h0
  exact fin_ok hX rfl ⟨[], _, _, ⟨rfl, rfl⟩, rfl, rfl, rfl, rfl, by cbv; try simp⟩
set_option maxHeartbeats 4000000 in
theorem fn_ref16_Granule {O0 : Ops} (hO0 : O0 = std) {c_1 : Int} {c_2 : Int} {k_1 : Int} {c_3 : List (Int × Int)} {r1 : Int} {r2 : Int} (h : m_ref16_Granule O0 c_1 c_2 k_1 c_3 = some (r1, r2)) :
    Fn Try.prog 53 [.agg [.int .i64 c_1, .int .i64 c_2, .sl 0], .c (.int .i64 k_1)] [.arr false .i2 c_3] (fun v c => v = .agg [.int .i64 r1, .int .i64 r2] ∧ c = []) := by
  refine fn_run tab_holds eqs_holds mixed [] Try.func53 (by kernel_rfl) (by kernel_rfl) (Nat.le_of_ble_eq_true rfl) ?_
  intro O X hO hX
  rw [hO0, ← hO] at h
  unfold m_ref16_Granule at h
  have h0 := h; clear h
  cbv
  obtain ⟨n61, hv, h0⟩ := bindS h0
  refine call_go hO hX (fn_ref01_Floor hO hv) (by kernel_rfl) [] rfl trivial rfl ?_
  rintro _ _ ⟨rfl, rfl⟩
  cbv
  obtain ⟨hg0, h0⟩ := grdS h0
  refine ⟨inr_of hO hg0, ?_⟩
  obtain ⟨hg1, h0⟩ := grdS h0
  refine ⟨inr_of hO hg1, ?_⟩
  obtain ⟨hg2, h0⟩ := grdS h0
  refine ⟨idx_of hO hg2, ?_⟩
  obtain ⟨hg3, h0⟩ := grdS h0
  refine ⟨kin_of hO hg3, ?_⟩
  obtain ⟨hg4, h0⟩ := grdS h0
  refine ⟨inr_of hO hg4, ?_⟩
  obtain ⟨hg5, h0⟩ := grdS h0
  refine ⟨inr_of hO hg5, ?_⟩
  obtain ⟨hg6, h0⟩ := grdS h0
  refine ⟨inr_of hO hg6, ?_⟩
  obtain ⟨hg7, h0⟩ := grdS h0
  refine ⟨inr_of hO hg7, ?_⟩
  cases h0
  exact fin_ok hX rfl ⟨[], _, _, ⟨rfl, rfl⟩, rfl, rfl, rfl, rfl, by cbv; try simp⟩
set_option maxHeartbeats 4000000 in
theorem fn_ref16_Make {O0 : Ops} (hO0 : O0 = std) {period_1 : Int} {l_1 : List (Int × Int)} {r1 : Int} {r2 : Int} {r3 : List (Int × Int)} {r4 : Int} (h : m_ref16_Make O0 period_1 l_1 = some (r1, r2, r3, r4)) :
    Fn Try.prog 54 [.c (.int .i64 period_1), .c (.sl 0)] [.arr false .i2 l_1] (fun v c => v = .tup [.many [.int .i64 r1, .int .i64 r2, .sl 1], .one (.int .i64 r4)] ∧ c = [.arr true .i2 r3]) := by
  refine fn_run tab_holds eqs_holds mixed [(8, (.seg 1 [0, 1, 2, 3, 4, 5, 6, 7, 8, 9, 10, 11, 12, 13, 14, 15] (.seg 2 [16] .fin)), [17, 18]), (10, (.seg 1 [0, 1, 2, 3, 4, 5, 6, 7, 8, 9, 10] .fin), [11, 12])] Try.func54 (by kernel_rfl) (by kernel_rfl) (Nat.le_of_ble_eq_true rfl) ?_
  intro O X hO hX
  rw [hO0, ← hO] at h
  unfold m_ref16_Make at h
  have h0 := h; clear h
  cbv
  obtain ⟨hg0, h0⟩ := grdS h0
  refine ⟨idx_of hO hg0, ?_⟩
  obtain ⟨hg1, h0⟩ := grdS h0
  refine ⟨kin_of hO hg1, ?_⟩
  obtain ⟨x99, h1, h0⟩ := bindS h0
  rcases condS h1 with ⟨hc2, h1⟩ | ⟨hc2, h1⟩
  · rw [hc2]
    cbv
    cases h1
    try dsimp only at h0
    replace h0 := condT h0 rfl
    cases h0
    refine fin_nil hX .i2 2 rfl ?_
    cbv
    exact fin_ok hX rfl ⟨[2], _, _, ⟨rfl, rfl⟩, rfl, rfl, rfl, rfl, by cbv; try simp⟩
  · as_aux_lemma =>
    rw [hc2]
    cbv
    cases h1
    try dsimp only at h0
    rcases condS h0 with ⟨hc3, h0⟩ | ⟨hc3, h0⟩
    · rw [hc3]
      cbv
      cases h0
      refine fin_nil hX .i2 2 rfl ?_
      cbv
      exact fin_ok hX rfl ⟨[2], _, _, ⟨rfl, rfl⟩, rfl, rfl, rfl, rfl, by cbv; try simp⟩
    · as_aux_lemma =>
      rw [hc3]
      cbv
      obtain ⟨l27, hi, h0⟩ := bindS h0
      obtain ⟨I1, hI1, hi⟩ := loopS hi
      refine loop1 tab_holds eqs_holds mixed [(8, (.seg 1 [0, 1, 2, 3, 4, 5, 6, 7, 8, 9, 10, 11, 12, 13, 14, 15] (.seg 2 [16] .fin)), [17, 18]), (10, (.seg 1 [0, 1, 2, 3, 4, 5, 6, 7, 8, 9, 10] .fin), [11, 12])] hO hX I1 (fun y => [(7, .c (.sl 2)), (8, .c (.int .i64 y.2.1))]) (fun y => [(2, .own 49 .i2 y.2.2)]) (fun y => y.1) _ (by kernel_rfl) hi (by cbv; try simp) ?_
      rintro ⟨n1, i6, l26⟩ hi
      cbv
      rw [hI1] at hi
      obtain ⟨n1, rfl, x1, h1, hi1⟩ := iterS hi
      unfold m_ref16_Make_L1 at h1
      try dsimp only at h1
      rcases condS h1 with ⟨hc4, h1⟩ | ⟨hc4, h1⟩
      · rw [hc4]
        cbv
        obtain ⟨hg5, h1⟩ := grdS h1
        refine ⟨idx_of hO hg5, ?_⟩
        obtain ⟨hg6, h1⟩ := grdS h1
        refine ⟨kin_of hO hg6, ?_⟩
        obtain ⟨hg7, h1⟩ := grdS h1
        refine ⟨inr_of hO hg7, ?_⟩
        refine ⟨idx_of hO hg5, ?_⟩
        refine ⟨kin_of hO hg6, ?_⟩
        obtain ⟨hg8, h1⟩ := grdS h1
        refine ⟨inr_of hO hg8, ?_⟩
        obtain ⟨hg9, h1⟩ := grdS h1
        refine ⟨room_of hO hg9, ?_⟩
        obtain ⟨hg10, h1⟩ := grdS h1
        refine ⟨room_of hO hg10, ?_⟩
        obtain ⟨hg11, h1⟩ := grdS h1
        refine ⟨inr_of hO hg11, ?_⟩
        cases h1
        exact ⟨_, [0, 1, 4], nextI hI1 hi1, by cbv; try simp, by first | exact Nat.lt_succ_self _ | omega⟩
      · rw [hc4]
        cbv
        cases h1
        cases exitI hi1
        try dsimp only at h0
        obtain ⟨n70, hv, h0⟩ := bindS h0
        refine call_go hO hX (fn_ref16_least hO hv) (by kernel_rfl) [2] rfl ⟨rfl, rfl, trivial⟩ rfl ?_
        rintro _ _ ⟨rfl, rfl⟩
        cbv
        obtain ⟨hg5, h0⟩ := grdS h0
        refine ⟨nz_of hO hg5, ?_⟩
        obtain ⟨hg6, h0⟩ := grdS h0
        refine ⟨inr_of hO hg6, ?_⟩
        obtain ⟨hg7, h0⟩ := grdS h0
        refine ⟨nz_of hO hg7, ?_⟩
        obtain ⟨hg8, h0⟩ := grdS h0
        refine ⟨inr_of hO hg8, ?_⟩
        obtain ⟨hg9, h0⟩ := grdS h0
        refine ⟨rng_of hO hg9, ?_⟩
        cases h0
        exact fin_ok hX rfl ⟨[3], _, _, ⟨rfl, rfl⟩, rfl, rfl, rfl, rfl, by cbv; try simp⟩
set_option maxHeartbeats 4000000 in
theorem fn_ref16_Groups {O0 : Ops} (hO0 : O0 = std) {c_1 : Int} {c_2 : Int} {first_1 : Int} {m_1 : Int} {c_3 : List (Int × Int)} {r1 : Int} {r2 : Int} {r3 : List (Int × Int)} {r4 : Int} (h : m_ref16_Groups O0 c_1 c_2 first_1 m_1 c_3 = some (r1, r2, r3, r4)) :
    Fn Try.prog 18 [.agg [.int .i64 c_1, .int .i64 c_2, .sl 0], .c (.int .i64 first_1), .c (.int .i64 m_1)] [.arr false .i2 c_3] (fun v c => v = .tup [.many [.int .i64 r1, .int .i64 r2, .sl 1], .one (.int .i64 r4)] ∧ c = [.arr true .i2 r3]) := by
  refine fn_run tab_holds eqs_holds mixed [(5, (.seg 1 [0, 1, 2, 3, 4, 5, 6] .fin), []), (13, (.seg 1 [0, 1, 2, 3, 4, 5, 6, 9, 10, 11, 12, 13, 14, 15, 16] (.seg 2 [7] (.seg 1 [8] (.seg 2 [17] (.seg 1 [18, 19] (.seg 2 [20] .fin)))))), [21, 22]), (14, (.seg 1 [0, 1, 2, 3, 4, 5, 6] (.seg 2 [7] (.seg 1 [8, 9] .fin))), [10, 11])] Try.func18 (by kernel_rfl) (by kernel_rfl) (Nat.le_of_ble_eq_true rfl) ?_
  intro O X hO hX
  rw [hO0, ← hO] at h
  unfold m_ref16_Groups at h
  have h0 := h; clear h
  cbv
  obtain ⟨x93, h1, h0⟩ := bindS h0
  rcases condS h1 with ⟨hc0, h1⟩ | ⟨hc0, h1⟩
  · rw [hc0]
    cbv
    cases h1
    try dsimp only at h0
    replace h0 := condT h0 rfl
    cases h0
    refine fin_nil hX .i2 3 rfl ?_
    cbv
    exact fin_ok hX rfl ⟨[3], _, _, ⟨rfl, rfl⟩, rfl, rfl, rfl, rfl, by cbv; try simp⟩
  · as_aux_lemma =>
    rw [hc0]
    cbv
    rcases condS h1 with ⟨hc1, h1⟩ | ⟨hc1, h1⟩
    · rw [hc1]
      cbv
      cases h1
      try dsimp only at h0
      replace h0 := condT h0 rfl
      cases h0
      refine fin_nil hX .i2 3 rfl ?_
      cbv
      exact fin_ok hX rfl ⟨[3], _, _, ⟨rfl, rfl⟩, rfl, rfl, rfl, rfl, by cbv; try simp⟩
    · as_aux_lemma =>
      rw [hc1]
      cbv
      rcases condS h1 with ⟨hc2, h1⟩ | ⟨hc2, h1⟩
      · rw [hc2]
        cbv
        cases h1
        try dsimp only at h0
        replace h0 := condT h0 rfl
        cases h0
        refine fin_nil hX .i2 3 rfl ?_
        cbv
        exact fin_ok hX rfl ⟨[3], _, _, ⟨rfl, rfl⟩, rfl, rfl, rfl, rfl, by cbv; try simp⟩
      · as_aux_lemma =>
        rw [hc2]
        cbv
        cases h1
        try dsimp only at h0
        rcases condS h0 with ⟨hc3, h0⟩ | ⟨hc3, h0⟩
        · rw [hc3]
          cbv
          cases h0
          refine fin_nil hX .i2 3 rfl ?_
          cbv
          exact fin_ok hX rfl ⟨[3], _, _, ⟨rfl, rfl⟩, rfl, rfl, rfl, rfl, by cbv; try simp⟩
        · as_aux_lemma =>
          rw [hc3]
          cbv
          obtain ⟨n57, hv, h0⟩ := bindS h0
          refine call_go hO hX (fn_ref01_Gcd hO hv) (by kernel_rfl) [] rfl trivial rfl ?_
          rintro _ _ ⟨rfl, rfl⟩
          cbv
          obtain ⟨hg4, h0⟩ := grdS h0
          refine ⟨nz_of hO hg4, ?_⟩
          obtain ⟨hg5, h0⟩ := grdS h0
          refine ⟨inr_of hO hg5, ?_⟩
          obtain ⟨hg6, h0⟩ := grdS h0
          refine ⟨nz_of hO hg6, ?_⟩
          obtain ⟨hg7, h0⟩ := grdS h0
          refine ⟨inr_of hO hg7, ?_⟩
          rcases condS h0 with ⟨hc8, h0⟩ | ⟨hc8, h0⟩
          · rw [hc8]
            cbv
            cases h0
            refine fin_nil hX .i2 3 rfl ?_
            cbv
            exact fin_ok hX rfl ⟨[3], _, _, ⟨rfl, rfl⟩, rfl, rfl, rfl, rfl, by cbv; try simp⟩
          · as_aux_lemma =>
            rw [hc8]
            cbv
            refine ⟨nz_of hO hg4, ?_⟩
            obtain ⟨hg9, h0⟩ := grdS h0
            refine ⟨inr_of hO hg9, ?_⟩
            rcases condS h0 with ⟨hc10, h0⟩ | ⟨hc10, h0⟩
            · rw [hc10]
              cbv
              cases h0
              refine fin_nil hX .i2 3 rfl ?_
              cbv
              exact fin_ok hX rfl ⟨[3], _, _, ⟨rfl, rfl⟩, rfl, rfl, rfl, rfl, by cbv; try simp⟩
            · as_aux_lemma =>
              rw [hc10]
              cbv
              obtain ⟨l25, hi, h0⟩ := bindS h0
              obtain ⟨I1, hI1, hi⟩ := loopS hi
              refine loop1 tab_holds eqs_holds mixed [(5, (.seg 1 [0, 1, 2, 3, 4, 5, 6] .fin), []), (13, (.seg 1 [0, 1, 2, 3, 4, 5, 6, 9, 10, 11, 12, 13, 14, 15, 16] (.seg 2 [7] (.seg 1 [8] (.seg 2 [17] (.seg 1 [18, 19] (.seg 2 [20] .fin)))))), [21, 22]), (14, (.seg 1 [0, 1, 2, 3, 4, 5, 6] (.seg 2 [7] (.seg 1 [8, 9] .fin))), [10, 11])] hO hX I1 (fun y => [(27, .junk), (36, .junk), (10, .c (.sl 3)), (11, .c (.int .i64 y.2.1))]) (fun y => [(3, .own 49 .i2 y.2.2)]) (fun y => y.1) _ (by kernel_rfl) hi (by cbv; try simp) ?_
              rintro ⟨n1, j2, l24⟩ hi
              cbv
              rw [hI1] at hi
              obtain ⟨n1, rfl, x1, h1, hi1⟩ := iterS hi
              unfold m_ref16_Groups_L1 at h1
              try dsimp only at h1
              refine ⟨nz_of hO hg4, ?_⟩
              refine ⟨inr_of hO hg9, ?_⟩
              rcases condS h1 with ⟨hc11, h1⟩ | ⟨hc11, h1⟩
              · rw [hc11]
                cbv
                obtain ⟨hg12, h1⟩ := grdS h1
                refine ⟨inr_of hO hg12, ?_⟩
                obtain ⟨hg13, h1⟩ := grdS h1
                refine ⟨inr_of hO hg13, ?_⟩
                obtain ⟨hg14, h1⟩ := grdS h1
                refine ⟨inr_of hO hg14, ?_⟩
                obtain ⟨hg15, h1⟩ := grdS h1
                refine ⟨inr_of hO hg15, ?_⟩
                obtain ⟨hg16, h1⟩ := grdS h1
                refine ⟨inr_of hO hg16, ?_⟩
                obtain ⟨hg17, h1⟩ := grdS h1
                refine ⟨inr_of hO hg17, ?_⟩
                obtain ⟨⟨n66, n67⟩, hv, h1⟩ := bindS h1
                try dsimp only at h1
                refine call_go hO hX (fn_ref16_Granule hO hv) (by kernel_rfl) [0] rfl ⟨rfl, rfl, trivial⟩ rfl ?_
                rintro _ _ ⟨rfl, rfl⟩
                cbv
                obtain ⟨⟨n68, n69⟩, hv, h1⟩ := bindS h1
                try dsimp only at h1
                refine call_go hO hX (fn_ref16_Granule hO hv) (by kernel_rfl) [0] rfl ⟨rfl, rfl, trivial⟩ rfl ?_
                rintro _ _ ⟨rfl, rfl⟩
                cbv
                obtain ⟨hg18, h1⟩ := grdS h1
                refine ⟨room_of hO hg18, ?_⟩
                obtain ⟨hg19, h1⟩ := grdS h1
                refine ⟨room_of hO hg19, ?_⟩
                refine ⟨inr_of hO hg14, ?_⟩
                cases h1
                exact ⟨_, [0, 1, 2, 5], nextI hI1 hi1, by cbv; try simp, by first | exact Nat.lt_succ_self _ | omega⟩
              · rw [hc11]
                cbv
                cases h1
                cases exitI hi1
                try dsimp only at h0
                refine ⟨nz_of hO hg4, ?_⟩
                refine ⟨inr_of hO hg5, ?_⟩
                obtain ⟨hg12, h0⟩ := grdS h0
                refine ⟨inr_of hO hg12, ?_⟩
                obtain ⟨⟨n71, n72, l28, n73⟩, hv, h0⟩ := bindS h0
                try dsimp only at h0
                refine call_go hO hX (fn_ref16_Make hO hv) (by kernel_rfl) [3] rfl ⟨rfl, rfl, trivial⟩ rfl ?_
                rintro _ _ ⟨rfl, rfl⟩
                cbv
                cases h0
                exact fin_ok hX rfl ⟨[4], _, _, ⟨rfl, rfl⟩, rfl, rfl, rfl, rfl, by cbv; try simp⟩
set_option maxHeartbeats 4000000 in
theorem fn_law16_GroupGroups {O0 : Ops} (hO0 : O0 = std) {c_1 : Int} {c_2 : Int} {first_1 : Int} {m_1 : Int} {c_3 : List (Int × Int)} {r1 : Bool} (h : m_law16_GroupGroups O0 c_1 c_2 first_1 m_1 c_3 = some r1) :
    Fn Try.prog 3 [.agg [.int .i64 c_1, .int .i64 c_2, .sl 0], .c (.int .i64 first_1), .c (.int .i64 m_1)] [.arr false .i2 c_3] (fun v c => v = .c (.bool r1) ∧ c = []) := by
  refine fn_run tab_holds eqs_holds mixed [] Try.func3 (by kernel_rfl) (by kernel_rfl) (Nat.le_of_ble_eq_true rfl) ?_
  intro O X hO hX
  rw [hO0, ← hO] at h
  unfold m_law16_GroupGroups at h
  have h0 := h; clear h
  cbv
  obtain ⟨b18, hv, h0⟩ := bindS h0
  refine call_go hO hX (fn_law16_awake hO hv) (by kernel_rfl) [] rfl trivial rfl ?_
  rintro _ _ ⟨rfl, rfl⟩
  cbv
  rcases condS h0 with ⟨hc0, h0⟩ | ⟨hc0, h0⟩
  · rw [hc0]
    cbv
    cases h0
    exact fin_ok hX rfl ⟨[], _, _, ⟨rfl, rfl⟩, rfl, rfl, rfl, rfl, by cbv; try simp⟩
  · as_aux_lemma =>
    rw [hc0]
    cbv
    obtain ⟨b21, hv, h0⟩ := bindS h0
    refine call_go hO hX (fn_law16_great hO hv) (by kernel_rfl) [2, 0] rfl ⟨rfl, rfl, rfl, rfl, trivial⟩ rfl ?_
    rintro _ _ ⟨rfl, rfl⟩
    cbv
    rcases condS h0 with ⟨hc1, h0⟩ | ⟨hc1, h0⟩
    · rw [hc1]
      cbv
      cases h0
      exact fin_ok hX rfl ⟨[], _, _, ⟨rfl, rfl⟩, rfl, rfl, rfl, rfl, by cbv; try simp⟩
    · rw [hc1]
      cbv
      obtain ⟨⟨n53, n54, l23, n55⟩, hv, h0⟩ := bindS h0
      try dsimp only at h0
      refine call_go hO hX (fn_group_Groups hO hv) (by kernel_rfl) [0] rfl ⟨rfl, rfl, trivial⟩ rfl ?_
      rintro _ _ ⟨rfl, rfl⟩
      cbv
      obtain ⟨b23, hv, h0⟩ := bindS h0
      refine call_go hO hX (fn_ref16_Valid hO hv) (by kernel_rfl) [0] rfl ⟨rfl, rfl, trivial⟩ rfl ?_
      rintro _ _ ⟨rfl, rfl⟩
      cbv
      rcases condS h0 with ⟨hc2, h0⟩ | ⟨hc2, h0⟩
      · rw [hc2]
        cbv
        refine call_nil hO hX .i2 5 rfl ?_
        cbv
        obtain ⟨b26, hv, h0⟩ := bindS h0
        refine call_go hO hX (fn_law16_is hO hv) (by kernel_rfl) [3, 5] rfl ⟨rfl, rfl, rfl, rfl, trivial⟩ rfl ?_
        rintro _ _ ⟨rfl, rfl⟩
        cbv
        cases h0
        exact fin_ok hX rfl ⟨[], _, _, ⟨rfl, rfl⟩, rfl, rfl, rfl, rfl, by cbv; try simp⟩
      · rw [hc2]
        cbv
        obtain ⟨⟨n74, n75, l29, n76⟩, hv, h0⟩ := bindS h0
        try dsimp only at h0
        refine call_go hO hX (fn_ref16_Groups hO hv) (by kernel_rfl) [0] rfl ⟨rfl, rfl, trivial⟩ rfl ?_
        rintro _ _ ⟨rfl, rfl⟩
        cbv
        obtain ⟨b28, hv, h0⟩ := bindS h0
        refine call_go hO hX (fn_law16_is hO hv) (by kernel_rfl) [3, 5] rfl ⟨rfl, rfl, rfl, rfl, trivial⟩ rfl ?_
        rintro _ _ ⟨rfl, rfl⟩
        cbv
        cases h0
        exact fin_ok hX rfl ⟨[], _, _, ⟨rfl, rfl⟩, rfl, rfl, rfl, rfl, by cbv; try simp⟩
set_option maxHeartbeats 4000000 in
theorem fn_group_Split_1 {O0 : Ops} (hO0 : O0 = std) {s_1 : Int} {s_2 : Int} {x_1 : Int} {r1 : Bool} (h : m_group_Split_1 O0 s_1 s_2 x_1 = some r1) :
    Fn Try.prog 56 [.agg [.int .i64 s_1, .int .i64 s_2], .c (.ptr 0 0)] [.ro 3 [.int .i64 x_1]] (fun v c => v = .c (.bool r1) ∧ c = []) := by
  refine fn_run tab_holds eqs_holds mixed [] Try.func56 (by kernel_rfl) (by kernel_rfl) (Nat.le_of_ble_eq_true rfl) ?_
  intro O X hO hX
  rw [hO0, ← hO] at h
  unfold m_group_Split_1 at h
  have h0 := h; clear h
  cbv
  obtain ⟨hg0, h0⟩ := grdS h0
  refine ⟨inr_of hO hg0, ?_⟩
  obtain ⟨hg1, h0⟩ := grdS h0
  refine ⟨nz_of hO hg1, ?_⟩
  cases h0
  exact fin_ok hX rfl ⟨[], _, _, ⟨rfl, rfl⟩, rfl, rfl, rfl, rfl, by cbv; try simp⟩
set_option maxHeartbeats 4000000 in
theorem fn_slices_IndexFunc_3 {O0 : Ops} (hO0 : O0 = std) {s_1 : List (Int × Int)} {c_1 : Int} {r1 : Int} (h : m_slices_IndexFunc_3 O0 s_1 c_1 = some r1) :
    Fn Try.prog 91 [.c (.sl 0), .c (.fn 56 [1])] [.arr false .i2 s_1, .ro 3 [.int .i64 c_1]] (fun v c => v = .c (.int .i64 r1) ∧ c = []) := by
  refine fn_run tab_holds eqs_holds mixed [] Try.func91 (by kernel_rfl) (by kernel_rfl) (Nat.le_of_ble_eq_true rfl) ?_
  intro O X hO hX
  rw [hO0, ← hO] at h
  unfold m_slices_IndexFunc_3 at h
  have h0 := h; clear h
  cbv
  obtain ⟨e1, hi, h0⟩ := bindS h0
  obtain ⟨I1, hI1, hi⟩ := loopS hi
  refine loop1 tab_holds eqs_holds mixed [] hO hX I1 (fun y => [(8, .c (.int .i64 y.2))]) (fun _ => []) (fun y => y.1) _ (by kernel_rfl) hi (by cbv; try simp) ?_
  rintro ⟨n1, x102⟩ hi
  cbv
  rw [hI1] at hi
  obtain ⟨n1, rfl, x1, h1, hi1⟩ := iterS hi
  unfold m_slices_IndexFunc_3_L1 at h1
  try dsimp only at h1
  rcases condS h1 with ⟨hc0, h1⟩ | ⟨hc0, h1⟩
  · rw [hc0]
    cbv
    obtain ⟨hg1, h1⟩ := grdS h1
    refine ⟨idx_of hO hg1, ?_⟩
    obtain ⟨hg2, h1⟩ := grdS h1
    refine ⟨kin_of hO hg2, ?_⟩
    obtain ⟨b32, hv, h1⟩ := bindS h1
    refine call_go hO hX (fn_group_Split_1 hO hv) (by kernel_rfl) [1] rfl ⟨rfl, rfl, trivial⟩ rfl ?_
    rintro _ _ ⟨rfl, rfl⟩
    cbv
    rcases condS h1 with ⟨hc3, h1⟩ | ⟨hc3, h1⟩
    · rw [hc3]
      cbv
      cases h1
      cases exitI hi1
      try dsimp only at h0
      cases h0
      exact fin_ok hX rfl ⟨[], _, _, ⟨rfl, rfl⟩, rfl, rfl, rfl, rfl, by cbv; try simp⟩
    · rw [hc3]
      cbv
      obtain ⟨hg4, h1⟩ := grdS h1
      refine ⟨inr_of hO hg4, ?_⟩
      cases h1
      exact ⟨_, [0, 1], nextI hI1 hi1, by cbv; try simp, by first | exact Nat.lt_succ_self _ | omega⟩
  · rw [hc0]
    cbv
    cases h1
    cases exitI hi1
    try dsimp only at h0
    cases h0
    exact fin_ok hX rfl ⟨[], _, _, ⟨rfl, rfl⟩, rfl, rfl, rfl, rfl, by cbv; try simp⟩
set_option maxHeartbeats 4000000 in
theorem fn_slices_ContainsFunc_3 {O0 : Ops} (hO0 : O0 = std) {s_1 : List (Int × Int)} {c_1 : Int} {r1 : Bool} (h : m_slices_ContainsFunc_3 O0 s_1 c_1 = some r1) :
    Fn Try.prog 55 [.c (.sl 0), .c (.fn 56 [1])] [.arr false .i2 s_1, .ro 3 [.int .i64 c_1]] (fun v c => v = .c (.bool r1) ∧ c = []) := by
  refine fn_run tab_holds eqs_holds mixed [] Try.func55 (by kernel_rfl) (by kernel_rfl) (Nat.le_of_ble_eq_true rfl) ?_
  intro O X hO hX
  rw [hO0, ← hO] at h
  unfold m_slices_ContainsFunc_3 at h
  have h0 := h; clear h
  cbv
  obtain ⟨n77, hv, h0⟩ := bindS h0
  refine call_go hO hX (fn_slices_IndexFunc_3 hO hv) (by kernel_rfl) [0, 1] rfl ⟨rfl, rfl, rfl, rfl, trivial⟩ rfl ?_
  rintro _ _ ⟨rfl, rfl⟩
  cbv
  cases h0
  exact fin_ok hX rfl ⟨[], _, _, ⟨rfl, rfl⟩, rfl, rfl, rfl, rfl, by cbv; try simp⟩
set_option maxHeartbeats 4000000 in
theorem fn_group_Split_2 {O0 : Ops} (hO0 : O0 = std) {i_1 : Int} {x_1 : Int} {x_2 : Int} {x_3 : Int} {x_4 : List (Int × Int)} {r1 : Int} {r2 : Int} {r3 : Bool} (h : m_group_Split_2 O0 i_1 x_1 x_2 x_3 x_4 = some (r1, r2, r3)) :
    Fn Try.prog 57 [.c (.int .i64 i_1), .c (.ptr 0 0), .c (.ptr 1 0)] [.ro 24 [.int .i64 x_1, .int .i64 x_2, .sl 2], .ro 3 [.int .i64 x_3], .arr false .i2 x_4] (fun v c => v = .tup [.many [.int .i64 r1, .int .i64 r2], .one (.bool r3)] ∧ c = []) := by
  refine fn_run tab_holds eqs_holds mixed [(1, (.seg 1 [0, 1, 2, 3] (.alt 4 (.seg 2 [5] (.seg 3 [6] .fin)) (.alt 5 (.seg 2 [4] (.seg 3 [6] .fin)) .no))), []), (3, (.seg 1 [0, 1, 2, 3, 4, 5, 6, 7, 8, 9, 10, 11, 12, 13, 14, 15, 16, 17] .fin), [18, 19])] Try.func57 (by kernel_rfl) (by kernel_rfl) (Nat.le_of_ble_eq_true rfl) ?_
  intro O X hO hX
  rw [hO0, ← hO] at h
  unfold m_group_Split_2 at h
  have h0 := h; clear h
  cbv
  refine ⟨?_, ?_, trivial⟩
  · obtain ⟨hg0, h0⟩ := grdS h0
    refine ⟨nz_of hO hg0, ?_⟩
    obtain ⟨hg1, h0⟩ := grdS h0
    refine ⟨inr_of hO hg1, ?_⟩
    obtain ⟨⟨n78, n79⟩, hv, h0⟩ := bindS h0
    try dsimp only at h0
    refine call_go hO hX (fn_group_at hO hv) (by kernel_rfl) [2] rfl ⟨rfl, rfl, trivial⟩ rfl ?_
    rintro _ _ ⟨rfl, rfl⟩
    cbv
    obtain ⟨hg2, h0⟩ := grdS h0
    refine ⟨inr_of hO hg2, ?_⟩
    refine ⟨nz_of hO hg0, ?_⟩
    obtain ⟨hg3, h0⟩ := grdS h0
    refine ⟨inr_of hO hg3, ?_⟩
    refine ⟨nz_of hO hg0, ?_⟩
    obtain ⟨hg4, h0⟩ := grdS h0
    refine ⟨inr_of hO hg4, ?_⟩
    obtain ⟨hg5, h0⟩ := grdS h0
    refine ⟨inr_of hO hg5, ?_⟩
    refine ⟨nz_of hO hg0, ?_⟩
    obtain ⟨hg6, h0⟩ := grdS h0
    refine ⟨inr_of hO hg6, ?_⟩
    obtain ⟨hg7, h0⟩ := grdS h0
    refine ⟨inr_of hO hg7, ?_⟩
    obtain ⟨hg8, h0⟩ := grdS h0
    refine ⟨inr_of hO hg8, ?_⟩
    cases h0
    exact fin_ok hX rfl ⟨[], _, _, ⟨rfl, rfl⟩, rfl, rfl, rfl, rfl, by cbv; try simp⟩
  · obtain ⟨hg0, h0⟩ := grdS h0
    refine ⟨nz_of hO hg0, ?_⟩
    obtain ⟨hg1, h0⟩ := grdS h0
    refine ⟨inr_of hO hg1, ?_⟩
    obtain ⟨⟨n78, n79⟩, hv, h0⟩ := bindS h0
    try dsimp only at h0
    refine call_go hO hX (fn_group_at hO hv) (by kernel_rfl) [2] rfl ⟨rfl, rfl, trivial⟩ rfl ?_
    rintro _ _ ⟨rfl, rfl⟩
    cbv
    obtain ⟨hg2, h0⟩ := grdS h0
    refine ⟨inr_of hO hg2, ?_⟩
    refine ⟨nz_of hO hg0, ?_⟩
    obtain ⟨hg3, h0⟩ := grdS h0
    refine ⟨inr_of hO hg3, ?_⟩
    refine ⟨nz_of hO hg0, ?_⟩
    obtain ⟨hg4, h0⟩ := grdS h0
    refine ⟨inr_of hO hg4, ?_⟩
    obtain ⟨hg5, h0⟩ := grdS h0
    refine ⟨inr_of hO hg5, ?_⟩
    refine ⟨nz_of hO hg0, ?_⟩
    obtain ⟨hg6, h0⟩ := grdS h0
    refine ⟨inr_of hO hg6, ?_⟩
    obtain ⟨hg7, h0⟩ := grdS h0
    refine ⟨inr_of hO hg7, ?_⟩
    obtain ⟨hg8, h0⟩ := grdS h0
    refine ⟨inr_of hO hg8, ?_⟩
    cases h0
    exact fin_ok hX rfl ⟨[], _, _, ⟨rfl, rfl⟩, rfl, rfl, rfl, rfl, by cbv; try simp⟩
set_option maxHeartbeats 4000000 in
theorem fn_group_collect_2 {O0 : Ops} (hO0 : O0 = std) {period_1 : Int} {n_1 : Int} {c_1 : Int} {c_2 : Int} {c_3 : Int} {c_4 : List (Int × Int)} {r1 : Int} {r2 : Int} {r3 : List (Int × Int)} {r4 : Int} (h : m_group_collect_2 O0 period_1 n_1 c_1 c_2 c_3 c_4 = some (r1, r2, r3, r4)) :
    Fn Try.prog 48 [.c (.int .i64 period_1), .c (.int .i64 n_1), .c (.fn 57 [0, 1])] [.ro 24 [.int .i64 c_1, .int .i64 c_2, .sl 2], .ro 3 [.int .i64 c_3], .arr false .i2 c_4] (fun v c => v = .tup [.many [.int .i64 r1, .int .i64 r2, .sl 3], .one (.int .i64 r4)] ∧ c = [.arr true .i2 r3]) := by
  refine fn_run tab_holds eqs_holds mixed [] Try.func48 (by kernel_rfl) (by kernel_rfl) (Nat.le_of_ble_eq_true rfl) ?_
  intro O X hO hX
  rw [hO0, ← hO] at h
  unfold m_group_collect_2 at h
  have h0 := h; clear h
  cbv
  obtain ⟨l35, hi, h0⟩ := bindS h0
  obtain ⟨I1, hI1, hi⟩ := loopS hi
  refine loop1 tab_holds eqs_holds mixed [] hO hX I1 (fun y => [(8, .c (.sl 4)), (13, .c (.int .i64 y.2.1))]) (fun y => [(4, .own 49 .i2 y.2.2)]) (fun y => y.1) _ (by kernel_rfl) hi (by cbv; try simp) ?_
  rintro ⟨n1, x109, l32⟩ hi
  cbv
  rw [hI1] at hi
  obtain ⟨n1, rfl, x1, h1, hi1⟩ := iterS hi
  unfold m_group_collect_2_L1 at h1
  try dsimp only at h1
  rcases condS h1 with ⟨hc0, h1⟩ | ⟨hc0, h1⟩
  · rw [hc0]
    cbv
    obtain ⟨⟨n82, n83, b35⟩, hv, h1⟩ := bindS h1
    try dsimp only at h1
    refine call_go hO hX (fn_group_Split_2 hO hv) (by kernel_rfl) [0, 1, 2] rfl ⟨rfl, rfl, rfl, rfl, rfl, rfl, trivial⟩ rfl ?_
    rintro _ _ ⟨rfl, rfl⟩
    cbv
    obtain ⟨l34, h2, h1⟩ := bindS h1
    rcases condS h2 with ⟨hc1, h2⟩ | ⟨hc1, h2⟩
    · rw [hc1]
      cbv
      obtain ⟨hg2, h2⟩ := grdS h2
      refine ⟨room_of hO hg2, ?_⟩
      obtain ⟨hg3, h2⟩ := grdS h2
      refine ⟨room_of hO hg3, ?_⟩
      cases h2
      try dsimp only at h1
      obtain ⟨hg4, h1⟩ := grdS h1
      refine ⟨inr_of hO hg4, ?_⟩
      cases h1
      exact ⟨_, [0, 1, 2, 3, 7], nextI hI1 hi1, by cbv; try simp, by first | exact Nat.lt_succ_self _ | omega⟩
    · rw [hc1]
      cbv
      cases h2
      try dsimp only at h1
      obtain ⟨hg2, h1⟩ := grdS h1
      refine ⟨inr_of hO hg2, ?_⟩
      cases h1
      exact ⟨_, [0, 1, 2, 3, 4], nextI hI1 hi1, by cbv; try simp, by first | exact Nat.lt_succ_self _ | omega⟩
  · rw [hc0]
    cbv
    cases h1
    cases exitI hi1
    try dsimp only at h0
    rcases condS h0 with ⟨hc1, h0⟩ | ⟨hc1, h0⟩
    · rw [hc1]
      cbv
      cases h0
      refine fin_nil hX .i2 5 rfl ?_
      cbv
      exact fin_ok hX rfl ⟨[5], _, _, ⟨rfl, rfl⟩, rfl, rfl, rfl, rfl, by cbv; try simp⟩
    · rw [hc1]
      cbv
      obtain ⟨⟨n84, n85, l36, n86⟩, hv, h0⟩ := bindS h0
      try dsimp only at h0
      refine call_go hO hX (fn_group_made hO hv) (by kernel_rfl) [4] rfl ⟨rfl, rfl, trivial⟩ rfl ?_
      rintro _ _ ⟨rfl, rfl⟩
      cbv
      cases h0
      exact fin_ok hX rfl ⟨[5], _, _, ⟨rfl, rfl⟩, rfl, rfl, rfl, rfl, by cbv; try simp⟩
set_option maxHeartbeats 4000000 in
theorem fn_group_Split {O0 : Ops} (hO0 : O0 = std) {c_1 : Int} {c_2 : Int} {m_1 : Int} {c_3 : List (Int × Int)} {r1 : Int} {r2 : Int} {r3 : List (Int × Int)} {r4 : Int} (h : m_group_Split O0 c_1 c_2 m_1 c_3 = some (r1, r2, r3, r4)) :
    Fn Try.prog 19 [.agg [.int .i64 c_1, .int .i64 c_2, .sl 0], .c (.int .i64 m_1)] [.arr false .i2 c_3] (fun v c => v = .tup [.many [.int .i64 r1, .int .i64 r2, .sl 1], .one (.int .i64 r4)] ∧ c = [.arr true .i2 r3]) := by
  refine fn_run tab_holds eqs_holds mixed [] Try.func19 (by kernel_rfl) (by kernel_rfl) (Nat.le_of_ble_eq_true rfl) ?_
  intro O X hO hX
  rw [hO0, ← hO] at h
  unfold m_group_Split at h
  have h0 := h; clear h
  cbv
  obtain ⟨x101, h1, h0⟩ := bindS h0
  obtain ⟨b31, hv, h1⟩ := bindS h1
  refine call_go hO hX (fn_granule_Valid hO hv) (by kernel_rfl) [0] rfl ⟨rfl, rfl, trivial⟩ rfl ?_
  rintro _ _ ⟨rfl, rfl⟩
  cbv
  rcases condS h1 with ⟨hc0, h1⟩ | ⟨hc0, h1⟩
  · rw [hc0]
    cbv
    cases h1
    try dsimp only at h0
    obtain ⟨e1, h1, h0⟩ := bindS h0
    replace h1 := condT h1 rfl
    cases h1
    try dsimp only at h0
    cases h0
    refine fin_nil hX .i2 4 rfl ?_
    cbv
    exact fin_ok hX rfl ⟨[4], _, _, ⟨rfl, rfl⟩, rfl, rfl, rfl, rfl, by cbv; try simp⟩
  · as_aux_lemma =>
    rw [hc0]
    cbv
    rcases condS h1 with ⟨hc1, h1⟩ | ⟨hc1, h1⟩
    · rw [hc1]
      cbv
      cases h1
      try dsimp only at h0
      obtain ⟨e1, h1, h0⟩ := bindS h0
      replace h1 := condT h1 rfl
      cases h1
      try dsimp only at h0
      cases h0
      refine fin_nil hX .i2 4 rfl ?_
      cbv
      exact fin_ok hX rfl ⟨[4], _, _, ⟨rfl, rfl⟩, rfl, rfl, rfl, rfl, by cbv; try simp⟩
    · as_aux_lemma =>
      rw [hc1]
      cbv
      cases h1
      try dsimp only at h0
      obtain ⟨e1, h1, h0⟩ := bindS h0
      rcases condS h1 with ⟨hc2, h1⟩ | ⟨hc2, h1⟩
      · rw [hc2]
        cbv
        cases h1
        try dsimp only at h0
        cases h0
        refine fin_nil hX .i2 4 rfl ?_
        cbv
        exact fin_ok hX rfl ⟨[4], _, _, ⟨rfl, rfl⟩, rfl, rfl, rfl, rfl, by cbv; try simp⟩
      · as_aux_lemma =>
        rw [hc2]
        cbv
        obtain ⟨hg3, h1⟩ := grdS h1
        refine ⟨inr_of hO hg3, ?_⟩
        obtain ⟨e2, h2, h1⟩ := bindS h1
        rcases condS h2 with ⟨hc4, h2⟩ | ⟨hc4, h2⟩
        · rw [hc4]
          cbv
          cases h2
          try dsimp only at h1
          cases h1
          try dsimp only at h0
          cases h0
          refine fin_nil hX .i2 4 rfl ?_
          cbv
          exact fin_ok hX rfl ⟨[4], _, _, ⟨rfl, rfl⟩, rfl, rfl, rfl, rfl, by cbv; try simp⟩
        · rw [hc4]
          cbv
          obtain ⟨b33, hv, h2⟩ := bindS h2
          refine call_go hO hX (fn_slices_ContainsFunc_3 hO hv) (by kernel_rfl) [0, 2] rfl ⟨rfl, rfl, rfl, rfl, trivial⟩ rfl ?_
          rintro _ _ ⟨rfl, rfl⟩
          cbv
          rcases condS h2 with ⟨hc5, h2⟩ | ⟨hc5, h2⟩
          · rw [hc5]
            cbv
            cases h2
            try dsimp only at h1
            cases h1
            try dsimp only at h0
            cases h0
            refine fin_nil hX .i2 4 rfl ?_
            cbv
            exact fin_ok hX rfl ⟨[4], _, _, ⟨rfl, rfl⟩, rfl, rfl, rfl, rfl, by cbv; try simp⟩
          · rw [hc5]
            cbv
            cases h2
            try dsimp only at h1
            cases h1
            try dsimp only at h0
            refine ⟨inr_of hO hg3, ?_⟩
            obtain ⟨⟨n87, n88, l37, n89⟩, hv, h0⟩ := bindS h0
            try dsimp only at h0
            refine call_go hO hX (fn_group_collect_2 hO hv) (by kernel_rfl) [1, 2, 0] rfl ⟨rfl, rfl, rfl, rfl, rfl, rfl, trivial⟩ rfl ?_
            rintro _ _ ⟨rfl, rfl⟩
            cbv
            cases h0
            exact fin_ok hX rfl ⟨[4], _, _, ⟨rfl, rfl⟩, rfl, rfl, rfl, rfl, by cbv; try simp⟩
set_option maxHeartbeats 4000000 in
theorem fn_ref16_Split {O0 : Ops} (hO0 : O0 = std) {c_1 : Int} {c_2 : Int} {m_1 : Int} {c_3 : List (Int × Int)} {r1 : Int} {r2 : Int} {r3 : List (Int × Int)} {r4 : Int} (h : m_ref16_Split O0 c_1 c_2 m_1 c_3 = some (r1, r2, r3, r4)) :
    Fn Try.prog 20 [.agg [.int .i64 c_1, .int .i64 c_2, .sl 0], .c (.int .i64 m_1)] [.arr false .i2 c_3] (fun v c => v = .tup [.many [.int .i64 r1, .int .i64 r2, .sl 1], .one (.int .i64 r4)] ∧ c = [.arr true .i2 r3]) := by
  refine fn_run tab_holds eqs_holds mixed [] Try.func20 (by kernel_rfl) (by kernel_rfl) (Nat.le_of_ble_eq_true rfl) ?_
  intro O X hO hX
  rw [hO0, ← hO] at h
  unfold m_ref16_Split at h
  have h0 := h; clear h
  cbv
  obtain ⟨x111, h1, h0⟩ := bindS h0
  rcases condS h1 with ⟨hc0, h1⟩ | ⟨hc0, h1⟩
  · rw [hc0]
    cbv
    cases h1
    try dsimp only at h0
    replace h0 := condT h0 rfl
    cases h0
    refine fin_nil hX .i2 3 rfl ?_
    cbv
    exact fin_ok hX rfl ⟨[3], _, _, ⟨rfl, rfl⟩, rfl, rfl, rfl, rfl, by cbv; try simp⟩
  · as_aux_lemma =>
    rw [hc0]
    cbv
    cases h1
    try dsimp only at h0
    rcases condS h0 with ⟨hc1, h0⟩ | ⟨hc1, h0⟩
    · rw [hc1]
      cbv
      cases h0
      refine fin_nil hX .i2 3 rfl ?_
      cbv
      exact fin_ok hX rfl ⟨[3], _, _, ⟨rfl, rfl⟩, rfl, rfl, rfl, rfl, by cbv; try simp⟩
    · as_aux_lemma =>
      rw [hc1]
      cbv
      obtain ⟨hg2, h0⟩ := grdS h0
      refine ⟨inr_of hO hg2, ?_⟩
      rcases condS h0 with ⟨hc3, h0⟩ | ⟨hc3, h0⟩
      · rw [hc3]
        cbv
        cases h0
        refine fin_nil hX .i2 3 rfl ?_
        cbv
        exact fin_ok hX rfl ⟨[3], _, _, ⟨rfl, rfl⟩, rfl, rfl, rfl, rfl, by cbv; try simp⟩
      · as_aux_lemma =>
        rw [hc3]
        cbv
        obtain ⟨e1, hi, h0⟩ := bindS h0
        obtain ⟨I2, hI2, hi⟩ := loopS hi
        refine loop1 tab_holds eqs_holds mixed [] hO hX I2 (fun y => [(18, .junk), (6, .c (.sl 3)), (7, .c (.int .i64 y.2.1))]) (fun y => [(3, .own 49 .i2 y.2.2)]) (fun y => y.1) _ (by kernel_rfl) hi (by cbv; try simp) ?_
        rintro ⟨n2, k2, l41⟩ hi
        cbv
        rw [hI2] at hi
        obtain ⟨n2, rfl, x2, h1, hi2⟩ := iterS hi
        unfold m_ref16_Split_L2 at h1
        try dsimp only at h1
        rcases condS h1 with ⟨hc4, h1⟩ | ⟨hc4, h1⟩
        · as_aux_lemma =>
          rw [hc4]
          cbv
          obtain ⟨⟨n95, n96⟩, hv, h1⟩ := bindS h1
          try dsimp only at h1
          refine call_go hO hX (fn_ref16_Granule hO hv) (by kernel_rfl) [0] rfl ⟨rfl, rfl, trivial⟩ rfl ?_
          rintro _ _ ⟨rfl, rfl⟩
          cbv
          obtain ⟨hg5, h1⟩ := grdS h1
          refine ⟨inr_of hO hg5, ?_⟩
          obtain ⟨hg6, h1⟩ := grdS h1
          refine ⟨nz_of hO hg6, ?_⟩
          obtain ⟨hg7, h1⟩ := grdS h1
          refine ⟨inr_of hO hg7, ?_⟩
          obtain ⟨hg8, h1⟩ := grdS h1
          refine ⟨inr_of hO hg8, ?_⟩
          refine ⟨inr_of hO hg5, ?_⟩
          rcases condS h1 with ⟨hc9, h1⟩ | ⟨hc9, h1⟩
          · rw [hc9]
            cbv
            cases h1
            cases exitI hi2
            try dsimp only at h0
            cases h0
            refine fin_nil hX .i2 5 rfl ?_
            cbv
            exact fin_ok hX rfl ⟨[5], _, _, ⟨rfl, rfl⟩, rfl, rfl, rfl, rfl, by cbv; try simp⟩
          · rw [hc9]
            cbv
            obtain ⟨l43, hi, h1⟩ := bindS h1
            obtain ⟨I1, hI1, hi⟩ := loopS hi
            refine loop1 tab_holds eqs_holds mixed [] hO hX I1 (fun y => [(26, .junk), (35, .junk), (37, .junk), (45, .junk), (47, .junk), (6, .c (.sl 3)), (10, .c (.int .i64 y.2.1))]) (fun y => [(3, .own 49 .i2 y.2.2)]) (fun y => y.1) _ (by kernel_rfl) hi (by cbv; try simp) ?_
            rintro ⟨n1, i10, l42⟩ hi
            cbv
            rw [hI1] at hi
            obtain ⟨n1, rfl, x1, h2, hi1⟩ := iterS hi
            unfold m_ref16_Split_L1 at h2
            try dsimp only at h2
            rcases condS h2 with ⟨hc10, h2⟩ | ⟨hc10, h2⟩
            · rw [hc10]
              cbv
              obtain ⟨hg11, h2⟩ := grdS h2
              refine ⟨inr_of hO hg11, ?_⟩
              obtain ⟨hg12, h2⟩ := grdS h2
              refine ⟨inr_of hO hg12, ?_⟩
              obtain ⟨hg13, h2⟩ := grdS h2
              refine ⟨inr_of hO hg13, ?_⟩
              obtain ⟨hg14, h2⟩ := grdS h2
              refine ⟨inr_of hO hg14, ?_⟩
              obtain ⟨hg15, h2⟩ := grdS h2
              refine ⟨inr_of hO hg15, ?_⟩
              obtain ⟨hg16, h2⟩ := grdS h2
              refine ⟨room_of hO hg16, ?_⟩
              obtain ⟨hg17, h2⟩ := grdS h2
              refine ⟨room_of hO hg17, ?_⟩
              refine ⟨inr_of hO hg13, ?_⟩
              cases h2
              exact ⟨_, [0, 1, 2, 6, 4], nextI hI1 hi1, by cbv; try simp, by first | exact Nat.lt_succ_self _ | omega⟩
            · rw [hc10]
              cbv
              cases h2
              cases exitI hi1
              try dsimp only at h1
              obtain ⟨hg11, h1⟩ := grdS h1
              refine ⟨inr_of hO hg11, ?_⟩
              cases h1
              exact ⟨_, [0, 1, 2, 3], nextI hI2 hi2, by cbv; try simp, by first | exact Nat.lt_succ_self _ | omega⟩
        · rw [hc4]
          cbv
          cases h1
          cases exitI hi2
          try dsimp only at h0
          obtain ⟨⟨n97, n98, l45, n99⟩, hv, h0⟩ := bindS h0
          try dsimp only at h0
          refine call_go hO hX (fn_ref16_Make hO hv) (by kernel_rfl) [3] rfl ⟨rfl, rfl, trivial⟩ rfl ?_
          rintro _ _ ⟨rfl, rfl⟩
          cbv
          cases h0
          exact fin_ok hX rfl ⟨[4], _, _, ⟨rfl, rfl⟩, rfl, rfl, rfl, rfl, by cbv; try simp⟩
set_option maxHeartbeats 4000000 in
theorem fn_law16_GroupSplits {O0 : Ops} (hO0 : O0 = std) {c_1 : Int} {c_2 : Int} {m_1 : Int} {c_3 : List (Int × Int)} {r1 : Bool} (h : m_law16_GroupSplits O0 c_1 c_2 m_1 c_3 = some r1) :
    Fn Try.prog 4 [.agg [.int .i64 c_1, .int .i64 c_2, .sl 0], .c (.int .i64 m_1)] [.arr false .i2 c_3] (fun v c => v = .c (.bool r1) ∧ c = []) := by
  refine fn_run tab_holds eqs_holds mixed [] Try.func4 (by kernel_rfl) (by kernel_rfl) (Nat.le_of_ble_eq_true rfl) ?_
  intro O X hO hX
  rw [hO0, ← hO] at h
  unfold m_law16_GroupSplits at h
  have h0 := h; clear h
  cbv
  obtain ⟨b29, hv, h0⟩ := bindS h0
  refine call_go hO hX (fn_law16_awake hO hv) (by kernel_rfl) [] rfl trivial rfl ?_
  rintro _ _ ⟨rfl, rfl⟩
  cbv
  rcases condS h0 with ⟨hc0, h0⟩ | ⟨hc0, h0⟩
  · rw [hc0]
    cbv
    cases h0
    exact fin_ok hX rfl ⟨[], _, _, ⟨rfl, rfl⟩, rfl, rfl, rfl, rfl, by cbv; try simp⟩
  · as_aux_lemma =>
    rw [hc0]
    cbv
    obtain ⟨b30, hv, h0⟩ := bindS h0
    refine call_go hO hX (fn_law16_great hO hv) (by kernel_rfl) [2, 0] rfl ⟨rfl, rfl, rfl, rfl, trivial⟩ rfl ?_
    rintro _ _ ⟨rfl, rfl⟩
    cbv
    rcases condS h0 with ⟨hc1, h0⟩ | ⟨hc1, h0⟩
    · rw [hc1]
      cbv
      cases h0
      exact fin_ok hX rfl ⟨[], _, _, ⟨rfl, rfl⟩, rfl, rfl, rfl, rfl, by cbv; try simp⟩
    · rw [hc1]
      cbv
      obtain ⟨⟨n90, n91, l38, n92⟩, hv, h0⟩ := bindS h0
      try dsimp only at h0
      refine call_go hO hX (fn_group_Split hO hv) (by kernel_rfl) [0] rfl ⟨rfl, rfl, trivial⟩ rfl ?_
      rintro _ _ ⟨rfl, rfl⟩
      cbv
      obtain ⟨b36, hv, h0⟩ := bindS h0
      refine call_go hO hX (fn_ref16_Valid hO hv) (by kernel_rfl) [0] rfl ⟨rfl, rfl, trivial⟩ rfl ?_
      rintro _ _ ⟨rfl, rfl⟩
      cbv
      rcases condS h0 with ⟨hc2, h0⟩ | ⟨hc2, h0⟩
      · rw [hc2]
        cbv
        refine call_nil hO hX .i2 5 rfl ?_
        cbv
        obtain ⟨b37, hv, h0⟩ := bindS h0
        refine call_go hO hX (fn_law16_is hO hv) (by kernel_rfl) [3, 5] rfl ⟨rfl, rfl, rfl, rfl, trivial⟩ rfl ?_
        rintro _ _ ⟨rfl, rfl⟩
        cbv
        cases h0
        exact fin_ok hX rfl ⟨[], _, _, ⟨rfl, rfl⟩, rfl, rfl, rfl, rfl, by cbv; try simp⟩
      · rw [hc2]
        cbv
        obtain ⟨⟨n100, n101, l46, n102⟩, hv, h0⟩ := bindS h0
        try dsimp only at h0
        refine call_go hO hX (fn_ref16_Split hO hv) (by kernel_rfl) [0] rfl ⟨rfl, rfl, trivial⟩ rfl ?_
        rintro _ _ ⟨rfl, rfl⟩
        cbv
        obtain ⟨b38, hv, h0⟩ := bindS h0
        refine call_go hO hX (fn_law16_is hO hv) (by kernel_rfl) [3, 5] rfl ⟨rfl, rfl, rfl, rfl, trivial⟩ rfl ?_
        rintro _ _ ⟨rfl, rfl⟩
        cbv
        cases h0
        exact fin_ok hX rfl ⟨[], _, _, ⟨rfl, rfl⟩, rfl, rfl, rfl, rfl, by cbv; try simp⟩
set_option maxHeartbeats 4000000 in
theorem fn_group_Pick_1 {O0 : Ops} (hO0 : O0 = std) {i_1 : Int} {x_1 : Int} {x_2 : Int} {x_3 : Int} {x_4 : List (Int × Int)} {x_5 : List Int} {r1 : Int} {r2 : Int} {r3 : Bool} (h : m_group_Pick_1 O0 i_1 x_1 x_2 x_3 x_4 x_5 = some (r1, r2, r3)) :
    Fn Try.prog 58 [.c (.int .i64 i_1), .c (.ptr 0 0), .c (.ptr 1 0), .c (.ptr 2 0)] [.ro 24 [.int .i64 x_1, .int .i64 x_2, .sl 3], .ro 38 [.sl 4], .ro 3 [.int .i64 x_3], .arr false .i2 x_4, .arr false .i1 x_5] (fun v c => v = .tup [.many [.int .i64 r1, .int .i64 r2], .one (.bool r3)] ∧ c = []) := by
  refine fn_run tab_holds eqs_holds mixed [(1, (.seg 1 [0, 1, 2, 3, 4, 5, 6, 7, 8, 9, 10, 11, 12, 13, 14] (.seg 2 [15] .fin)), [16, 17])] Try.func58 (by kernel_rfl) (by kernel_rfl) (Nat.le_of_ble_eq_true rfl) ?_
  intro O X hO hX
  rw [hO0, ← hO] at h
  unfold m_group_Pick_1 at h
  have h0 := h; clear h
  cbv
  obtain ⟨hg0, h0⟩ := grdS h0
  refine ⟨nz_of hO hg0, ?_⟩
  obtain ⟨hg1, h0⟩ := grdS h0
  refine ⟨inr_of hO hg1, ?_⟩
  obtain ⟨hg2, h0⟩ := grdS h0
  refine ⟨inr_of hO hg2, ?_⟩
  refine ⟨nz_of hO hg0, ?_⟩
  obtain ⟨hg3, h0⟩ := grdS h0
  refine ⟨idx_of hO hg3, ?_⟩
  obtain ⟨hg4, h0⟩ := grdS h0
  refine ⟨kin_of hO hg4, ?_⟩
  obtain ⟨hg5, h0⟩ := grdS h0
  refine ⟨inr_of hO hg5, ?_⟩
  obtain ⟨⟨n106, n107⟩, hv, h0⟩ := bindS h0
  try dsimp only at h0
  refine call_go hO hX (fn_group_at hO hv) (by kernel_rfl) [3] rfl ⟨rfl, rfl, trivial⟩ rfl ?_
  rintro _ _ ⟨rfl, rfl⟩
  cbv
  cases h0
  exact fin_ok hX rfl ⟨[], _, _, ⟨rfl, rfl⟩, rfl, rfl, rfl, rfl, by cbv; try simp⟩
set_option maxHeartbeats 4000000 in
theorem fn_group_collect_3 {O0 : Ops} (hO0 : O0 = std) {period_1 : Int} {n_1 : Int} {c_1 : Int} {c_2 : Int} {c_3 : Int} {c_4 : List (Int × Int)} {c_5 : List Int} {r1 : Int} {r2 : Int} {r3 : List (Int × Int)} {r4 : Int} (h : m_group_collect_3 O0 period_1 n_1 c_1 c_2 c_3 c_4 c_5 = some (r1, r2, r3, r4)) :
    Fn Try.prog 48 [.c (.int .i64 period_1), .c (.int .i64 n_1), .c (.fn 58 [0, 1, 2])] [.ro 24 [.int .i64 c_1, .int .i64 c_2, .sl 3], .ro 38 [.sl 4], .ro 3 [.int .i64 c_3], .arr false .i2 c_4, .arr false .i1 c_5] (fun v c => v = .tup [.many [.int .i64 r1, .int .i64 r2, .sl 5], .one (.int .i64 r4)] ∧ c = [.arr true .i2 r3]) := by
  refine fn_run tab_holds eqs_holds mixed [] Try.func48 (by kernel_rfl) (by kernel_rfl) (Nat.le_of_ble_eq_true rfl) ?_
  intro O X hO hX
  rw [hO0, ← hO] at h
  unfold m_group_collect_3 at h
  have h0 := h; clear h
  cbv
  obtain ⟨l52, hi, h0⟩ := bindS h0
  obtain ⟨I1, hI1, hi⟩ := loopS hi
  refine loop1 tab_holds eqs_holds mixed [] hO hX I1 (fun y => [(8, .c (.sl 6)), (13, .c (.int .i64 y.2.1))]) (fun y => [(6, .own 49 .i2 y.2.2)]) (fun y => y.1) _ (by kernel_rfl) hi (by cbv; try simp) ?_
  rintro ⟨n1, x123, l49⟩ hi
  cbv
  rw [hI1] at hi
  obtain ⟨n1, rfl, x1, h1, hi1⟩ := iterS hi
  unfold m_group_collect_3_L1 at h1
  try dsimp only at h1
  rcases condS h1 with ⟨hc0, h1⟩ | ⟨hc0, h1⟩
  · rw [hc0]
    cbv
    obtain ⟨⟨n110, n111, b43⟩, hv, h1⟩ := bindS h1
    try dsimp only at h1
    refine call_go hO hX (fn_group_Pick_1 hO hv) (by kernel_rfl) [0, 1, 2, 3, 4] rfl ⟨rfl, rfl, rfl, rfl, rfl, rfl, rfl, rfl, rfl, rfl, trivial⟩ rfl ?_
    rintro _ _ ⟨rfl, rfl⟩
    cbv
    obtain ⟨l51, h2, h1⟩ := bindS h1
    rcases condS h2 with ⟨hc1, h2⟩ | ⟨hc1, h2⟩
    · rw [hc1]
      cbv
      obtain ⟨hg2, h2⟩ := grdS h2
      refine ⟨room_of hO hg2, ?_⟩
      obtain ⟨hg3, h2⟩ := grdS h2
      refine ⟨room_of hO hg3, ?_⟩
      cases h2
      try dsimp only at h1
      obtain ⟨hg4, h1⟩ := grdS h1
      refine ⟨inr_of hO hg4, ?_⟩
      cases h1
      exact ⟨_, [0, 1, 2, 3, 4, 5, 9], nextI hI1 hi1, by cbv; try simp, by first | exact Nat.lt_succ_self _ | omega⟩
    · rw [hc1]
      cbv
      cases h2
      try dsimp only at h1
      obtain ⟨hg2, h1⟩ := grdS h1
      refine ⟨inr_of hO hg2, ?_⟩
      cases h1
      exact ⟨_, [0, 1, 2, 3, 4, 5, 6], nextI hI1 hi1, by cbv; try simp, by first | exact Nat.lt_succ_self _ | omega⟩
  · rw [hc0]
    cbv
    cases h1
    cases exitI hi1
    try dsimp only at h0
    rcases condS h0 with ⟨hc1, h0⟩ | ⟨hc1, h0⟩
    · rw [hc1]
      cbv
      cases h0
      refine fin_nil hX .i2 7 rfl ?_
      cbv
      exact fin_ok hX rfl ⟨[7], _, _, ⟨rfl, rfl⟩, rfl, rfl, rfl, rfl, by cbv; try simp⟩
    · rw [hc1]
      cbv
      obtain ⟨⟨n112, n113, l53, n114⟩, hv, h0⟩ := bindS h0
      try dsimp only at h0
      refine call_go hO hX (fn_group_made hO hv) (by kernel_rfl) [6] rfl ⟨rfl, rfl, trivial⟩ rfl ?_
      rintro _ _ ⟨rfl, rfl⟩
      cbv
      cases h0
      exact fin_ok hX rfl ⟨[7], _, _, ⟨rfl, rfl⟩, rfl, rfl, rfl, rfl, by cbv; try simp⟩
end Go.Proofs.Ytoklfjkanipjkaa
