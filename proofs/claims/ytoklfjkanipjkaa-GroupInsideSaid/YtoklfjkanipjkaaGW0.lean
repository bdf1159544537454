/-
  The code does what its models say (printed by lift.py).
-/
import Derived.Test.YtoklfjkanipjkaaGM
import Derived.Test.YtoklfjkanipjkaaManW
namespace Go.Proofs.Ytoklfjkanipjkaa
open Go.RowKit
set_option maxRecDepth 100000

set_option maxHeartbeats 4000000 in
theorem fn_law16_days {O0 : Ops} (hO0 : O0 = std) {r1 : Int} {r2 : Int} {r3 : List (Int × Int)} (h : m_law16_days O0 = some (r1, r2, r3)) :
    Fn Try.prog 43 [] [] (fun v c => v = .agg [.int .i64 r1, .int .i64 r2, .sl 0] ∧ c = [.own 49 .i2 r3]) := by
  refine fn_run tab_holds eqs_holds mixed [] Try.func43 (by kernel_rfl) (by kernel_rfl) (Nat.le_of_ble_eq_true rfl) ?_
  intro O X hO hX
  rw [hO0, ← hO] at h
  unfold m_law16_days at h
  have h0 := h; clear h
  cbv
  cases h0
  exact fin_ok hX rfl ⟨[1], _, _, ⟨rfl, rfl⟩, rfl, rfl, rfl, rfl, by cbv; try simp⟩
set_option maxHeartbeats 4000000 in
theorem fn_granule_half {O0 : Ops} (hO0 : O0 = std) {x_1 : Int} {r1 : Bool} (h : m_granule_half O0 x_1 = some r1) :
    Fn Try.prog 63 [.c (.int .i64 x_1)] [] (fun v c => v = .c (.bool r1) ∧ c = []) := by
  refine fn_run tab_holds eqs_holds mixed [] Try.func63 (by kernel_rfl) (by kernel_rfl) (Nat.le_of_ble_eq_true rfl) ?_
  intro O X hO hX
  rw [hO0, ← hO] at h
  unfold m_granule_half at h
  have h0 := h; clear h
  cbv
  obtain ⟨x2, h1, h0⟩ := bindS h0
  rcases condS h1 with ⟨hc0, h1⟩ | ⟨hc0, h1⟩
  · rw [hc0]
    cbv
    cases h1
    try dsimp only at h0
    cases h0
    exact fin_ok hX rfl ⟨[], _, _, ⟨rfl, rfl⟩, rfl, rfl, rfl, rfl, by cbv; try simp⟩
  · rw [hc0]
    cbv
    cases h1
    try dsimp only at h0
    cases h0
    exact fin_ok hX rfl ⟨[], _, _, ⟨rfl, rfl⟩, rfl, rfl, rfl, rfl, by cbv; try simp⟩
set_option maxHeartbeats 4000000 in
theorem fn_interval_line {O0 : Ops} (hO0 : O0 = std) {x_1 : Int} {r1 : Bool} (h : m_interval_line O0 x_1 = some r1) :
    Fn Try.prog 109 [.c (.int .i64 x_1)] [] (fun v c => v = .c (.bool r1) ∧ c = []) := by
  refine fn_run tab_holds eqs_holds mixed [] Try.func109 (by kernel_rfl) (by kernel_rfl) (Nat.le_of_ble_eq_true rfl) ?_
  intro O X hO hX
  rw [hO0, ← hO] at h
  unfold m_interval_line at h
  have h0 := h; clear h
  cbv
  obtain ⟨x5, h1, h0⟩ := bindS h0
  rcases condS h1 with ⟨hc0, h1⟩ | ⟨hc0, h1⟩
  · rw [hc0]
    cbv
    cases h1
    try dsimp only at h0
    cases h0
    exact fin_ok hX rfl ⟨[], _, _, ⟨rfl, rfl⟩, rfl, rfl, rfl, rfl, by cbv; try simp⟩
  · rw [hc0]
    cbv
    cases h1
    try dsimp only at h0
    cases h0
    exact fin_ok hX rfl ⟨[], _, _, ⟨rfl, rfl⟩, rfl, rfl, rfl, rfl, by cbv; try simp⟩
set_option maxHeartbeats 4000000 in
theorem fn_interval_Valid {O0 : Ops} (hO0 : O0 = std) {s_1 : Int} {s_2 : Int} {r1 : Bool} (h : m_interval_Valid O0 s_1 s_2 = some r1) :
    Fn Try.prog 93 [.agg [.int .i64 s_1, .int .i64 s_2]] [] (fun v c => v = .c (.bool r1) ∧ c = []) := by
  refine fn_run tab_holds eqs_holds mixed [] Try.func93 (by kernel_rfl) (by kernel_rfl) (Nat.le_of_ble_eq_true rfl) ?_
  intro O X hO hX
  rw [hO0, ← hO] at h
  unfold m_interval_Valid at h
  have h0 := h; clear h
  cbv
  obtain ⟨x8, h1, h0⟩ := bindS h0
  obtain ⟨b2, hv, h1⟩ := bindS h1
  refine call_go hO hX (fn_interval_line hO hv) (by kernel_rfl) [] rfl trivial rfl ?_
  rintro _ _ ⟨rfl, rfl⟩
  cbv
  rcases condS h1 with ⟨hc0, h1⟩ | ⟨hc0, h1⟩
  · rw [hc0]
    cbv
    obtain ⟨b3, hv, h1⟩ := bindS h1
    refine call_go hO hX (fn_interval_line hO hv) (by kernel_rfl) [] rfl trivial rfl ?_
    rintro _ _ ⟨rfl, rfl⟩
    cbv
    rcases condS h1 with ⟨hc1, h1⟩ | ⟨hc1, h1⟩
    · rw [hc1]
      cbv
      cases h1
      try dsimp only at h0
      cases h0
      exact fin_ok hX rfl ⟨[], _, _, ⟨rfl, rfl⟩, rfl, rfl, rfl, rfl, by cbv; try simp⟩
    · rw [hc1]
      cbv
      cases h1
      try dsimp only at h0
      cases h0
      exact fin_ok hX rfl ⟨[], _, _, ⟨rfl, rfl⟩, rfl, rfl, rfl, rfl, by cbv; try simp⟩
  · rw [hc0]
    cbv
    cases h1
    try dsimp only at h0
    cases h0
    exact fin_ok hX rfl ⟨[], _, _, ⟨rfl, rfl⟩, rfl, rfl, rfl, rfl, by cbv; try simp⟩
set_option maxHeartbeats 4000000 in
theorem fn_granule_ascending {O0 : Ops} (hO0 : O0 = std) {l_1 : List (Int × Int)} {r1 : Bool} (h : m_granule_ascending O0 l_1 = some r1) :
    Fn Try.prog 64 [.c (.sl 0)] [.arr false .i2 l_1] (fun v c => v = .c (.bool r1) ∧ c = []) := by
  refine fn_run tab_holds eqs_holds mixed [(4, (.seg 1 [0] (.seg 2 [1] (.seg 1 [2, 3, 4, 5, 6, 7, 8, 9, 10, 11, 12, 13, 14, 15, 16, 17] .fin))), [])] Try.func64 (by kernel_rfl) (by kernel_rfl) (Nat.le_of_ble_eq_true rfl) ?_
  intro O X hO hX
  rw [hO0, ← hO] at h
  unfold m_granule_ascending at h
  have h0 := h; clear h
  cbv
  obtain ⟨e1, hi, h0⟩ := bindS h0
  obtain ⟨I1, hI1, hi⟩ := loopS hi
  refine loop1 tab_holds eqs_holds mixed [(4, (.seg 1 [0] (.seg 2 [1] (.seg 1 [2, 3, 4, 5, 6, 7, 8, 9, 10, 11, 12, 13, 14, 15, 16, 17] .fin))), [])] hO hX I1 (fun y => [(7, .c (.int .i64 y.2))]) (fun _ => []) (fun y => y.1) _ (by kernel_rfl) hi (by cbv; try simp) ?_
  rintro ⟨n1, x3⟩ hi
  cbv
  rw [hI1] at hi
  obtain ⟨n1, rfl, x1, h1, hi1⟩ := iterS hi
  unfold m_granule_ascending_L1 at h1
  try dsimp only at h1
  rcases condS h1 with ⟨hc0, h1⟩ | ⟨hc0, h1⟩
  · rw [hc0]
    cbv
    obtain ⟨hg1, h1⟩ := grdS h1
    refine ⟨idx_of hO hg1, ?_⟩
    obtain ⟨hg2, h1⟩ := grdS h1
    refine ⟨kin_of hO hg2, ?_⟩
    obtain ⟨x11, h2, h1⟩ := bindS h1
    obtain ⟨b4, hv, h2⟩ := bindS h2
    refine call_go hO hX (fn_interval_Valid hO hv) (by kernel_rfl) [] rfl trivial rfl ?_
    rintro _ _ ⟨rfl, rfl⟩
    cbv
    rcases condS h2 with ⟨hc3, h2⟩ | ⟨hc3, h2⟩
    · rw [hc3]
      cbv
      cases h2
      try dsimp only at h1
      replace h1 := condT h1 rfl
      cases h1
      cases exitI hi1
      try dsimp only at h0
      cases h0
      exact fin_ok hX rfl ⟨[], _, _, ⟨rfl, rfl⟩, rfl, rfl, rfl, rfl, by cbv; try simp⟩
    · rw [hc3]
      cbv
      rcases condS h2 with ⟨hc4, h2⟩ | ⟨hc4, h2⟩
      · rw [hc4]
        cbv
        obtain ⟨hg5, h2⟩ := grdS h2
        refine ⟨inr_of hO hg5, ?_⟩
        obtain ⟨hg6, h2⟩ := grdS h2
        refine ⟨idx_of hO hg6, ?_⟩
        obtain ⟨hg7, h2⟩ := grdS h2
        refine ⟨kin_of hO hg7, ?_⟩
        cases h2
        try dsimp only at h1
        rcases condS h1 with ⟨hc8, h1⟩ | ⟨hc8, h1⟩
        · rw [hc8]
          cbv
          cases h1
          cases exitI hi1
          try dsimp only at h0
          cases h0
          exact fin_ok hX rfl ⟨[], _, _, ⟨rfl, rfl⟩, rfl, rfl, rfl, rfl, by cbv; try simp⟩
        · rw [hc8]
          cbv
          obtain ⟨hg9, h1⟩ := grdS h1
          refine ⟨inr_of hO hg9, ?_⟩
          cases h1
          exact ⟨_, [0], nextI hI1 hi1, by cbv; try simp, by first | exact Nat.lt_succ_self _ | omega⟩
      · rw [hc4]
        cbv
        cases h2
        try dsimp only at h1
        replace h1 := condF h1 rfl
        obtain ⟨hg5, h1⟩ := grdS h1
        refine ⟨inr_of hO hg5, ?_⟩
        cases h1
        exact ⟨_, [0], nextI hI1 hi1, by cbv; try simp, by first | exact Nat.lt_succ_self _ | omega⟩
  · rw [hc0]
    cbv
    cases h1
    cases exitI hi1
    try dsimp only at h0
    cases h0
    exact fin_ok hX rfl ⟨[], _, _, ⟨rfl, rfl⟩, rfl, rfl, rfl, rfl, by cbv; try simp⟩
set_option maxHeartbeats 4000000 in
theorem fn_granule_least {O0 : Ops} (hO0 : O0 = std) {period_1 : Int} {l_1 : List (Int × Int)} {r1 : Int} (h : m_granule_least O0 period_1 l_1 = some r1) :
    Fn Try.prog 65 [.c (.int .i64 period_1), .c (.sl 0)] [.arr false .i2 l_1] (fun v c => v = .c (.int .i64 r1) ∧ c = []) := by
  refine fn_run tab_holds eqs_holds mixed [(11, (.seg 1 [0, 1, 2, 3, 4, 5, 6, 7, 8, 9, 10, 11, 12, 13, 14, 15, 16, 17, 18, 19, 20, 21, 22] .fin), [])] Try.func65 (by kernel_rfl) (by kernel_rfl) (Nat.le_of_ble_eq_true rfl) ?_
  intro O X hO hX
  rw [hO0, ← hO] at h
  unfold m_granule_least at h
  have h0 := h; clear h
  cbv
  obtain ⟨e1, hi, h0⟩ := bindS h0
  obtain ⟨I2, hI2, hi⟩ := loopS hi
  refine loop1 tab_holds eqs_holds mixed [(11, (.seg 1 [0, 1, 2, 3, 4, 5, 6, 7, 8, 9, 10, 11, 12, 13, 14, 15, 16, 17, 18, 19, 20, 21, 22] .fin), [])] hO hX I2 (fun y => [(6, .c (.int .i64 y.2))]) (fun _ => []) (fun y => y.1) _ (by kernel_rfl) hi (by cbv; try simp) ?_
  rintro ⟨n2, m1⟩ hi
  cbv
  rw [hI2] at hi
  obtain ⟨n2, rfl, x2, h1, hi2⟩ := iterS hi
  unfold m_granule_least_L2 at h1
  try dsimp only at h1
  rcases condS h1 with ⟨hc0, h1⟩ | ⟨hc0, h1⟩
  · rw [hc0]
    cbv
    obtain ⟨x15, h2, h1⟩ := bindS h1
    rcases condS h2 with ⟨hc1, h2⟩ | ⟨hc1, h2⟩
    · rw [hc1]
      cbv
      obtain ⟨hg2, h2⟩ := grdS h2
      refine ⟨nz_of hO hg2, ?_⟩
      cases h2
      try dsimp only at h1
      replace h1 := condT h1 rfl
      obtain ⟨hg3, h1⟩ := grdS h1
      refine ⟨inr_of hO hg3, ?_⟩
      cases h1
      exact ⟨_, [0], nextI hI2 hi2, by cbv; try simp, by first | exact Nat.lt_succ_self _ | omega⟩
    · rw [hc1]
      cbv
      obtain ⟨hg2, h2⟩ := grdS h2
      refine ⟨nz_of hO hg2, ?_⟩
      refine ⟨nz_of hO hg2, ?_⟩
      obtain ⟨hg3, h2⟩ := grdS h2
      refine ⟨inr_of hO hg3, ?_⟩
      obtain ⟨hg4, h2⟩ := grdS h2
      refine ⟨nz_of hO hg4, ?_⟩
      cases h2
      try dsimp only at h1
      rcases condS h1 with ⟨hc5, h1⟩ | ⟨hc5, h1⟩
      · rw [hc5]
        cbv
        obtain ⟨hg6, h1⟩ := grdS h1
        refine ⟨inr_of hO hg6, ?_⟩
        cases h1
        exact ⟨_, [0], nextI hI2 hi2, by cbv; try simp, by first | exact Nat.lt_succ_self _ | omega⟩
      · rw [hc5]
        cbv
        refine ⟨nz_of hO hg2, ?_⟩
        obtain ⟨hg6, h1⟩ := grdS h1
        refine ⟨inr_of hO hg6, ?_⟩
        obtain ⟨hg6, h1⟩ := grdS h1
        refine ⟨nz_of hO hg6, ?_⟩
        obtain ⟨hg6, h1⟩ := grdS h1
        refine ⟨inr_of hO hg6, ?_⟩
        obtain ⟨same2, hi, h1⟩ := bindS h1
        obtain ⟨I1, hI1, hi⟩ := loopS hi
        refine loop1 tab_holds eqs_holds mixed [(11, (.seg 1 [0, 1, 2, 3, 4, 5, 6, 7, 8, 9, 10, 11, 12, 13, 14, 15, 16, 17, 18, 19, 20, 21, 22] .fin), [])] hO hX I1 (fun y => [(8, .c (.bool y.2.1)), (9, .c (.int .i64 y.2.2))]) (fun _ => []) (fun y => y.1) _ (by kernel_rfl) hi (by cbv; try simp) ?_
        rintro ⟨n1, same1, i1⟩ hi
        cbv
        rw [hI1] at hi
        obtain ⟨n1, rfl, x1, h2, hi1⟩ := iterS hi
        unfold m_granule_least_L1 at h2
        try dsimp only at h2
        obtain ⟨x17, h3, h2⟩ := bindS h2
        rcases condS h3 with ⟨hc7, h3⟩ | ⟨hc7, h3⟩
        · rw [hc7]
          cbv
          obtain ⟨hg8, h3⟩ := grdS h3
          refine ⟨inr_of hO hg8, ?_⟩
          cases h3
          try dsimp only at h2
          rcases condS h2 with ⟨hc9, h2⟩ | ⟨hc9, h2⟩
          · rw [hc9]
            cbv
            refine ⟨inr_of hO hg8, ?_⟩
            obtain ⟨hg10, h2⟩ := grdS h2
            refine ⟨idx_of hO hg10, ?_⟩
            obtain ⟨hg11, h2⟩ := grdS h2
            refine ⟨kin_of hO hg11, ?_⟩
            obtain ⟨hg12, h2⟩ := grdS h2
            refine ⟨idx_of hO hg12, ?_⟩
            obtain ⟨hg13, h2⟩ := grdS h2
            refine ⟨kin_of hO hg13, ?_⟩
            obtain ⟨hg14, h2⟩ := grdS h2
            refine ⟨inr_of hO hg14, ?_⟩
            refine ⟨idx_of hO hg12, ?_⟩
            refine ⟨kin_of hO hg13, ?_⟩
            obtain ⟨hg15, h2⟩ := grdS h2
            refine ⟨inr_of hO hg15, ?_⟩
            obtain ⟨hg16, h2⟩ := grdS h2
            refine ⟨inr_of hO hg16, ?_⟩
            cases h2
            exact ⟨_, [0], nextI hI1 hi1, by cbv; try simp, by first | exact Nat.lt_succ_self _ | omega⟩
          · rw [hc9]
            cbv
            cases h2
            cases exitI hi1
            try dsimp only at h1
            replace h1 := condF h1 hc9
            obtain ⟨hg10, h1⟩ := grdS h1
            refine ⟨inr_of hO hg10, ?_⟩
            cases h1
            exact ⟨_, [0], nextI hI2 hi2, by cbv; try simp, by first | exact Nat.lt_succ_self _ | omega⟩
        · rw [hc7]
          cbv
          obtain ⟨hg8, h3⟩ := grdS h3
          refine ⟨inr_of hO hg8, ?_⟩
          cases h3
          try dsimp only at h2
          replace h2 := condF h2 rfl
          cases h2
          cases exitI hi1
          try dsimp only at h1
          rcases condS h1 with ⟨hc9, h1⟩ | ⟨hc9, h1⟩
          · rw [hc9]
            cbv
            cases h1
            cases exitI hi2
            try dsimp only at h0
            cases h0
            exact fin_ok hX rfl ⟨[], _, _, ⟨rfl, rfl⟩, rfl, rfl, rfl, rfl, by cbv; try simp⟩
          · rw [hc9]
            cbv
            obtain ⟨hg10, h1⟩ := grdS h1
            refine ⟨inr_of hO hg10, ?_⟩
            cases h1
            exact ⟨_, [0], nextI hI2 hi2, by cbv; try simp, by first | exact Nat.lt_succ_self _ | omega⟩
  · rw [hc0]
    cbv
    cases h1
    cases exitI hi2
    try dsimp only at h0
    cases h0
    exact fin_ok hX rfl ⟨[], _, _, ⟨rfl, rfl⟩, rfl, rfl, rfl, rfl, by cbv; try simp⟩
end Go.Proofs.Ytoklfjkanipjkaa
