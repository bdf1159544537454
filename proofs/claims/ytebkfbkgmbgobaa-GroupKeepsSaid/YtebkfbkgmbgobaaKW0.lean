/-
  The code does what its models say (printed by lift.py).
-/
import Derived.Test.YtebkfbkgmbgobaaKM
import Derived.Test.YtebkfbkgmbgobaaManW
namespace Go.Proofs.Ytebkfbkgmbgobaa
open Go.RowKit
set_option maxRecDepth 100000

set_option maxHeartbeats 40000000 in
theorem fn_law16_days {O0 : Ops} (hO0 : O0 = std) {r1 : Int} {r2 : Int} {r3 : List (Int × Int)} (h : m_law16_days O0 = some (r1, r2, r3)) :
    Fn Try.prog 20 [] [] (fun v c => v = .agg [.int .i64 r1, .int .i64 r2, .sl 0] ∧ c = [.own 40 .i2 r3]) := by
  refine fn_run tab_holds eqs_holds mixed [] Try.func20 (by kernel_rfl) (by kernel_rfl) (Nat.le_of_ble_eq_true rfl) ?_
  intro O X hO hX
  rw [hO0, ← hO] at h
  unfold m_law16_days at h
  have h0 := h; clear h
  cbv
  cases h0
  exact fin_ok hX rfl ⟨[1], _, _, ⟨rfl, rfl⟩, rfl, rfl, rfl, rfl, by cbv; try simp⟩
set_option maxHeartbeats 40000000 in
theorem fn_granule_half {O0 : Ops} (hO0 : O0 = std) {x_1 : Int} {r1 : Bool} (h : m_granule_half O0 x_1 = some r1) :
    Fn Try.prog 38 [.c (.int .i64 x_1)] [] (fun v c => v = .c (.bool r1) ∧ c = []) := by
  refine fn_run tab_holds eqs_holds mixed [] Try.func38 (by kernel_rfl) (by kernel_rfl) (Nat.le_of_ble_eq_true rfl) ?_
  intro O X hO hX
  rw [hO0, ← hO] at h
  unfold m_granule_half at h
  have h0 := h; clear h
  cbv
  obtain ⟨x2, h1, h0⟩ := bindS h0
  rcases condS h1 with ⟨hc1, h1⟩ | ⟨hc1, h1⟩
  · rw [hc1]
    cbv
    cases h1
    try dsimp only at h0
    cases h0
    exact fin_ok hX rfl ⟨[], _, _, ⟨rfl, rfl⟩, rfl, rfl, rfl, rfl, by cbv; try simp⟩
  · rw [hc1]
    cbv
    cases h1
    try dsimp only at h0
    cases h0
    exact fin_ok hX rfl ⟨[], _, _, ⟨rfl, rfl⟩, rfl, rfl, rfl, rfl, by cbv; try simp⟩
set_option maxHeartbeats 40000000 in
theorem fn_interval_line {O0 : Ops} (hO0 : O0 = std) {x_1 : Int} {r1 : Bool} (h : m_interval_line O0 x_1 = some r1) :
    Fn Try.prog 73 [.c (.int .i64 x_1)] [] (fun v c => v = .c (.bool r1) ∧ c = []) := by
  refine fn_run tab_holds eqs_holds mixed [] Try.func73 (by kernel_rfl) (by kernel_rfl) (Nat.le_of_ble_eq_true rfl) ?_
  intro O X hO hX
  rw [hO0, ← hO] at h
  unfold m_interval_line at h
  have h0 := h; clear h
  cbv
  obtain ⟨x5, h1, h0⟩ := bindS h0
  rcases condS h1 with ⟨hc1, h1⟩ | ⟨hc1, h1⟩
  · rw [hc1]
    cbv
    cases h1
    try dsimp only at h0
    cases h0
    exact fin_ok hX rfl ⟨[], _, _, ⟨rfl, rfl⟩, rfl, rfl, rfl, rfl, by cbv; try simp⟩
  · rw [hc1]
    cbv
    cases h1
    try dsimp only at h0
    cases h0
    exact fin_ok hX rfl ⟨[], _, _, ⟨rfl, rfl⟩, rfl, rfl, rfl, rfl, by cbv; try simp⟩
set_option maxHeartbeats 40000000 in
theorem fn_interval_Valid {O0 : Ops} (hO0 : O0 = std) {s_1 : Int} {s_2 : Int} {r1 : Bool} (h : m_interval_Valid O0 s_1 s_2 = some r1) :
    Fn Try.prog 56 [.agg [.int .i64 s_1, .int .i64 s_2]] [] (fun v c => v = .c (.bool r1) ∧ c = []) := by
  refine fn_run tab_holds eqs_holds mixed [] Try.func56 (by kernel_rfl) (by kernel_rfl) (Nat.le_of_ble_eq_true rfl) ?_
  intro O X hO hX
  rw [hO0, ← hO] at h
  unfold m_interval_Valid at h
  have h0 := h; clear h
  cbv
  obtain ⟨x8, h1, h0⟩ := bindS h0
  obtain ⟨b2, hv, h1⟩ := bindS h1
  refine call_is hO hX (fn_interval_line hO hv) (by kernel_rfl) [] rfl trivial rfl ?_
  cbv
  rcases condS h1 with ⟨hc1, h1⟩ | ⟨hc1, h1⟩
  · rw [hc1]
    cbv
    obtain ⟨b3, hv, h1⟩ := bindS h1
    refine call_is hO hX (fn_interval_line hO hv) (by kernel_rfl) [] rfl trivial rfl ?_
    cbv
    rcases condS h1 with ⟨hc2, h1⟩ | ⟨hc2, h1⟩
    · rw [hc2]
      cbv
      cases h1
      try dsimp only at h0
      cases h0
      exact fin_ok hX rfl ⟨[], _, _, ⟨rfl, rfl⟩, rfl, rfl, rfl, rfl, by cbv; try simp⟩
    · rw [hc2]
      cbv
      cases h1
      try dsimp only at h0
      cases h0
      exact fin_ok hX rfl ⟨[], _, _, ⟨rfl, rfl⟩, rfl, rfl, rfl, rfl, by cbv; try simp⟩
  · rw [hc1]
    cbv
    cases h1
    try dsimp only at h0
    cases h0
    exact fin_ok hX rfl ⟨[], _, _, ⟨rfl, rfl⟩, rfl, rfl, rfl, rfl, by cbv; try simp⟩
set_option maxHeartbeats 40000000 in
theorem fn_granule_ascending {O0 : Ops} (hO0 : O0 = std) {l_1 : List (Int × Int)} {r1 : Bool} (h : m_granule_ascending O0 l_1 = some r1) :
    Fn Try.prog 39 [.c (.sl 0)] [.arr false .i2 l_1] (fun v c => v = .c (.bool r1) ∧ c = []) := by
  refine fn_run tab_holds eqs_holds mixed [(4, (.seg 1 [0] (.seg 2 [1] (.seg 1 [2, 3, 4, 5, 6, 7, 8, 9, 10, 11, 12, 13, 14, 15, 16, 17] .fin))), [])] Try.func39 (by kernel_rfl) (by kernel_rfl) (Nat.le_of_ble_eq_true rfl) ?_
  intro O X hO hX
  rw [hO0, ← hO] at h
  unfold m_granule_ascending at h
  have h0 := h; clear h
  cbv
  obtain ⟨e1, hi, h0⟩ := bindS h0
  obtain ⟨I1, hI1, hi⟩ := loopS hi
  refine loop1 tab_holds eqs_holds mixed [(4, (.seg 1 [0] (.seg 2 [1] (.seg 1 [2, 3, 4, 5, 6, 7, 8, 9, 10, 11, 12, 13, 14, 15, 16, 17] .fin))), [])] hO hX I1 (fun y => [(7, .c (.int .i64 y.2))]) (fun _ => []) (fun y => y.1) _ (by kernel_rfl) hi (by cbv; try simp) ?_
  refine allp ?_
  intro n1
  intro x3 hi
  cbv
  rw [hI1] at hi
  obtain ⟨n1, rfl, x1, h1, hi1⟩ := iterS hi
  unfold m_granule_ascending_L1 at h1
  try dsimp only at h1
  rcases condS h1 with ⟨hc1, h1⟩ | ⟨hc1, h1⟩
  · as_aux_lemma =>
    rw [hc1]
    cbv
    obtain ⟨hg2, h1⟩ := grdS h1
    refine ⟨idx_of hO hg2, ?_⟩
    obtain ⟨hg3, h1⟩ := grdS h1
    refine ⟨kin_of hO hg3, ?_⟩
    obtain ⟨x11, h2, h1⟩ := bindS h1
    obtain ⟨b4, hv, h2⟩ := bindS h2
    refine call_is hO hX (fn_interval_Valid hO hv) (by kernel_rfl) [] rfl trivial rfl ?_
    cbv
    rcases condS h2 with ⟨hc4, h2⟩ | ⟨hc4, h2⟩
    · rw [hc4]
      cbv
      cases h2
      try dsimp only at h1
      replace h1 := condT h1 rfl
      cases h1
      cases exitI hi1
      try dsimp only at h0
      cases h0
      exact fin_ok hX rfl ⟨[], _, _, ⟨rfl, rfl⟩, rfl, rfl, rfl, rfl, by cbv; try simp⟩
    · rw [hc4]
      cbv
      rcases condS h2 with ⟨hc5, h2⟩ | ⟨hc5, h2⟩
      · rw [hc5]
        cbv
        obtain ⟨hg6, h2⟩ := grdS h2
        refine ⟨inr_of hO hg6, ?_⟩
        obtain ⟨hg7, h2⟩ := grdS h2
        refine ⟨idx_of hO hg7, ?_⟩
        obtain ⟨hg8, h2⟩ := grdS h2
        refine ⟨kin_of hO hg8, ?_⟩
        cases h2
        try dsimp only at h1
        rcases condS h1 with ⟨hc9, h1⟩ | ⟨hc9, h1⟩
        · rw [hc9]
          cbv
          cases h1
          cases exitI hi1
          try dsimp only at h0
          cases h0
          exact fin_ok hX rfl ⟨[], _, _, ⟨rfl, rfl⟩, rfl, rfl, rfl, rfl, by cbv; try simp⟩
        · rw [hc9]
          cbv
          obtain ⟨hg10, h1⟩ := grdS h1
          refine ⟨inr_of hO hg10, ?_⟩
          cases h1
          exact ⟨_, [0], nextI hI1 hi1, by cbv; try simp, by first | exact Nat.lt_succ_self _ | omega⟩
      · rw [hc5]
        cbv
        cases h2
        try dsimp only at h1
        replace h1 := condF h1 rfl
        obtain ⟨hg11, h1⟩ := grdS h1
        refine ⟨inr_of hO hg11, ?_⟩
        cases h1
        exact ⟨_, [0], nextI hI1 hi1, by cbv; try simp, by first | exact Nat.lt_succ_self _ | omega⟩
  · rw [hc1]
    cbv
    cases h1
    cases exitI hi1
    try dsimp only at h0
    cases h0
    exact fin_ok hX rfl ⟨[], _, _, ⟨rfl, rfl⟩, rfl, rfl, rfl, rfl, by cbv; try simp⟩
set_option maxHeartbeats 40000000 in
theorem fn_granule_least {O0 : Ops} (hO0 : O0 = std) {period_1 : Int} {l_1 : List (Int × Int)} {r1 : Int} (h : m_granule_least O0 period_1 l_1 = some r1) :
    Fn Try.prog 40 [.c (.int .i64 period_1), .c (.sl 0)] [.arr false .i2 l_1] (fun v c => v = .c (.int .i64 r1) ∧ c = []) := by
  refine fn_run tab_holds eqs_holds mixed [(11, (.seg 1 [0, 1, 2, 3, 4, 5, 6, 7, 8, 9, 10, 11, 12, 13, 14, 15, 16, 17, 18, 19, 20, 21, 22] .fin), [])] Try.func40 (by kernel_rfl) (by kernel_rfl) (Nat.le_of_ble_eq_true rfl) ?_
  intro O X hO hX
  rw [hO0, ← hO] at h
  unfold m_granule_least at h
  have h0 := h; clear h
  cbv
  obtain ⟨e1, hi, h0⟩ := bindS h0
  obtain ⟨I2, hI2, hi⟩ := loopS hi
  refine loop1 tab_holds eqs_holds mixed [(11, (.seg 1 [0, 1, 2, 3, 4, 5, 6, 7, 8, 9, 10, 11, 12, 13, 14, 15, 16, 17, 18, 19, 20, 21, 22] .fin), [])] hO hX I2 (fun y => [(6, .c (.int .i64 y.2))]) (fun _ => []) (fun y => y.1) _ (by kernel_rfl) hi (by cbv; try simp) ?_
  refine allp ?_
  intro n2
  intro m1 hi
  cbv
  rw [hI2] at hi
  obtain ⟨n2, rfl, x2, h1, hi2⟩ := iterS hi
  unfold m_granule_least_L2 at h1
  try dsimp only at h1
  rcases condS h1 with ⟨hc1, h1⟩ | ⟨hc1, h1⟩
  · as_aux_lemma =>
    rw [hc1]
    cbv
    obtain ⟨x15, h2, h1⟩ := bindS h1
    rcases condS h2 with ⟨hc2, h2⟩ | ⟨hc2, h2⟩
    · rw [hc2]
      cbv
      obtain ⟨hg3, h2⟩ := grdS h2
      refine ⟨nz_of hO hg3, ?_⟩
      cases h2
      try dsimp only at h1
      replace h1 := condT h1 rfl
      obtain ⟨hg4, h1⟩ := grdS h1
      refine ⟨inr_of hO hg4, ?_⟩
      cases h1
      exact ⟨_, [0], nextI hI2 hi2, by cbv; try simp, by first | exact Nat.lt_succ_self _ | omega⟩
    · as_aux_lemma =>
      rw [hc2]
      cbv
      obtain ⟨hg5, h2⟩ := grdS h2
      refine ⟨nz_of hO hg5, ?_⟩
      refine ⟨nz_of hO hg5, ?_⟩
      obtain ⟨hg6, h2⟩ := grdS h2
      refine ⟨inr_of hO hg6, ?_⟩
      obtain ⟨hg7, h2⟩ := grdS h2
      refine ⟨nz_of hO hg7, ?_⟩
      cases h2
      try dsimp only at h1
      rcases condS h1 with ⟨hc8, h1⟩ | ⟨hc8, h1⟩
      · rw [hc8]
        cbv
        obtain ⟨hg9, h1⟩ := grdS h1
        refine ⟨inr_of hO hg9, ?_⟩
        cases h1
        exact ⟨_, [0], nextI hI2 hi2, by cbv; try simp, by first | exact Nat.lt_succ_self _ | omega⟩
      · as_aux_lemma =>
        rw [hc8]
        cbv
        refine ⟨nz_of hO hg5, ?_⟩
        obtain ⟨hg10, h1⟩ := grdS h1
        refine ⟨inr_of hO hg10, ?_⟩
        obtain ⟨hg11, h1⟩ := grdS h1
        refine ⟨nz_of hO hg11, ?_⟩
        obtain ⟨hg12, h1⟩ := grdS h1
        refine ⟨inr_of hO hg12, ?_⟩
        obtain ⟨same2, hi, h1⟩ := bindS h1
        obtain ⟨I1, hI1, hi⟩ := loopS hi
        refine loop1 tab_holds eqs_holds mixed [(11, (.seg 1 [0, 1, 2, 3, 4, 5, 6, 7, 8, 9, 10, 11, 12, 13, 14, 15, 16, 17, 18, 19, 20, 21, 22] .fin), [])] hO hX I1 (fun y => [(8, .c (.bool y.2.1)), (9, .c (.int .i64 y.2.2))]) (fun _ => []) (fun y => y.1) _ (by kernel_rfl) hi (by cbv; try simp) ?_
        refine allp ?_
        intro n1
        refine allp ?_
        intro same1
        intro i1 hi
        cbv
        rw [hI1] at hi
        obtain ⟨n1, rfl, x1, h2, hi1⟩ := iterS hi
        unfold m_granule_least_L1 at h2
        try dsimp only at h2
        obtain ⟨x17, h3, h2⟩ := bindS h2
        rcases condS h3 with ⟨hc13, h3⟩ | ⟨hc13, h3⟩
        · rw [hc13]
          cbv
          obtain ⟨hg14, h3⟩ := grdS h3
          refine ⟨inr_of hO hg14, ?_⟩
          cases h3
          try dsimp only at h2
          rcases condS h2 with ⟨hc15, h2⟩ | ⟨hc15, h2⟩
          · rw [hc15]
            cbv
            refine ⟨inr_of hO hg14, ?_⟩
            obtain ⟨hg16, h2⟩ := grdS h2
            refine ⟨idx_of hO hg16, ?_⟩
            obtain ⟨hg17, h2⟩ := grdS h2
            refine ⟨kin_of hO hg17, ?_⟩
            obtain ⟨hg18, h2⟩ := grdS h2
            refine ⟨idx_of hO hg18, ?_⟩
            obtain ⟨hg19, h2⟩ := grdS h2
            refine ⟨kin_of hO hg19, ?_⟩
            obtain ⟨hg20, h2⟩ := grdS h2
            refine ⟨inr_of hO hg20, ?_⟩
            refine ⟨idx_of hO hg18, ?_⟩
            refine ⟨kin_of hO hg19, ?_⟩
            obtain ⟨hg21, h2⟩ := grdS h2
            refine ⟨inr_of hO hg21, ?_⟩
            obtain ⟨hg22, h2⟩ := grdS h2
            refine ⟨inr_of hO hg22, ?_⟩
            cases h2
            exact ⟨_, [0], nextI hI1 hi1, by cbv; try simp, by first | exact Nat.lt_succ_self _ | omega⟩
          · rw [hc15]
            cbv
            cases h2
            cases exitI hi1
            try dsimp only at h1
            replace h1 := condF h1 hc15
            obtain ⟨hg23, h1⟩ := grdS h1
            refine ⟨inr_of hO hg23, ?_⟩
            cases h1
            exact ⟨_, [0], nextI hI2 hi2, by cbv; try simp, by first | exact Nat.lt_succ_self _ | omega⟩
        · rw [hc13]
          cbv
          obtain ⟨hg24, h3⟩ := grdS h3
          refine ⟨inr_of hO hg24, ?_⟩
          cases h3
          try dsimp only at h2
          replace h2 := condF h2 rfl
          cases h2
          cases exitI hi1
          try dsimp only at h1
          rcases condS h1 with ⟨hc25, h1⟩ | ⟨hc25, h1⟩
          · rw [hc25]
            cbv
            cases h1
            cases exitI hi2
            try dsimp only at h0
            cases h0
            exact fin_ok hX rfl ⟨[], _, _, ⟨rfl, rfl⟩, rfl, rfl, rfl, rfl, by cbv; try simp⟩
          · rw [hc25]
            cbv
            obtain ⟨hg26, h1⟩ := grdS h1
            refine ⟨inr_of hO hg26, ?_⟩
            cases h1
            exact ⟨_, [0], nextI hI2 hi2, by cbv; try simp, by first | exact Nat.lt_succ_self _ | omega⟩
  · rw [hc1]
    cbv
    cases h1
    cases exitI hi2
    try dsimp only at h0
    cases h0
    exact fin_ok hX rfl ⟨[], _, _, ⟨rfl, rfl⟩, rfl, rfl, rfl, rfl, by cbv; try simp⟩
set_option maxHeartbeats 40000000 in
theorem fn_granule_Valid {O0 : Ops} (hO0 : O0 = std) {c_1 : Int} {c_2 : Int} {c_3 : List (Int × Int)} {r1 : Bool} (h : m_granule_Valid O0 c_1 c_2 c_3 = some r1) :
    Fn Try.prog 12 [.agg [.int .i64 c_1, .int .i64 c_2, .sl 0]] [.arr false .i2 c_3] (fun v c => v = .c (.bool r1) ∧ c = []) := by
  refine fn_run tab_holds eqs_holds mixed [(2, (.seg 1 [0, 1, 2, 3, 4, 5, 6, 7, 8, 9, 10, 11, 12, 13, 14, 15, 16, 17, 18] (.seg 2 [19] (.seg 1 [20, 21, 22, 23, 24] (.seg 2 [25] (.seg 1 [26, 27, 28, 29, 30, 31, 32, 33, 34, 35, 36, 37, 38, 39, 40, 41, 42, 43, 44, 45, 46, 47] .fin))))), [])] Try.func12 (by kernel_rfl) (by kernel_rfl) (Nat.le_of_ble_eq_true rfl) ?_
  intro O X hO hX
  rw [hO0, ← hO] at h
  unfold m_granule_Valid at h
  have h0 := h; clear h
  cbv
  obtain ⟨x13, h1, h0⟩ := bindS h0
  rcases condS h1 with ⟨hc1, h1⟩ | ⟨hc1, h1⟩
  · rw [hc1]
    cbv
    cases h1
    try dsimp only at h0
    replace h0 := condT h0 rfl
    cases h0
    exact fin_ok hX rfl ⟨[], _, _, ⟨rfl, rfl⟩, rfl, rfl, rfl, rfl, by cbv; try simp⟩
  · as_aux_lemma =>
    rw [hc1]
    cbv
    rcases condS h1 with ⟨hc2, h1⟩ | ⟨hc2, h1⟩
    · rw [hc2]
      cbv
      cases h1
      try dsimp only at h0
      replace h0 := condT h0 rfl
      cases h0
      exact fin_ok hX rfl ⟨[], _, _, ⟨rfl, rfl⟩, rfl, rfl, rfl, rfl, by cbv; try simp⟩
    · as_aux_lemma =>
      rw [hc2]
      cbv
      rcases condS h1 with ⟨hc3, h1⟩ | ⟨hc3, h1⟩
      · rw [hc3]
        cbv
        cases h1
        try dsimp only at h0
        replace h0 := condT h0 rfl
        cases h0
        exact fin_ok hX rfl ⟨[], _, _, ⟨rfl, rfl⟩, rfl, rfl, rfl, rfl, by cbv; try simp⟩
      · as_aux_lemma =>
        rw [hc3]
        cbv
        rcases condS h1 with ⟨hc4, h1⟩ | ⟨hc4, h1⟩
        · rw [hc4]
          cbv
          cases h1
          try dsimp only at h0
          replace h0 := condT h0 rfl
          cases h0
          exact fin_ok hX rfl ⟨[], _, _, ⟨rfl, rfl⟩, rfl, rfl, rfl, rfl, by cbv; try simp⟩
        · as_aux_lemma =>
          rw [hc4]
          cbv
          obtain ⟨b1, hv, h1⟩ := bindS h1
          refine call_is hO hX (fn_granule_half hO hv) (by kernel_rfl) [] rfl trivial rfl ?_
          cbv
          rcases condS h1 with ⟨hc5, h1⟩ | ⟨hc5, h1⟩
          · rw [hc5]
            cbv
            cases h1
            try dsimp only at h0
            replace h0 := condT h0 rfl
            cases h0
            exact fin_ok hX rfl ⟨[], _, _, ⟨rfl, rfl⟩, rfl, rfl, rfl, rfl, by cbv; try simp⟩
          · as_aux_lemma =>
            rw [hc5]
            cbv
            obtain ⟨b5, hv, h1⟩ := bindS h1
            refine call_is hO hX (fn_granule_ascending hO hv) (by kernel_rfl) [0] rfl ⟨rfl, rfl, trivial⟩ rfl ?_
            cbv
            rcases condS h1 with ⟨hc6, h1⟩ | ⟨hc6, h1⟩
            · rw [hc6]
              cbv
              cases h1
              try dsimp only at h0
              replace h0 := condT h0 rfl
              cases h0
              exact fin_ok hX rfl ⟨[], _, _, ⟨rfl, rfl⟩, rfl, rfl, rfl, rfl, by cbv; try simp⟩
            · rw [hc6]
              cbv
              rcases condS h1 with ⟨hc7, h1⟩ | ⟨hc7, h1⟩
              · rw [hc7]
                cbv
                obtain ⟨hg8, h1⟩ := grdS h1
                refine ⟨idx_of hO hg8, ?_⟩
                obtain ⟨hg9, h1⟩ := grdS h1
                refine ⟨kin_of hO hg9, ?_⟩
                cases h1
                try dsimp only at h0
                replace h0 := condT h0 rfl
                cases h0
                exact fin_ok hX rfl ⟨[], _, _, ⟨rfl, rfl⟩, rfl, rfl, rfl, rfl, by cbv; try simp⟩
              · rw [hc7]
                cbv
                obtain ⟨hg10, h1⟩ := grdS h1
                refine ⟨idx_of hO hg10, ?_⟩
                obtain ⟨hg11, h1⟩ := grdS h1
                refine ⟨kin_of hO hg11, ?_⟩
                obtain ⟨hg12, h1⟩ := grdS h1
                refine ⟨inr_of hO hg12, ?_⟩
                obtain ⟨hg13, h1⟩ := grdS h1
                refine ⟨idx_of hO hg13, ?_⟩
                obtain ⟨hg14, h1⟩ := grdS h1
                refine ⟨kin_of hO hg14, ?_⟩
                cases h1
                try dsimp only at h0
                rcases condS h0 with ⟨hc15, h0⟩ | ⟨hc15, h0⟩
                · rw [hc15]
                  cbv
                  cases h0
                  exact fin_ok hX rfl ⟨[], _, _, ⟨rfl, rfl⟩, rfl, rfl, rfl, rfl, by cbv; try simp⟩
                · rw [hc15]
                  cbv
                  obtain ⟨n3, hv, h0⟩ := bindS h0
                  refine call_is hO hX (fn_granule_least hO hv) (by kernel_rfl) [0] rfl ⟨rfl, rfl, trivial⟩ rfl ?_
                  cbv
                  cases h0
                  exact fin_ok hX rfl ⟨[], _, _, ⟨rfl, rfl⟩, rfl, rfl, rfl, rfl, by cbv; try simp⟩
set_option maxHeartbeats 40000000 in
theorem fn_integer_size {O0 : Ops} (hO0 : O0 = std) {a_1 : Int} {r1 : Int} (h : m_integer_size O0 a_1 = some r1) :
    Fn Try.prog 82 [.c (.int .i64 a_1)] [] (fun v c => v = .c (.int .u64 r1) ∧ c = []) := by
  refine fn_run tab_holds eqs_holds mixed [] Try.func82 (by kernel_rfl) (by kernel_rfl) (Nat.le_of_ble_eq_true rfl) ?_
  intro O X hO hX
  rw [hO0, ← hO] at h
  unfold m_integer_size at h
  have h0 := h; clear h
  cbv
  rcases condS h0 with ⟨hc1, h0⟩ | ⟨hc1, h0⟩
  · rw [hc1]
    cbv
    obtain ⟨hg2, h0⟩ := grdS h0
    refine ⟨inr_of hO hg2, ?_⟩
    obtain ⟨hg3, h0⟩ := grdS h0
    refine ⟨inr_of hO hg3, ?_⟩
    cases h0
    exact fin_ok hX rfl ⟨[], _, _, ⟨rfl, rfl⟩, rfl, rfl, rfl, rfl, by cbv; try simp⟩
  · rw [hc1]
    cbv
    obtain ⟨hg4, h0⟩ := grdS h0
    refine ⟨inr_of hO hg4, ?_⟩
    cases h0
    exact fin_ok hX rfl ⟨[], _, _, ⟨rfl, rfl⟩, rfl, rfl, rfl, rfl, by cbv; try simp⟩
set_option maxHeartbeats 40000000 in
theorem fn_integer_signed {O0 : Ops} (hO0 : O0 = std) {m_1 : Int} {neg_1 : Bool} {r1 : Int} {r2 : Bool} (h : m_integer_signed O0 m_1 neg_1 = some (r1, r2)) :
    Fn Try.prog 83 [.c (.int .u64 m_1), .c (.bool neg_1)] [] (fun v c => v = .tup [.one (.int .i64 r1), .one (.bool r2)] ∧ c = []) := by
  refine fn_run tab_holds eqs_holds mixed [] Try.func83 (by kernel_rfl) (by kernel_rfl) (Nat.le_of_ble_eq_true rfl) ?_
  intro O X hO hX
  rw [hO0, ← hO] at h
  unfold m_integer_signed at h
  have h0 := h; clear h
  cbv
  obtain ⟨⟨neg2, x24⟩, h1, h0⟩ := bindS h0
  rcases condS h1 with ⟨hc1, h1⟩ | ⟨hc1, h1⟩
  · rw [hc1]
    cbv
    cases h1
    try dsimp only at h0
    obtain ⟨e1, h1, h0⟩ := bindS h0
    rcases condS h1 with ⟨hc2, h1⟩ | ⟨hc2, h1⟩
    · rw [hc2]
      cbv
      obtain ⟨hg3, h1⟩ := grdS h1
      refine ⟨inr_of hO hg3, ?_⟩
      obtain ⟨hg4, h1⟩ := grdS h1
      refine ⟨inr_of hO hg4, ?_⟩
      cases h1
      try dsimp only at h0
      cases h0
      exact fin_ok hX rfl ⟨[], _, _, ⟨rfl, rfl⟩, rfl, rfl, rfl, rfl, by cbv; try simp⟩
    · rw [hc2]
      cbv
      rw [show (O .not true) = false from by subst hO; rfl]
      cbv
      obtain ⟨x26, h2, h1⟩ := bindS h1
      replace h2 := condF h2 (by subst hO; rfl)
      cases h2
      try dsimp only at h1
      replace h1 := condF h1 rfl
      cases h1
      try dsimp only at h0
      cases h0
      exact fin_ok hX rfl ⟨[], _, _, ⟨rfl, rfl⟩, rfl, rfl, rfl, rfl, by cbv; try simp⟩
  · rw [hc1]
    cbv
    rw [show (O .not false) = true from by subst hO; rfl]
    cbv
    cases h1
    try dsimp only at h0
    obtain ⟨e1, h1, h0⟩ := bindS h0
    replace h1 := condF h1 rfl
    obtain ⟨x26, h2, h1⟩ := bindS h1
    replace h2 := condT h2 (by subst hO; rfl)
    cases h2
    try dsimp only at h1
    rcases condS h1 with ⟨hc5, h1⟩ | ⟨hc5, h1⟩
    · rw [hc5]
      cbv
      obtain ⟨hg6, h1⟩ := grdS h1
      refine ⟨inr_of hO hg6, ?_⟩
      cases h1
      try dsimp only at h0
      cases h0
      exact fin_ok hX rfl ⟨[], _, _, ⟨rfl, rfl⟩, rfl, rfl, rfl, rfl, by cbv; try simp⟩
    · rw [hc5]
      cbv
      cases h1
      try dsimp only at h0
      cases h0
      exact fin_ok hX rfl ⟨[], _, _, ⟨rfl, rfl⟩, rfl, rfl, rfl, rfl, by cbv; try simp⟩
set_option maxHeartbeats 40000000 in
theorem fn_integer_Gcd {O0 : Ops} (hO0 : O0 = std) {a_1 : Int} {b_1 : Int} {r1 : Int} (h : m_integer_Gcd O0 a_1 b_1 = some r1) :
    Fn Try.prog 66 [.c (.int .i64 a_1), .c (.int .i64 b_1)] [] (fun v c => v = .c (.int .i64 r1) ∧ c = []) := by
  refine fn_run tab_holds eqs_holds mixed [(3, (.seg 1 [0, 1, 2, 3, 4, 5] .fin), [])] Try.func66 (by kernel_rfl) (by kernel_rfl) (Nat.le_of_ble_eq_true rfl) ?_
  intro O X hO hX
  rw [hO0, ← hO] at h
  unfold m_integer_Gcd at h
  have h0 := h; clear h
  cbv
  obtain ⟨n4, hv, h0⟩ := bindS h0
  refine call_is hO hX (fn_integer_size hO hv) (by kernel_rfl) [] rfl trivial rfl ?_
  cbv
  obtain ⟨n5, hv, h0⟩ := bindS h0
  refine call_is hO hX (fn_integer_size hO hv) (by kernel_rfl) [] rfl trivial rfl ?_
  cbv
  obtain ⟨x22, hi, h0⟩ := bindS h0
  obtain ⟨I1, hI1, hi⟩ := loopS hi
  refine loop1 tab_holds eqs_holds mixed [(3, (.seg 1 [0, 1, 2, 3, 4, 5] .fin), [])] hO hX I1 (fun y => [(5, .c (.int .u64 y.2.1)), (6, .c (.int .u64 y.2.2))]) (fun _ => []) (fun y => y.1) _ (by kernel_rfl) hi (by cbv; try simp) ?_
  refine allp ?_
  intro n1
  refine allp ?_
  intro x21
  intro y1 hi
  cbv
  rw [hI1] at hi
  obtain ⟨n1, rfl, x1, h1, hi1⟩ := iterS hi
  unfold m_integer_Gcd_L1 at h1
  try dsimp only at h1
  rcases condS h1 with ⟨hc1, h1⟩ | ⟨hc1, h1⟩
  · rw [hc1]
    cbv
    obtain ⟨hg2, h1⟩ := grdS h1
    refine ⟨nz_of hO hg2, ?_⟩
    cases h1
    exact ⟨_, [], nextI hI1 hi1, by cbv; try simp, by first | exact Nat.lt_succ_self _ | omega⟩
  · rw [hc1]
    cbv
    cases h1
    cases exitI hi1
    try dsimp only at h0
    obtain ⟨⟨n6, b7⟩, hv, h0⟩ := bindS h0
    try dsimp only at h0
    refine call_is hO hX (fn_integer_signed hO hv) (by kernel_rfl) [] rfl trivial rfl ?_
    cbv
    cases h0
    exact fin_ok hX rfl ⟨[], _, _, ⟨rfl, rfl⟩, rfl, rfl, rfl, rfl, by cbv; try simp⟩
set_option maxHeartbeats 40000000 in
theorem fn_group_blocks {O0 : Ops} (hO0 : O0 = std) {c_1 : Int} {c_2 : Int} {m_1 : Int} {c_3 : List (Int × Int)} {r1 : Int} {r2 : Int} {r3 : Int} (h : m_group_blocks O0 c_1 c_2 m_1 c_3 = some (r1, r2, r3)) :
    Fn Try.prog 47 [.agg [.int .i64 c_1, .int .i64 c_2, .sl 0], .c (.int .i64 m_1)] [.arr false .i2 c_3] (fun v c => v = .tup [.one (.int .i64 r1), .one (.int .i64 r2), .one (.int .i64 r3)] ∧ c = []) := by
  refine fn_run tab_holds eqs_holds mixed [(2, (.seg 1 [0, 1, 2, 3, 4] (.seg 2 [5] (.seg 1 [6, 7, 8, 9, 10] .fin))), []), (5, (.seg 1 [0, 1, 2, 3, 4, 5, 6, 7, 8] .fin), [])] Try.func47 (by kernel_rfl) (by kernel_rfl) (Nat.le_of_ble_eq_true rfl) ?_
  intro O X hO hX
  rw [hO0, ← hO] at h
  unfold m_group_blocks at h
  have h0 := h; clear h
  cbv
  obtain ⟨n7, hv, h0⟩ := bindS h0
  refine call_is hO hX (fn_integer_Gcd hO hv) (by kernel_rfl) [] rfl trivial rfl ?_
  cbv
  obtain ⟨hg1, h0⟩ := grdS h0
  refine ⟨nz_of hO hg1, ?_⟩
  obtain ⟨hg2, h0⟩ := grdS h0
  refine ⟨inr_of hO hg2, ?_⟩
  obtain ⟨⟨n8, n9⟩, hv, h0⟩ := bindS h0
  try dsimp only at h0
  refine call_is hO hX (fn_integer_Mul hO hv) (by kernel_rfl) [] rfl trivial rfl ?_
  cbv
  obtain ⟨x30, h1, h0⟩ := bindS h0
  rcases condS h1 with ⟨hc3, h1⟩ | ⟨hc3, h1⟩
  · rw [hc3]
    cbv
    cases h1
    try dsimp only at h0
    replace h0 := condT h0 rfl
    cases h0
    exact fin_ok hX rfl ⟨[], _, _, ⟨rfl, rfl⟩, rfl, rfl, rfl, rfl, by cbv; try simp⟩
  · rw [hc3]
    cbv
    cases h1
    try dsimp only at h0
    rcases condS h0 with ⟨hc4, h0⟩ | ⟨hc4, h0⟩
    · rw [hc4]
      cbv
      cases h0
      exact fin_ok hX rfl ⟨[], _, _, ⟨rfl, rfl⟩, rfl, rfl, rfl, rfl, by cbv; try simp⟩
    · rw [hc4]
      cbv
      refine ⟨nz_of hO hg1, ?_⟩
      obtain ⟨hg5, h0⟩ := grdS h0
      refine ⟨inr_of hO hg5, ?_⟩
      cases h0
      exact fin_ok hX rfl ⟨[], _, _, ⟨rfl, rfl⟩, rfl, rfl, rfl, rfl, by cbv; try simp⟩
end Go.Proofs.Ytebkfbkgmbgobaa
