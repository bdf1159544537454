/-
  The code does what its models say (printed by lift.py).
-/
import Derived.Test.YtlpbdikmhngmfaaQM
import Derived.Test.YtlpbdikmhngmfaaManWC
import Derived.Test.YtlpbdikmhngmfaaFul
import Derived.Test.YtlpbdikmhngmfaaQW0
namespace Go.Proofs.Ytlpbdikmhngmfaa
open Go.RowKit
set_option maxRecDepth 100000

set_option maxHeartbeats 40000000 in
theorem fn_civil_inside {O0 : Ops} (hO0 : O0 = std) {day_1 : Int} {r1 : Bool} (h : m_civil_inside O0 day_1 = some r1) :
    Fn Try.prog 97 [.c (.int .i64 day_1)] [] (fun v c => v = .c (.bool r1) ∧ c = []) := by
  refine fn_run tab_holds eqs_holds mixed [] Try.func97 (by kernel_rfl) (by kernel_rfl) (Nat.le_of_ble_eq_true rfl) ?_
  intro O X hO hX
  rw [hO0, ← hO] at h
  unfold m_civil_inside at h
  have h0 := h; clear h
  cbv
  obtain ⟨x348, h1, h0⟩ := bindS h0
  rcases condS h1 with ⟨hc1, h1⟩ | ⟨hc1, h1⟩
  · rw [hc1]
    cbv
    cases h1
    try dsimp only at h0
    cases h0
    exact fin_ok hX rfl ⟨[], _, _, ⟨rfl, rfl⟩, rfl, rfl, rfl, rfl, by cbv; try simp⟩
  · rw [hc1]
    cbv
    cases h1
    try dsimp only at h0
    cases h0
    exact fin_ok hX rfl ⟨[], _, _, ⟨rfl, rfl⟩, rfl, rfl, rfl, rfl, by cbv; try simp⟩
set_option maxHeartbeats 40000000 in
theorem fn_civil_Weekday {O0 : Ops} (hO0 : O0 = std) {day_1 : Int} {r1 : Int} (h : m_civil_Weekday O0 day_1 = some r1) :
    Fn Try.prog 80 [.c (.int .i64 day_1)] [] (fun v c => v = .c (.int .i64 r1) ∧ c = []) := by
  refine fn_run tab_holds eqs_holds mixed [] Try.func80 (by kernel_rfl) (by kernel_rfl) (Nat.le_of_ble_eq_true rfl) ?_
  intro O X hO hX
  rw [hO0, ← hO] at h
  unfold m_civil_Weekday at h
  have h0 := h; clear h
  cbv
  obtain ⟨b105, hv, h0⟩ := bindS h0
  refine call_is hO hX (fn_civil_inside hO hv) (by kernel_rfl) [] rfl trivial rfl ?_
  cbv
  rcases condS h0 with ⟨hc1, h0⟩ | ⟨hc1, h0⟩
  · rw [hc1]
    cbv
    cases h0
    exact fin_ok hX rfl ⟨[], _, _, ⟨rfl, rfl⟩, rfl, rfl, rfl, rfl, by cbv; try simp⟩
  · rw [hc1]
    cbv
    obtain ⟨hg2, h0⟩ := grdS h0
    refine ⟨inr_of hO hg2, ?_⟩
    obtain ⟨n120, hv, h0⟩ := bindS h0
    refine call_is hO hX (fn_integer_Mod hO hv) (by kernel_rfl) [] rfl trivial rfl ?_
    cbv
    obtain ⟨hg3, h0⟩ := grdS h0
    refine ⟨inr_of hO hg3, ?_⟩
    cases h0
    exact fin_ok hX rfl ⟨[], _, _, ⟨rfl, rfl⟩, rfl, rfl, rfl, rfl, by cbv; try simp⟩
set_option maxHeartbeats 40000000 in
theorem fn_granule_ascending {O0 : Ops} (hO0 : O0 = std) {l_1 : List (Int × Int)} {r1 : Bool} (h : m_granule_ascending O0 l_1 = some r1) :
    Fn Try.prog 57 [.c (.sl 0)] [.arr false .i2 l_1] (fun v c => v = .c (.bool r1) ∧ c = []) := by
  refine fn_run tab_holds eqs_holds mixed [(4, (.seg 1 [0] (.seg 2 [1] (.seg 1 [2, 3, 4, 5, 6, 7, 8, 9, 10, 11, 12, 13, 14, 15, 16, 17] .fin))), [])] Try.func57 (by kernel_rfl) (by kernel_rfl) (Nat.le_of_ble_eq_true rfl) ?_
  intro O X hO hX
  rw [hO0, ← hO] at h
  unfold m_granule_ascending at h
  have h0 := h; clear h
  cbv
  obtain ⟨e1, hi, h0⟩ := bindS h0
  obtain ⟨I1, hI1, hi⟩ := loopS hi
  refine loop1 tab_holds eqs_holds mixed [(4, (.seg 1 [0] (.seg 2 [1] (.seg 1 [2, 3, 4, 5, 6, 7, 8, 9, 10, 11, 12, 13, 14, 15, 16, 17] .fin))), [])] hO hX I1 (fun y => [(7, .c (.int .i64 y.2))]) (fun _ => []) (fun y => y.1) _ (by kernel_rfl) hi (by cbv; try simp) ?_
  refine allp ?_
  intro n1
  intro x351 hi
  cbv
  rw [hI1] at hi
  obtain ⟨n1, rfl, x1, h1, hi1⟩ := iterS hi
  unfold m_granule_ascending_L1 at h1
  try dsimp only at h1
  rcases condS h1 with ⟨hc1, h1⟩ | ⟨hc1, h1⟩
  · as_aux_lemma =>
    rw [hc1]
    cbv
    obtain ⟨hg2, h1⟩ := grdS h1
    refine ⟨idx_of hO hg2, ?_⟩
    obtain ⟨hg3, h1⟩ := grdS h1
    refine ⟨kin_of hO hg3, ?_⟩
    obtain ⟨x354, h2, h1⟩ := bindS h1
    obtain ⟨b106, hv, h2⟩ := bindS h2
    refine call_is hO hX (fn_interval_Valid hO hv) (by kernel_rfl) [] rfl trivial rfl ?_
    cbv
    rcases condS h2 with ⟨hc4, h2⟩ | ⟨hc4, h2⟩
    · rw [hc4]
      cbv
      cases h2
      try dsimp only at h1
      replace h1 := condT h1 rfl
      cases h1
      cases exitI hi1
      try dsimp only at h0
      cases h0
      exact fin_ok hX rfl ⟨[], _, _, ⟨rfl, rfl⟩, rfl, rfl, rfl, rfl, by cbv; try simp⟩
    · rw [hc4]
      cbv
      rcases condS h2 with ⟨hc5, h2⟩ | ⟨hc5, h2⟩
      · rw [hc5]
        cbv
        obtain ⟨hg6, h2⟩ := grdS h2
        refine ⟨inr_of hO hg6, ?_⟩
        obtain ⟨hg7, h2⟩ := grdS h2
        refine ⟨idx_of hO hg7, ?_⟩
        obtain ⟨hg8, h2⟩ := grdS h2
        refine ⟨kin_of hO hg8, ?_⟩
        cases h2
        try dsimp only at h1
        rcases condS h1 with ⟨hc9, h1⟩ | ⟨hc9, h1⟩
        · rw [hc9]
          cbv
          cases h1
          cases exitI hi1
          try dsimp only at h0
          cases h0
          exact fin_ok hX rfl ⟨[], _, _, ⟨rfl, rfl⟩, rfl, rfl, rfl, rfl, by cbv; try simp⟩
        · rw [hc9]
          cbv
          obtain ⟨hg10, h1⟩ := grdS h1
          refine ⟨inr_of hO hg10, ?_⟩
          cases h1
          exact ⟨_, [0], nextI hI1 hi1, by cbv; try simp, by first | exact Nat.lt_succ_self _ | omega⟩
      · rw [hc5]
        cbv
        cases h2
        try dsimp only at h1
        replace h1 := condF h1 rfl
        obtain ⟨hg11, h1⟩ := grdS h1
        refine ⟨inr_of hO hg11, ?_⟩
        cases h1
        exact ⟨_, [0], nextI hI1 hi1, by cbv; try simp, by first | exact Nat.lt_succ_self _ | omega⟩
  · rw [hc1]
    cbv
    cases h1
    cases exitI hi1
    try dsimp only at h0
    cases h0
    exact fin_ok hX rfl ⟨[], _, _, ⟨rfl, rfl⟩, rfl, rfl, rfl, rfl, by cbv; try simp⟩
set_option maxHeartbeats 40000000 in
theorem fn_granule_line {O0 : Ops} (hO0 : O0 = std) {x_1 : Int} {r1 : Bool} (h : m_granule_line O0 x_1 = some r1) :
    Fn Try.prog 59 [.c (.int .i64 x_1)] [] (fun v c => v = .c (.bool r1) ∧ c = []) := by
  refine fn_run tab_holds eqs_holds mixed [] Try.func59 (by kernel_rfl) (by kernel_rfl) (Nat.le_of_ble_eq_true rfl) ?_
  intro O X hO hX
  rw [hO0, ← hO] at h
  unfold m_granule_line at h
  have h0 := h; clear h
  cbv
  obtain ⟨x358, h1, h0⟩ := bindS h0
  rcases condS h1 with ⟨hc1, h1⟩ | ⟨hc1, h1⟩
  · rw [hc1]
    cbv
    cases h1
    try dsimp only at h0
    cases h0
    exact fin_ok hX rfl ⟨[], _, _, ⟨rfl, rfl⟩, rfl, rfl, rfl, rfl, by cbv; try simp⟩
  · rw [hc1]
    cbv
    cases h1
    try dsimp only at h0
    cases h0
    exact fin_ok hX rfl ⟨[], _, _, ⟨rfl, rfl⟩, rfl, rfl, rfl, rfl, by cbv; try simp⟩
set_option maxHeartbeats 40000000 in
theorem fn_granule_half {O0 : Ops} (hO0 : O0 = std) {x_1 : Int} {r1 : Bool} (h : m_granule_half O0 x_1 = some r1) :
    Fn Try.prog 56 [.c (.int .i64 x_1)] [] (fun v c => v = .c (.bool r1) ∧ c = []) := by
  refine fn_run tab_holds eqs_holds mixed [] Try.func56 (by kernel_rfl) (by kernel_rfl) (Nat.le_of_ble_eq_true rfl) ?_
  intro O X hO hX
  rw [hO0, ← hO] at h
  unfold m_granule_half at h
  have h0 := h; clear h
  cbv
  obtain ⟨x360, h1, h0⟩ := bindS h0
  rcases condS h1 with ⟨hc1, h1⟩ | ⟨hc1, h1⟩
  · rw [hc1]
    cbv
    cases h1
    try dsimp only at h0
    cases h0
    exact fin_ok hX rfl ⟨[], _, _, ⟨rfl, rfl⟩, rfl, rfl, rfl, rfl, by cbv; try simp⟩
  · rw [hc1]
    cbv
    cases h1
    try dsimp only at h0
    cases h0
    exact fin_ok hX rfl ⟨[], _, _, ⟨rfl, rfl⟩, rfl, rfl, rfl, rfl, by cbv; try simp⟩
set_option maxHeartbeats 40000000 in
theorem fn_granule_least {O0 : Ops} (hO0 : O0 = std) {period_1 : Int} {l_1 : List (Int × Int)} {r1 : Int} (h : m_granule_least O0 period_1 l_1 = some r1) :
    Fn Try.prog 58 [.c (.int .i64 period_1), .c (.sl 0)] [.arr false .i2 l_1] (fun v c => v = .c (.int .i64 r1) ∧ c = []) := by
  refine fn_run tab_holds eqs_holds mixed [(11, (.seg 1 [0, 1, 2, 3, 4, 5, 6, 7, 8, 9, 10, 11, 12, 13, 14, 15, 16, 17, 18, 19, 20, 21, 22] .fin), [])] Try.func58 (by kernel_rfl) (by kernel_rfl) (Nat.le_of_ble_eq_true rfl) ?_
  intro O X hO hX
  rw [hO0, ← hO] at h
  unfold m_granule_least at h
  have h0 := h; clear h
  cbv
  obtain ⟨e1, hi, h0⟩ := bindS h0
  obtain ⟨I2, hI2, hi⟩ := loopS hi
  refine loop1 tab_holds eqs_holds mixed [(11, (.seg 1 [0, 1, 2, 3, 4, 5, 6, 7, 8, 9, 10, 11, 12, 13, 14, 15, 16, 17, 18, 19, 20, 21, 22] .fin), [])] hO hX I2 (fun y => [(6, .c (.int .i64 y.2))]) (fun _ => []) (fun y => y.1) _ (by kernel_rfl) hi (by cbv; try simp) ?_
  refine allp ?_
  intro n2
  intro m1 hi
  cbv
  rw [hI2] at hi
  obtain ⟨n2, rfl, x2, h1, hi2⟩ := iterS hi
  unfold m_granule_least_L2 at h1
  try dsimp only at h1
  rcases condS h1 with ⟨hc1, h1⟩ | ⟨hc1, h1⟩
  · as_aux_lemma =>
    rw [hc1]
    cbv
    obtain ⟨x367, h2, h1⟩ := bindS h1
    rcases condS h2 with ⟨hc2, h2⟩ | ⟨hc2, h2⟩
    · rw [hc2]
      cbv
      obtain ⟨hg3, h2⟩ := grdS h2
      refine ⟨nz_of hO hg3, ?_⟩
      cases h2
      try dsimp only at h1
      replace h1 := condT h1 rfl
      obtain ⟨hg4, h1⟩ := grdS h1
      refine ⟨inr_of hO hg4, ?_⟩
      cases h1
      exact ⟨_, [0], nextI hI2 hi2, by cbv; try simp, by first | exact Nat.lt_succ_self _ | omega⟩
    · as_aux_lemma =>
      rw [hc2]
      cbv
      obtain ⟨hg5, h2⟩ := grdS h2
      refine ⟨nz_of hO hg5, ?_⟩
      refine ⟨nz_of hO hg5, ?_⟩
      obtain ⟨hg6, h2⟩ := grdS h2
      refine ⟨inr_of hO hg6, ?_⟩
      obtain ⟨hg7, h2⟩ := grdS h2
      refine ⟨nz_of hO hg7, ?_⟩
      cases h2
      try dsimp only at h1
      rcases condS h1 with ⟨hc8, h1⟩ | ⟨hc8, h1⟩
      · rw [hc8]
        cbv
        obtain ⟨hg9, h1⟩ := grdS h1
        refine ⟨inr_of hO hg9, ?_⟩
        cases h1
        exact ⟨_, [0], nextI hI2 hi2, by cbv; try simp, by first | exact Nat.lt_succ_self _ | omega⟩
      · as_aux_lemma =>
        rw [hc8]
        cbv
        refine ⟨nz_of hO hg5, ?_⟩
        obtain ⟨hg10, h1⟩ := grdS h1
        refine ⟨inr_of hO hg10, ?_⟩
        obtain ⟨hg11, h1⟩ := grdS h1
        refine ⟨nz_of hO hg11, ?_⟩
        obtain ⟨hg12, h1⟩ := grdS h1
        refine ⟨inr_of hO hg12, ?_⟩
        obtain ⟨same2, hi, h1⟩ := bindS h1
        obtain ⟨I1, hI1, hi⟩ := loopS hi
        refine loop1 tab_holds eqs_holds mixed [(11, (.seg 1 [0, 1, 2, 3, 4, 5, 6, 7, 8, 9, 10, 11, 12, 13, 14, 15, 16, 17, 18, 19, 20, 21, 22] .fin), [])] hO hX I1 (fun y => [(8, .c (.bool y.2.1)), (9, .c (.int .i64 y.2.2))]) (fun _ => []) (fun y => y.1) _ (by kernel_rfl) hi (by cbv; try simp) ?_
        refine allp ?_
        intro n1
        refine allp ?_
        intro same1
        intro i55 hi
        cbv
        rw [hI1] at hi
        obtain ⟨n1, rfl, x1, h2, hi1⟩ := iterS hi
        unfold m_granule_least_L1 at h2
        try dsimp only at h2
        obtain ⟨x369, h3, h2⟩ := bindS h2
        rcases condS h3 with ⟨hc13, h3⟩ | ⟨hc13, h3⟩
        · rw [hc13]
          cbv
          obtain ⟨hg14, h3⟩ := grdS h3
          refine ⟨inr_of hO hg14, ?_⟩
          cases h3
          try dsimp only at h2
          rcases condS h2 with ⟨hc15, h2⟩ | ⟨hc15, h2⟩
          · rw [hc15]
            cbv
            refine ⟨inr_of hO hg14, ?_⟩
            obtain ⟨hg16, h2⟩ := grdS h2
            refine ⟨idx_of hO hg16, ?_⟩
            obtain ⟨hg17, h2⟩ := grdS h2
            refine ⟨kin_of hO hg17, ?_⟩
            obtain ⟨hg18, h2⟩ := grdS h2
            refine ⟨idx_of hO hg18, ?_⟩
            obtain ⟨hg19, h2⟩ := grdS h2
            refine ⟨kin_of hO hg19, ?_⟩
            obtain ⟨hg20, h2⟩ := grdS h2
            refine ⟨inr_of hO hg20, ?_⟩
            refine ⟨idx_of hO hg18, ?_⟩
            refine ⟨kin_of hO hg19, ?_⟩
            obtain ⟨hg21, h2⟩ := grdS h2
            refine ⟨inr_of hO hg21, ?_⟩
            obtain ⟨hg22, h2⟩ := grdS h2
            refine ⟨inr_of hO hg22, ?_⟩
            cases h2
            exact ⟨_, [0], nextI hI1 hi1, by cbv; try simp, by first | exact Nat.lt_succ_self _ | omega⟩
          · rw [hc15]
            cbv
            cases h2
            cases exitI hi1
            try dsimp only at h1
            replace h1 := condF h1 hc15
            obtain ⟨hg23, h1⟩ := grdS h1
            refine ⟨inr_of hO hg23, ?_⟩
            cases h1
            exact ⟨_, [0], nextI hI2 hi2, by cbv; try simp, by first | exact Nat.lt_succ_self _ | omega⟩
        · rw [hc13]
          cbv
          obtain ⟨hg24, h3⟩ := grdS h3
          refine ⟨inr_of hO hg24, ?_⟩
          cases h3
          try dsimp only at h2
          replace h2 := condF h2 rfl
          cases h2
          cases exitI hi1
          try dsimp only at h1
          rcases condS h1 with ⟨hc25, h1⟩ | ⟨hc25, h1⟩
          · rw [hc25]
            cbv
            cases h1
            cases exitI hi2
            try dsimp only at h0
            cases h0
            exact fin_ok hX rfl ⟨[], _, _, ⟨rfl, rfl⟩, rfl, rfl, rfl, rfl, by cbv; try simp⟩
          · rw [hc25]
            cbv
            obtain ⟨hg26, h1⟩ := grdS h1
            refine ⟨inr_of hO hg26, ?_⟩
            cases h1
            exact ⟨_, [0], nextI hI2 hi2, by cbv; try simp, by first | exact Nat.lt_succ_self _ | omega⟩
  · rw [hc1]
    cbv
    cases h1
    cases exitI hi2
    try dsimp only at h0
    cases h0
    exact fin_ok hX rfl ⟨[], _, _, ⟨rfl, rfl⟩, rfl, rfl, rfl, rfl, by cbv; try simp⟩
set_option maxHeartbeats 40000000 in
theorem fn_granule_Of {O0 : Ops} (hO0 : O0 = std) {origin_1 : Int} {period_1 : Int} {l_1 : List (Int × Int)} {r1 : Int} {r2 : Int} {r3 : List (Int × Int)} {r4 : Int} (h : m_granule_Of O0 origin_1 period_1 l_1 = some (r1, r2, r3, r4)) :
    Fn Try.prog 96 [.c (.int .i64 origin_1), .c (.int .i64 period_1), .c (.sl 0)] [.arr false .i2 l_1] (fun v c => v = .tup [.many [.int .i64 r1, .int .i64 r2, .sl 1], .one (.int .i64 r4)] ∧ c = [.arr true .i2 r3]) := by
  refine fn_run tab_holds eqs_holds mixed [(1, (.seg 1 [0, 1, 2, 3, 4, 5, 6, 7] (.seg 2 [8] (.seg 1 [9, 10, 11, 12, 13, 14, 15, 16, 17, 18, 19, 20, 21, 22, 23, 24, 25, 26] .fin))), []), (15, (.seg 1 [0, 1, 2, 3, 4, 5, 6, 7, 8] .fin), [9])] Try.func96 (by kernel_rfl) (by kernel_rfl) (Nat.le_of_ble_eq_true rfl) ?_
  intro O X hO hX
  rw [hO0, ← hO] at h
  unfold m_granule_Of at h
  have h0 := h; clear h
  cbv
  obtain ⟨x356, h1, h0⟩ := bindS h0
  rcases condS h1 with ⟨hc1, h1⟩ | ⟨hc1, h1⟩
  · rw [hc1]
    cbv
    cases h1
    try dsimp only at h0
    replace h0 := condT h0 rfl
    cases h0
    refine fin_nil hX .i2 2 rfl ?_
    cbv
    exact fin_ok hX rfl ⟨[2], _, _, ⟨rfl, rfl⟩, rfl, rfl, rfl, rfl, by cbv; try simp⟩
  · as_aux_lemma =>
    rw [hc1]
    cbv
    rcases condS h1 with ⟨hc2, h1⟩ | ⟨hc2, h1⟩
    · rw [hc2]
      cbv
      cases h1
      try dsimp only at h0
      replace h0 := condT h0 rfl
      cases h0
      refine fin_nil hX .i2 2 rfl ?_
      cbv
      exact fin_ok hX rfl ⟨[2], _, _, ⟨rfl, rfl⟩, rfl, rfl, rfl, rfl, by cbv; try simp⟩
    · as_aux_lemma =>
      rw [hc2]
      cbv
      obtain ⟨b107, hv, h1⟩ := bindS h1
      refine call_is hO hX (fn_granule_ascending hO hv) (by kernel_rfl) [0] rfl ⟨rfl, rfl, trivial⟩ rfl ?_
      cbv
      rcases condS h1 with ⟨hc3, h1⟩ | ⟨hc3, h1⟩
      · rw [hc3]
        cbv
        cases h1
        try dsimp only at h0
        replace h0 := condT h0 rfl
        cases h0
        refine fin_nil hX .i2 2 rfl ?_
        cbv
        exact fin_ok hX rfl ⟨[2], _, _, ⟨rfl, rfl⟩, rfl, rfl, rfl, rfl, by cbv; try simp⟩
      · as_aux_lemma =>
        rw [hc3]
        cbv
        obtain ⟨hg4, h1⟩ := grdS h1
        refine ⟨inr_of hO hg4, ?_⟩
        obtain ⟨hg5, h1⟩ := grdS h1
        refine ⟨idx_of hO hg5, ?_⟩
        obtain ⟨hg6, h1⟩ := grdS h1
        refine ⟨kin_of hO hg6, ?_⟩
        obtain ⟨hg7, h1⟩ := grdS h1
        refine ⟨idx_of hO hg7, ?_⟩
        obtain ⟨hg8, h1⟩ := grdS h1
        refine ⟨kin_of hO hg8, ?_⟩
        obtain ⟨hg9, h1⟩ := grdS h1
        refine ⟨inr_of hO hg9, ?_⟩
        cases h1
        try dsimp only at h0
        rcases condS h0 with ⟨hc10, h0⟩ | ⟨hc10, h0⟩
        · rw [hc10]
          cbv
          cases h0
          refine fin_nil hX .i2 2 rfl ?_
          cbv
          exact fin_ok hX rfl ⟨[2], _, _, ⟨rfl, rfl⟩, rfl, rfl, rfl, rfl, by cbv; try simp⟩
        · as_aux_lemma =>
          rw [hc10]
          cbv
          rcases condS h0 with ⟨hc11, h0⟩ | ⟨hc11, h0⟩
          · rw [hc11]
            cbv
            cases h0
            refine fin_nil hX .i2 2 rfl ?_
            cbv
            exact fin_ok hX rfl ⟨[2], _, _, ⟨rfl, rfl⟩, rfl, rfl, rfl, rfl, by cbv; try simp⟩
          · as_aux_lemma =>
            rw [hc11]
            cbv
            obtain ⟨hg12, h0⟩ := grdS h0
            refine ⟨idx_of hO hg12, ?_⟩
            obtain ⟨hg13, h0⟩ := grdS h0
            refine ⟨kin_of hO hg13, ?_⟩
            obtain ⟨x362, h1, h0⟩ := bindS h0
            obtain ⟨b108, hv, h1⟩ := bindS h1
            refine call_is hO hX (fn_granule_line hO hv) (by kernel_rfl) [] rfl trivial rfl ?_
            cbv
            rcases condS h1 with ⟨hc14, h1⟩ | ⟨hc14, h1⟩
            · rw [hc14]
              cbv
              cases h1
              try dsimp only at h0
              replace h0 := condT h0 rfl
              cases h0
              refine fin_nil hX .i2 2 rfl ?_
              cbv
              exact fin_ok hX rfl ⟨[2], _, _, ⟨rfl, rfl⟩, rfl, rfl, rfl, rfl, by cbv; try simp⟩
            · as_aux_lemma =>
              rw [hc14]
              cbv
              obtain ⟨hg15, h1⟩ := grdS h1
              refine ⟨inr_of hO hg15, ?_⟩
              obtain ⟨b109, hv, h1⟩ := bindS h1
              refine call_is hO hX (fn_granule_half hO hv) (by kernel_rfl) [] rfl trivial rfl ?_
              cbv
              cases h1
              try dsimp only at h0
              rcases condS h0 with ⟨hc16, h0⟩ | ⟨hc16, h0⟩
              · rw [hc16]
                cbv
                cases h0
                refine fin_nil hX .i2 2 rfl ?_
                cbv
                exact fin_ok hX rfl ⟨[2], _, _, ⟨rfl, rfl⟩, rfl, rfl, rfl, rfl, by cbv; try simp⟩
              · as_aux_lemma =>
                rw [hc16]
                cbv
                obtain ⟨hg17, h0⟩ := grdS h0
                refine ⟨inr_of hO hg17, ?_⟩
                refine loop_nilC hO hX 29 .i2 2 2 rfl rfl ?_
                cbv
                obtain ⟨l204, hi, h0⟩ := bindS h0
                obtain ⟨I1, hI1, hi⟩ := loopS hi
                refine loop1 tab_holds eqs_holds mixed [(1, (.seg 1 [0, 1, 2, 3, 4, 5, 6, 7] (.seg 2 [8] (.seg 1 [9, 10, 11, 12, 13, 14, 15, 16, 17, 18, 19, 20, 21, 22, 23, 24, 25, 26] .fin))), []), (15, (.seg 1 [0, 1, 2, 3, 4, 5, 6, 7, 8] .fin), [9])] hO hX I1 (fun y => [(67, .c (.int .i64 y.2.1))]) (fun y => [(3, .own 29 .i2 y.2.2)]) (fun y => y.1) _ (by kernel_rfl) hi (by cbv; try simp) ?_
                refine allp ?_
                intro n1
                refine allp ?_
                intro x365
                intro l203 hi
                cbv
                rw [hI1] at hi
                obtain ⟨n1, rfl, x1, h1, hi1⟩ := iterS hi
                unfold m_granule_Of_L1 at h1
                try dsimp only at h1
                rcases condS h1 with ⟨hc18, h1⟩ | ⟨hc18, h1⟩
                · rw [hc18]
                  cbv
                  obtain ⟨hg19, h1⟩ := grdS h1
                  refine ⟨idx_of hO hg19, ?_⟩
                  obtain ⟨hg20, h1⟩ := grdS h1
                  refine ⟨kin_of hO hg20, ?_⟩
                  obtain ⟨hg21, h1⟩ := grdS h1
                  refine ⟨inr_of hO hg21, ?_⟩
                  obtain ⟨hg22, h1⟩ := grdS h1
                  refine ⟨inr_of hO hg22, ?_⟩
                  obtain ⟨hg23, h1⟩ := grdS h1
                  refine ⟨room_of hO hg23, ?_⟩
                  obtain ⟨hg24, h1⟩ := grdS h1
                  refine ⟨room_of hO hg24, ?_⟩
                  obtain ⟨hg25, h1⟩ := grdS h1
                  refine ⟨inr_of hO hg25, ?_⟩
                  cases h1
                  exact ⟨_, [0, 1, 2, 6], nextI hI1 hi1, by cbv; try simp, by first | exact Nat.lt_succ_self _ | omega⟩
                · rw [hc18]
                  cbv
                  cases h1
                  cases exitI hi1
                  try dsimp only at h0
                  obtain ⟨n123, hv, h0⟩ := bindS h0
                  refine call_is hO hX (fn_granule_least hO hv) (by kernel_rfl) [3] rfl ⟨rfl, rfl, trivial⟩ rfl ?_
                  cbv
                  obtain ⟨hg26, h0⟩ := grdS h0
                  refine ⟨nz_of hO hg26, ?_⟩
                  obtain ⟨hg27, h0⟩ := grdS h0
                  refine ⟨inr_of hO hg27, ?_⟩
                  obtain ⟨hg28, h0⟩ := grdS h0
                  refine ⟨nz_of hO hg28, ?_⟩
                  obtain ⟨hg29, h0⟩ := grdS h0
                  refine ⟨inr_of hO hg29, ?_⟩
                  obtain ⟨hg30, h0⟩ := grdS h0
                  refine ⟨rng_of hO hg30, ?_⟩
                  obtain ⟨hg31, h0⟩ := grdS h0
                  refine ⟨rng_of hO hg31, ?_⟩
                  refine ⟨rng_of hO hg31, ?_⟩
                  cases h0
                  refine fin_ful hX 4 ?_
                  cbv
                  exact fin_ok hX rfl ⟨[4], _, _, ⟨rfl, rfl⟩, rfl, rfl, rfl, rfl, by cbv; try simp⟩
set_option maxHeartbeats 40000000 in
theorem fn_granule_row {O0 : Ops} (hO0 : O0 = std) {origin_1 : Int} {lengths_1 : List Int} {r1 : Int} {r2 : Int} {r3 : List (Int × Int)} (h : m_granule_row O0 origin_1 lengths_1 = some (r1, r2, r3)) :
    Fn Try.prog 79 [.c (.int .i64 origin_1), .c (.sl 0)] [.arr false .i1 lengths_1] (fun v c => v = .agg [.int .i64 r1, .int .i64 r2, .sl 1] ∧ c = [.arr true .i2 r3]) := by
  refine fn_run tab_holds eqs_holds mixed [] Try.func79 (by kernel_rfl) (by kernel_rfl) (Nat.le_of_ble_eq_true rfl) ?_
  intro O X hO hX
  rw [hO0, ← hO] at h
  unfold m_granule_row at h
  have h0 := h; clear h
  cbv
  obtain ⟨⟨from3, l202⟩, hi, h0⟩ := bindS h0
  obtain ⟨I1, hI1, hi⟩ := loopS hi
  refine loop1 tab_holds eqs_holds mixed [] hO hX I1 (fun y => [(5, .c (.sl 2)), (6, .c (.int .i64 y.2.1)), (13, .c (.int .i64 y.2.2.1))]) (fun y => [(2, .own 29 .i2 y.2.2.2)]) (fun y => y.1) _ (by kernel_rfl) hi (by cbv; try simp) ?_
  refine allp ?_
  intro n1
  refine allp ?_
  intro from2
  refine allp ?_
  intro x350
  intro l201 hi
  cbv
  rw [hI1] at hi
  obtain ⟨n1, rfl, x1, h1, hi1⟩ := iterS hi
  unfold m_granule_row_L1 at h1
  try dsimp only at h1
  rcases condS h1 with ⟨hc1, h1⟩ | ⟨hc1, h1⟩
  · rw [hc1]
    cbv
    obtain ⟨hg2, h1⟩ := grdS h1
    refine ⟨idx_of hO hg2, ?_⟩
    obtain ⟨hg3, h1⟩ := grdS h1
    refine ⟨kin_of hO hg3, ?_⟩
    obtain ⟨hg4, h1⟩ := grdS h1
    refine ⟨inr_of hO hg4, ?_⟩
    obtain ⟨hg5, h1⟩ := grdS h1
    refine ⟨room_of hO hg5, ?_⟩
    obtain ⟨hg6, h1⟩ := grdS h1
    refine ⟨room_of hO hg6, ?_⟩
    refine ⟨inr_of hO hg4, ?_⟩
    obtain ⟨hg7, h1⟩ := grdS h1
    refine ⟨inr_of hO hg7, ?_⟩
    cases h1
    exact ⟨_, [0, 1, 4], nextI hI1 hi1, by cbv; try simp, by first | exact Nat.lt_succ_self _ | omega⟩
  · rw [hc1]
    cbv
    cases h1
    cases exitI hi1
    try dsimp only at h0
    obtain ⟨⟨n124, n125, l205, n126⟩, hv, h0⟩ := bindS h0
    try dsimp only at h0
    refine call_is hO hX (fn_granule_Of hO hv) (by kernel_rfl) [2] rfl ⟨rfl, rfl, trivial⟩ rfl ?_
    cbv
    cases h0
    exact fin_ok hX rfl ⟨[3], _, _, ⟨rfl, rfl⟩, rfl, rfl, rfl, rfl, by cbv; try simp⟩
set_option maxHeartbeats 40000000 in
theorem fn_granule_Weeks {O0 : Ops} (hO0 : O0 = std) {first_1 : Int} {r1 : Int} {r2 : Int} {r3 : List (Int × Int)} {r4 : Int} (h : m_granule_Weeks O0 first_1 = some (r1, r2, r3, r4)) :
    Fn Try.prog 53 [.c (.int .i64 first_1)] [] (fun v c => v = .tup [.many [.int .i64 r1, .int .i64 r2, .sl 0], .one (.int .i64 r4)] ∧ c = [.arr true .i2 r3]) := by
  refine fn_run tab_holds eqs_holds mixed [] Try.func53 (by kernel_rfl) (by kernel_rfl) (Nat.le_of_ble_eq_true rfl) ?_
  intro O X hO hX
  rw [hO0, ← hO] at h
  unfold m_granule_Weeks at h
  have h0 := h; clear h
  cbv
  obtain ⟨x346, h1, h0⟩ := bindS h0
  rcases condS h1 with ⟨hc1, h1⟩ | ⟨hc1, h1⟩
  · rw [hc1]
    cbv
    cases h1
    try dsimp only at h0
    replace h0 := condT h0 rfl
    cases h0
    refine fin_nil hX .i2 1 rfl ?_
    cbv
    exact fin_ok hX rfl ⟨[1], _, _, ⟨rfl, rfl⟩, rfl, rfl, rfl, rfl, by cbv; try simp⟩
  · rw [hc1]
    cbv
    cases h1
    try dsimp only at h0
    rcases condS h0 with ⟨hc2, h0⟩ | ⟨hc2, h0⟩
    · rw [hc2]
      cbv
      cases h0
      refine fin_nil hX .i2 1 rfl ?_
      cbv
      exact fin_ok hX rfl ⟨[1], _, _, ⟨rfl, rfl⟩, rfl, rfl, rfl, rfl, by cbv; try simp⟩
    · rw [hc2]
      cbv
      obtain ⟨n121, hv, h0⟩ := bindS h0
      refine call_is hO hX (fn_civil_Weekday hO hv) (by kernel_rfl) [] rfl trivial rfl ?_
      cbv
      obtain ⟨hg3, h0⟩ := grdS h0
      refine ⟨inr_of hO hg3, ?_⟩
      obtain ⟨n122, hv, h0⟩ := bindS h0
      refine call_is hO hX (fn_integer_Mod hO hv) (by kernel_rfl) [] rfl trivial rfl ?_
      cbv
      obtain ⟨hg4, h0⟩ := grdS h0
      refine ⟨inr_of hO hg4, ?_⟩
      obtain ⟨⟨n127, n128, l206⟩, hv, h0⟩ := bindS h0
      try dsimp only at h0
      refine call_is hO hX (fn_granule_row hO hv) (by kernel_rfl) [1] rfl ⟨rfl, rfl, trivial⟩ rfl ?_
      cbv
      cases h0
      exact fin_ok hX rfl ⟨[2], _, _, ⟨rfl, rfl⟩, rfl, rfl, rfl, rfl, by cbv; try simp⟩
end Go.Proofs.Ytlpbdikmhngmfaa
