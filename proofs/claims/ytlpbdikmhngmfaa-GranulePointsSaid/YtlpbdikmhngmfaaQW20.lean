/-
  The code does what its models say (printed by lift.py).
-/
import Derived.Test.YtlpbdikmhngmfaaQM
import Derived.Test.YtlpbdikmhngmfaaManWC
import Derived.Test.YtlpbdikmhngmfaaQW0
import Derived.Test.YtlpbdikmhngmfaaQW1
import Derived.Test.YtlpbdikmhngmfaaQW19
namespace Go.Proofs.Ytlpbdikmhngmfaa
open Go.RowKit
set_option maxRecDepth 100000

set_option maxHeartbeats 40000000 in
theorem fn_granule_Valid {O0 : Ops} (hO0 : O0 = std) {c_1 : Int} {c_2 : Int} {c_3 : List (Int × Int)} {r1 : Bool} (h : m_granule_Valid O0 c_1 c_2 c_3 = some r1) :
    Fn Try.prog 24 [.agg [.int .i64 c_1, .int .i64 c_2, .sl 0]] [.arr false .i2 c_3] (fun v c => v = .c (.bool r1) ∧ c = []) := by
  refine fn_run tab_holds eqs_holds mixed [(2, (.seg 1 [0, 1, 2, 3, 4, 5, 6, 7, 8, 9, 10, 11, 12, 13, 14, 15, 16, 17, 18] (.seg 2 [19] (.seg 1 [20, 21, 22, 23, 24] (.seg 2 [25] (.seg 1 [26, 27, 28, 29, 30, 31, 32, 33, 34, 35, 36, 37, 38, 39, 40, 41, 42, 43, 44, 45, 46, 47] .fin))))), [])] Try.func24 (by kernel_rfl) (by kernel_rfl) (Nat.le_of_ble_eq_true rfl) ?_
  intro O X hO hX
  rw [hO0, ← hO] at h
  unfold m_granule_Valid at h
  have h0 := h; clear h
  cbv
  obtain ⟨x372, h1, h0⟩ := bindS h0
  rcases condS h1 with ⟨hc1, h1⟩ | ⟨hc1, h1⟩
  · rw [hc1]
    cbv
    cases h1
    try dsimp only at h0
    replace h0 := condT h0 rfl
    cases h0
    exact fin_ok hX rfl ⟨[], _, _, ⟨rfl, rfl⟩, rfl, rfl, rfl, rfl, by cbv; try simp⟩
  · as_aux_lemma =>
    rw [hc1]
    cbv
    rcases condS h1 with ⟨hc2, h1⟩ | ⟨hc2, h1⟩
    · rw [hc2]
      cbv
      cases h1
      try dsimp only at h0
      replace h0 := condT h0 rfl
      cases h0
      exact fin_ok hX rfl ⟨[], _, _, ⟨rfl, rfl⟩, rfl, rfl, rfl, rfl, by cbv; try simp⟩
    · as_aux_lemma =>
      rw [hc2]
      cbv
      rcases condS h1 with ⟨hc3, h1⟩ | ⟨hc3, h1⟩
      · rw [hc3]
        cbv
        cases h1
        try dsimp only at h0
        replace h0 := condT h0 rfl
        cases h0
        exact fin_ok hX rfl ⟨[], _, _, ⟨rfl, rfl⟩, rfl, rfl, rfl, rfl, by cbv; try simp⟩
      · as_aux_lemma =>
        rw [hc3]
        cbv
        rcases condS h1 with ⟨hc4, h1⟩ | ⟨hc4, h1⟩
        · rw [hc4]
          cbv
          cases h1
          try dsimp only at h0
          replace h0 := condT h0 rfl
          cases h0
          exact fin_ok hX rfl ⟨[], _, _, ⟨rfl, rfl⟩, rfl, rfl, rfl, rfl, by cbv; try simp⟩
        · as_aux_lemma =>
          rw [hc4]
          cbv
          obtain ⟨b110, hv, h1⟩ := bindS h1
          refine call_is hO hX (fn_granule_half hO hv) (by kernel_rfl) [] rfl trivial rfl ?_
          cbv
          rcases condS h1 with ⟨hc5, h1⟩ | ⟨hc5, h1⟩
          · rw [hc5]
            cbv
            cases h1
            try dsimp only at h0
            replace h0 := condT h0 rfl
            cases h0
            exact fin_ok hX rfl ⟨[], _, _, ⟨rfl, rfl⟩, rfl, rfl, rfl, rfl, by cbv; try simp⟩
          · as_aux_lemma =>
            rw [hc5]
            cbv
            obtain ⟨b111, hv, h1⟩ := bindS h1
            refine call_is hO hX (fn_granule_ascending hO hv) (by kernel_rfl) [0] rfl ⟨rfl, rfl, trivial⟩ rfl ?_
            cbv
            rcases condS h1 with ⟨hc6, h1⟩ | ⟨hc6, h1⟩
            · rw [hc6]
              cbv
              cases h1
              try dsimp only at h0
              replace h0 := condT h0 rfl
              cases h0
              exact fin_ok hX rfl ⟨[], _, _, ⟨rfl, rfl⟩, rfl, rfl, rfl, rfl, by cbv; try simp⟩
            · rw [hc6]
              cbv
              rcases condS h1 with ⟨hc7, h1⟩ | ⟨hc7, h1⟩
              · rw [hc7]
                cbv
                obtain ⟨hg8, h1⟩ := grdS h1
                refine ⟨idx_of hO hg8, ?_⟩
                obtain ⟨hg9, h1⟩ := grdS h1
                refine ⟨kin_of hO hg9, ?_⟩
                cases h1
                try dsimp only at h0
                replace h0 := condT h0 rfl
                cases h0
                exact fin_ok hX rfl ⟨[], _, _, ⟨rfl, rfl⟩, rfl, rfl, rfl, rfl, by cbv; try simp⟩
              · rw [hc7]
                cbv
                obtain ⟨hg10, h1⟩ := grdS h1
                refine ⟨idx_of hO hg10, ?_⟩
                obtain ⟨hg11, h1⟩ := grdS h1
                refine ⟨kin_of hO hg11, ?_⟩
                obtain ⟨hg12, h1⟩ := grdS h1
                refine ⟨inr_of hO hg12, ?_⟩
                obtain ⟨hg13, h1⟩ := grdS h1
                refine ⟨idx_of hO hg13, ?_⟩
                obtain ⟨hg14, h1⟩ := grdS h1
                refine ⟨kin_of hO hg14, ?_⟩
                cases h1
                try dsimp only at h0
                rcases condS h0 with ⟨hc15, h0⟩ | ⟨hc15, h0⟩
                · rw [hc15]
                  cbv
                  cases h0
                  exact fin_ok hX rfl ⟨[], _, _, ⟨rfl, rfl⟩, rfl, rfl, rfl, rfl, by cbv; try simp⟩
                · rw [hc15]
                  cbv
                  obtain ⟨n132, hv, h0⟩ := bindS h0
                  refine call_is hO hX (fn_granule_least hO hv) (by kernel_rfl) [0] rfl ⟨rfl, rfl, trivial⟩ rfl ?_
                  cbv
                  cases h0
                  exact fin_ok hX rfl ⟨[], _, _, ⟨rfl, rfl⟩, rfl, rfl, rfl, rfl, by cbv; try simp⟩
set_option maxHeartbeats 40000000 in
theorem fn_integer_Floor {O0 : Ops} (hO0 : O0 = std) {a_1 : Int} {b_1 : Int} {r1 : Int} (h : m_integer_Floor O0 a_1 b_1 = some r1) :
    Fn Try.prog 81 [.c (.int .i64 a_1), .c (.int .i64 b_1)] [] (fun v c => v = .c (.int .i64 r1) ∧ c = []) := by
  refine fn_run tab_holds eqs_holds mixed [] Try.func81 (by kernel_rfl) (by kernel_rfl) (Nat.le_of_ble_eq_true rfl) ?_
  intro O X hO hX
  rw [hO0, ← hO] at h
  unfold m_integer_Floor at h
  have h0 := h; clear h
  cbv
  obtain ⟨⟨n133, n134, n135⟩, hv, h0⟩ := bindS h0
  try dsimp only at h0
  refine call_is hO hX (fn_integer_Div hO hv) (by kernel_rfl) [] rfl trivial rfl ?_
  cbv
  cases h0
  exact fin_ok hX rfl ⟨[], _, _, ⟨rfl, rfl⟩, rfl, rfl, rfl, rfl, by cbv; try simp⟩
set_option maxHeartbeats 40000000 in
theorem fn_granule_at {O0 : Ops} (hO0 : O0 = std) {c_1 : Int} {c_2 : Int} {k_1 : Int} {c_3 : List (Int × Int)} {r1 : Int} {r2 : Int} (h : m_granule_at O0 c_1 c_2 k_1 c_3 = some (r1, r2)) :
    Fn Try.prog 61 [.agg [.int .i64 c_1, .int .i64 c_2, .sl 0], .c (.int .i64 k_1)] [.arr false .i2 c_3] (fun v c => v = .agg [.int .i64 r1, .int .i64 r2] ∧ c = []) := by
  refine fn_run tab_holds eqs_holds mixed [] Try.func61 (by kernel_rfl) (by kernel_rfl) (Nat.le_of_ble_eq_true rfl) ?_
  intro O X hO hX
  rw [hO0, ← hO] at h
  unfold m_granule_at at h
  have h0 := h; clear h
  cbv
  obtain ⟨n137, hv, h0⟩ := bindS h0
  refine call_is hO hX (fn_integer_Floor hO hv) (by kernel_rfl) [] rfl trivial rfl ?_
  cbv
  obtain ⟨hg1, h0⟩ := grdS h0
  refine ⟨inr_of hO hg1, ?_⟩
  obtain ⟨hg2, h0⟩ := grdS h0
  refine ⟨inr_of hO hg2, ?_⟩
  obtain ⟨hg3, h0⟩ := grdS h0
  refine ⟨inr_of hO hg3, ?_⟩
  obtain ⟨hg4, h0⟩ := grdS h0
  refine ⟨inr_of hO hg4, ?_⟩
  obtain ⟨hg5, h0⟩ := grdS h0
  refine ⟨idx_of hO hg5, ?_⟩
  obtain ⟨hg6, h0⟩ := grdS h0
  refine ⟨kin_of hO hg6, ?_⟩
  obtain ⟨hg7, h0⟩ := grdS h0
  refine ⟨inr_of hO hg7, ?_⟩
  obtain ⟨hg8, h0⟩ := grdS h0
  refine ⟨inr_of hO hg8, ?_⟩
  cases h0
  exact fin_ok hX rfl ⟨[], _, _, ⟨rfl, rfl⟩, rfl, rfl, rfl, rfl, by cbv; try simp⟩
set_option maxHeartbeats 40000000 in
theorem fn_granule_Span {O0 : Ops} (hO0 : O0 = std) {c_1 : Int} {c_2 : Int} {k_1 : Int} {c_3 : List (Int × Int)} {r1 : Int} {r2 : Int} {r3 : Int} (h : m_granule_Span O0 c_1 c_2 k_1 c_3 = some (r1, r2, r3)) :
    Fn Try.prog 54 [.agg [.int .i64 c_1, .int .i64 c_2, .sl 0], .c (.int .i64 k_1)] [.arr false .i2 c_3] (fun v c => v = .tup [.many [.int .i64 r1, .int .i64 r2], .one (.int .i64 r3)] ∧ c = []) := by
  refine fn_run tab_holds eqs_holds mixed [] Try.func54 (by kernel_rfl) (by kernel_rfl) (Nat.le_of_ble_eq_true rfl) ?_
  intro O X hO hX
  rw [hO0, ← hO] at h
  unfold m_granule_Span at h
  have h0 := h; clear h
  cbv
  obtain ⟨b112, hv, h0⟩ := bindS h0
  refine call_is hO hX (fn_granule_Valid hO hv) (by kernel_rfl) [0] rfl ⟨rfl, rfl, trivial⟩ rfl ?_
  cbv
  rcases condS h0 with ⟨hc1, h0⟩ | ⟨hc1, h0⟩
  · rw [hc1]
    cbv
    cases h0
    exact fin_ok hX rfl ⟨[], _, _, ⟨rfl, rfl⟩, rfl, rfl, rfl, rfl, by cbv; try simp⟩
  · as_aux_lemma =>
    rw [hc1]
    cbv
    obtain ⟨n136, hv, h0⟩ := bindS h0
    refine call_is hO hX (fn_integer_Floor hO hv) (by kernel_rfl) [] rfl trivial rfl ?_
    cbv
    obtain ⟨x374, h1, h0⟩ := bindS h0
    rcases condS h1 with ⟨hc2, h1⟩ | ⟨hc2, h1⟩
    · rw [hc2]
      cbv
      obtain ⟨hg3, h1⟩ := grdS h1
      refine ⟨nz_of hO hg3, ?_⟩
      obtain ⟨hg4, h1⟩ := grdS h1
      refine ⟨inr_of hO hg4, ?_⟩
      cases h1
      try dsimp only at h0
      replace h0 := condT h0 rfl
      cases h0
      exact fin_ok hX rfl ⟨[], _, _, ⟨rfl, rfl⟩, rfl, rfl, rfl, rfl, by cbv; try simp⟩
    · as_aux_lemma =>
      rw [hc2]
      cbv
      obtain ⟨hg5, h1⟩ := grdS h1
      refine ⟨nz_of hO hg5, ?_⟩
      obtain ⟨hg6, h1⟩ := grdS h1
      refine ⟨inr_of hO hg6, ?_⟩
      refine ⟨nz_of hO hg5, ?_⟩
      obtain ⟨hg7, h1⟩ := grdS h1
      refine ⟨inr_of hO hg7, ?_⟩
      obtain ⟨hg8, h1⟩ := grdS h1
      refine ⟨inr_of hO hg8, ?_⟩
      cases h1
      try dsimp only at h0
      rcases condS h0 with ⟨hc9, h0⟩ | ⟨hc9, h0⟩
      · rw [hc9]
        cbv
        cases h0
        exact fin_ok hX rfl ⟨[], _, _, ⟨rfl, rfl⟩, rfl, rfl, rfl, rfl, by cbv; try simp⟩
      · rw [hc9]
        cbv
        obtain ⟨⟨n138, n139⟩, hv, h0⟩ := bindS h0
        try dsimp only at h0
        refine call_is hO hX (fn_granule_at hO hv) (by kernel_rfl) [0] rfl ⟨rfl, rfl, trivial⟩ rfl ?_
        cbv
        obtain ⟨x376, h1, h0⟩ := bindS h0
        obtain ⟨b113, hv, h1⟩ := bindS h1
        refine call_is hO hX (fn_granule_line hO hv) (by kernel_rfl) [] rfl trivial rfl ?_
        cbv
        rcases condS h1 with ⟨hc10, h1⟩ | ⟨hc10, h1⟩
        · rw [hc10]
          cbv
          cases h1
          try dsimp only at h0
          replace h0 := condT h0 rfl
          cases h0
          exact fin_ok hX rfl ⟨[], _, _, ⟨rfl, rfl⟩, rfl, rfl, rfl, rfl, by cbv; try simp⟩
        · rw [hc10]
          cbv
          obtain ⟨b114, hv, h1⟩ := bindS h1
          refine call_is hO hX (fn_granule_line hO hv) (by kernel_rfl) [] rfl trivial rfl ?_
          cbv
          cases h1
          try dsimp only at h0
          rcases condS h0 with ⟨hc11, h0⟩ | ⟨hc11, h0⟩
          · rw [hc11]
            cbv
            cases h0
            exact fin_ok hX rfl ⟨[], _, _, ⟨rfl, rfl⟩, rfl, rfl, rfl, rfl, by cbv; try simp⟩
          · rw [hc11]
            cbv
            cases h0
            exact fin_ok hX rfl ⟨[], _, _, ⟨rfl, rfl⟩, rfl, rfl, rfl, rfl, by cbv; try simp⟩
set_option maxHeartbeats 40000000 in
theorem fn_granule_months {O0 : Ops} (hO0 : O0 = std) {r1 : List Int} (h : m_granule_months O0 = some r1) :
    Fn Try.prog 82 [] [] (fun v c => v = .c (.sl 0) ∧ c = [.own 3 .i1 r1]) := by
  refine fn_run tab_holds eqs_holds mixed [] Try.func82 (by kernel_rfl) (by kernel_rfl) (Nat.le_of_ble_eq_true rfl) ?_
  intro O X hO hX
  rw [hO0, ← hO] at h
  unfold m_granule_months at h
  have h0 := h; clear h
  cbv
  obtain ⟨l213, hi, h0⟩ := bindS h0
  obtain ⟨I2, hI2, hi⟩ := loopS hi
  refine loop1 tab_holds eqs_holds mixed [] hO hX I2 (fun y => [(0, .junk), (1, .c (.sl 1)), (4, .c (.int .i64 y.2.1))]) (fun y => [(1, .own 3 .i1 y.2.2)]) (fun y => y.1) _ (by kernel_rfl) hi (by cbv; try simp) ?_
  refine allp ?_
  intro n2
  refine allp ?_
  intro x380
  intro l210 hi
  cbv
  rw [hI2] at hi
  obtain ⟨n2, rfl, x2, h1, hi2⟩ := iterS hi
  unfold m_granule_months_L2 at h1
  try dsimp only at h1
  rcases condS h1 with ⟨hc1, h1⟩ | ⟨hc1, h1⟩
  · as_aux_lemma =>
    rw [hc1]
    cbv
    obtain ⟨l212, hi, h1⟩ := bindS h1
    obtain ⟨I1, hI1, hi⟩ := loopS hi
    refine loop1 tab_holds eqs_holds mixed [] hO hX I1 (fun y => [(1, .c (.sl 1)), (7, .c (.int .i64 y.2.1))]) (fun y => [(1, .own 3 .i1 y.2.2)]) (fun y => y.1) _ (by kernel_rfl) hi (by cbv; try simp) ?_
    refine allp ?_
    intro n1
    refine allp ?_
    intro x382
    intro l211 hi
    cbv
    rw [hI1] at hi
    obtain ⟨n1, rfl, x1, h2, hi1⟩ := iterS hi
    unfold m_granule_months_L1 at h2
    try dsimp only at h2
    rcases condS h2 with ⟨hc2, h2⟩ | ⟨hc2, h2⟩
    · rw [hc2]
      cbv
      obtain ⟨hg3, h2⟩ := grdS h2
      refine ⟨inr_of hO hg3, ?_⟩
      obtain ⟨hg4, h2⟩ := grdS h2
      refine ⟨inr_of hO hg4, ?_⟩
      obtain ⟨n146, hv, h2⟩ := bindS h2
      refine call_is hO hX (fn_civil_Length hO hv) (by kernel_rfl) [] rfl trivial rfl ?_
      cbv
      obtain ⟨hg5, h2⟩ := grdS h2
      refine ⟨room_of hO hg5, ?_⟩
      obtain ⟨hg6, h2⟩ := grdS h2
      refine ⟨room_of hO hg6, ?_⟩
      refine ⟨inr_of hO hg4, ?_⟩
      cases h2
      exact ⟨_, [0, 3], nextI hI1 hi1, by cbv; try simp, by first | exact Nat.lt_succ_self _ | omega⟩
    · rw [hc2]
      cbv
      cases h2
      cases exitI hi1
      try dsimp only at h1
      obtain ⟨hg7, h1⟩ := grdS h1
      refine ⟨inr_of hO hg7, ?_⟩
      cases h1
      exact ⟨_, [0, 1], nextI hI2 hi2, by cbv; try simp, by first | exact Nat.lt_succ_self _ | omega⟩
  · rw [hc1]
    cbv
    cases h1
    cases exitI hi2
    try dsimp only at h0
    cases h0
    exact fin_ok hX rfl ⟨[1], _, _, ⟨rfl, rfl⟩, rfl, rfl, rfl, rfl, by cbv; try simp⟩
set_option maxHeartbeats 40000000 in
theorem fn_granule_Months {O0 : Ops} (hO0 : O0 = std) {r1 : Int} {r2 : Int} {r3 : List (Int × Int)} (h : m_granule_Months O0 = some (r1, r2, r3)) :
    Fn Try.prog 55 [] [] (fun v c => v = .agg [.int .i64 r1, .int .i64 r2, .sl 0] ∧ c = [.arr true .i2 r3]) := by
  refine fn_run tab_holds eqs_holds mixed [] Try.func55 (by kernel_rfl) (by kernel_rfl) (Nat.le_of_ble_eq_true rfl) ?_
  intro O X hO hX
  rw [hO0, ← hO] at h
  unfold m_granule_Months at h
  have h0 := h; clear h
  cbv
  obtain ⟨l214, hv, h0⟩ := bindS h0
  refine call_is hO hX (fn_granule_months hO hv) (by kernel_rfl) [] rfl trivial rfl ?_
  cbv
  obtain ⟨⟨n147, n148, l215⟩, hv, h0⟩ := bindS h0
  try dsimp only at h0
  refine call_is hO hX (fn_granule_row hO hv) (by kernel_rfl) [1] rfl ⟨rfl, rfl, trivial⟩ rfl ?_
  cbv
  cases h0
  exact fin_ok hX rfl ⟨[2], _, _, ⟨rfl, rfl⟩, rfl, rfl, rfl, rfl, by cbv; try simp⟩
set_option maxHeartbeats 40000000 in
theorem fn_law15_awake {O0 : Ops} (hO0 : O0 = std) {r1 : Bool} (h : m_law15_awake O0 = some r1) :
    Fn Try.prog 22 [] [] (fun v c => v = .c (.bool r1) ∧ c = []) := by
  refine fn_run tab_holds eqs_holds mixed [] Try.func22 (by kernel_rfl) (by kernel_rfl) (Nat.le_of_ble_eq_true rfl) ?_
  intro O X hO hX
  rw [hO0, ← hO] at h
  unfold m_law15_awake at h
  have h0 := h; clear h
  cbv
  obtain ⟨⟨n129, n130, l207, n131⟩, hv, h0⟩ := bindS h0
  try dsimp only at h0
  refine call_is hO hX (fn_granule_Weeks hO hv) (by kernel_rfl) [] rfl trivial rfl ?_
  cbv
  obtain ⟨⟨n140, n141, n142⟩, hv, h0⟩ := bindS h0
  try dsimp only at h0
  refine call_is hO hX (fn_granule_Span hO hv) (by kernel_rfl) [0] rfl ⟨rfl, rfl, trivial⟩ rfl ?_
  cbv
  obtain ⟨⟨n149, n150, l216⟩, hv, h0⟩ := bindS h0
  try dsimp only at h0
  refine call_is hO hX (fn_granule_Months hO hv) (by kernel_rfl) [] rfl trivial rfl ?_
  cbv
  obtain ⟨⟨n151, n152, n153⟩, hv, h0⟩ := bindS h0
  try dsimp only at h0
  refine call_is hO hX (fn_granule_Span hO hv) (by kernel_rfl) [3] rfl ⟨rfl, rfl, trivial⟩ rfl ?_
  cbv
  obtain ⟨x387, h1, h0⟩ := bindS h0
  rcases condS h1 with ⟨hc1, h1⟩ | ⟨hc1, h1⟩
  · rw [hc1]
    cbv
    rcases condS h1 with ⟨hc2, h1⟩ | ⟨hc2, h1⟩
    · rw [hc2]
      cbv
      rcases condS h1 with ⟨hc3, h1⟩ | ⟨hc3, h1⟩
      · rw [hc3]
        cbv
        rcases condS h1 with ⟨hc4, h1⟩ | ⟨hc4, h1⟩
        · rw [hc4]
          cbv
          cases h1
          try dsimp only at h0
          cases h0
          exact fin_ok hX rfl ⟨[], _, _, ⟨rfl, rfl⟩, rfl, rfl, rfl, rfl, by cbv; try simp⟩
        · rw [hc4]
          cbv
          cases h1
          try dsimp only at h0
          cases h0
          exact fin_ok hX rfl ⟨[], _, _, ⟨rfl, rfl⟩, rfl, rfl, rfl, rfl, by cbv; try simp⟩
      · rw [hc3]
        cbv
        cases h1
        try dsimp only at h0
        cases h0
        exact fin_ok hX rfl ⟨[], _, _, ⟨rfl, rfl⟩, rfl, rfl, rfl, rfl, by cbv; try simp⟩
    · rw [hc2]
      cbv
      cases h1
      try dsimp only at h0
      cases h0
      exact fin_ok hX rfl ⟨[], _, _, ⟨rfl, rfl⟩, rfl, rfl, rfl, rfl, by cbv; try simp⟩
  · rw [hc1]
    cbv
    cases h1
    try dsimp only at h0
    cases h0
    exact fin_ok hX rfl ⟨[], _, _, ⟨rfl, rfl⟩, rfl, rfl, rfl, rfl, by cbv; try simp⟩
set_option maxHeartbeats 40000000 in
theorem fn_granule_Points {O0 : Ops} (hO0 : O0 = std) {c_1 : Int} {c_2 : Int} {c_3 : List (Int × Int)} {r1 : Int} {r2 : List (Int × Int)} {r3 : Int} (h : m_granule_Points O0 c_1 c_2 c_3 = some (r1, r2, r3)) :
    Fn Try.prog 23 [.agg [.int .i64 c_1, .int .i64 c_2, .sl 0]] [.arr false .i2 c_3] (fun v c => v = .tup [.many [.int .i64 r1, .sl 1], .one (.int .i64 r3)] ∧ c = [.arr true .i2 r2]) := by
  refine fn_run tab_holds eqs_holds mixed [(8, (.seg 1 [0, 1, 2, 3, 4, 5, 6, 7, 8, 9] .fin), [])] Try.func23 (by kernel_rfl) (by kernel_rfl) (Nat.le_of_ble_eq_true rfl) ?_
  intro O X hO hX
  rw [hO0, ← hO] at h
  unfold m_granule_Points at h
  have h0 := h; clear h
  cbv
  obtain ⟨b116, hv, h0⟩ := bindS h0
  refine call_is hO hX (fn_granule_Valid hO hv) (by kernel_rfl) [0] rfl ⟨rfl, rfl, trivial⟩ rfl ?_
  cbv
  rcases condS h0 with ⟨hc1, h0⟩ | ⟨hc1, h0⟩
  · rw [hc1]
    cbv
    cases h0
    refine fin_nil hX .i2 3 rfl ?_
    cbv
    exact fin_ok hX rfl ⟨[3], _, _, ⟨rfl, rfl⟩, rfl, rfl, rfl, rfl, by cbv; try simp⟩
  · as_aux_lemma =>
    rw [hc1]
    cbv
    obtain ⟨n154, hv, h0⟩ := bindS h0
    refine call_is hO hX (fn_integer_Mod hO hv) (by kernel_rfl) [] rfl trivial rfl ?_
    cbv
    obtain ⟨l226, hi, h0⟩ := bindS h0
    obtain ⟨I1, hI1, hi⟩ := loopS hi
    refine loop1 tab_holds eqs_holds mixed [(8, (.seg 1 [0, 1, 2, 3, 4, 5, 6, 7, 8, 9] .fin), [])] hO hX I1 (fun y => [(14, .junk), (16, .junk), (19, .junk), (4, .c (.sl 3)), (22, .c (.int .i64 y.2.1))]) (fun y => [(3, .own 29 .i2 y.2.2)]) (fun y => y.1) _ (by kernel_rfl) hi (by cbv; try simp) ?_
    refine allp ?_
    intro n1
    refine allp ?_
    intro x389
    intro l221 hi
    cbv
    rw [hI1] at hi
    obtain ⟨n1, rfl, x1, h1, hi1⟩ := iterS hi
    unfold m_granule_Points_L1 at h1
    try dsimp only at h1
    rcases condS h1 with ⟨hc2, h1⟩ | ⟨hc2, h1⟩
    · as_aux_lemma =>
      rw [hc2]
      cbv
      obtain ⟨hg3, h1⟩ := grdS h1
      refine ⟨idx_of hO hg3, ?_⟩
      obtain ⟨hg4, h1⟩ := grdS h1
      refine ⟨kin_of hO hg4, ?_⟩
      obtain ⟨hg5, h1⟩ := grdS h1
      refine ⟨inr_of hO hg5, ?_⟩
      obtain ⟨hg6, h1⟩ := grdS h1
      refine ⟨inr_of hO hg6, ?_⟩
      obtain ⟨l225, h2, h1⟩ := bindS h1
      rcases condS h2 with ⟨hc7, h2⟩ | ⟨hc7, h2⟩
      · rw [hc7]
        cbv
        obtain ⟨hg8, h2⟩ := grdS h2
        refine ⟨room_of hO hg8, ?_⟩
        obtain ⟨hg9, h2⟩ := grdS h2
        refine ⟨room_of hO hg9, ?_⟩
        cases h2
        try dsimp only at h1
        obtain ⟨hg10, h1⟩ := grdS h1
        refine ⟨inr_of hO hg10, ?_⟩
        cases h1
        exact ⟨_, [0, 1, 2, 6], nextI hI1 hi1, by cbv; try simp, by first | exact Nat.lt_succ_self _ | omega⟩
      · rw [hc7]
        cbv
        obtain ⟨l223, h3, h2⟩ := bindS h2
        rcases condS h3 with ⟨hc11, h3⟩ | ⟨hc11, h3⟩
        · rw [hc11]
          cbv
          obtain ⟨hg12, h3⟩ := grdS h3
          refine ⟨inr_of hO hg12, ?_⟩
          obtain ⟨hg13, h3⟩ := grdS h3
          refine ⟨inr_of hO hg13, ?_⟩
          obtain ⟨hg14, h3⟩ := grdS h3
          refine ⟨room_of hO hg14, ?_⟩
          obtain ⟨hg15, h3⟩ := grdS h3
          refine ⟨room_of hO hg15, ?_⟩
          cases h3
          try dsimp only at h2
          cases h2
          try dsimp only at h1
          obtain ⟨hg16, h1⟩ := grdS h1
          refine ⟨inr_of hO hg16, ?_⟩
          cases h1
          exact ⟨_, [0, 1, 2, 6], nextI hI1 hi1, by cbv; try simp, by first | exact Nat.lt_succ_self _ | omega⟩
        · rw [hc11]
          cbv
          obtain ⟨hg17, h3⟩ := grdS h3
          refine ⟨inr_of hO hg17, ?_⟩
          obtain ⟨hg18, h3⟩ := grdS h3
          refine ⟨room_of hO hg18, ?_⟩
          obtain ⟨hg19, h3⟩ := grdS h3
          refine ⟨room_of hO hg19, ?_⟩
          cases h3
          try dsimp only at h2
          cases h2
          try dsimp only at h1
          obtain ⟨hg20, h1⟩ := grdS h1
          refine ⟨inr_of hO hg20, ?_⟩
          cases h1
          exact ⟨_, [0, 1, 2, 6], nextI hI1 hi1, by cbv; try simp, by first | exact Nat.lt_succ_self _ | omega⟩
    · rw [hc2]
      cbv
      cases h1
      cases exitI hi1
      try dsimp only at h0
      obtain ⟨⟨n155, l227, n156⟩, hv, h0⟩ := bindS h0
      try dsimp only at h0
      refine call_is hO hX (fn_periodic_Of hO hv) (by kernel_rfl) [3] rfl ⟨rfl, rfl, trivial⟩ rfl ?_
      cbv
      cases h0
      exact fin_ok hX rfl ⟨[4], _, _, ⟨rfl, rfl⟩, rfl, rfl, rfl, rfl, by cbv; try simp⟩
set_option maxHeartbeats 40000000 in
theorem fn_granule_Near_1 {O0 : Ops} (hO0 : O0 = std) {i_1 : Int} {x_1 : Int} {x_2 : Int} {x_3 : Int} {x_4 : List (Int × Int)} {r1 : Bool} (h : m_granule_Near_1 O0 i_1 x_1 x_2 x_3 x_4 = some r1) :
    Fn Try.prog 84 [.c (.int .i64 i_1), .c (.ptr 0 0), .c (.ptr 1 0)] [.ro 49 [.int .i64 x_1, .int .i64 x_2, .sl 2], .ro 3 [.int .i64 x_3], .arr false .i2 x_4] (fun v c => v = .c (.bool r1) ∧ c = []) := by
  refine fn_run tab_holds eqs_holds mixed [(1, (.seg 1 [0, 1, 2, 3, 4, 5, 6, 7, 8] .fin), [])] Try.func84 (by kernel_rfl) (by kernel_rfl) (Nat.le_of_ble_eq_true rfl) ?_
  intro O X hO hX
  rw [hO0, ← hO] at h
  unfold m_granule_Near_1 at h
  have h0 := h; clear h
  cbv
  obtain ⟨hg1, h0⟩ := grdS h0
  refine ⟨idx_of hO hg1, ?_⟩
  obtain ⟨hg2, h0⟩ := grdS h0
  refine ⟨kin_of hO hg2, ?_⟩
  cases h0
  exact fin_ok hX rfl ⟨[], _, _, ⟨rfl, rfl⟩, rfl, rfl, rfl, rfl, by cbv; try simp⟩
set_option maxHeartbeats 40000000 in
theorem fn_sort_Search {O0 : Ops} (hO0 : O0 = std) {n_1 : Int} {c_1 : Int} {c_2 : Int} {c_3 : Int} {c_4 : List (Int × Int)} {r1 : Int} (h : m_sort_Search O0 n_1 c_1 c_2 c_3 c_4 = some r1) :
    Fn Try.prog 83 [.c (.int .i64 n_1), .c (.fn 84 [0, 1])] [.ro 49 [.int .i64 c_1, .int .i64 c_2, .sl 2], .ro 3 [.int .i64 c_3], .arr false .i2 c_4] (fun v c => v = .c (.int .i64 r1) ∧ c = []) := by
  refine fn_run tab_holds eqs_holds mixed [] Try.func83 (by kernel_rfl) (by kernel_rfl) (Nat.le_of_ble_eq_true rfl) ?_
  intro O X hO hX
  rw [hO0, ← hO] at h
  unfold m_sort_Search at h
  have h0 := h; clear h
  cbv
  obtain ⟨i59, hi, h0⟩ := bindS h0
  obtain ⟨I1, hI1, hi⟩ := loopS hi
  refine loop1 tab_holds eqs_holds mixed [] hO hX I1 (fun y => [(5, .c (.int .i64 y.2.1)), (6, .c (.int .i64 y.2.2))]) (fun _ => []) (fun y => y.1) _ (by kernel_rfl) hi (by cbv; try simp) ?_
  refine allp ?_
  intro n1
  refine allp ?_
  intro i56
  intro j1 hi
  cbv
  rw [hI1] at hi
  obtain ⟨n1, rfl, x1, h1, hi1⟩ := iterS hi
  unfold m_sort_Search_L1 at h1
  try dsimp only at h1
  rcases condS h1 with ⟨hc1, h1⟩ | ⟨hc1, h1⟩
  · rw [hc1]
    cbv
    obtain ⟨hg2, h1⟩ := grdS h1
    refine ⟨inr_of hO hg2, ?_⟩
    obtain ⟨hg3, h1⟩ := grdS h1
    refine ⟨inr_of hO hg3, ?_⟩
    obtain ⟨hg4, h1⟩ := grdS h1
    refine ⟨idx_of hO hg4, ?_⟩
    obtain ⟨hg5, h1⟩ := grdS h1
    refine ⟨inr_of hO hg5, ?_⟩
    obtain ⟨b122, hv, h1⟩ := bindS h1
    refine call_is hO hX (fn_granule_Near_1 hO hv) (by kernel_rfl) [0, 1, 2] rfl ⟨rfl, rfl, rfl, rfl, rfl, rfl, trivial⟩ rfl ?_
    cbv
    obtain ⟨⟨i58, j3⟩, h2, h1⟩ := bindS h1
    rcases condS h2 with ⟨hc6, h2⟩ | ⟨hc6, h2⟩
    · rw [hc6]
      cbv
      obtain ⟨hg7, h2⟩ := grdS h2
      refine ⟨inr_of hO hg7, ?_⟩
      cases h2
      try dsimp only at h1
      cases h1
      exact ⟨_, [0, 1, 2], nextI hI1 hi1, by cbv; try simp, by first | exact Nat.lt_succ_self _ | omega⟩
    · rw [hc6]
      cbv
      cases h2
      try dsimp only at h1
      cases h1
      exact ⟨_, [0, 1, 2], nextI hI1 hi1, by cbv; try simp, by first | exact Nat.lt_succ_self _ | omega⟩
  · rw [hc1]
    cbv
    cases h1
    cases exitI hi1
    try dsimp only at h0
    cases h0
    exact fin_ok hX rfl ⟨[], _, _, ⟨rfl, rfl⟩, rfl, rfl, rfl, rfl, by cbv; try simp⟩
end Go.Proofs.Ytlpbdikmhngmfaa
