/-
  The code does what its models say (printed by lift.py).
-/
import Derived.Test.YtoklfjkanipjkaaGM
import Derived.Test.YtoklfjkanipjkaaManW
import Derived.Test.YtoklfjkanipjkaaGW0
namespace Go.Proofs.Ytoklfjkanipjkaa
open Go.RowKit
set_option maxRecDepth 100000

set_option maxHeartbeats 4000000 in
theorem fn_granule_Valid {O0 : Ops} (hO0 : O0 = std) {c_1 : Int} {c_2 : Int} {c_3 : List (Int × Int)} {r1 : Bool} (h : m_granule_Valid O0 c_1 c_2 c_3 = some r1) :
    Fn Try.prog 30 [.agg [.int .i64 c_1, .int .i64 c_2, .sl 0]] [.arr false .i2 c_3] (fun v c => v = .c (.bool r1) ∧ c = []) := by
  refine fn_run tab_holds eqs_holds mixed [(2, (.seg 1 [0, 1, 2, 3, 4, 5, 6, 7, 8, 9, 10, 11, 12, 13, 14, 15, 16, 17, 18] (.seg 2 [19] (.seg 1 [20, 21, 22, 23, 24] (.seg 2 [25] (.seg 1 [26, 27, 28, 29, 30, 31, 32, 33, 34, 35, 36, 37, 38, 39, 40, 41, 42, 43, 44, 45, 46, 47] .fin))))), [])] Try.func30 (by kernel_rfl) (by kernel_rfl) (Nat.le_of_ble_eq_true rfl) ?_
  intro O X hO hX
  rw [hO0, ← hO] at h
  unfold m_granule_Valid at h
  have h0 := h; clear h
  cbv
  obtain ⟨x13, h1, h0⟩ := bindS h0
  rcases condS h1 with ⟨hc0, h1⟩ | ⟨hc0, h1⟩
  · rw [hc0]
    cbv
    cases h1
    try dsimp only at h0
    replace h0 := condT h0 rfl
    cases h0
    exact fin_ok hX rfl ⟨[], _, _, ⟨rfl, rfl⟩, rfl, rfl, rfl, rfl, by cbv; try simp⟩
  · rw [hc0]
    cbv
    rcases condS h1 with ⟨hc1, h1⟩ | ⟨hc1, h1⟩
    · rw [hc1]
      cbv
      cases h1
      try dsimp only at h0
      replace h0 := condT h0 rfl
      cases h0
      exact fin_ok hX rfl ⟨[], _, _, ⟨rfl, rfl⟩, rfl, rfl, rfl, rfl, by cbv; try simp⟩
    · rw [hc1]
      cbv
      rcases condS h1 with ⟨hc2, h1⟩ | ⟨hc2, h1⟩
      · rw [hc2]
        cbv
        cases h1
        try dsimp only at h0
        replace h0 := condT h0 rfl
        cases h0
        exact fin_ok hX rfl ⟨[], _, _, ⟨rfl, rfl⟩, rfl, rfl, rfl, rfl, by cbv; try simp⟩
      · rw [hc2]
        cbv
        rcases condS h1 with ⟨hc3, h1⟩ | ⟨hc3, h1⟩
        · rw [hc3]
          cbv
          cases h1
          try dsimp only at h0
          replace h0 := condT h0 rfl
          cases h0
          exact fin_ok hX rfl ⟨[], _, _, ⟨rfl, rfl⟩, rfl, rfl, rfl, rfl, by cbv; try simp⟩
        · rw [hc3]
          cbv
          obtain ⟨b1, hv, h1⟩ := bindS h1
          refine call_go hO hX (fn_granule_half hO hv) (by kernel_rfl) [] rfl trivial rfl ?_
          rintro _ _ ⟨rfl, rfl⟩
          cbv
          rcases condS h1 with ⟨hc4, h1⟩ | ⟨hc4, h1⟩
          · rw [hc4]
            cbv
            cases h1
            try dsimp only at h0
            replace h0 := condT h0 rfl
            cases h0
            exact fin_ok hX rfl ⟨[], _, _, ⟨rfl, rfl⟩, rfl, rfl, rfl, rfl, by cbv; try simp⟩
          · rw [hc4]
            cbv
            obtain ⟨b5, hv, h1⟩ := bindS h1
            refine call_go hO hX (fn_granule_ascending hO hv) (by kernel_rfl) [0] rfl ⟨rfl, rfl, trivial⟩ rfl ?_
            rintro _ _ ⟨rfl, rfl⟩
            cbv
            rcases condS h1 with ⟨hc5, h1⟩ | ⟨hc5, h1⟩
            · rw [hc5]
              cbv
              cases h1
              try dsimp only at h0
              replace h0 := condT h0 rfl
              cases h0
              exact fin_ok hX rfl ⟨[], _, _, ⟨rfl, rfl⟩, rfl, rfl, rfl, rfl, by cbv; try simp⟩
            · rw [hc5]
              cbv
              rcases condS h1 with ⟨hc6, h1⟩ | ⟨hc6, h1⟩
              · rw [hc6]
                cbv
                obtain ⟨hg7, h1⟩ := grdS h1
                refine ⟨idx_of hO hg7, ?_⟩
                obtain ⟨hg8, h1⟩ := grdS h1
                refine ⟨kin_of hO hg8, ?_⟩
                cases h1
                try dsimp only at h0
                replace h0 := condT h0 rfl
                cases h0
                exact fin_ok hX rfl ⟨[], _, _, ⟨rfl, rfl⟩, rfl, rfl, rfl, rfl, by cbv; try simp⟩
              · rw [hc6]
                cbv
                obtain ⟨hg7, h1⟩ := grdS h1
                refine ⟨idx_of hO hg7, ?_⟩
                obtain ⟨hg8, h1⟩ := grdS h1
                refine ⟨kin_of hO hg8, ?_⟩
                obtain ⟨hg9, h1⟩ := grdS h1
                refine ⟨inr_of hO hg9, ?_⟩
                obtain ⟨hg10, h1⟩ := grdS h1
                refine ⟨idx_of hO hg10, ?_⟩
                obtain ⟨hg11, h1⟩ := grdS h1
                refine ⟨kin_of hO hg11, ?_⟩
                cases h1
                try dsimp only at h0
                rcases condS h0 with ⟨hc12, h0⟩ | ⟨hc12, h0⟩
                · rw [hc12]
                  cbv
                  cases h0
                  exact fin_ok hX rfl ⟨[], _, _, ⟨rfl, rfl⟩, rfl, rfl, rfl, rfl, by cbv; try simp⟩
                · rw [hc12]
                  cbv
                  obtain ⟨n3, hv, h0⟩ := bindS h0
                  refine call_go hO hX (fn_granule_least hO hv) (by kernel_rfl) [0] rfl ⟨rfl, rfl, trivial⟩ rfl ?_
                  rintro _ _ ⟨rfl, rfl⟩
                  cbv
                  cases h0
                  exact fin_ok hX rfl ⟨[], _, _, ⟨rfl, rfl⟩, rfl, rfl, rfl, rfl, by cbv; try simp⟩
set_option maxHeartbeats 4000000 in
theorem fn_integer_size {O0 : Ops} (hO0 : O0 = std) {a_1 : Int} {r1 : Int} (h : m_integer_size O0 a_1 = some r1) :
    Fn Try.prog 105 [.c (.int .i64 a_1)] [] (fun v c => v = .c (.int .u64 r1) ∧ c = []) := by
  refine fn_run tab_holds eqs_holds mixed [] Try.func105 (by kernel_rfl) (by kernel_rfl) (Nat.le_of_ble_eq_true rfl) ?_
  intro O X hO hX
  rw [hO0, ← hO] at h
  unfold m_integer_size at h
  have h0 := h; clear h
  cbv
  rcases condS h0 with ⟨hc0, h0⟩ | ⟨hc0, h0⟩
  · rw [hc0]
    cbv
    obtain ⟨hg1, h0⟩ := grdS h0
    refine ⟨inr_of hO hg1, ?_⟩
    obtain ⟨hg2, h0⟩ := grdS h0
    refine ⟨inr_of hO hg2, ?_⟩
    cases h0
    exact fin_ok hX rfl ⟨[], _, _, ⟨rfl, rfl⟩, rfl, rfl, rfl, rfl, by cbv; try simp⟩
  · rw [hc0]
    cbv
    obtain ⟨hg1, h0⟩ := grdS h0
    refine ⟨inr_of hO hg1, ?_⟩
    cases h0
    exact fin_ok hX rfl ⟨[], _, _, ⟨rfl, rfl⟩, rfl, rfl, rfl, rfl, by cbv; try simp⟩
set_option maxHeartbeats 4000000 in
theorem fn_integer_signed {O0 : Ops} (hO0 : O0 = std) {m_1 : Int} {neg_1 : Bool} {r1 : Int} {r2 : Bool} (h : m_integer_signed O0 m_1 neg_1 = some (r1, r2)) :
    Fn Try.prog 106 [.c (.int .u64 m_1), .c (.bool neg_1)] [] (fun v c => v = .tup [.one (.int .i64 r1), .one (.bool r2)] ∧ c = []) := by
  refine fn_run tab_holds eqs_holds mixed [] Try.func106 (by kernel_rfl) (by kernel_rfl) (Nat.le_of_ble_eq_true rfl) ?_
  intro O X hO hX
  rw [hO0, ← hO] at h
  unfold m_integer_signed at h
  have h0 := h; clear h
  cbv
  obtain ⟨⟨neg2, x24⟩, h1, h0⟩ := bindS h0
  rcases condS h1 with ⟨hc0, h1⟩ | ⟨hc0, h1⟩
  · rw [hc0]
    cbv
    cases h1
    try dsimp only at h0
    obtain ⟨e1, h1, h0⟩ := bindS h0
    rcases condS h1 with ⟨hc1, h1⟩ | ⟨hc1, h1⟩
    · rw [hc1]
      cbv
      obtain ⟨hg2, h1⟩ := grdS h1
      refine ⟨inr_of hO hg2, ?_⟩
      obtain ⟨hg3, h1⟩ := grdS h1
      refine ⟨inr_of hO hg3, ?_⟩
      cases h1
      try dsimp only at h0
      cases h0
      exact fin_ok hX rfl ⟨[], _, _, ⟨rfl, rfl⟩, rfl, rfl, rfl, rfl, by cbv; try simp⟩
    · rw [hc1]
      cbv
      rw [show (O .not true) = false from by subst hO; rfl]
      cbv
      obtain ⟨x26, h2, h1⟩ := bindS h1
      replace h2 := condF h2 (by subst hO; rfl)
      cases h2
      try dsimp only at h1
      replace h1 := condF h1 rfl
      cases h1
      try dsimp only at h0
      cases h0
      exact fin_ok hX rfl ⟨[], _, _, ⟨rfl, rfl⟩, rfl, rfl, rfl, rfl, by cbv; try simp⟩
  · rw [hc0]
    cbv
    rw [show (O .not false) = true from by subst hO; rfl]
    cbv
    cases h1
    try dsimp only at h0
    obtain ⟨e1, h1, h0⟩ := bindS h0
    replace h1 := condF h1 rfl
    obtain ⟨x26, h2, h1⟩ := bindS h1
    replace h2 := condT h2 (by subst hO; rfl)
    cases h2
    try dsimp only at h1
    rcases condS h1 with ⟨hc1, h1⟩ | ⟨hc1, h1⟩
    · rw [hc1]
      cbv
      obtain ⟨hg2, h1⟩ := grdS h1
      refine ⟨inr_of hO hg2, ?_⟩
      cases h1
      try dsimp only at h0
      cases h0
      exact fin_ok hX rfl ⟨[], _, _, ⟨rfl, rfl⟩, rfl, rfl, rfl, rfl, by cbv; try simp⟩
    · rw [hc1]
      cbv
      cases h1
      try dsimp only at h0
      cases h0
      exact fin_ok hX rfl ⟨[], _, _, ⟨rfl, rfl⟩, rfl, rfl, rfl, rfl, by cbv; try simp⟩
set_option maxHeartbeats 4000000 in
theorem fn_integer_Gcd {O0 : Ops} (hO0 : O0 = std) {a_1 : Int} {b_1 : Int} {r1 : Int} (h : m_integer_Gcd O0 a_1 b_1 = some r1) :
    Fn Try.prog 87 [.c (.int .i64 a_1), .c (.int .i64 b_1)] [] (fun v c => v = .c (.int .i64 r1) ∧ c = []) := by
  refine fn_run tab_holds eqs_holds mixed [(3, (.seg 1 [0, 1, 2, 3, 4, 5] .fin), [])] Try.func87 (by kernel_rfl) (by kernel_rfl) (Nat.le_of_ble_eq_true rfl) ?_
  intro O X hO hX
  rw [hO0, ← hO] at h
  unfold m_integer_Gcd at h
  have h0 := h; clear h
  cbv
  obtain ⟨n4, hv, h0⟩ := bindS h0
  refine call_go hO hX (fn_integer_size hO hv) (by kernel_rfl) [] rfl trivial rfl ?_
  rintro _ _ ⟨rfl, rfl⟩
  cbv
  obtain ⟨n5, hv, h0⟩ := bindS h0
  refine call_go hO hX (fn_integer_size hO hv) (by kernel_rfl) [] rfl trivial rfl ?_
  rintro _ _ ⟨rfl, rfl⟩
  cbv
  obtain ⟨x22, hi, h0⟩ := bindS h0
  obtain ⟨I1, hI1, hi⟩ := loopS hi
  refine loop1 tab_holds eqs_holds mixed [(3, (.seg 1 [0, 1, 2, 3, 4, 5] .fin), [])] hO hX I1 (fun y => [(5, .c (.int .u64 y.2.1)), (6, .c (.int .u64 y.2.2))]) (fun _ => []) (fun y => y.1) _ (by kernel_rfl) hi (by cbv; try simp) ?_
  rintro ⟨n1, x21, y1⟩ hi
  cbv
  rw [hI1] at hi
  obtain ⟨n1, rfl, x1, h1, hi1⟩ := iterS hi
  unfold m_integer_Gcd_L1 at h1
  try dsimp only at h1
  rcases condS h1 with ⟨hc0, h1⟩ | ⟨hc0, h1⟩
  · rw [hc0]
    cbv
    obtain ⟨hg1, h1⟩ := grdS h1
    refine ⟨nz_of hO hg1, ?_⟩
    cases h1
    exact ⟨_, [], nextI hI1 hi1, by cbv; try simp, by first | exact Nat.lt_succ_self _ | omega⟩
  · rw [hc0]
    cbv
    cases h1
    cases exitI hi1
    try dsimp only at h0
    obtain ⟨⟨n6, b7⟩, hv, h0⟩ := bindS h0
    try dsimp only at h0
    refine call_go hO hX (fn_integer_signed hO hv) (by kernel_rfl) [] rfl trivial rfl ?_
    rintro _ _ ⟨rfl, rfl⟩
    cbv
    cases h0
    exact fin_ok hX rfl ⟨[], _, _, ⟨rfl, rfl⟩, rfl, rfl, rfl, rfl, by cbv; try simp⟩
set_option maxHeartbeats 4000000 in
theorem fn_group_blocks {O0 : Ops} (hO0 : O0 = std) {c_1 : Int} {c_2 : Int} {m_1 : Int} {c_3 : List (Int × Int)} {r1 : Int} {r2 : Int} {r3 : Int} (h : m_group_blocks O0 c_1 c_2 m_1 c_3 = some (r1, r2, r3)) :
    Fn Try.prog 47 [.agg [.int .i64 c_1, .int .i64 c_2, .sl 0], .c (.int .i64 m_1)] [.arr false .i2 c_3] (fun v c => v = .tup [.one (.int .i64 r1), .one (.int .i64 r2), .one (.int .i64 r3)] ∧ c = []) := by
  refine fn_run tab_holds eqs_holds mixed [(2, (.seg 1 [0, 1, 2, 3, 4] (.seg 2 [5] (.seg 1 [6, 7, 8, 9, 10] .fin))), []), (5, (.seg 1 [0, 1, 2, 3, 4, 5, 6, 7, 8] .fin), [])] Try.func47 (by kernel_rfl) (by kernel_rfl) (Nat.le_of_ble_eq_true rfl) ?_
  intro O X hO hX
  rw [hO0, ← hO] at h
  unfold m_group_blocks at h
  have h0 := h; clear h
  cbv
  obtain ⟨n7, hv, h0⟩ := bindS h0
  refine call_go hO hX (fn_integer_Gcd hO hv) (by kernel_rfl) [] rfl trivial rfl ?_
  rintro _ _ ⟨rfl, rfl⟩
  cbv
  obtain ⟨hg0, h0⟩ := grdS h0
  refine ⟨nz_of hO hg0, ?_⟩
  obtain ⟨hg1, h0⟩ := grdS h0
  refine ⟨inr_of hO hg1, ?_⟩
  obtain ⟨⟨n8, n9⟩, hv, h0⟩ := bindS h0
  try dsimp only at h0
  refine call_go hO hX (fn_integer_Mul hO hv) (by kernel_rfl) [] rfl trivial rfl ?_
  rintro _ _ ⟨rfl, rfl⟩
  cbv
  obtain ⟨x30, h1, h0⟩ := bindS h0
  rcases condS h1 with ⟨hc2, h1⟩ | ⟨hc2, h1⟩
  · rw [hc2]
    cbv
    cases h1
    try dsimp only at h0
    replace h0 := condT h0 rfl
    cases h0
    exact fin_ok hX rfl ⟨[], _, _, ⟨rfl, rfl⟩, rfl, rfl, rfl, rfl, by cbv; try simp⟩
  · rw [hc2]
    cbv
    cases h1
    try dsimp only at h0
    rcases condS h0 with ⟨hc3, h0⟩ | ⟨hc3, h0⟩
    · rw [hc3]
      cbv
      cases h0
      exact fin_ok hX rfl ⟨[], _, _, ⟨rfl, rfl⟩, rfl, rfl, rfl, rfl, by cbv; try simp⟩
    · rw [hc3]
      cbv
      refine ⟨nz_of hO hg0, ?_⟩
      obtain ⟨hg4, h0⟩ := grdS h0
      refine ⟨inr_of hO hg4, ?_⟩
      cases h0
      exact fin_ok hX rfl ⟨[], _, _, ⟨rfl, rfl⟩, rfl, rfl, rfl, rfl, by cbv; try simp⟩
end Go.Proofs.Ytoklfjkanipjkaa
