/-
  The code does what its models say (printed by lift.py).
-/
import Derived.Test.YtmnhfaaaaejpaaaGreatYfM
import Derived.Test.YtmnhfaaaaejpaaaGreatYPlU
import Derived.Test.YtmnhfaaaaejpaaaGreatYPlU
import Derived.Test.YtmnhfaaaaejpaaaGreatYfW0
import Derived.Test.YtmnhfaaaaejpaaaGreatYfW1
namespace Go.Proofs.YtmnhfaaaaejpaaaGreat.R
open Go.RowKit Go.Proofs.YtmnhfaaaaejpaaaGreat
set_option maxRecDepth 100000

set_option maxHeartbeats 40000000 in
theorem fn_recurrence_Equal {O0 : Ops} (hO0 : O0 = std) {a_1 : Int} {a_2 : Int} {a_3 : Int} {a_4 : Int} {a_5 : Int} {b_1 : Int} {b_2 : Int} {b_3 : Int} {b_4 : Int} {b_5 : Int} {a_6 : List Int} {a_7 : List Int} {a_8 : List Int} {a_9 : List Int} {a_10 : List (Int × Int)} {a_11 : List Int} {a_12 : List Int} {a_13 : List Int} {a_14 : List Int} {b_6 : List Int} {b_7 : List Int} {b_8 : List Int} {b_9 : List Int} {b_10 : List (Int × Int)} {b_11 : List Int} {b_12 : List Int} {b_13 : List Int} {b_14 : List Int} {r1 : Bool} (h : m_recurrence_Equal O0 a_1 a_2 a_3 a_4 a_5 b_1 b_2 b_3 b_4 b_5 a_6 a_7 a_8 a_9 a_10 a_11 a_12 a_13 a_14 b_6 b_7 b_8 b_9 b_10 b_11 b_12 b_13 b_14 = some r1) :
    Fn Tryz.prog 10 [.agg [.int .i64 a_1, .int .i64 a_2, .int .i64 a_3, .int .i64 a_4, .sl 0, .sl 1, .sl 2, .sl 3, .sl 4, .sl 5, .sl 6, .sl 7, .sl 8, .int .i64 a_5], .agg [.int .i64 b_1, .int .i64 b_2, .int .i64 b_3, .int .i64 b_4, .sl 9, .sl 10, .sl 11, .sl 12, .sl 13, .sl 14, .sl 15, .sl 16, .sl 17, .int .i64 b_5]] [.arr false .i1 a_6, .arr false .i1 a_7, .arr false .i1 a_8, .arr false .i1 a_9, .arr false .i2 a_10, .arr false .i1 a_11, .arr false .i1 a_12, .arr false .i1 a_13, .arr false .i1 a_14, .arr false .i1 b_6, .arr false .i1 b_7, .arr false .i1 b_8, .arr false .i1 b_9, .arr false .i2 b_10, .arr false .i1 b_11, .arr false .i1 b_12, .arr false .i1 b_13, .arr false .i1 b_14] (fun v c => v = .c (.bool r1) ∧ c = []) := by
  refine fn_run tab_holds eqs_holds mixed [(5, (.seg 9 [] (.alt 0 (.alt 1 (.alt 2 (.alt 3 (.alt 4 (.alt 5 .fin .no) .no) .no) .no) (.alt 2 (.alt 1 (.alt 3 (.alt 4 (.alt 5 .fin .no) .no) .no) .no) .no)) (.alt 2 (.alt 0 (.alt 1 (.alt 3 (.alt 4 (.alt 5 .fin .no) .no) .no) .no) .no) .no))), [])] Tryz.func10 (by kernel_rfl) (by kernel_rfl) (Nat.le_of_ble_eq_true rfl) ?_
  intro O X hO hX
  rw [hO0, ← hO] at h
  unfold m_recurrence_Equal at h
  have h0 := h; clear h
  cbv
  obtain ⟨⟨n91, n92, n93, n94, l51, l52, l53, l54, l55, l56, l57, l58, l59, n95, n96⟩, hv, h0⟩ := bindS h0
  try dsimp only at h0
  refine call_is hO hX (fn_recurrence_Canonical hO hv) (by kernel_rfl) [0, 1, 2, 3, 4, 5, 6, 7, 8] rfl ⟨rfl, rfl, rfl, rfl, rfl, rfl, rfl, rfl, rfl, rfl, rfl, rfl, rfl, rfl, rfl, rfl, rfl, rfl, trivial⟩ rfl ?_
  cbv
  obtain ⟨⟨n97, n98, n99, n100, l60, l61, l62, l63, l64, l65, l66, l67, l68, n101, n102⟩, hv, h0⟩ := bindS h0
  try dsimp only at h0
  refine call_is hO hX (fn_recurrence_Canonical hO hv) (by kernel_rfl) [9, 10, 11, 12, 13, 14, 15, 16, 17] rfl ⟨rfl, rfl, rfl, rfl, rfl, rfl, rfl, rfl, rfl, rfl, rfl, rfl, rfl, rfl, rfl, rfl, rfl, rfl, trivial⟩ rfl ?_
  cbv
  obtain ⟨x171, h1, h0⟩ := bindS h0
  rcases condS h1 with ⟨hc1, h1⟩ | ⟨hc1, h1⟩
  · rw [hc1]
    cbv
    cases h1
    try dsimp only at h0
    replace h0 := condT h0 rfl
    cases h0
    exact fin_ok hX rfl ⟨[], _, _, ⟨rfl, rfl⟩, rfl, rfl, rfl, rfl, by cbv; try simp⟩
  · rw [hc1]
    cbv
    rcases condS h1 with ⟨hc2, h1⟩ | ⟨hc2, h1⟩
    · rw [hc2]
      cbv
      cases h1
      try dsimp only at h0
      replace h0 := condT h0 rfl
      cases h0
      exact fin_ok hX rfl ⟨[], _, _, ⟨rfl, rfl⟩, rfl, rfl, rfl, rfl, by cbv; try simp⟩
    · rw [hc2]
      cbv
      rcases condS h1 with ⟨hc3, h1⟩ | ⟨hc3, h1⟩
      · rw [hc3]
        cbv
        cases h1
        try dsimp only at h0
        replace h0 := condT h0 rfl
        cases h0
        exact fin_ok hX rfl ⟨[], _, _, ⟨rfl, rfl⟩, rfl, rfl, rfl, rfl, by cbv; try simp⟩
      · rw [hc3]
        cbv
        rcases condS h1 with ⟨hc4, h1⟩ | ⟨hc4, h1⟩
        · rw [hc4]
          cbv
          cases h1
          try dsimp only at h0
          replace h0 := condT h0 rfl
          cases h0
          exact fin_ok hX rfl ⟨[], _, _, ⟨rfl, rfl⟩, rfl, rfl, rfl, rfl, by cbv; try simp⟩
        · rw [hc4]
          cbv
          rcases condS h1 with ⟨hc5, h1⟩ | ⟨hc5, h1⟩
          · rw [hc5]
            cbv
            cases h1
            try dsimp only at h0
            replace h0 := condT h0 rfl
            cases h0
            exact fin_ok hX rfl ⟨[], _, _, ⟨rfl, rfl⟩, rfl, rfl, rfl, rfl, by cbv; try simp⟩
          · rw [hc5]
            cbv
            rcases condS h1 with ⟨hc6, h1⟩ | ⟨hc6, h1⟩
            · rw [hc6]
              cbv
              cases h1
              try dsimp only at h0
              replace h0 := condT h0 rfl
              cases h0
              exact fin_ok hX rfl ⟨[], _, _, ⟨rfl, rfl⟩, rfl, rfl, rfl, rfl, by cbv; try simp⟩
            · rw [hc6]
              cbv
              rcases condS h1 with ⟨hc7, h1⟩ | ⟨hc7, h1⟩
              · rw [hc7]
                cbv
                cases h1
                try dsimp only at h0
                replace h0 := condT h0 rfl
                cases h0
                exact fin_ok hX rfl ⟨[], _, _, ⟨rfl, rfl⟩, rfl, rfl, rfl, rfl, by cbv; try simp⟩
              · rw [hc7]
                cbv
                obtain ⟨b63, hv, h1⟩ := bindS h1
                refine call_is hO hX (fn_slices_Equal hO hv) (by kernel_rfl) [24, 34] rfl ⟨rfl, rfl, rfl, rfl, trivial⟩ rfl ?_
                cbv
                cases h1
                try dsimp only at h0
                rcases condS h0 with ⟨hc8, h0⟩ | ⟨hc8, h0⟩
                · rw [hc8]
                  cbv
                  cases h0
                  exact fin_ok hX rfl ⟨[], _, _, ⟨rfl, rfl⟩, rfl, rfl, rfl, rfl, by cbv; try simp⟩
                · rw [hc8]
                  cbv
                  refine ⟨?_, ?_, trivial⟩
                  · refine ⟨?_, ?_, trivial⟩
                    · refine call_inline tab_holds eqs_holds mixed [] hO hX (by kernel_rfl) Tryz.func30 (by kernel_rfl) (by kernel_rfl) rfl ?_
                      intro X1 hX1 hF1
                      cbv
                      refine hF1 _ _ ?_
                      cbv
                      refine ⟨?_, trivial⟩
                      · refine ⟨?_, trivial⟩
                        · refine call_inline tab_holds eqs_holds mixed [] hO hX (by kernel_rfl) Tryz.func30 (by kernel_rfl) (by kernel_rfl) rfl ?_
                          intro X2 hX2 hF2
                          cbv
                          refine hF2 _ _ ?_
                          cbv
                          refine ⟨?_, trivial⟩
                          · refine ⟨?_, trivial⟩
                            · obtain ⟨b73, hv, h0⟩ := bindS h0
                              refine call_is hO hX (fn_slices_EqualFunc hO hv) (by kernel_rfl) [42, 45, 20, 21, 22, 23, 25, 26, 27, 28, 30, 31, 32, 33, 35, 36, 37, 38] rfl ⟨rfl, rfl, rfl, rfl, rfl, rfl, rfl, rfl, rfl, rfl, rfl, rfl, rfl, rfl, rfl, rfl, rfl, rfl, rfl, rfl, rfl, rfl, rfl, rfl, rfl, rfl, rfl, rfl, rfl, rfl, rfl, rfl, rfl, rfl, rfl, rfl, trivial⟩ rfl ?_
                              cbv
                              cases h0
                              exact fin_ok hX rfl ⟨[], _, _, ⟨rfl, rfl⟩, rfl, rfl, rfl, rfl, by cbv; try simp⟩
                    · refine ⟨?_, trivial⟩
                      · refine call_inline tab_holds eqs_holds mixed [] hO hX (by kernel_rfl) Tryz.func30 (by kernel_rfl) (by kernel_rfl) rfl ?_
                        intro X3 hX3 hF3
                        cbv
                        refine hF3 _ _ ?_
                        cbv
                        refine ⟨?_, trivial⟩
                        · refine call_inline tab_holds eqs_holds mixed [] hO hX (by kernel_rfl) Tryz.func30 (by kernel_rfl) (by kernel_rfl) rfl ?_
                          intro X4 hX4 hF4
                          cbv
                          refine hF4 _ _ ?_
                          cbv
                          refine ⟨?_, trivial⟩
                          · refine ⟨?_, trivial⟩
                            · obtain ⟨b73, hv, h0⟩ := bindS h0
                              refine call_is hO hX (fn_slices_EqualFunc hO hv) (by kernel_rfl) [42, 45, 20, 21, 22, 23, 25, 26, 27, 28, 30, 31, 32, 33, 35, 36, 37, 38] rfl ⟨rfl, rfl, rfl, rfl, rfl, rfl, rfl, rfl, rfl, rfl, rfl, rfl, rfl, rfl, rfl, rfl, rfl, rfl, rfl, rfl, rfl, rfl, rfl, rfl, rfl, rfl, rfl, rfl, rfl, rfl, rfl, rfl, rfl, rfl, rfl, rfl, trivial⟩ rfl ?_
                              cbv
                              cases h0
                              exact fin_ok hX rfl ⟨[], _, _, ⟨rfl, rfl⟩, rfl, rfl, rfl, rfl, by cbv; try simp⟩
                  · refine ⟨?_, trivial⟩
                    · refine ⟨?_, trivial⟩
                      · refine call_inline tab_holds eqs_holds mixed [] hO hX (by kernel_rfl) Tryz.func30 (by kernel_rfl) (by kernel_rfl) rfl ?_
                        intro X5 hX5 hF5
                        cbv
                        refine hF5 _ _ ?_
                        cbv
                        refine ⟨?_, trivial⟩
                        · refine call_inline tab_holds eqs_holds mixed [] hO hX (by kernel_rfl) Tryz.func30 (by kernel_rfl) (by kernel_rfl) rfl ?_
                          intro X6 hX6 hF6
                          cbv
                          refine hF6 _ _ ?_
                          cbv
                          refine ⟨?_, trivial⟩
                          · refine ⟨?_, trivial⟩
                            · obtain ⟨b73, hv, h0⟩ := bindS h0
                              refine call_is hO hX (fn_slices_EqualFunc hO hv) (by kernel_rfl) [42, 45, 20, 21, 22, 23, 25, 26, 27, 28, 30, 31, 32, 33, 35, 36, 37, 38] rfl ⟨rfl, rfl, rfl, rfl, rfl, rfl, rfl, rfl, rfl, rfl, rfl, rfl, rfl, rfl, rfl, rfl, rfl, rfl, rfl, rfl, rfl, rfl, rfl, rfl, rfl, rfl, rfl, rfl, rfl, rfl, rfl, rfl, rfl, rfl, rfl, rfl, trivial⟩ rfl ?_
                              cbv
                              cases h0
                              exact fin_ok hX rfl ⟨[], _, _, ⟨rfl, rfl⟩, rfl, rfl, rfl, rfl, by cbv; try simp⟩
set_option maxHeartbeats 40000000 in
theorem fn_recurrence_Endless {O0 : Ops} (hO0 : O0 = std) {r_1 : Int} {r_2 : Int} {r_3 : Int} {r_4 : Int} {r_5 : Int} {r_6 : List Int} {r_7 : List Int} {r_8 : List Int} {r_9 : List Int} {r_10 : List (Int × Int)} {r_11 : List Int} {r_12 : List Int} {r_13 : List Int} {r_14 : List Int} {r1 : Bool} (h : m_recurrence_Endless O0 r_1 r_2 r_3 r_4 r_5 r_6 r_7 r_8 r_9 r_10 r_11 r_12 r_13 r_14 = some r1) :
    Fn Tryz.prog 11 [.agg [.int .i64 r_1, .int .i64 r_2, .int .i64 r_3, .int .i64 r_4, .sl 0, .sl 1, .sl 2, .sl 3, .sl 4, .sl 5, .sl 6, .sl 7, .sl 8, .int .i64 r_5]] [.arr false .i1 r_6, .arr false .i1 r_7, .arr false .i1 r_8, .arr false .i1 r_9, .arr false .i2 r_10, .arr false .i1 r_11, .arr false .i1 r_12, .arr false .i1 r_13, .arr false .i1 r_14] (fun v c => v = .c (.bool r1) ∧ c = []) := by
  refine fn_run tab_holds eqs_holds mixed [] Tryz.func11 (by kernel_rfl) (by kernel_rfl) (Nat.le_of_ble_eq_true rfl) ?_
  intro O X hO hX
  rw [hO0, ← hO] at h
  unfold m_recurrence_Endless at h
  have h0 := h; clear h
  cbv
  obtain ⟨x175, h1, h0⟩ := bindS h0
  obtain ⟨b75, hv, h1⟩ := bindS h1
  refine call_is hO hX (fn_recurrence_Valid hO hv) (by kernel_rfl) [0, 1, 2, 3, 4, 5, 6, 7, 8] rfl ⟨rfl, rfl, rfl, rfl, rfl, rfl, rfl, rfl, rfl, rfl, rfl, rfl, rfl, rfl, rfl, rfl, rfl, rfl, trivial⟩ rfl ?_
  cbv
  rcases condS h1 with ⟨hc1, h1⟩ | ⟨hc1, h1⟩
  · rw [hc1]
    cbv
    rcases condS h1 with ⟨hc2, h1⟩ | ⟨hc2, h1⟩
    · rw [hc2]
      cbv
      cases h1
      try dsimp only at h0
      cases h0
      exact fin_ok hX rfl ⟨[], _, _, ⟨rfl, rfl⟩, rfl, rfl, rfl, rfl, by cbv; try simp⟩
    · rw [hc2]
      cbv
      cases h1
      try dsimp only at h0
      cases h0
      exact fin_ok hX rfl ⟨[], _, _, ⟨rfl, rfl⟩, rfl, rfl, rfl, rfl, by cbv; try simp⟩
  · rw [hc1]
    cbv
    cases h1
    try dsimp only at h0
    cases h0
    exact fin_ok hX rfl ⟨[], _, _, ⟨rfl, rfl⟩, rfl, rfl, rfl, rfl, by cbv; try simp⟩
set_option maxHeartbeats 40000000 in
theorem fn_ref29_Ordinals {O0 : Ops} (hO0 : O0 = std) {l_1 : List (Int × Int)} {r1 : List (Int × Int)} (h : m_ref29_Ordinals O0 l_1 = some r1) :
    Fn Tryz.prog 35 [.c (.sl 0)] [.arr false .i2 l_1] (fun v c => v = .c (.sl 1) ∧ c = [.own 36 .i2 r1]) := by
  refine fn_run tab_holds eqs_holds mixed [(5, (.seg 1 [0, 1, 2, 3, 4, 5, 6, 7, 8, 9, 10, 11, 12, 13] (.seg 2 [14] .fin)), [15, 16]), (11, (.seg 1 [0, 1, 2, 3, 4, 5, 6, 7, 8, 9, 10, 11, 12] (.seg 2 [13] .fin)), [14, 15])] Tryz.func35 (by kernel_rfl) (by kernel_rfl) (Nat.le_of_ble_eq_true rfl) ?_
  intro O X hO hX
  rw [hO0, ← hO] at h
  unfold m_ref29_Ordinals at h
  have h0 := h; clear h
  cbv
  obtain ⟨l78, hi, h0⟩ := bindS h0
  obtain ⟨I1, hI1, hi⟩ := loopS hi
  refine loop1 tab_holds eqs_holds mixed [(5, (.seg 1 [0, 1, 2, 3, 4, 5, 6, 7, 8, 9, 10, 11, 12, 13] (.seg 2 [14] .fin)), [15, 16]), (11, (.seg 1 [0, 1, 2, 3, 4, 5, 6, 7, 8, 9, 10, 11, 12] (.seg 2 [13] .fin)), [14, 15])] hO hX I1 (fun y => [(2, .junk), (3, .c (.sl 2)), (4, .c (.int .i64 y.2.1))]) (fun y => [(2, .own 3 .i1 y.2.2)]) (fun y => y.1) _ (by kernel_rfl) hi (by cbv; try simp) ?_
  refine allp ?_
  intro n1
  refine allp ?_
  intro i8
  intro l77 hi
  cbv
  rw [hI1] at hi
  obtain ⟨n1, rfl, x1, h1, hi1⟩ := iterS hi
  unfold m_ref29_Ordinals_L1 at h1
  try dsimp only at h1
  rcases condS h1 with ⟨hc1, h1⟩ | ⟨hc1, h1⟩
  · rw [hc1]
    cbv
    obtain ⟨hg2, h1⟩ := grdS h1
    refine ⟨idx_of hO hg2, ?_⟩
    obtain ⟨hg3, h1⟩ := grdS h1
    refine ⟨kin_of hO hg3, ?_⟩
    obtain ⟨hg4, h1⟩ := grdS h1
    refine ⟨inr_of hO hg4, ?_⟩
    refine ⟨idx_of hO hg2, ?_⟩
    refine ⟨kin_of hO hg3, ?_⟩
    obtain ⟨hg5, h1⟩ := grdS h1
    refine ⟨inr_of hO hg5, ?_⟩
    obtain ⟨hg6, h1⟩ := grdS h1
    refine ⟨inr_of hO hg6, ?_⟩
    obtain ⟨hg7, h1⟩ := grdS h1
    refine ⟨room_of hO hg7, ?_⟩
    obtain ⟨hg8, h1⟩ := grdS h1
    refine ⟨room_of hO hg8, ?_⟩
    obtain ⟨hg9, h1⟩ := grdS h1
    refine ⟨inr_of hO hg9, ?_⟩
    cases h1
    exact ⟨_, [0, 1, 4], nextI hI1 hi1, by cbv; try simp, by first | exact Nat.lt_succ_self _ | omega⟩
  · rw [hc1]
    cbv
    cases h1
    cases exitI hi1
    try dsimp only at h0
    obtain ⟨l79, hv, h0⟩ := bindS h0
    refine call_is hO hX (fn_ref29_Set hO hv) (by kernel_rfl) [2] rfl ⟨rfl, rfl, trivial⟩ rfl ?_
    cbv
    obtain ⟨l81, hi, h0⟩ := bindS h0
    obtain ⟨I2, hI2, hi⟩ := loopS hi
    refine loop1 tab_holds eqs_holds mixed [(5, (.seg 1 [0, 1, 2, 3, 4, 5, 6, 7, 8, 9, 10, 11, 12, 13] (.seg 2 [14] .fin)), [15, 16]), (11, (.seg 1 [0, 1, 2, 3, 4, 5, 6, 7, 8, 9, 10, 11, 12] (.seg 2 [13] .fin)), [14, 15])] hO hX I2 (fun y => [(29, .junk), (30, .junk), (5, .c (.sl 4)), (6, .c (.int .i64 y.2.1))]) (fun y => [(4, .own 36 .i2 y.2.2)]) (fun y => y.1) _ (by kernel_rfl) hi (by cbv; try simp) ?_
    refine allp ?_
    intro n2
    refine allp ?_
    intro i10
    intro l80 hi
    cbv
    rw [hI2] at hi
    obtain ⟨n2, rfl, x2, h1, hi2⟩ := iterS hi
    unfold m_ref29_Ordinals_L2 at h1
    try dsimp only at h1
    rcases condS h1 with ⟨hc10, h1⟩ | ⟨hc10, h1⟩
    · rw [hc10]
      cbv
      obtain ⟨hg11, h1⟩ := grdS h1
      refine ⟨idx_of hO hg11, ?_⟩
      obtain ⟨hg12, h1⟩ := grdS h1
      refine ⟨kin_of hO hg12, ?_⟩
      obtain ⟨hg13, h1⟩ := grdS h1
      refine ⟨nz_of hO hg13, ?_⟩
      obtain ⟨hg14, h1⟩ := grdS h1
      refine ⟨inr_of hO hg14, ?_⟩
      refine ⟨idx_of hO hg11, ?_⟩
      refine ⟨kin_of hO hg12, ?_⟩
      refine ⟨nz_of hO hg13, ?_⟩
      obtain ⟨hg15, h1⟩ := grdS h1
      refine ⟨inr_of hO hg15, ?_⟩
      obtain ⟨hg16, h1⟩ := grdS h1
      refine ⟨room_of hO hg16, ?_⟩
      obtain ⟨hg17, h1⟩ := grdS h1
      refine ⟨room_of hO hg17, ?_⟩
      obtain ⟨hg18, h1⟩ := grdS h1
      refine ⟨inr_of hO hg18, ?_⟩
      cases h1
      exact ⟨_, [0, 1, 2, 3, 6], nextI hI2 hi2, by cbv; try simp, by first | exact Nat.lt_succ_self _ | omega⟩
    · rw [hc10]
      cbv
      cases h1
      cases exitI hi2
      try dsimp only at h0
      cases h0
      exact fin_ok hX rfl ⟨[4], _, _, ⟨rfl, rfl⟩, rfl, rfl, rfl, rfl, by cbv; try simp⟩
set_option maxHeartbeats 40000000 in
theorem fn_ref29_Canonical {O0 : Ops} (hO0 : O0 = std) {r_1 : Int} {r_2 : Int} {r_3 : Int} {r_4 : Int} {r_5 : Int} {r_6 : List Int} {r_7 : List Int} {r_8 : List Int} {r_9 : List Int} {r_10 : List (Int × Int)} {r_11 : List Int} {r_12 : List Int} {r_13 : List Int} {r_14 : List Int} {r1 : Int} {r2 : Int} {r3 : Int} {r4 : Int} {r5 : List Int} {r6 : List Int} {r7 : List Int} {r8 : List Int} {r9 : List (Int × Int)} {r10 : List Int} {r11 : List Int} {r12 : List Int} {r13 : List Int} {r14 : Int} (h : m_ref29_Canonical O0 r_1 r_2 r_3 r_4 r_5 r_6 r_7 r_8 r_9 r_10 r_11 r_12 r_13 r_14 = some (r1, r2, r3, r4, r5, r6, r7, r8, r9, r10, r11, r12, r13, r14)) :
    Fn Tryz.prog 12 [.agg [.int .i64 r_1, .int .i64 r_2, .int .i64 r_3, .int .i64 r_4, .sl 0, .sl 1, .sl 2, .sl 3, .sl 4, .sl 5, .sl 6, .sl 7, .sl 8, .int .i64 r_5]] [.arr false .i1 r_6, .arr false .i1 r_7, .arr false .i1 r_8, .arr false .i1 r_9, .arr false .i2 r_10, .arr false .i1 r_11, .arr false .i1 r_12, .arr false .i1 r_13, .arr false .i1 r_14] (fun v c => v = .agg [.int .i64 r1, .int .i64 r2, .int .i64 r3, .int .i64 r4, .sl 9, .sl 10, .sl 11, .sl 12, .sl 13, .sl 14, .sl 15, .sl 16, .sl 17, .int .i64 r14] ∧ c = [.own 3 .i1 r5, .own 3 .i1 r6, .own 3 .i1 r7, .own 3 .i1 r8, .own 36 .i2 r9, .own 3 .i1 r10, .own 3 .i1 r11, .own 3 .i1 r12, .own 3 .i1 r13]) := by
  refine fn_run tab_holds eqs_holds mixed [(1, (.seg 1 [0, 1, 3, 4, 6, 7, 9, 10] (.seg 2 [2] (.seg 1 [12] (.seg 2 [5] (.seg 2 [8] (.seg 2 [11] .fin)))))), [13, 14, 15, 16, 17, 18, 19]), (2, (.seg 1 [0, 1, 3, 4, 6, 7, 9, 10] (.seg 2 [2] (.seg 1 [12] (.seg 2 [5] (.seg 2 [8] (.seg 2 [11] .fin)))))), [13, 14, 15, 16, 17, 18, 19])] Tryz.func12 (by kernel_rfl) (by kernel_rfl) (Nat.le_of_ble_eq_true rfl) ?_
  intro O X hO hX
  rw [hO0, ← hO] at h
  unfold m_ref29_Canonical at h
  have h0 := h; clear h
  cbv
  obtain ⟨l69, hv, h0⟩ := bindS h0
  refine call_is hO hX (fn_ref29_Set hO hv) (by kernel_rfl) [0] rfl ⟨rfl, rfl, trivial⟩ rfl ?_
  cbv
  obtain ⟨l70, hv, h0⟩ := bindS h0
  refine call_is hO hX (fn_ref29_Set hO hv) (by kernel_rfl) [1] rfl ⟨rfl, rfl, trivial⟩ rfl ?_
  cbv
  obtain ⟨l71, hv, h0⟩ := bindS h0
  refine call_is hO hX (fn_ref29_Set hO hv) (by kernel_rfl) [2] rfl ⟨rfl, rfl, trivial⟩ rfl ?_
  cbv
  obtain ⟨l72, hv, h0⟩ := bindS h0
  refine call_is hO hX (fn_ref29_Set hO hv) (by kernel_rfl) [3] rfl ⟨rfl, rfl, trivial⟩ rfl ?_
  cbv
  obtain ⟨l73, hv, h0⟩ := bindS h0
  refine call_is hO hX (fn_ref29_Set hO hv) (by kernel_rfl) [5] rfl ⟨rfl, rfl, trivial⟩ rfl ?_
  cbv
  obtain ⟨l74, hv, h0⟩ := bindS h0
  refine call_is hO hX (fn_ref29_Set hO hv) (by kernel_rfl) [6] rfl ⟨rfl, rfl, trivial⟩ rfl ?_
  cbv
  obtain ⟨l75, hv, h0⟩ := bindS h0
  refine call_is hO hX (fn_ref29_Set hO hv) (by kernel_rfl) [7] rfl ⟨rfl, rfl, trivial⟩ rfl ?_
  cbv
  obtain ⟨l76, hv, h0⟩ := bindS h0
  refine call_is hO hX (fn_ref29_Set hO hv) (by kernel_rfl) [8] rfl ⟨rfl, rfl, trivial⟩ rfl ?_
  cbv
  obtain ⟨l82, hv, h0⟩ := bindS h0
  refine call_is hO hX (fn_ref29_Ordinals hO hv) (by kernel_rfl) [4] rfl ⟨rfl, rfl, trivial⟩ rfl ?_
  cbv
  cases h0
  exact fin_ok hX rfl ⟨[11, 12, 13, 14, 19, 15, 16, 17, 18], _, _, ⟨rfl, rfl⟩, rfl, rfl, rfl, rfl, by cbv; try simp⟩
end Go.Proofs.YtmnhfaaaaejpaaaGreat.R
