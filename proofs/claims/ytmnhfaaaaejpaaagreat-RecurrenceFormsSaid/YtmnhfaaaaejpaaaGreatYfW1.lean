/-
  The code does what its models say (printed by lift.py).
-/
import Derived.Test.YtmnhfaaaaejpaaaGreatYfM
import Derived.Test.YtmnhfaaaaejpaaaGreatYPlU
import Derived.Test.YtmnhfaaaaejpaaaGreatYPlU
import Derived.Test.YtmnhfaaaaejpaaaGreatYfW0
namespace Go.Proofs.YtmnhfaaaaejpaaaGreat.R
open Go.RowKit Go.Proofs.YtmnhfaaaaejpaaaGreat
set_option maxRecDepth 100000

set_option maxHeartbeats 40000000 in
theorem fn_ref29_Same {O0 : Ops} (hO0 : O0 = std) {a_1 : Int} {a_2 : Int} {a_3 : Int} {a_4 : Int} {a_5 : Int} {b_1 : Int} {b_2 : Int} {b_3 : Int} {b_4 : Int} {b_5 : Int} {a_6 : List Int} {a_7 : List Int} {a_8 : List Int} {a_9 : List Int} {a_10 : List (Int × Int)} {a_11 : List Int} {a_12 : List Int} {a_13 : List Int} {a_14 : List Int} {b_6 : List Int} {b_7 : List Int} {b_8 : List Int} {b_9 : List Int} {b_10 : List (Int × Int)} {b_11 : List Int} {b_12 : List Int} {b_13 : List Int} {b_14 : List Int} {r1 : Bool} (h : m_ref29_Same O0 a_1 a_2 a_3 a_4 a_5 b_1 b_2 b_3 b_4 b_5 a_6 a_7 a_8 a_9 a_10 a_11 a_12 a_13 a_14 b_6 b_7 b_8 b_9 b_10 b_11 b_12 b_13 b_14 = some r1) :
    Fn Tryz.prog 9 [.agg [.int .i64 a_1, .int .i64 a_2, .int .i64 a_3, .int .i64 a_4, .sl 0, .sl 1, .sl 2, .sl 3, .sl 4, .sl 5, .sl 6, .sl 7, .sl 8, .int .i64 a_5], .agg [.int .i64 b_1, .int .i64 b_2, .int .i64 b_3, .int .i64 b_4, .sl 9, .sl 10, .sl 11, .sl 12, .sl 13, .sl 14, .sl 15, .sl 16, .sl 17, .int .i64 b_5]] [.arr false .i1 a_6, .arr false .i1 a_7, .arr false .i1 a_8, .arr false .i1 a_9, .arr false .i2 a_10, .arr false .i1 a_11, .arr false .i1 a_12, .arr false .i1 a_13, .arr false .i1 a_14, .arr false .i1 b_6, .arr false .i1 b_7, .arr false .i1 b_8, .arr false .i1 b_9, .arr false .i2 b_10, .arr false .i1 b_11, .arr false .i1 b_12, .arr false .i1 b_13, .arr false .i1 b_14] (fun v c => v = .c (.bool r1) ∧ c = []) := by
  refine fn_run tab_holds eqs_holds mixed [(6, (.seg 1 [0, 1, 2, 3, 4, 5, 6, 7, 8, 9, 10] .fin), [])] Tryz.func9 (by kernel_rfl) (by kernel_rfl) (Nat.le_of_ble_eq_true rfl) ?_
  intro O X hO hX
  rw [hO0, ← hO] at h
  unfold m_ref29_Same at h
  have h0 := h; clear h
  cbv
  obtain ⟨x160, h1, h0⟩ := bindS h0
  rcases condS h1 with ⟨hc1, h1⟩ | ⟨hc1, h1⟩
  · rw [hc1]
    cbv
    cases h1
    try dsimp only at h0
    replace h0 := condT h0 rfl
    cases h0
    exact fin_ok hX rfl ⟨[], _, _, ⟨rfl, rfl⟩, rfl, rfl, rfl, rfl, by cbv; try simp⟩
  · rw [hc1]
    cbv
    rcases condS h1 with ⟨hc2, h1⟩ | ⟨hc2, h1⟩
    · rw [hc2]
      cbv
      cases h1
      try dsimp only at h0
      replace h0 := condT h0 rfl
      cases h0
      exact fin_ok hX rfl ⟨[], _, _, ⟨rfl, rfl⟩, rfl, rfl, rfl, rfl, by cbv; try simp⟩
    · rw [hc2]
      cbv
      rcases condS h1 with ⟨hc3, h1⟩ | ⟨hc3, h1⟩
      · rw [hc3]
        cbv
        cases h1
        try dsimp only at h0
        replace h0 := condT h0 rfl
        cases h0
        exact fin_ok hX rfl ⟨[], _, _, ⟨rfl, rfl⟩, rfl, rfl, rfl, rfl, by cbv; try simp⟩
      · rw [hc3]
        cbv
        rcases condS h1 with ⟨hc4, h1⟩ | ⟨hc4, h1⟩
        · rw [hc4]
          cbv
          cases h1
          try dsimp only at h0
          replace h0 := condT h0 rfl
          cases h0
          exact fin_ok hX rfl ⟨[], _, _, ⟨rfl, rfl⟩, rfl, rfl, rfl, rfl, by cbv; try simp⟩
        · rw [hc4]
          cbv
          rcases condS h1 with ⟨hc5, h1⟩ | ⟨hc5, h1⟩
          · rw [hc5]
            cbv
            cases h1
            try dsimp only at h0
            replace h0 := condT h0 rfl
            cases h0
            exact fin_ok hX rfl ⟨[], _, _, ⟨rfl, rfl⟩, rfl, rfl, rfl, rfl, by cbv; try simp⟩
          · rw [hc5]
            cbv
            cases h1
            try dsimp only at h0
            rcases condS h0 with ⟨hc6, h0⟩ | ⟨hc6, h0⟩
            · rw [hc6]
              cbv
              cases h0
              exact fin_ok hX rfl ⟨[], _, _, ⟨rfl, rfl⟩, rfl, rfl, rfl, rfl, by cbv; try simp⟩
            · rw [hc6]
              cbv
              obtain ⟨e1, hi, h0⟩ := bindS h0
              obtain ⟨I1, hI1, hi⟩ := loopS hi
              refine loop1 tab_holds eqs_holds mixed [(6, (.seg 1 [0, 1, 2, 3, 4, 5, 6, 7, 8, 9, 10] .fin), [])] hO hX I1 (fun y => [(6, .junk), (8, .junk), (12, .junk), (14, .junk), (19, .junk), (21, .junk), (26, .junk), (28, .junk), (33, .junk), (35, .junk), (40, .junk), (43, .junk), (5, .c (.int .i64 y.2))]) (fun _ => []) (fun y => y.1) _ (by kernel_rfl) hi (by cbv; try simp) ?_
              refine allp ?_
              intro n1
              intro i5 hi
              cbv
              rw [hI1] at hi
              obtain ⟨n1, rfl, x1, h1, hi1⟩ := iterS hi
              unfold m_ref29_Same_L1 at h1
              try dsimp only at h1
              rcases condS h1 with ⟨hc7, h1⟩ | ⟨hc7, h1⟩
              · rw [hc7]
                cbv
                obtain ⟨hg8, h1⟩ := grdS h1
                refine ⟨idx_of hO hg8, ?_⟩
                obtain ⟨hg9, h1⟩ := grdS h1
                refine ⟨kin_of hO hg9, ?_⟩
                obtain ⟨hg10, h1⟩ := grdS h1
                refine ⟨idx_of hO hg10, ?_⟩
                obtain ⟨hg11, h1⟩ := grdS h1
                refine ⟨kin_of hO hg11, ?_⟩
                rcases condS h1 with ⟨hc12, h1⟩ | ⟨hc12, h1⟩
                · rw [hc12]
                  cbv
                  cases h1
                  cases exitI hi1
                  try dsimp only at h0
                  cases h0
                  exact fin_ok hX rfl ⟨[], _, _, ⟨rfl, rfl⟩, rfl, rfl, rfl, rfl, by cbv; try simp⟩
                · rw [hc12]
                  cbv
                  obtain ⟨hg13, h1⟩ := grdS h1
                  refine ⟨inr_of hO hg13, ?_⟩
                  cases h1
                  exact ⟨_, [0, 1, 2, 3, 4, 5, 6, 7, 8, 9, 10, 11, 12, 13, 14, 15, 16, 17, 18, 19], nextI hI1 hi1, by cbv; try simp, by first | exact Nat.lt_succ_self _ | omega⟩
              · rw [hc7]
                cbv
                cases h1
                cases exitI hi1
                try dsimp only at h0
                obtain ⟨x168, h1, h0⟩ := bindS h0
                obtain ⟨b54, hv, h1⟩ := bindS h1
                refine call_is hO hX (fn_ref29_same hO hv) (by kernel_rfl) [0, 9] rfl ⟨rfl, rfl, rfl, rfl, trivial⟩ rfl ?_
                cbv
                rcases condS h1 with ⟨hc14, h1⟩ | ⟨hc14, h1⟩
                · rw [hc14]
                  cbv
                  obtain ⟨b55, hv, h1⟩ := bindS h1
                  refine call_is hO hX (fn_ref29_same hO hv) (by kernel_rfl) [1, 10] rfl ⟨rfl, rfl, rfl, rfl, trivial⟩ rfl ?_
                  cbv
                  rcases condS h1 with ⟨hc15, h1⟩ | ⟨hc15, h1⟩
                  · rw [hc15]
                    cbv
                    obtain ⟨b56, hv, h1⟩ := bindS h1
                    refine call_is hO hX (fn_ref29_same hO hv) (by kernel_rfl) [2, 11] rfl ⟨rfl, rfl, rfl, rfl, trivial⟩ rfl ?_
                    cbv
                    rcases condS h1 with ⟨hc16, h1⟩ | ⟨hc16, h1⟩
                    · rw [hc16]
                      cbv
                      obtain ⟨b57, hv, h1⟩ := bindS h1
                      refine call_is hO hX (fn_ref29_same hO hv) (by kernel_rfl) [3, 12] rfl ⟨rfl, rfl, rfl, rfl, trivial⟩ rfl ?_
                      cbv
                      rcases condS h1 with ⟨hc17, h1⟩ | ⟨hc17, h1⟩
                      · rw [hc17]
                        cbv
                        obtain ⟨b58, hv, h1⟩ := bindS h1
                        refine call_is hO hX (fn_ref29_same hO hv) (by kernel_rfl) [5, 14] rfl ⟨rfl, rfl, rfl, rfl, trivial⟩ rfl ?_
                        cbv
                        rcases condS h1 with ⟨hc18, h1⟩ | ⟨hc18, h1⟩
                        · rw [hc18]
                          cbv
                          obtain ⟨b59, hv, h1⟩ := bindS h1
                          refine call_is hO hX (fn_ref29_same hO hv) (by kernel_rfl) [6, 15] rfl ⟨rfl, rfl, rfl, rfl, trivial⟩ rfl ?_
                          cbv
                          rcases condS h1 with ⟨hc19, h1⟩ | ⟨hc19, h1⟩
                          · rw [hc19]
                            cbv
                            obtain ⟨b60, hv, h1⟩ := bindS h1
                            refine call_is hO hX (fn_ref29_same hO hv) (by kernel_rfl) [7, 16] rfl ⟨rfl, rfl, rfl, rfl, trivial⟩ rfl ?_
                            cbv
                            rcases condS h1 with ⟨hc20, h1⟩ | ⟨hc20, h1⟩
                            · rw [hc20]
                              cbv
                              obtain ⟨b61, hv, h1⟩ := bindS h1
                              refine call_is hO hX (fn_ref29_same hO hv) (by kernel_rfl) [8, 17] rfl ⟨rfl, rfl, rfl, rfl, trivial⟩ rfl ?_
                              cbv
                              cases h1
                              try dsimp only at h0
                              cases h0
                              exact fin_ok hX rfl ⟨[], _, _, ⟨rfl, rfl⟩, rfl, rfl, rfl, rfl, by cbv; try simp⟩
                            · rw [hc20]
                              cbv
                              cases h1
                              try dsimp only at h0
                              cases h0
                              exact fin_ok hX rfl ⟨[], _, _, ⟨rfl, rfl⟩, rfl, rfl, rfl, rfl, by cbv; try simp⟩
                          · rw [hc19]
                            cbv
                            cases h1
                            try dsimp only at h0
                            cases h0
                            exact fin_ok hX rfl ⟨[], _, _, ⟨rfl, rfl⟩, rfl, rfl, rfl, rfl, by cbv; try simp⟩
                        · rw [hc18]
                          cbv
                          cases h1
                          try dsimp only at h0
                          cases h0
                          exact fin_ok hX rfl ⟨[], _, _, ⟨rfl, rfl⟩, rfl, rfl, rfl, rfl, by cbv; try simp⟩
                      · rw [hc17]
                        cbv
                        cases h1
                        try dsimp only at h0
                        cases h0
                        exact fin_ok hX rfl ⟨[], _, _, ⟨rfl, rfl⟩, rfl, rfl, rfl, rfl, by cbv; try simp⟩
                    · rw [hc16]
                      cbv
                      cases h1
                      try dsimp only at h0
                      cases h0
                      exact fin_ok hX rfl ⟨[], _, _, ⟨rfl, rfl⟩, rfl, rfl, rfl, rfl, by cbv; try simp⟩
                  · rw [hc15]
                    cbv
                    cases h1
                    try dsimp only at h0
                    cases h0
                    exact fin_ok hX rfl ⟨[], _, _, ⟨rfl, rfl⟩, rfl, rfl, rfl, rfl, by cbv; try simp⟩
                · rw [hc14]
                  cbv
                  cases h1
                  try dsimp only at h0
                  cases h0
                  exact fin_ok hX rfl ⟨[], _, _, ⟨rfl, rfl⟩, rfl, rfl, rfl, rfl, by cbv; try simp⟩
set_option maxHeartbeats 40000000 in
theorem fn_slices_Equal {O0 : Ops} (hO0 : O0 = std) {s1_1 : List (Int × Int)} {s2_1 : List (Int × Int)} {r1 : Bool} (h : m_slices_Equal O0 s1_1 s2_1 = some r1) :
    Fn Tryz.prog 29 [.c (.sl 0), .c (.sl 1)] [.arr false .i2 s1_1, .arr false .i2 s2_1] (fun v c => v = .c (.bool r1) ∧ c = []) := by
  refine fn_run tab_holds eqs_holds mixed [(6, (.seg 1 [0, 1, 2, 3, 4, 5, 6, 7, 8] .fin), [])] Tryz.func29 (by kernel_rfl) (by kernel_rfl) (Nat.le_of_ble_eq_true rfl) ?_
  intro O X hO hX
  rw [hO0, ← hO] at h
  unfold m_slices_Equal at h
  have h0 := h; clear h
  cbv
  rcases condS h0 with ⟨hc1, h0⟩ | ⟨hc1, h0⟩
  · rw [hc1]
    cbv
    cases h0
    exact fin_ok hX rfl ⟨[], _, _, ⟨rfl, rfl⟩, rfl, rfl, rfl, rfl, by cbv; try simp⟩
  · rw [hc1]
    cbv
    obtain ⟨e1, hi, h0⟩ := bindS h0
    obtain ⟨I1, hI1, hi⟩ := loopS hi
    refine loop1 tab_holds eqs_holds mixed [(6, (.seg 1 [0, 1, 2, 3, 4, 5, 6, 7, 8] .fin), [])] hO hX I1 (fun y => [(13, .c (.int .i64 y.2))]) (fun _ => []) (fun y => y.1) _ (by kernel_rfl) hi (by cbv; try simp) ?_
    refine allp ?_
    intro n1
    intro x169 hi
    cbv
    rw [hI1] at hi
    obtain ⟨n1, rfl, x1, h1, hi1⟩ := iterS hi
    unfold m_slices_Equal_L1 at h1
    try dsimp only at h1
    rcases condS h1 with ⟨hc2, h1⟩ | ⟨hc2, h1⟩
    · rw [hc2]
      cbv
      obtain ⟨hg3, h1⟩ := grdS h1
      refine ⟨idx_of hO hg3, ?_⟩
      obtain ⟨hg4, h1⟩ := grdS h1
      refine ⟨kin_of hO hg4, ?_⟩
      obtain ⟨hg5, h1⟩ := grdS h1
      refine ⟨idx_of hO hg5, ?_⟩
      obtain ⟨hg6, h1⟩ := grdS h1
      refine ⟨kin_of hO hg6, ?_⟩
      rcases condS h1 with ⟨hc7, h1⟩ | ⟨hc7, h1⟩
      · rw [hc7]
        cbv
        cases h1
        cases exitI hi1
        try dsimp only at h0
        cases h0
        exact fin_ok hX rfl ⟨[], _, _, ⟨rfl, rfl⟩, rfl, rfl, rfl, rfl, by cbv; try simp⟩
      · rw [hc7]
        cbv
        obtain ⟨hg8, h1⟩ := grdS h1
        refine ⟨inr_of hO hg8, ?_⟩
        cases h1
        exact ⟨_, [0, 1], nextI hI1 hi1, by cbv; try simp, by first | exact Nat.lt_succ_self _ | omega⟩
    · rw [hc2]
      cbv
      cases h1
      cases exitI hi1
      try dsimp only at h0
      cases h0
      exact fin_ok hX rfl ⟨[], _, _, ⟨rfl, rfl⟩, rfl, rfl, rfl, rfl, by cbv; try simp⟩
set_option maxHeartbeats 40000000 in
theorem fn_slices_Equal_2 {O0 : Ops} (hO0 : O0 = std) {s1_1 : List Int} {s2_1 : List Int} {r1 : Bool} (h : m_slices_Equal_2 O0 s1_1 s2_1 = some r1) :
    Fn Tryz.prog 33 [.c (.sl 0), .c (.sl 1)] [.arr false .i1 s1_1, .arr false .i1 s2_1] (fun v c => v = .c (.bool r1) ∧ c = []) := by
  refine fn_run tab_holds eqs_holds mixed [(6, (.seg 1 [0, 1, 2, 3, 4, 5, 6, 7, 8] .fin), [])] Tryz.func33 (by kernel_rfl) (by kernel_rfl) (Nat.le_of_ble_eq_true rfl) ?_
  intro O X hO hX
  rw [hO0, ← hO] at h
  unfold m_slices_Equal_2 at h
  have h0 := h; clear h
  cbv
  rcases condS h0 with ⟨hc1, h0⟩ | ⟨hc1, h0⟩
  · rw [hc1]
    cbv
    cases h0
    exact fin_ok hX rfl ⟨[], _, _, ⟨rfl, rfl⟩, rfl, rfl, rfl, rfl, by cbv; try simp⟩
  · rw [hc1]
    cbv
    obtain ⟨e1, hi, h0⟩ := bindS h0
    obtain ⟨I1, hI1, hi⟩ := loopS hi
    refine loop1 tab_holds eqs_holds mixed [(6, (.seg 1 [0, 1, 2, 3, 4, 5, 6, 7, 8] .fin), [])] hO hX I1 (fun y => [(13, .c (.int .i64 y.2))]) (fun _ => []) (fun y => y.1) _ (by kernel_rfl) hi (by cbv; try simp) ?_
    refine allp ?_
    intro n1
    intro x172 hi
    cbv
    rw [hI1] at hi
    obtain ⟨n1, rfl, x1, h1, hi1⟩ := iterS hi
    unfold m_slices_Equal_2_L1 at h1
    try dsimp only at h1
    rcases condS h1 with ⟨hc2, h1⟩ | ⟨hc2, h1⟩
    · rw [hc2]
      cbv
      obtain ⟨hg3, h1⟩ := grdS h1
      refine ⟨idx_of hO hg3, ?_⟩
      obtain ⟨hg4, h1⟩ := grdS h1
      refine ⟨kin_of hO hg4, ?_⟩
      obtain ⟨hg5, h1⟩ := grdS h1
      refine ⟨idx_of hO hg5, ?_⟩
      obtain ⟨hg6, h1⟩ := grdS h1
      refine ⟨kin_of hO hg6, ?_⟩
      rcases condS h1 with ⟨hc7, h1⟩ | ⟨hc7, h1⟩
      · rw [hc7]
        cbv
        cases h1
        cases exitI hi1
        try dsimp only at h0
        cases h0
        exact fin_ok hX rfl ⟨[], _, _, ⟨rfl, rfl⟩, rfl, rfl, rfl, rfl, by cbv; try simp⟩
      · rw [hc7]
        cbv
        obtain ⟨hg8, h1⟩ := grdS h1
        refine ⟨inr_of hO hg8, ?_⟩
        cases h1
        exact ⟨_, [0, 1], nextI hI1 hi1, by cbv; try simp, by first | exact Nat.lt_succ_self _ | omega⟩
    · rw [hc2]
      cbv
      cases h1
      cases exitI hi1
      try dsimp only at h0
      cases h0
      exact fin_ok hX rfl ⟨[], _, _, ⟨rfl, rfl⟩, rfl, rfl, rfl, rfl, by cbv; try simp⟩
set_option maxHeartbeats 40000000 in
theorem fn_recurrence_Equal_1 {O0 : Ops} (hO0 : O0 = std) {a_1 : List Int} {b_1 : List Int} {r1 : Bool} (h : m_recurrence_Equal_1 O0 a_1 b_1 = some r1) :
    Fn Tryz.prog 32 [.c (.sl 0), .c (.sl 1)] [.arr false .i1 a_1, .arr false .i1 b_1] (fun v c => v = .c (.bool r1) ∧ c = []) := by
  refine fn_run tab_holds eqs_holds mixed [] Tryz.func32 (by kernel_rfl) (by kernel_rfl) (Nat.le_of_ble_eq_true rfl) ?_
  intro O X hO hX
  rw [hO0, ← hO] at h
  unfold m_recurrence_Equal_1 at h
  have h0 := h; clear h
  cbv
  obtain ⟨b64, hv, h0⟩ := bindS h0
  refine call_is hO hX (fn_slices_Equal_2 hO hv) (by kernel_rfl) [0, 1] rfl ⟨rfl, rfl, rfl, rfl, trivial⟩ rfl ?_
  cbv
  cases h0
  exact fin_ok hX rfl ⟨[], _, _, ⟨rfl, rfl⟩, rfl, rfl, rfl, rfl, by cbv; try simp⟩
set_option maxHeartbeats 40000000 in
theorem fn_slices_EqualFunc {O0 : Ops} (hO0 : O0 = std) {s1_1 : List Int} {s1_2 : List Int} {s1_3 : List Int} {s1_4 : List Int} {s1_5 : List Int} {s1_6 : List Int} {s1_7 : List Int} {s1_8 : List Int} {s2_1 : List Int} {s2_2 : List Int} {s2_3 : List Int} {s2_4 : List Int} {s2_5 : List Int} {s2_6 : List Int} {s2_7 : List Int} {s2_8 : List Int} {r1 : Bool} (h : m_slices_EqualFunc O0 s1_1 s1_2 s1_3 s1_4 s1_5 s1_6 s1_7 s1_8 s2_1 s2_2 s2_3 s2_4 s2_5 s2_6 s2_7 s2_8 = some r1) :
    Fn Tryz.prog 31 [.c (.asl 0 8), .c (.asl 1 8), .c (.fn 32 [])] [.ro 22 [.sl 2, .sl 3, .sl 4, .sl 5, .sl 6, .sl 7, .sl 8, .sl 9], .ro 22 [.sl 10, .sl 11, .sl 12, .sl 13, .sl 14, .sl 15, .sl 16, .sl 17], .arr false .i1 s1_1, .arr false .i1 s1_2, .arr false .i1 s1_3, .arr false .i1 s1_4, .arr false .i1 s1_5, .arr false .i1 s1_6, .arr false .i1 s1_7, .arr false .i1 s1_8, .arr false .i1 s2_1, .arr false .i1 s2_2, .arr false .i1 s2_3, .arr false .i1 s2_4, .arr false .i1 s2_5, .arr false .i1 s2_6, .arr false .i1 s2_7, .arr false .i1 s2_8] (fun v c => v = .c (.bool r1) ∧ c = []) := by
  refine fn_run tab_holds eqs_holds mixed [] Tryz.func31 (by kernel_rfl) (by kernel_rfl) (Nat.le_of_ble_eq_true rfl) ?_
  intro O X hO hX
  rw [hO0, ← hO] at h
  unfold m_slices_EqualFunc at h
  have h0 := h; clear h
  cbv
  rw [show (O .not (O .eq (Int.ofNat 8) (Int.ofNat 8))) = false from by subst hO; rfl]
  cbv
  refine loop_unroll tab_holds eqs_holds mixed [] hO hX 9 (by kernel_rfl) ?_
  cbv
  rw [show (O .lt 0 (Int.ofNat 8)) = true from by subst hO; rfl]
  cbv
  obtain ⟨b65, hv, h0⟩ := bindS h0
  refine call_is hO hX (fn_recurrence_Equal_1 hO hv) (by kernel_rfl) [2, 10] rfl ⟨rfl, rfl, rfl, rfl, trivial⟩ rfl ?_
  cbv
  rcases condS h0 with ⟨hc1, h0⟩ | ⟨hc1, h0⟩
  · rw [hc1]
    cbv
    cases h0
    exact fin_ok hX rfl ⟨[], _, _, ⟨rfl, rfl⟩, rfl, rfl, rfl, rfl, by cbv; try simp⟩
  · rw [hc1]
    cbv
    obtain ⟨hg2, h0⟩ := grdS h0
    refine ⟨inr_of hO hg2, ?_⟩
    try (rw [show (O .add 0 1) = 1 from by subst hO; rfl]; try cbv)
    try (rw [show (O .add 0 1) = 1 from by subst hO; rfl]; try cbv)
    rw [show (O .lt 1 (Int.ofNat 8)) = true from by subst hO; rfl]
    cbv
    obtain ⟨b66, hv, h0⟩ := bindS h0
    refine call_is hO hX (fn_recurrence_Equal_1 hO hv) (by kernel_rfl) [3, 11] rfl ⟨rfl, rfl, rfl, rfl, trivial⟩ rfl ?_
    cbv
    rcases condS h0 with ⟨hc3, h0⟩ | ⟨hc3, h0⟩
    · rw [hc3]
      cbv
      cases h0
      exact fin_ok hX rfl ⟨[], _, _, ⟨rfl, rfl⟩, rfl, rfl, rfl, rfl, by cbv; try simp⟩
    · rw [hc3]
      cbv
      obtain ⟨hg4, h0⟩ := grdS h0
      refine ⟨inr_of hO hg4, ?_⟩
      try (rw [show (O .add 1 1) = 2 from by subst hO; rfl]; try cbv)
      try (rw [show (O .add 1 1) = 2 from by subst hO; rfl]; try cbv)
      rw [show (O .lt 2 (Int.ofNat 8)) = true from by subst hO; rfl]
      cbv
      obtain ⟨b67, hv, h0⟩ := bindS h0
      refine call_is hO hX (fn_recurrence_Equal_1 hO hv) (by kernel_rfl) [4, 12] rfl ⟨rfl, rfl, rfl, rfl, trivial⟩ rfl ?_
      cbv
      rcases condS h0 with ⟨hc5, h0⟩ | ⟨hc5, h0⟩
      · rw [hc5]
        cbv
        cases h0
        exact fin_ok hX rfl ⟨[], _, _, ⟨rfl, rfl⟩, rfl, rfl, rfl, rfl, by cbv; try simp⟩
      · rw [hc5]
        cbv
        obtain ⟨hg6, h0⟩ := grdS h0
        refine ⟨inr_of hO hg6, ?_⟩
        try (rw [show (O .add 2 1) = 3 from by subst hO; rfl]; try cbv)
        try (rw [show (O .add 2 1) = 3 from by subst hO; rfl]; try cbv)
        rw [show (O .lt 3 (Int.ofNat 8)) = true from by subst hO; rfl]
        cbv
        obtain ⟨b68, hv, h0⟩ := bindS h0
        refine call_is hO hX (fn_recurrence_Equal_1 hO hv) (by kernel_rfl) [5, 13] rfl ⟨rfl, rfl, rfl, rfl, trivial⟩ rfl ?_
        cbv
        rcases condS h0 with ⟨hc7, h0⟩ | ⟨hc7, h0⟩
        · rw [hc7]
          cbv
          cases h0
          exact fin_ok hX rfl ⟨[], _, _, ⟨rfl, rfl⟩, rfl, rfl, rfl, rfl, by cbv; try simp⟩
        · rw [hc7]
          cbv
          obtain ⟨hg8, h0⟩ := grdS h0
          refine ⟨inr_of hO hg8, ?_⟩
          try (rw [show (O .add 3 1) = 4 from by subst hO; rfl]; try cbv)
          try (rw [show (O .add 3 1) = 4 from by subst hO; rfl]; try cbv)
          rw [show (O .lt 4 (Int.ofNat 8)) = true from by subst hO; rfl]
          cbv
          obtain ⟨b69, hv, h0⟩ := bindS h0
          refine call_is hO hX (fn_recurrence_Equal_1 hO hv) (by kernel_rfl) [6, 14] rfl ⟨rfl, rfl, rfl, rfl, trivial⟩ rfl ?_
          cbv
          rcases condS h0 with ⟨hc9, h0⟩ | ⟨hc9, h0⟩
          · rw [hc9]
            cbv
            cases h0
            exact fin_ok hX rfl ⟨[], _, _, ⟨rfl, rfl⟩, rfl, rfl, rfl, rfl, by cbv; try simp⟩
          · rw [hc9]
            cbv
            obtain ⟨hg10, h0⟩ := grdS h0
            refine ⟨inr_of hO hg10, ?_⟩
            try (rw [show (O .add 4 1) = 5 from by subst hO; rfl]; try cbv)
            try (rw [show (O .add 4 1) = 5 from by subst hO; rfl]; try cbv)
            rw [show (O .lt 5 (Int.ofNat 8)) = true from by subst hO; rfl]
            cbv
            obtain ⟨b70, hv, h0⟩ := bindS h0
            refine call_is hO hX (fn_recurrence_Equal_1 hO hv) (by kernel_rfl) [7, 15] rfl ⟨rfl, rfl, rfl, rfl, trivial⟩ rfl ?_
            cbv
            rcases condS h0 with ⟨hc11, h0⟩ | ⟨hc11, h0⟩
            · rw [hc11]
              cbv
              cases h0
              exact fin_ok hX rfl ⟨[], _, _, ⟨rfl, rfl⟩, rfl, rfl, rfl, rfl, by cbv; try simp⟩
            · rw [hc11]
              cbv
              obtain ⟨hg12, h0⟩ := grdS h0
              refine ⟨inr_of hO hg12, ?_⟩
              try (rw [show (O .add 5 1) = 6 from by subst hO; rfl]; try cbv)
              try (rw [show (O .add 5 1) = 6 from by subst hO; rfl]; try cbv)
              rw [show (O .lt 6 (Int.ofNat 8)) = true from by subst hO; rfl]
              cbv
              obtain ⟨b71, hv, h0⟩ := bindS h0
              refine call_is hO hX (fn_recurrence_Equal_1 hO hv) (by kernel_rfl) [8, 16] rfl ⟨rfl, rfl, rfl, rfl, trivial⟩ rfl ?_
              cbv
              rcases condS h0 with ⟨hc13, h0⟩ | ⟨hc13, h0⟩
              · rw [hc13]
                cbv
                cases h0
                exact fin_ok hX rfl ⟨[], _, _, ⟨rfl, rfl⟩, rfl, rfl, rfl, rfl, by cbv; try simp⟩
              · rw [hc13]
                cbv
                obtain ⟨hg14, h0⟩ := grdS h0
                refine ⟨inr_of hO hg14, ?_⟩
                try (rw [show (O .add 6 1) = 7 from by subst hO; rfl]; try cbv)
                try (rw [show (O .add 6 1) = 7 from by subst hO; rfl]; try cbv)
                rw [show (O .lt 7 (Int.ofNat 8)) = true from by subst hO; rfl]
                cbv
                obtain ⟨b72, hv, h0⟩ := bindS h0
                refine call_is hO hX (fn_recurrence_Equal_1 hO hv) (by kernel_rfl) [9, 17] rfl ⟨rfl, rfl, rfl, rfl, trivial⟩ rfl ?_
                cbv
                rcases condS h0 with ⟨hc15, h0⟩ | ⟨hc15, h0⟩
                · rw [hc15]
                  cbv
                  cases h0
                  exact fin_ok hX rfl ⟨[], _, _, ⟨rfl, rfl⟩, rfl, rfl, rfl, rfl, by cbv; try simp⟩
                · rw [hc15]
                  cbv
                  obtain ⟨hg16, h0⟩ := grdS h0
                  refine ⟨inr_of hO hg16, ?_⟩
                  try (rw [show (O .add 7 1) = 8 from by subst hO; rfl]; try cbv)
                  try (rw [show (O .add 7 1) = 8 from by subst hO; rfl]; try cbv)
                  rw [show (O .lt 8 (Int.ofNat 8)) = false from by subst hO; rfl]
                  cbv
                  cases h0
                  exact fin_ok hX rfl ⟨[], _, _, ⟨rfl, rfl⟩, rfl, rfl, rfl, rfl, by cbv; try simp⟩
end Go.Proofs.YtmnhfaaaaejpaaaGreat.R
