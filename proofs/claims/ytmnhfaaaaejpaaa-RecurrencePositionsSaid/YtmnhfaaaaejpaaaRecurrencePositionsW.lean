/-
  The code does what its models say (printed by lift.py).
  The walk of RecurrencePositions, as the row takes it.
-/
import Derived.Test.YtmnhfaaaaejpaaaPpM
import Derived.Test.YtmnhfaaaaejpaaaRecurrenceCandidatesW
import Derived.Test.YtmnhfaaaaejpaaaArr
import Derived.Test.YtmnhfaaaaejpaaaPp2
namespace Go.Proofs.Ytmnhfaaaaejpaaa.R
open Go.RowKit Go.Proofs.Ytmnhfaaaaejpaaa
set_option maxRecDepth 100000

set_option maxHeartbeats 40000000 in
theorem fn_law29_RecurrencePositions {O0 : Ops} (hO0 : O0 = std) {r_1 : Int} {r_2 : Int} {r_3 : Int} {r_4 : Int} {r_5 : Int} {start_1 : Int} {l_1 : Int} {m_1 : Int} {r_6 : List Int} {r_7 : List Int} {r_8 : List Int} {r_9 : List Int} {r_10 : List (Int × Int)} {r_11 : List Int} {r_12 : List Int} {r_13 : List Int} {r_14 : List Int} {r1 : Bool} (h : m_law29_RecurrencePositions O0 r_1 r_2 r_3 r_4 r_5 start_1 l_1 m_1 r_6 r_7 r_8 r_9 r_10 r_11 r_12 r_13 r_14 = some r1) :
    Fn Try.prog 7 [.agg [.int .i64 r_1, .int .i64 r_2, .int .i64 r_3, .int .i64 r_4, .sl 0, .sl 1, .sl 2, .sl 3, .sl 4, .sl 5, .sl 6, .sl 7, .sl 8, .int .i64 r_5], .c (.int .i64 start_1), .c (.int .i64 l_1), .c (.int .i64 m_1)] [.arr false .i1 r_6, .arr false .i1 r_7, .arr false .i1 r_8, .arr false .i1 r_9, .arr false .i2 r_10, .arr false .i1 r_11, .arr false .i1 r_12, .arr false .i1 r_13, .arr false .i1 r_14] (fun v c => v = .c (.bool r1) ∧ c = []) := by
  refine fn_run tab_holds eqs_holds mixed [(3, (.seg 0 [] (.seg 1 [0, 1, 2, 3] (.alt 4 (.alt 5 (.alt 6 (.seg 2 [7] (.seg 3 [8] (.seg 3 [9] (.seg 3 [10] (.seg 3 [11] .fin))))) (.alt 7 (.seg 2 [6] (.seg 3 [8] (.seg 3 [9] (.seg 3 [10] (.seg 3 [11] .fin))))) .no)) (.alt 6 (.alt 5 (.seg 2 [7] (.seg 3 [8] (.seg 3 [9] (.seg 3 [10] (.seg 3 [11] .fin))))) (.alt 7 (.seg 2 [5] (.seg 3 [8] (.seg 3 [9] (.seg 3 [10] (.seg 3 [11] .fin))))) .no)) (.alt 7 (.alt 5 (.seg 2 [6] (.seg 3 [8] (.seg 3 [9] (.seg 3 [10] (.seg 3 [11] .fin))))) (.alt 6 (.seg 2 [5] (.seg 3 [8] (.seg 3 [9] (.seg 3 [10] (.seg 3 [11] .fin))))) .no)) .no))) (.alt 5 (.alt 4 (.alt 6 (.seg 2 [7] (.seg 3 [8] (.seg 3 [9] (.seg 3 [10] (.seg 3 [11] .fin))))) (.alt 7 (.seg 2 [6] (.seg 3 [8] (.seg 3 [9] (.seg 3 [10] (.seg 3 [11] .fin))))) .no)) (.alt 6 (.alt 4 (.seg 2 [7] (.seg 3 [8] (.seg 3 [9] (.seg 3 [10] (.seg 3 [11] .fin))))) (.alt 7 (.seg 2 [4] (.seg 3 [8] (.seg 3 [9] (.seg 3 [10] (.seg 3 [11] .fin))))) .no)) (.alt 7 (.alt 4 (.seg 2 [6] (.seg 3 [8] (.seg 3 [9] (.seg 3 [10] (.seg 3 [11] .fin))))) (.alt 6 (.seg 2 [4] (.seg 3 [8] (.seg 3 [9] (.seg 3 [10] (.seg 3 [11] .fin))))) .no)) .no))) (.alt 6 (.alt 4 (.alt 5 (.seg 2 [7] (.seg 3 [8] (.seg 3 [9] (.seg 3 [10] (.seg 3 [11] .fin))))) (.alt 7 (.seg 2 [5] (.seg 3 [8] (.seg 3 [9] (.seg 3 [10] (.seg 3 [11] .fin))))) .no)) (.alt 5 (.alt 4 (.seg 2 [7] (.seg 3 [8] (.seg 3 [9] (.seg 3 [10] (.seg 3 [11] .fin))))) (.alt 7 (.seg 2 [4] (.seg 3 [8] (.seg 3 [9] (.seg 3 [10] (.seg 3 [11] .fin))))) .no)) (.alt 7 (.alt 4 (.seg 2 [5] (.seg 3 [8] (.seg 3 [9] (.seg 3 [10] (.seg 3 [11] .fin))))) (.alt 5 (.seg 2 [4] (.seg 3 [8] (.seg 3 [9] (.seg 3 [10] (.seg 3 [11] .fin))))) .no)) .no))) (.alt 7 (.alt 4 (.alt 5 (.seg 2 [6] (.seg 3 [8] (.seg 3 [9] (.seg 3 [10] (.seg 3 [11] .fin))))) (.alt 6 (.seg 2 [5] (.seg 3 [8] (.seg 3 [9] (.seg 3 [10] (.seg 3 [11] .fin))))) .no)) (.alt 5 (.alt 4 (.seg 2 [6] (.seg 3 [8] (.seg 3 [9] (.seg 3 [10] (.seg 3 [11] .fin))))) (.alt 6 (.seg 2 [4] (.seg 3 [8] (.seg 3 [9] (.seg 3 [10] (.seg 3 [11] .fin))))) .no)) (.alt 6 (.alt 4 (.seg 2 [5] (.seg 3 [8] (.seg 3 [9] (.seg 3 [10] (.seg 3 [11] .fin))))) (.alt 5 (.seg 2 [4] (.seg 3 [8] (.seg 3 [9] (.seg 3 [10] (.seg 3 [11] .fin))))) .no)) .no))) .no)))))), [])] Try.func7 (by kernel_rfl) (by kernel_rfl) (Nat.le_of_ble_eq_true rfl) ?_
  intro O X hO hX
  rw [hO0, ← hO] at h
  unfold m_law29_RecurrencePositions at h
  have h0 := h; clear h
  cbv
  obtain ⟨x132, h1, h0⟩ := bindS h0
  obtain ⟨b38, hv, h1⟩ := bindS h1
  refine call_is hO hX (fn_law29_awake hO hv) (by kernel_rfl) [] rfl trivial rfl ?_
  cbv
  rcases condS h1 with ⟨hc1, h1⟩ | ⟨hc1, h1⟩
  · rw [hc1]
    cbv
    cases h1
    try dsimp only at h0
    replace h0 := condT h0 rfl
    obtain ⟨b41, hv, h0⟩ := bindS h0
    refine call_is hO hX (fn_law29_awake hO hv) (by kernel_rfl) [] rfl trivial rfl ?_
    cbv
    cases h0
    exact fin_ok hX rfl ⟨[], _, _, ⟨rfl, rfl⟩, rfl, rfl, rfl, rfl, by cbv; try simp⟩
  · as_aux_lemma =>
    rw [hc1]
    cbv
    obtain ⟨b39, hv, h1⟩ := bindS h1
    refine call_is hO hX (fn_law29_long hO hv) (by kernel_rfl) [0, 1, 2, 3, 4, 5, 6, 7, 8] rfl ⟨rfl, rfl, rfl, rfl, rfl, rfl, rfl, rfl, rfl, rfl, rfl, rfl, rfl, rfl, rfl, rfl, rfl, rfl, trivial⟩ rfl ?_
    cbv
    rcases condS h1 with ⟨hc2, h1⟩ | ⟨hc2, h1⟩
    · rw [hc2]
      cbv
      cases h1
      try dsimp only at h0
      replace h0 := condT h0 rfl
      obtain ⟨b41, hv, h0⟩ := bindS h0
      refine call_is hO hX (fn_law29_awake hO hv) (by kernel_rfl) [] rfl trivial rfl ?_
      cbv
      cases h0
      exact fin_ok hX rfl ⟨[], _, _, ⟨rfl, rfl⟩, rfl, rfl, rfl, rfl, by cbv; try simp⟩
    · as_aux_lemma =>
      rw [hc2]
      cbv
      obtain ⟨b40, hv, h1⟩ := bindS h1
      refine call_is hO hX (fn_recurrence_Valid hO hv) (by kernel_rfl) [0, 1, 2, 3, 4, 5, 6, 7, 8] rfl ⟨rfl, rfl, rfl, rfl, rfl, rfl, rfl, rfl, rfl, rfl, rfl, rfl, rfl, rfl, rfl, rfl, rfl, rfl, trivial⟩ rfl ?_
      cbv
      cases h1
      try dsimp only at h0
      rcases condS h0 with ⟨hc3, h0⟩ | ⟨hc3, h0⟩
      · rw [hc3]
        cbv
        obtain ⟨b41, hv, h0⟩ := bindS h0
        refine call_is hO hX (fn_law29_awake hO hv) (by kernel_rfl) [] rfl trivial rfl ?_
        cbv
        cases h0
        exact fin_ok hX rfl ⟨[], _, _, ⟨rfl, rfl⟩, rfl, rfl, rfl, rfl, by cbv; try simp⟩
      · as_aux_lemma =>
        rw [hc3]
        cbv
        refine ⟨⟨⟨?a, ?a, trivial⟩, ⟨?a, ?a, trivial⟩, ⟨?a, ?a, trivial⟩, trivial⟩, ⟨⟨?a, ?a, trivial⟩, ⟨?a, ?a, trivial⟩, ⟨?a, ?a, trivial⟩, trivial⟩, ⟨⟨?a, ?a, trivial⟩, ⟨?a, ?a, trivial⟩, ⟨?a, ?a, trivial⟩, trivial⟩, ⟨⟨?a, ?a, trivial⟩, ⟨?a, ?a, trivial⟩, ⟨?a, ?a, trivial⟩, trivial⟩, trivial⟩
        cbv
        refine call_nil hO hX .i1 21 rfl ?_
        cbv
        obtain ⟨⟨b42, n83⟩, hv, h0⟩ := bindS h0
        try dsimp only at h0
        refine call_is hO hX (fn_recurrence_Matches hO hv) (by kernel_rfl) [0, 1, 2, 3, 4, 5, 6, 7, 21] rfl ⟨rfl, rfl, rfl, rfl, rfl, rfl, rfl, rfl, rfl, rfl, rfl, rfl, rfl, rfl, rfl, rfl, rfl, rfl, trivial⟩ rfl ?_
        cbv
        obtain ⟨⟨b43, n84⟩, hv, h0⟩ := bindS h0
        try dsimp only at h0
        refine call_is hO hX (fn_recurrence_Matches hO hv) (by kernel_rfl) [0, 1, 2, 3, 4, 5, 6, 7, 18] rfl ⟨rfl, rfl, rfl, rfl, rfl, rfl, rfl, rfl, rfl, rfl, rfl, rfl, rfl, rfl, rfl, rfl, rfl, rfl, trivial⟩ rfl ?_
        cbv
        obtain ⟨⟨b44, n85⟩, hv, h0⟩ := bindS h0
        try dsimp only at h0
        refine call_is hO hX (fn_recurrence_Matches hO hv) (by kernel_rfl) [0, 1, 2, 3, 4, 5, 6, 7, 19] rfl ⟨rfl, rfl, rfl, rfl, rfl, rfl, rfl, rfl, rfl, rfl, rfl, rfl, rfl, rfl, rfl, rfl, rfl, rfl, trivial⟩ rfl ?_
        cbv
        obtain ⟨⟨b45, n86⟩, hv, h0⟩ := bindS h0
        try dsimp only at h0
        refine call_is hO hX (fn_recurrence_Matches hO hv) (by kernel_rfl) [0, 1, 2, 3, 4, 5, 6, 7, 20] rfl ⟨rfl, rfl, rfl, rfl, rfl, rfl, rfl, rfl, rfl, rfl, rfl, rfl, rfl, rfl, rfl, rfl, rfl, rfl, trivial⟩ rfl ?_
        cbv
        obtain ⟨x134, h1, h0⟩ := bindS h0
        rcases condS h1 with ⟨hc4, h1⟩ | ⟨hc4, h1⟩
        · rw [hc4]
          cbv
          cases h1
          try dsimp only at h0
          replace h0 := condT h0 rfl
          obtain ⟨x137, h1, h0⟩ := bindS h0
          rcases condS h1 with ⟨hc5, h1⟩ | ⟨hc5, h1⟩
          · rw [hc5]
            cbv
            rcases condS h1 with ⟨hc6, h1⟩ | ⟨hc6, h1⟩
            · rw [hc6]
              cbv
              cases h1
              try dsimp only at h0
              cases h0
              exact fin_ok hX rfl ⟨[], _, _, ⟨rfl, rfl⟩, rfl, rfl, rfl, rfl, by cbv; try simp⟩
            · rw [hc6]
              cbv
              cases h1
              try dsimp only at h0
              cases h0
              exact fin_ok hX rfl ⟨[], _, _, ⟨rfl, rfl⟩, rfl, rfl, rfl, rfl, by cbv; try simp⟩
          · rw [hc5]
            cbv
            cases h1
            try dsimp only at h0
            cases h0
            exact fin_ok hX rfl ⟨[], _, _, ⟨rfl, rfl⟩, rfl, rfl, rfl, rfl, by cbv; try simp⟩
        · rw [hc4]
          cbv
          rcases condS h1 with ⟨hc7, h1⟩ | ⟨hc7, h1⟩
          · rw [hc7]
            cbv
            cases h1
            try dsimp only at h0
            replace h0 := condT h0 rfl
            obtain ⟨x137, h1, h0⟩ := bindS h0
            rcases condS h1 with ⟨hc8, h1⟩ | ⟨hc8, h1⟩
            · rw [hc8]
              cbv
              rcases condS h1 with ⟨hc9, h1⟩ | ⟨hc9, h1⟩
              · rw [hc9]
                cbv
                cases h1
                try dsimp only at h0
                cases h0
                exact fin_ok hX rfl ⟨[], _, _, ⟨rfl, rfl⟩, rfl, rfl, rfl, rfl, by cbv; try simp⟩
              · rw [hc9]
                cbv
                cases h1
                try dsimp only at h0
                cases h0
                exact fin_ok hX rfl ⟨[], _, _, ⟨rfl, rfl⟩, rfl, rfl, rfl, rfl, by cbv; try simp⟩
            · rw [hc8]
              cbv
              cases h1
              try dsimp only at h0
              cases h0
              exact fin_ok hX rfl ⟨[], _, _, ⟨rfl, rfl⟩, rfl, rfl, rfl, rfl, by cbv; try simp⟩
          · rw [hc7]
            cbv
            rcases condS h1 with ⟨hc10, h1⟩ | ⟨hc10, h1⟩
            · rw [hc10]
              cbv
              cases h1
              try dsimp only at h0
              replace h0 := condT h0 rfl
              obtain ⟨x137, h1, h0⟩ := bindS h0
              rcases condS h1 with ⟨hc11, h1⟩ | ⟨hc11, h1⟩
              · rw [hc11]
                cbv
                rcases condS h1 with ⟨hc12, h1⟩ | ⟨hc12, h1⟩
                · rw [hc12]
                  cbv
                  cases h1
                  try dsimp only at h0
                  cases h0
                  exact fin_ok hX rfl ⟨[], _, _, ⟨rfl, rfl⟩, rfl, rfl, rfl, rfl, by cbv; try simp⟩
                · rw [hc12]
                  cbv
                  cases h1
                  try dsimp only at h0
                  cases h0
                  exact fin_ok hX rfl ⟨[], _, _, ⟨rfl, rfl⟩, rfl, rfl, rfl, rfl, by cbv; try simp⟩
              · rw [hc11]
                cbv
                cases h1
                try dsimp only at h0
                cases h0
                exact fin_ok hX rfl ⟨[], _, _, ⟨rfl, rfl⟩, rfl, rfl, rfl, rfl, by cbv; try simp⟩
            · rw [hc10]
              cbv
              cases h1
              try dsimp only at h0
              rcases condS h0 with ⟨hc13, h0⟩ | ⟨hc13, h0⟩
              · rw [hc13]
                cbv
                obtain ⟨x137, h1, h0⟩ := bindS h0
                rcases condS h1 with ⟨hc14, h1⟩ | ⟨hc14, h1⟩
                · rw [hc14]
                  cbv
                  rcases condS h1 with ⟨hc15, h1⟩ | ⟨hc15, h1⟩
                  · rw [hc15]
                    cbv
                    cases h1
                    try dsimp only at h0
                    cases h0
                    exact fin_ok hX rfl ⟨[], _, _, ⟨rfl, rfl⟩, rfl, rfl, rfl, rfl, by cbv; try simp⟩
                  · rw [hc15]
                    cbv
                    cases h1
                    try dsimp only at h0
                    cases h0
                    exact fin_ok hX rfl ⟨[], _, _, ⟨rfl, rfl⟩, rfl, rfl, rfl, rfl, by cbv; try simp⟩
                · rw [hc14]
                  cbv
                  cases h1
                  try dsimp only at h0
                  cases h0
                  exact fin_ok hX rfl ⟨[], _, _, ⟨rfl, rfl⟩, rfl, rfl, rfl, rfl, by cbv; try simp⟩
              · rw [hc13]
                cbv
                obtain ⟨⟨b49, c4, x142⟩, h1, h0⟩ := bindS h0
                rcases condS h1 with ⟨hc16, h1⟩ | ⟨hc16, h1⟩
                · rw [hc16]
                  cbv
                  rcases condS h1 with ⟨hc17, h1⟩ | ⟨hc17, h1⟩
                  · rw [hc17]
                    cbv
                    cases h1
                    try dsimp only at h0
                    replace h0 := condT h0 rfl
                    cases h0
                    exact fin_ok hX rfl ⟨[], _, _, ⟨rfl, rfl⟩, rfl, rfl, rfl, rfl, by cbv; try simp⟩
                  · rw [hc17]
                    cbv
                    cases h1
                    try dsimp only at h0
                    rcases condS h0 with ⟨hc18, h0⟩ | ⟨hc18, h0⟩
                    · rw [hc18]
                      cbv
                      cases h0
                      exact fin_ok hX rfl ⟨[], _, _, ⟨rfl, rfl⟩, rfl, rfl, rfl, rfl, by cbv; try simp⟩
                    · rw [hc18]
                      cbv
                      refine call_nil hO hX .i1 22 rfl ?_
                      cbv
                      obtain ⟨⟨b50, n87⟩, hv, h0⟩ := bindS h0
                      try dsimp only at h0
                      refine call_is hO hX (fn_recurrence_Matches hO hv) (by kernel_rfl) [0, 1, 2, 3, 4, 5, 6, 7, 22] rfl ⟨rfl, rfl, rfl, rfl, rfl, rfl, rfl, rfl, rfl, rfl, rfl, rfl, rfl, rfl, rfl, rfl, rfl, rfl, trivial⟩ rfl ?_
                      cbv
                      obtain ⟨⟨n88, n89⟩, hv, h0⟩ := bindS h0
                      try dsimp only at h0
                      refine call_is hO hX (fn_recurrence_Period hO hv) (by kernel_rfl) [0, 1, 2, 3, 4, 5, 6, 7, 8] rfl ⟨rfl, rfl, rfl, rfl, rfl, rfl, rfl, rfl, rfl, rfl, rfl, rfl, rfl, rfl, rfl, rfl, rfl, rfl, trivial⟩ rfl ?_
                      cbv
                      obtain ⟨⟨n90, n91⟩, hv, h0⟩ := bindS h0
                      try dsimp only at h0
                      refine call_is hO hX (fn_recurrence_Period hO hv) (by kernel_rfl) [0, 1, 2, 3, 4, 5, 6, 7, 8] rfl ⟨rfl, rfl, rfl, rfl, rfl, rfl, rfl, rfl, rfl, rfl, rfl, rfl, rfl, rfl, rfl, rfl, rfl, rfl, trivial⟩ rfl ?_
                      cbv
                      obtain ⟨x144, h1, h0⟩ := bindS h0
                      rcases condS h1 with ⟨hc19, h1⟩ | ⟨hc19, h1⟩
                      · rw [hc19]
                        cbv
                        cases h1
                        try dsimp only at h0
                        replace h0 := condT h0 rfl
                        cases h0
                        exact fin_ok hX rfl ⟨[], _, _, ⟨rfl, rfl⟩, rfl, rfl, rfl, rfl, by cbv; try simp⟩
                      · rw [hc19]
                        cbv
                        rcases condS h1 with ⟨hc20, h1⟩ | ⟨hc20, h1⟩
                        · rw [hc20]
                          cbv
                          cases h1
                          try dsimp only at h0
                          replace h0 := condT h0 rfl
                          cases h0
                          exact fin_ok hX rfl ⟨[], _, _, ⟨rfl, rfl⟩, rfl, rfl, rfl, rfl, by cbv; try simp⟩
                        · rw [hc20]
                          cbv
                          rcases condS h1 with ⟨hc21, h1⟩ | ⟨hc21, h1⟩
                          · rw [hc21]
                            cbv
                            cases h1
                            try dsimp only at h0
                            replace h0 := condT h0 rfl
                            cases h0
                            exact fin_ok hX rfl ⟨[], _, _, ⟨rfl, rfl⟩, rfl, rfl, rfl, rfl, by cbv; try simp⟩
                          · rw [hc21]
                            cbv
                            rcases condS h1 with ⟨hc22, h1⟩ | ⟨hc22, h1⟩
                            · rw [hc22]
                              cbv
                              cases h1
                              try dsimp only at h0
                              replace h0 := condT h0 rfl
                              cases h0
                              exact fin_ok hX rfl ⟨[], _, _, ⟨rfl, rfl⟩, rfl, rfl, rfl, rfl, by cbv; try simp⟩
                            · rw [hc22]
                              cbv
                              cases h1
                              try dsimp only at h0
                              rcases condS h0 with ⟨hc23, h0⟩ | ⟨hc23, h0⟩
                              · rw [hc23]
                                cbv
                                cases h0
                                exact fin_ok hX rfl ⟨[], _, _, ⟨rfl, rfl⟩, rfl, rfl, rfl, rfl, by cbv; try simp⟩
                              · rw [hc23]
                                cbv
                                rw [show (O .not true) = false from by subst hO; rfl]
                                cbv
                                obtain ⟨x149, h1, h0⟩ := bindS h0
                                replace h1 := condF h1 (by subst hO; rfl)
                                rcases condS h1 with ⟨hc24, h1⟩ | ⟨hc24, h1⟩
                                · rw [hc24]
                                  cbv
                                  rcases condS h1 with ⟨hc25, h1⟩ | ⟨hc25, h1⟩
                                  · rw [hc25]
                                    cbv
                                    cases h1
                                    try dsimp only at h0
                                    cases h0
                                    exact fin_ok hX rfl ⟨[], _, _, ⟨rfl, rfl⟩, rfl, rfl, rfl, rfl, by cbv; try simp⟩
                                  · rw [hc25]
                                    cbv
                                    cases h1
                                    try dsimp only at h0
                                    cases h0
                                    exact fin_ok hX rfl ⟨[], _, _, ⟨rfl, rfl⟩, rfl, rfl, rfl, rfl, by cbv; try simp⟩
                                · rw [hc24]
                                  cbv
                                  cases h1
                                  try dsimp only at h0
                                  cases h0
                                  exact fin_ok hX rfl ⟨[], _, _, ⟨rfl, rfl⟩, rfl, rfl, rfl, rfl, by cbv; try simp⟩
                · rw [hc16]
                  cbv
                  rcases condS h1 with ⟨hc26, h1⟩ | ⟨hc26, h1⟩
                  · rw [hc26]
                    cbv
                    rcases condS h1 with ⟨hc27, h1⟩ | ⟨hc27, h1⟩
                    · rw [hc27]
                      cbv
                      cases h1
                      try dsimp only at h0
                      replace h0 := condT h0 rfl
                      cases h0
                      exact fin_ok hX rfl ⟨[], _, _, ⟨rfl, rfl⟩, rfl, rfl, rfl, rfl, by cbv; try simp⟩
                    · rw [hc27]
                      cbv
                      cases h1
                      try dsimp only at h0
                      rcases condS h0 with ⟨hc28, h0⟩ | ⟨hc28, h0⟩
                      · rw [hc28]
                        cbv
                        cases h0
                        exact fin_ok hX rfl ⟨[], _, _, ⟨rfl, rfl⟩, rfl, rfl, rfl, rfl, by cbv; try simp⟩
                      · rw [hc28]
                        cbv
                        refine call_nil hO hX .i1 22 rfl ?_
                        cbv
                        obtain ⟨⟨b50, n87⟩, hv, h0⟩ := bindS h0
                        try dsimp only at h0
                        refine call_is hO hX (fn_recurrence_Matches hO hv) (by kernel_rfl) [0, 1, 2, 3, 4, 5, 6, 7, 22] rfl ⟨rfl, rfl, rfl, rfl, rfl, rfl, rfl, rfl, rfl, rfl, rfl, rfl, rfl, rfl, rfl, rfl, rfl, rfl, trivial⟩ rfl ?_
                        cbv
                        obtain ⟨⟨n88, n89⟩, hv, h0⟩ := bindS h0
                        try dsimp only at h0
                        refine call_is hO hX (fn_recurrence_Period hO hv) (by kernel_rfl) [0, 1, 2, 3, 4, 5, 6, 7, 8] rfl ⟨rfl, rfl, rfl, rfl, rfl, rfl, rfl, rfl, rfl, rfl, rfl, rfl, rfl, rfl, rfl, rfl, rfl, rfl, trivial⟩ rfl ?_
                        cbv
                        obtain ⟨⟨n90, n91⟩, hv, h0⟩ := bindS h0
                        try dsimp only at h0
                        refine call_is hO hX (fn_recurrence_Period hO hv) (by kernel_rfl) [0, 1, 2, 3, 4, 5, 6, 7, 8] rfl ⟨rfl, rfl, rfl, rfl, rfl, rfl, rfl, rfl, rfl, rfl, rfl, rfl, rfl, rfl, rfl, rfl, rfl, rfl, trivial⟩ rfl ?_
                        cbv
                        obtain ⟨x144, h1, h0⟩ := bindS h0
                        rcases condS h1 with ⟨hc29, h1⟩ | ⟨hc29, h1⟩
                        · rw [hc29]
                          cbv
                          cases h1
                          try dsimp only at h0
                          replace h0 := condT h0 rfl
                          cases h0
                          exact fin_ok hX rfl ⟨[], _, _, ⟨rfl, rfl⟩, rfl, rfl, rfl, rfl, by cbv; try simp⟩
                        · rw [hc29]
                          cbv
                          rcases condS h1 with ⟨hc30, h1⟩ | ⟨hc30, h1⟩
                          · rw [hc30]
                            cbv
                            cases h1
                            try dsimp only at h0
                            replace h0 := condT h0 rfl
                            cases h0
                            exact fin_ok hX rfl ⟨[], _, _, ⟨rfl, rfl⟩, rfl, rfl, rfl, rfl, by cbv; try simp⟩
                          · rw [hc30]
                            cbv
                            rcases condS h1 with ⟨hc31, h1⟩ | ⟨hc31, h1⟩
                            · rw [hc31]
                              cbv
                              cases h1
                              try dsimp only at h0
                              replace h0 := condT h0 rfl
                              cases h0
                              exact fin_ok hX rfl ⟨[], _, _, ⟨rfl, rfl⟩, rfl, rfl, rfl, rfl, by cbv; try simp⟩
                            · rw [hc31]
                              cbv
                              rcases condS h1 with ⟨hc32, h1⟩ | ⟨hc32, h1⟩
                              · rw [hc32]
                                cbv
                                cases h1
                                try dsimp only at h0
                                replace h0 := condT h0 rfl
                                cases h0
                                exact fin_ok hX rfl ⟨[], _, _, ⟨rfl, rfl⟩, rfl, rfl, rfl, rfl, by cbv; try simp⟩
                              · rw [hc32]
                                cbv
                                cases h1
                                try dsimp only at h0
                                rcases condS h0 with ⟨hc33, h0⟩ | ⟨hc33, h0⟩
                                · rw [hc33]
                                  cbv
                                  cases h0
                                  exact fin_ok hX rfl ⟨[], _, _, ⟨rfl, rfl⟩, rfl, rfl, rfl, rfl, by cbv; try simp⟩
                                · rw [hc33]
                                  cbv
                                  rw [show (O .not false) = true from by subst hO; rfl]
                                  cbv
                                  rw [show (O .not true) = false from by subst hO; rfl]
                                  cbv
                                  obtain ⟨x149, h1, h0⟩ := bindS h0
                                  replace h1 := condT h1 (by subst hO; rfl)
                                  replace h1 := condF h1 (by subst hO; rfl)
                                  cases h1
                                  try dsimp only at h0
                                  cases h0
                                  exact fin_ok hX rfl ⟨[], _, _, ⟨rfl, rfl⟩, rfl, rfl, rfl, rfl, by cbv; try simp⟩
                  · rw [hc26]
                    cbv
                    cases h1
                    try dsimp only at h0
                    rcases condS h0 with ⟨hc34, h0⟩ | ⟨hc34, h0⟩
                    · rw [hc34]
                      cbv
                      cases h0
                      exact fin_ok hX rfl ⟨[], _, _, ⟨rfl, rfl⟩, rfl, rfl, rfl, rfl, by cbv; try simp⟩
                    · rw [hc34]
                      cbv
                      refine call_nil hO hX .i1 22 rfl ?_
                      cbv
                      obtain ⟨⟨b50, n87⟩, hv, h0⟩ := bindS h0
                      try dsimp only at h0
                      refine call_is hO hX (fn_recurrence_Matches hO hv) (by kernel_rfl) [0, 1, 2, 3, 4, 5, 6, 7, 22] rfl ⟨rfl, rfl, rfl, rfl, rfl, rfl, rfl, rfl, rfl, rfl, rfl, rfl, rfl, rfl, rfl, rfl, rfl, rfl, trivial⟩ rfl ?_
                      cbv
                      obtain ⟨⟨n88, n89⟩, hv, h0⟩ := bindS h0
                      try dsimp only at h0
                      refine call_is hO hX (fn_recurrence_Period hO hv) (by kernel_rfl) [0, 1, 2, 3, 4, 5, 6, 7, 8] rfl ⟨rfl, rfl, rfl, rfl, rfl, rfl, rfl, rfl, rfl, rfl, rfl, rfl, rfl, rfl, rfl, rfl, rfl, rfl, trivial⟩ rfl ?_
                      cbv
                      obtain ⟨⟨n90, n91⟩, hv, h0⟩ := bindS h0
                      try dsimp only at h0
                      refine call_is hO hX (fn_recurrence_Period hO hv) (by kernel_rfl) [0, 1, 2, 3, 4, 5, 6, 7, 8] rfl ⟨rfl, rfl, rfl, rfl, rfl, rfl, rfl, rfl, rfl, rfl, rfl, rfl, rfl, rfl, rfl, rfl, rfl, rfl, trivial⟩ rfl ?_
                      cbv
                      obtain ⟨x144, h1, h0⟩ := bindS h0
                      rcases condS h1 with ⟨hc35, h1⟩ | ⟨hc35, h1⟩
                      · rw [hc35]
                        cbv
                        cases h1
                        try dsimp only at h0
                        replace h0 := condT h0 rfl
                        cases h0
                        exact fin_ok hX rfl ⟨[], _, _, ⟨rfl, rfl⟩, rfl, rfl, rfl, rfl, by cbv; try simp⟩
                      · rw [hc35]
                        cbv
                        rcases condS h1 with ⟨hc36, h1⟩ | ⟨hc36, h1⟩
                        · rw [hc36]
                          cbv
                          cases h1
                          try dsimp only at h0
                          replace h0 := condT h0 rfl
                          cases h0
                          exact fin_ok hX rfl ⟨[], _, _, ⟨rfl, rfl⟩, rfl, rfl, rfl, rfl, by cbv; try simp⟩
                        · rw [hc36]
                          cbv
                          rcases condS h1 with ⟨hc37, h1⟩ | ⟨hc37, h1⟩
                          · rw [hc37]
                            cbv
                            cases h1
                            try dsimp only at h0
                            replace h0 := condT h0 rfl
                            cases h0
                            exact fin_ok hX rfl ⟨[], _, _, ⟨rfl, rfl⟩, rfl, rfl, rfl, rfl, by cbv; try simp⟩
                          · rw [hc37]
                            cbv
                            rcases condS h1 with ⟨hc38, h1⟩ | ⟨hc38, h1⟩
                            · rw [hc38]
                              cbv
                              cases h1
                              try dsimp only at h0
                              replace h0 := condT h0 rfl
                              cases h0
                              exact fin_ok hX rfl ⟨[], _, _, ⟨rfl, rfl⟩, rfl, rfl, rfl, rfl, by cbv; try simp⟩
                            · rw [hc38]
                              cbv
                              cases h1
                              try dsimp only at h0
                              rcases condS h0 with ⟨hc39, h0⟩ | ⟨hc39, h0⟩
                              · rw [hc39]
                                cbv
                                cases h0
                                exact fin_ok hX rfl ⟨[], _, _, ⟨rfl, rfl⟩, rfl, rfl, rfl, rfl, by cbv; try simp⟩
                              · rw [hc39]
                                cbv
                                rw [show (O .not false) = true from by subst hO; rfl]
                                cbv
                                rw [show (O .not false) = true from by subst hO; rfl]
                                cbv
                                obtain ⟨x149, h1, h0⟩ := bindS h0
                                replace h1 := condT h1 (by subst hO; rfl)
                                replace h1 := condT h1 (by subst hO; rfl)
                                cases h1
                                try dsimp only at h0
                                cases h0
                                exact fin_ok hX rfl ⟨[], _, _, ⟨rfl, rfl⟩, rfl, rfl, rfl, rfl, by cbv; try simp⟩
end Go.Proofs.Ytmnhfaaaaejpaaa.R
namespace Go.Proofs.Ytmnhfaaaaejpaaa
open Go.RowKit Go.Proofs.Ytmnhfaaaaejpaaa.R
theorem recurrencePositions_walk (f0 N0 c0 u0 ws0 : Int) (Amo0 : Option Addr) (Cmo0 : Nat) (Lmo0 : List Int) (Amd0 : Option Addr) (Cmd0 : Nat) (Lmd0 : List Int) (Ayd0 : Option Addr) (Cyd0 : Nat) (Lyd0 : List Int) (Awk0 : Option Addr) (Cwk0 : Nat) (Lwk0 : List Int) (Ady0 : Option Addr) (Cdy0 : Nat) (Ldy0 : List (Int × Int)) (Ah0 : Option Addr) (Ch0 : Nat) (Lh0 : List Int) (Am0 : Option Addr) (Cm0 : Nat) (Lm0 : List Int) (As0 : Option Addr) (Cs0 : Nat) (Ls0 : List Int) (Aps0 : Option Addr) (Cps0 : Nat) (Lps0 : List Int) (n1 : Int) (n2 : Int) (n3 : Int) (w : World) (hmo0 : IsR w Amo0 Lmo0) (hcmo0 : Lmo0.length ≤ Cmo0) (hmmo0 : Cmo0 ≤ maxLen) (hmd0 : IsR w Amd0 Lmd0) (hcmd0 : Lmd0.length ≤ Cmd0) (hmmd0 : Cmd0 ≤ maxLen) (hyd0 : IsR w Ayd0 Lyd0) (hcyd0 : Lyd0.length ≤ Cyd0) (hmyd0 : Cyd0 ≤ maxLen) (hwk0 : IsR w Awk0 Lwk0) (hcwk0 : Lwk0.length ≤ Cwk0) (hmwk0 : Cwk0 ≤ maxLen) (hdy0 : SpsR w Ady0 Ldy0) (hcdy0 : Ldy0.length ≤ Cdy0) (hmdy0 : Cdy0 ≤ maxLen) (hh0 : IsR w Ah0 Lh0) (hch0 : Lh0.length ≤ Ch0) (hmh0 : Ch0 ≤ maxLen) (hm0 : IsR w Am0 Lm0) (hcm0 : Lm0.length ≤ Cm0) (hmm0 : Cm0 ≤ maxLen) (hs0 : IsR w As0 Ls0) (hcs0 : Ls0.length ≤ Cs0) (hms0 : Cs0 ≤ maxLen) (hps0 : IsR w Aps0 Lps0) (hcps0 : Lps0.length ≤ Cps0) (hmps0 : Cps0 ≤ maxLen) :
    Calls Try.prog 7 #[.agg #[.int .i64 f0, .int .i64 N0, .int .i64 c0, .int .i64 u0, .slice Amo0 (List.length Lmo0) Cmo0, .slice Amd0 (List.length Lmd0) Cmd0, .slice Ayd0 (List.length Lyd0) Cyd0, .slice Awk0 (List.length Lwk0) Cwk0, .slice Ady0 (List.length Ldy0) Cdy0, .slice Ah0 (List.length Lh0) Ch0, .slice Am0 (List.length Lm0) Cm0, .slice As0 (List.length Ls0) Cs0, .slice Aps0 (List.length Lps0) Cps0, .int .i64 ws0], .int .i64 n1, .int .i64 n2, .int .i64 n3] w fun e w' => e = .returned (.bool true) ∧ Below w.heap.size w w' := by
  refine fn_true (fn_law29_RecurrencePositions rfl (pl_RecurrencePositions ⟨f0, N0, c0, u0, ws0, Lmo0, Lmd0, Lyd0, Lwk0, Ldy0, Lh0, Lm0, Ls0, Lps0⟩ n1 n2 n3)) w [.arr false Amo0 Cmo0 .i1 Lmo0, .arr false Amd0 Cmd0 .i1 Lmd0, .arr false Ayd0 Cyd0 .i1 Lyd0, .arr false Awk0 Cwk0 .i1 Lwk0, .arr false Ady0 Cdy0 .i2 Ldy0, .arr false Ah0 Ch0 .i1 Lh0, .arr false Am0 Cm0 .i1 Lm0, .arr false As0 Cs0 .i1 Ls0, .arr false Aps0 Cps0 .i1 Lps0] rfl (hok_ro fun d hd => ?_) _ rfl
  simp at hd
  rcases hd with rfl | rfl | rfl | rfl | rfl | rfl | rfl | rfl | rfl
  · exact is_arr hmo0 hcmo0 hmmo0
  · exact is_arr hmd0 hcmd0 hmmd0
  · exact is_arr hyd0 hcyd0 hmyd0
  · exact is_arr hwk0 hcwk0 hmwk0
  · exact sps_arr hdy0 hcdy0 hmdy0
  · exact is_arr hh0 hch0 hmh0
  · exact is_arr hm0 hcm0 hmm0
  · exact is_arr hs0 hcs0 hms0
  · exact is_arr hps0 hcps0 hmps0
end Go.Proofs.Ytmnhfaaaaejpaaa
