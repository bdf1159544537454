/-
  The code does what its models say (printed by lift.py).
-/
import Derived.Test.YtkdffpncpikdmaaRM
import Derived.Test.YtkdffpncpikdmaaSrtR
import Derived.Test.YtkdffpncpikdmaaRW3
import Derived.Test.YtkdffpncpikdmaaRW13
import Derived.Test.YtkdffpncpikdmaaRW14
import Derived.Test.YtkdffpncpikdmaaRW17
import Derived.Test.YtkdffpncpikdmaaRW21
import Derived.Test.YtkdffpncpikdmaaRW22
import Derived.Test.YtkdffpncpikdmaaRW24
namespace Go.Proofs.Ytkdffpncpikdmaa
open Go.RowKit
set_option maxRecDepth 100000

set_option maxHeartbeats 40000000 in
theorem fn_law35_RectanglePointwise {O0 : Ops} (hO0 : O0 = std) {a_1 : List (Int × Int × Int × Int)} {b_1 : List (Int × Int × Int × Int)} {r1 : Bool} (h : m_law35_RectanglePointwise O0 a_1 b_1 = some r1) :
    Fn Try.prog 5 [.c (.sl 0), .c (.sl 1)] [.arr false .i4 a_1, .arr false .i4 b_1] (fun v c => v = .c (.bool r1) ∧ c = []) := by
  refine fn_run tab_holds eqs_holds mixed [] Try.func5 (by kernel_rfl) (by kernel_rfl) (Nat.le_of_ble_eq_true rfl) ?_
  intro O X hO hX
  rw [hO0, ← hO] at h
  unfold m_law35_RectanglePointwise at h
  have h0 := h; clear h
  cbv
  obtain ⟨b83, hv, h0⟩ := bindS h0
  refine call_is hO hX (fn_law35_awake hO hv) (by kernel_rfl) [] rfl trivial rfl ?_
  cbv
  rcases condS h0 with ⟨hc1, h0⟩ | ⟨hc1, h0⟩
  · rw [hc1]
    cbv
    cases h0
    exact fin_ok hX rfl ⟨[], _, _, ⟨rfl, rfl⟩, rfl, rfl, rfl, rfl, by cbv; try simp⟩
  · as_aux_lemma =>
    rw [hc1]
    cbv
    obtain ⟨x230, h1, h0⟩ := bindS h0
    rcases condS h1 with ⟨hc2, h1⟩ | ⟨hc2, h1⟩
    · rw [hc2]
      cbv
      cases h1
      try dsimp only at h0
      replace h0 := condT h0 rfl
      cases h0
      exact fin_ok hX rfl ⟨[], _, _, ⟨rfl, rfl⟩, rfl, rfl, rfl, rfl, by cbv; try simp⟩
    · as_aux_lemma =>
      rw [hc2]
      cbv
      rcases condS h1 with ⟨hc3, h1⟩ | ⟨hc3, h1⟩
      · rw [hc3]
        cbv
        cases h1
        try dsimp only at h0
        replace h0 := condT h0 rfl
        cases h0
        exact fin_ok hX rfl ⟨[], _, _, ⟨rfl, rfl⟩, rfl, rfl, rfl, rfl, by cbv; try simp⟩
      · as_aux_lemma =>
        rw [hc3]
        cbv
        obtain ⟨b84, hv, h1⟩ := bindS h1
        refine call_is hO hX (fn_ref35_List hO hv) (by kernel_rfl) [0] rfl ⟨rfl, rfl, trivial⟩ rfl ?_
        cbv
        rcases condS h1 with ⟨hc4, h1⟩ | ⟨hc4, h1⟩
        · rw [hc4]
          cbv
          cases h1
          try dsimp only at h0
          replace h0 := condT h0 rfl
          cases h0
          exact fin_ok hX rfl ⟨[], _, _, ⟨rfl, rfl⟩, rfl, rfl, rfl, rfl, by cbv; try simp⟩
        · as_aux_lemma =>
          rw [hc4]
          cbv
          obtain ⟨b85, hv, h1⟩ := bindS h1
          refine call_is hO hX (fn_ref35_List hO hv) (by kernel_rfl) [1] rfl ⟨rfl, rfl, trivial⟩ rfl ?_
          cbv
          cases h1
          try dsimp only at h0
          rcases condS h0 with ⟨hc5, h0⟩ | ⟨hc5, h0⟩
          · rw [hc5]
            cbv
            cases h0
            exact fin_ok hX rfl ⟨[], _, _, ⟨rfl, rfl⟩, rfl, rfl, rfl, rfl, by cbv; try simp⟩
          · as_aux_lemma =>
            rw [hc5]
            cbv
            obtain ⟨⟨l236, n90⟩, hv, h0⟩ := bindS h0
            try dsimp only at h0
            refine call_is hO hX (fn_rectangle_Union hO hv) (by kernel_rfl) [0, 1] rfl ⟨rfl, rfl, rfl, rfl, trivial⟩ rfl ?_
            cbv
            obtain ⟨⟨l237, n91⟩, hv, h0⟩ := bindS h0
            try dsimp only at h0
            refine call_is hO hX (fn_rectangle_Meet hO hv) (by kernel_rfl) [0, 1] rfl ⟨rfl, rfl, rfl, rfl, trivial⟩ rfl ?_
            cbv
            obtain ⟨⟨l238, n92⟩, hv, h0⟩ := bindS h0
            try dsimp only at h0
            refine call_is hO hX (fn_rectangle_Minus hO hv) (by kernel_rfl) [0, 1] rfl ⟨rfl, rfl, rfl, rfl, trivial⟩ rfl ?_
            cbv
            obtain ⟨x232, h1, h0⟩ := bindS h0
            rcases condS h1 with ⟨hc6, h1⟩ | ⟨hc6, h1⟩
            · rw [hc6]
              cbv
              cases h1
              try dsimp only at h0
              replace h0 := condT h0 rfl
              cases h0
              exact fin_ok hX rfl ⟨[], _, _, ⟨rfl, rfl⟩, rfl, rfl, rfl, rfl, by cbv; try simp⟩
            · as_aux_lemma =>
              rw [hc6]
              cbv
              rcases condS h1 with ⟨hc7, h1⟩ | ⟨hc7, h1⟩
              · rw [hc7]
                cbv
                cases h1
                try dsimp only at h0
                replace h0 := condT h0 rfl
                cases h0
                exact fin_ok hX rfl ⟨[], _, _, ⟨rfl, rfl⟩, rfl, rfl, rfl, rfl, by cbv; try simp⟩
              · as_aux_lemma =>
                rw [hc7]
                cbv
                cases h1
                try dsimp only at h0
                rcases condS h0 with ⟨hc8, h0⟩ | ⟨hc8, h0⟩
                · rw [hc8]
                  cbv
                  cases h0
                  exact fin_ok hX rfl ⟨[], _, _, ⟨rfl, rfl⟩, rfl, rfl, rfl, rfl, by cbv; try simp⟩
                · as_aux_lemma =>
                  rw [hc8]
                  cbv
                  obtain ⟨⟨l251, l252⟩, hv, h0⟩ := bindS h0
                  try dsimp only at h0
                  refine call_is hO hX (fn_law35_critical hO hv) (by kernel_rfl) [5, 0, 1] rfl ⟨rfl, rfl, rfl, rfl, rfl, rfl, trivial⟩ rfl ?_
                  cbv
                  obtain ⟨e1, hi, h0⟩ := bindS h0
                  obtain ⟨I2, hI2, hi⟩ := loopS hi
                  refine loop1 tab_holds eqs_holds mixed [] hO hX I2 (fun y => [(12, .junk), (39, .junk), (42, .junk), (43, .junk), (45, .junk), (48, .junk), (49, .junk), (51, .junk), (54, .junk), (55, .junk), (67, .junk), (70, .junk), (71, .junk), (72, .junk), (73, .junk), (76, .c (.int .i64 y.2))]) (fun _ => []) (fun y => y.1) _ (by kernel_rfl) hi (by cbv; try simp) ?_
                  refine allp ?_
                  intro n2
                  intro x266 hi
                  cbv
                  rw [hI2] at hi
                  obtain ⟨n2, rfl, x2, h1, hi2⟩ := iterS hi
                  unfold m_law35_RectanglePointwise_L2 at h1
                  try dsimp only at h1
                  rcases condS h1 with ⟨hc9, h1⟩ | ⟨hc9, h1⟩
                  · as_aux_lemma =>
                    rw [hc9]
                    cbv
                    obtain ⟨hg10, h1⟩ := grdS h1
                    refine ⟨idx_of hO hg10, ?_⟩
                    obtain ⟨hg11, h1⟩ := grdS h1
                    refine ⟨kin_of hO hg11, ?_⟩
                    obtain ⟨e2, hi, h1⟩ := bindS h1
                    obtain ⟨I1, hI1, hi⟩ := loopS hi
                    refine loop1 tab_holds eqs_holds mixed [] hO hX I1 (fun y => [(78, .junk), (82, .c (.int .i64 y.2))]) (fun _ => []) (fun y => y.1) _ (by kernel_rfl) hi (by cbv; try simp) ?_
                    refine allp ?_
                    intro n1
                    intro x267 hi
                    cbv
                    rw [hI1] at hi
                    obtain ⟨n1, rfl, x1, h2, hi1⟩ := iterS hi
                    unfold m_law35_RectanglePointwise_L1 at h2
                    try dsimp only at h2
                    rcases condS h2 with ⟨hc12, h2⟩ | ⟨hc12, h2⟩
                    · as_aux_lemma =>
                      rw [hc12]
                      cbv
                      obtain ⟨hg13, h2⟩ := grdS h2
                      refine ⟨idx_of hO hg13, ?_⟩
                      obtain ⟨hg14, h2⟩ := grdS h2
                      refine ⟨kin_of hO hg14, ?_⟩
                      obtain ⟨b109, hv, h2⟩ := bindS h2
                      refine call_is hO hX (fn_law35_in hO hv) (by kernel_rfl) [0] rfl ⟨rfl, rfl, trivial⟩ rfl ?_
                      cbv
                      obtain ⟨b110, hv, h2⟩ := bindS h2
                      refine call_is hO hX (fn_law35_in hO hv) (by kernel_rfl) [1] rfl ⟨rfl, rfl, trivial⟩ rfl ?_
                      cbv
                      obtain ⟨x273, h3, h2⟩ := bindS h2
                      obtain ⟨b111, hv, h3⟩ := bindS h3
                      refine call_is hO hX (fn_law35_in hO hv) (by kernel_rfl) [2] rfl ⟨rfl, rfl, trivial⟩ rfl ?_
                      cbv
                      rcases condS h3 with ⟨hc15, h3⟩ | ⟨hc15, h3⟩
                      · as_aux_lemma =>
                        rw [hc15]
                        cbv
                        rcases condS h3 with ⟨hc16, h3⟩ | ⟨hc16, h3⟩
                        · rw [hc16]
                          cbv
                          cases h3
                          try dsimp only at h2
                          replace h2 := condT h2 rfl
                          cases h2
                          cases exitI hi1
                          try dsimp only at h1
                          cases h1
                          cases exitI hi2
                          try dsimp only at h0
                          cases h0
                          exact fin_ok hX rfl ⟨[], _, _, ⟨rfl, rfl⟩, rfl, rfl, rfl, rfl, by cbv; try simp⟩
                        · as_aux_lemma =>
                          rw [hc16]
                          cbv
                          obtain ⟨b112, hv, h3⟩ := bindS h3
                          refine call_is hO hX (fn_law35_in hO hv) (by kernel_rfl) [3] rfl ⟨rfl, rfl, trivial⟩ rfl ?_
                          cbv
                          rcases condS h3 with ⟨hc17, h3⟩ | ⟨hc17, h3⟩
                          · rw [hc17]
                            cbv
                            cases h3
                            try dsimp only at h2
                            replace h2 := condT h2 rfl
                            cases h2
                            cases exitI hi1
                            try dsimp only at h1
                            cases h1
                            cases exitI hi2
                            try dsimp only at h0
                            cases h0
                            exact fin_ok hX rfl ⟨[], _, _, ⟨rfl, rfl⟩, rfl, rfl, rfl, rfl, by cbv; try simp⟩
                          · as_aux_lemma =>
                            rw [hc17]
                            cbv
                            obtain ⟨b113, hv, h3⟩ := bindS h3
                            refine call_is hO hX (fn_law35_in hO hv) (by kernel_rfl) [4] rfl ⟨rfl, rfl, trivial⟩ rfl ?_
                            cbv
                            rcases condS h3 with ⟨hc18, h3⟩ | ⟨hc18, h3⟩
                            · rw [hc18]
                              cbv
                              cases h3
                              try dsimp only at h2
                              replace h2 := condT h2 rfl
                              cases h2
                              cases exitI hi1
                              try dsimp only at h1
                              cases h1
                              cases exitI hi2
                              try dsimp only at h0
                              cases h0
                              exact fin_ok hX rfl ⟨[], _, _, ⟨rfl, rfl⟩, rfl, rfl, rfl, rfl, by cbv; try simp⟩
                            · rw [hc18]
                              cbv
                              obtain ⟨b114, hv, h3⟩ := bindS h3
                              refine call_is hO hX (fn_rectangle_Has hO hv) (by kernel_rfl) [0] rfl ⟨rfl, rfl, trivial⟩ rfl ?_
                              cbv
                              cases h3
                              try dsimp only at h2
                              rcases condS h2 with ⟨hc19, h2⟩ | ⟨hc19, h2⟩
                              · rw [hc19]
                                cbv
                                cases h2
                                cases exitI hi1
                                try dsimp only at h1
                                cases h1
                                cases exitI hi2
                                try dsimp only at h0
                                cases h0
                                exact fin_ok hX rfl ⟨[], _, _, ⟨rfl, rfl⟩, rfl, rfl, rfl, rfl, by cbv; try simp⟩
                              · rw [hc19]
                                cbv
                                obtain ⟨hg20, h2⟩ := grdS h2
                                refine ⟨inr_of hO hg20, ?_⟩
                                cases h2
                                exact ⟨_, [0, 1, 2, 3, 4, 5, 6, 7], nextI hI1 hi1, by cbv; try simp, by first | exact Nat.lt_succ_self _ | omega⟩
                      · as_aux_lemma =>
                        rw [hc15]
                        cbv
                        rcases condS h3 with ⟨hc21, h3⟩ | ⟨hc21, h3⟩
                        · rw [hc21]
                          cbv
                          cases h3
                          try dsimp only at h2
                          replace h2 := condT h2 rfl
                          cases h2
                          cases exitI hi1
                          try dsimp only at h1
                          cases h1
                          cases exitI hi2
                          try dsimp only at h0
                          cases h0
                          exact fin_ok hX rfl ⟨[], _, _, ⟨rfl, rfl⟩, rfl, rfl, rfl, rfl, by cbv; try simp⟩
                        · as_aux_lemma =>
                          rw [hc21]
                          cbv
                          obtain ⟨b115, hv, h3⟩ := bindS h3
                          refine call_is hO hX (fn_law35_in hO hv) (by kernel_rfl) [3] rfl ⟨rfl, rfl, trivial⟩ rfl ?_
                          cbv
                          rcases condS h3 with ⟨hc22, h3⟩ | ⟨hc22, h3⟩
                          · rw [hc22]
                            cbv
                            cases h3
                            try dsimp only at h2
                            replace h2 := condT h2 rfl
                            cases h2
                            cases exitI hi1
                            try dsimp only at h1
                            cases h1
                            cases exitI hi2
                            try dsimp only at h0
                            cases h0
                            exact fin_ok hX rfl ⟨[], _, _, ⟨rfl, rfl⟩, rfl, rfl, rfl, rfl, by cbv; try simp⟩
                          · as_aux_lemma =>
                            rw [hc22]
                            cbv
                            obtain ⟨b116, hv, h3⟩ := bindS h3
                            refine call_is hO hX (fn_law35_in hO hv) (by kernel_rfl) [4] rfl ⟨rfl, rfl, trivial⟩ rfl ?_
                            cbv
                            rcases condS h3 with ⟨hc23, h3⟩ | ⟨hc23, h3⟩
                            · rw [hc23]
                              cbv
                              cases h3
                              try dsimp only at h2
                              replace h2 := condT h2 rfl
                              cases h2
                              cases exitI hi1
                              try dsimp only at h1
                              cases h1
                              cases exitI hi2
                              try dsimp only at h0
                              cases h0
                              exact fin_ok hX rfl ⟨[], _, _, ⟨rfl, rfl⟩, rfl, rfl, rfl, rfl, by cbv; try simp⟩
                            · rw [hc23]
                              cbv
                              obtain ⟨b117, hv, h3⟩ := bindS h3
                              refine call_is hO hX (fn_rectangle_Has hO hv) (by kernel_rfl) [0] rfl ⟨rfl, rfl, trivial⟩ rfl ?_
                              cbv
                              cases h3
                              try dsimp only at h2
                              rcases condS h2 with ⟨hc24, h2⟩ | ⟨hc24, h2⟩
                              · rw [hc24]
                                cbv
                                cases h2
                                cases exitI hi1
                                try dsimp only at h1
                                cases h1
                                cases exitI hi2
                                try dsimp only at h0
                                cases h0
                                exact fin_ok hX rfl ⟨[], _, _, ⟨rfl, rfl⟩, rfl, rfl, rfl, rfl, by cbv; try simp⟩
                              · rw [hc24]
                                cbv
                                obtain ⟨hg25, h2⟩ := grdS h2
                                refine ⟨inr_of hO hg25, ?_⟩
                                cases h2
                                exact ⟨_, [0, 1, 2, 3, 4, 5, 6, 7], nextI hI1 hi1, by cbv; try simp, by first | exact Nat.lt_succ_self _ | omega⟩
                    · rw [hc12]
                      cbv
                      cases h2
                      cases exitI hi1
                      try dsimp only at h1
                      obtain ⟨hg26, h1⟩ := grdS h1
                      refine ⟨inr_of hO hg26, ?_⟩
                      cases h1
                      exact ⟨_, [0, 1, 2, 3, 4, 5, 6, 7], nextI hI2 hi2, by cbv; try simp, by first | exact Nat.lt_succ_self _ | omega⟩
                  · rw [hc9]
                    cbv
                    cases h1
                    cases exitI hi2
                    try dsimp only at h0
                    cases h0
                    exact fin_ok hX rfl ⟨[], _, _, ⟨rfl, rfl⟩, rfl, rfl, rfl, rfl, by cbv; try simp⟩
end Go.Proofs.Ytkdffpncpikdmaa
