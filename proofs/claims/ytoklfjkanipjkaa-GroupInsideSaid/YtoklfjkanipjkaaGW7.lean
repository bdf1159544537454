/-
  The code does what its models say (printed by lift.py).
-/
import Derived.Test.YtoklfjkanipjkaaGM
import Derived.Test.YtoklfjkanipjkaaManW
import Derived.Test.YtoklfjkanipjkaaGW5
import Derived.Test.YtoklfjkanipjkaaGW6
namespace Go.Proofs.Ytoklfjkanipjkaa
open Go.RowKit
set_option maxRecDepth 100000

set_option maxHeartbeats 4000000 in
theorem fn_ref16_Valid {O0 : Ops} (hO0 : O0 = std) {c_1 : Int} {c_2 : Int} {c_3 : List (Int × Int)} {r1 : Bool} (h : m_ref16_Valid O0 c_1 c_2 c_3 = some r1) :
    Fn Try.prog 16 [.agg [.int .i64 c_1, .int .i64 c_2, .sl 0]] [.arr false .i2 c_3] (fun v c => v = .c (.bool r1) ∧ c = []) := by
  refine fn_run tab_holds eqs_holds mixed [(7, (.seg 1 [0, 1, 2, 3, 4, 5, 6, 7, 8, 9, 10, 11, 12, 13, 14, 15, 16, 17, 18, 19, 20, 21, 22, 23, 24, 25, 26, 27, 28, 29, 30, 31, 32, 33, 34, 35, 36, 37, 38, 39, 40, 41, 42, 43, 44, 45, 46, 47, 48, 49, 50, 51, 52] .fin), [])] Try.func16 (by kernel_rfl) (by kernel_rfl) (Nat.le_of_ble_eq_true rfl) ?_
  intro O X hO hX
  rw [hO0, ← hO] at h
  unfold m_ref16_Valid at h
  have h0 := h; clear h
  cbv
  obtain ⟨x78, h1, h0⟩ := bindS h0
  rcases condS h1 with ⟨hc0, h1⟩ | ⟨hc0, h1⟩
  · rw [hc0]
    cbv
    cases h1
    try dsimp only at h0
    replace h0 := condT h0 rfl
    cases h0
    exact fin_ok hX rfl ⟨[], _, _, ⟨rfl, rfl⟩, rfl, rfl, rfl, rfl, by cbv; try simp⟩
  · rw [hc0]
    cbv
    rcases condS h1 with ⟨hc1, h1⟩ | ⟨hc1, h1⟩
    · rw [hc1]
      cbv
      cases h1
      try dsimp only at h0
      replace h0 := condT h0 rfl
      cases h0
      exact fin_ok hX rfl ⟨[], _, _, ⟨rfl, rfl⟩, rfl, rfl, rfl, rfl, by cbv; try simp⟩
    · rw [hc1]
      cbv
      rcases condS h1 with ⟨hc2, h1⟩ | ⟨hc2, h1⟩
      · rw [hc2]
        cbv
        cases h1
        try dsimp only at h0
        replace h0 := condT h0 rfl
        cases h0
        exact fin_ok hX rfl ⟨[], _, _, ⟨rfl, rfl⟩, rfl, rfl, rfl, rfl, by cbv; try simp⟩
      · rw [hc2]
        cbv
        rcases condS h1 with ⟨hc3, h1⟩ | ⟨hc3, h1⟩
        · rw [hc3]
          cbv
          cases h1
          try dsimp only at h0
          replace h0 := condT h0 rfl
          cases h0
          exact fin_ok hX rfl ⟨[], _, _, ⟨rfl, rfl⟩, rfl, rfl, rfl, rfl, by cbv; try simp⟩
        · rw [hc3]
          cbv
          rcases condS h1 with ⟨hc4, h1⟩ | ⟨hc4, h1⟩
          · rw [hc4]
            cbv
            cases h1
            try dsimp only at h0
            replace h0 := condT h0 rfl
            cases h0
            exact fin_ok hX rfl ⟨[], _, _, ⟨rfl, rfl⟩, rfl, rfl, rfl, rfl, by cbv; try simp⟩
          · rw [hc4]
            cbv
            rcases condS h1 with ⟨hc5, h1⟩ | ⟨hc5, h1⟩
            · rw [hc5]
              cbv
              cases h1
              try dsimp only at h0
              replace h0 := condT h0 rfl
              cases h0
              exact fin_ok hX rfl ⟨[], _, _, ⟨rfl, rfl⟩, rfl, rfl, rfl, rfl, by cbv; try simp⟩
            · rw [hc5]
              cbv
              obtain ⟨hg6, h1⟩ := grdS h1
              refine ⟨idx_of hO hg6, ?_⟩
              obtain ⟨hg7, h1⟩ := grdS h1
              refine ⟨kin_of hO hg7, ?_⟩
              cases h1
              try dsimp only at h0
              rcases condS h0 with ⟨hc8, h0⟩ | ⟨hc8, h0⟩
              · rw [hc8]
                cbv
                cases h0
                exact fin_ok hX rfl ⟨[], _, _, ⟨rfl, rfl⟩, rfl, rfl, rfl, rfl, by cbv; try simp⟩
              · rw [hc8]
                cbv
                obtain ⟨e1, hi, h0⟩ := bindS h0
                obtain ⟨I1, hI1, hi⟩ := loopS hi
                refine loop1 tab_holds eqs_holds mixed [(7, (.seg 1 [0, 1, 2, 3, 4, 5, 6, 7, 8, 9, 10, 11, 12, 13, 14, 15, 16, 17, 18, 19, 20, 21, 22, 23, 24, 25, 26, 27, 28, 29, 30, 31, 32, 33, 34, 35, 36, 37, 38, 39, 40, 41, 42, 43, 44, 45, 46, 47, 48, 49, 50, 51, 52] .fin), [])] hO hX I1 (fun y => [(5, .junk), (15, .junk), (20, .junk), (25, .junk), (30, .junk), (35, .junk), (4, .c (.int .i64 y.2))]) (fun _ => []) (fun y => y.1) _ (by kernel_rfl) hi (by cbv; try simp) ?_
                rintro ⟨n1, i3⟩ hi
                cbv
                rw [hI1] at hi
                obtain ⟨n1, rfl, x1, h1, hi1⟩ := iterS hi
                unfold m_ref16_Valid_L1 at h1
                try dsimp only at h1
                rcases condS h1 with ⟨hc9, h1⟩ | ⟨hc9, h1⟩
                · rw [hc9]
                  cbv
                  obtain ⟨x81, h2, h1⟩ := bindS h1
                  rcases condS h2 with ⟨hc10, h2⟩ | ⟨hc10, h2⟩
                  · rw [hc10]
                    cbv
                    obtain ⟨hg11, h2⟩ := grdS h2
                    refine ⟨idx_of hO hg11, ?_⟩
                    obtain ⟨hg12, h2⟩ := grdS h2
                    refine ⟨kin_of hO hg12, ?_⟩
                    cases h2
                    try dsimp only at h1
                    replace h1 := condT h1 rfl
                    refine ⟨idx_of hO hg11, ?_⟩
                    refine ⟨kin_of hO hg12, ?_⟩
                    cases h1
                    cases exitI hi1
                    try dsimp only at h0
                    cases h0
                    exact fin_ok hX rfl ⟨[], _, _, ⟨rfl, rfl⟩, rfl, rfl, rfl, rfl, by cbv; try simp⟩
                  · rw [hc10]
                    cbv
                    rcases condS h2 with ⟨hc11, h2⟩ | ⟨hc11, h2⟩
                    · rw [hc11]
                      cbv
                      obtain ⟨hg12, h2⟩ := grdS h2
                      refine ⟨idx_of hO hg12, ?_⟩
                      obtain ⟨hg13, h2⟩ := grdS h2
                      refine ⟨kin_of hO hg13, ?_⟩
                      cases h2
                      try dsimp only at h1
                      replace h1 := condT h1 rfl
                      refine ⟨idx_of hO hg12, ?_⟩
                      refine ⟨kin_of hO hg13, ?_⟩
                      refine ⟨idx_of hO hg12, ?_⟩
                      refine ⟨kin_of hO hg13, ?_⟩
                      cases h1
                      cases exitI hi1
                      try dsimp only at h0
                      cases h0
                      exact fin_ok hX rfl ⟨[], _, _, ⟨rfl, rfl⟩, rfl, rfl, rfl, rfl, by cbv; try simp⟩
                    · rw [hc11]
                      cbv
                      rcases condS h2 with ⟨hc12, h2⟩ | ⟨hc12, h2⟩
                      · rw [hc12]
                        cbv
                        obtain ⟨hg13, h2⟩ := grdS h2
                        refine ⟨idx_of hO hg13, ?_⟩
                        obtain ⟨hg14, h2⟩ := grdS h2
                        refine ⟨kin_of hO hg14, ?_⟩
                        cases h2
                        try dsimp only at h1
                        replace h1 := condT h1 rfl
                        refine ⟨idx_of hO hg13, ?_⟩
                        refine ⟨kin_of hO hg14, ?_⟩
                        refine ⟨idx_of hO hg13, ?_⟩
                        refine ⟨kin_of hO hg14, ?_⟩
                        refine ⟨idx_of hO hg13, ?_⟩
                        refine ⟨kin_of hO hg14, ?_⟩
                        cases h1
                        cases exitI hi1
                        try dsimp only at h0
                        cases h0
                        exact fin_ok hX rfl ⟨[], _, _, ⟨rfl, rfl⟩, rfl, rfl, rfl, rfl, by cbv; try simp⟩
                      · rw [hc12]
                        cbv
                        rcases condS h2 with ⟨hc13, h2⟩ | ⟨hc13, h2⟩
                        · rw [hc13]
                          cbv
                          obtain ⟨hg14, h2⟩ := grdS h2
                          refine ⟨idx_of hO hg14, ?_⟩
                          obtain ⟨hg15, h2⟩ := grdS h2
                          refine ⟨kin_of hO hg15, ?_⟩
                          refine ⟨idx_of hO hg14, ?_⟩
                          refine ⟨kin_of hO hg15, ?_⟩
                          refine ⟨idx_of hO hg14, ?_⟩
                          refine ⟨kin_of hO hg15, ?_⟩
                          refine ⟨idx_of hO hg14, ?_⟩
                          refine ⟨kin_of hO hg15, ?_⟩
                          refine ⟨idx_of hO hg14, ?_⟩
                          refine ⟨kin_of hO hg15, ?_⟩
                          obtain ⟨hg16, h2⟩ := grdS h2
                          refine ⟨inr_of hO hg16, ?_⟩
                          obtain ⟨hg17, h2⟩ := grdS h2
                          refine ⟨idx_of hO hg17, ?_⟩
                          obtain ⟨hg18, h2⟩ := grdS h2
                          refine ⟨kin_of hO hg18, ?_⟩
                          cases h2
                          try dsimp only at h1
                          rcases condS h1 with ⟨hc19, h1⟩ | ⟨hc19, h1⟩
                          · rw [hc19]
                            cbv
                            cases h1
                            cases exitI hi1
                            try dsimp only at h0
                            cases h0
                            exact fin_ok hX rfl ⟨[], _, _, ⟨rfl, rfl⟩, rfl, rfl, rfl, rfl, by cbv; try simp⟩
                          · rw [hc19]
                            cbv
                            obtain ⟨hg20, h1⟩ := grdS h1
                            refine ⟨inr_of hO hg20, ?_⟩
                            cases h1
                            exact ⟨_, [0, 1], nextI hI1 hi1, by cbv; try simp, by first | exact Nat.lt_succ_self _ | omega⟩
                        · rw [hc13]
                          cbv
                          obtain ⟨hg14, h2⟩ := grdS h2
                          refine ⟨idx_of hO hg14, ?_⟩
                          obtain ⟨hg15, h2⟩ := grdS h2
                          refine ⟨kin_of hO hg15, ?_⟩
                          cases h2
                          try dsimp only at h1
                          replace h1 := condF h1 rfl
                          refine ⟨idx_of hO hg14, ?_⟩
                          refine ⟨kin_of hO hg15, ?_⟩
                          refine ⟨idx_of hO hg14, ?_⟩
                          refine ⟨kin_of hO hg15, ?_⟩
                          refine ⟨idx_of hO hg14, ?_⟩
                          refine ⟨kin_of hO hg15, ?_⟩
                          obtain ⟨hg16, h1⟩ := grdS h1
                          refine ⟨inr_of hO hg16, ?_⟩
                          cases h1
                          exact ⟨_, [0, 1], nextI hI1 hi1, by cbv; try simp, by first | exact Nat.lt_succ_self _ | omega⟩
                · rw [hc9]
                  cbv
                  cases h1
                  cases exitI hi1
                  try dsimp only at h0
                  obtain ⟨n56, hv, h0⟩ := bindS h0
                  refine call_go hO hX (fn_ref16_least hO hv) (by kernel_rfl) [0] rfl ⟨rfl, rfl, trivial⟩ rfl ?_
                  rintro _ _ ⟨rfl, rfl⟩
                  cbv
                  cases h0
                  exact fin_ok hX rfl ⟨[], _, _, ⟨rfl, rfl⟩, rfl, rfl, rfl, rfl, by cbv; try simp⟩
set_option maxHeartbeats 4000000 in
theorem fn_law16_is {O0 : Ops} (hO0 : O0 = std) {c_1 : Int} {c_2 : Int} {e_1 : Int} {want_1 : Int} {want_2 : Int} {f_1 : Int} {c_3 : List (Int × Int)} {want_3 : List (Int × Int)} {r1 : Bool} (h : m_law16_is O0 c_1 c_2 e_1 want_1 want_2 f_1 c_3 want_3 = some r1) :
    Fn Try.prog 17 [.agg [.int .i64 c_1, .int .i64 c_2, .sl 0], .c (.int .i64 e_1), .agg [.int .i64 want_1, .int .i64 want_2, .sl 1], .c (.int .i64 f_1)] [.arr false .i2 c_3, .arr false .i2 want_3] (fun v c => v = .c (.bool r1) ∧ c = []) := by
  refine fn_run tab_holds eqs_holds mixed [] Try.func17 (by kernel_rfl) (by kernel_rfl) (Nat.le_of_ble_eq_true rfl) ?_
  intro O X hO hX
  rw [hO0, ← hO] at h
  unfold m_law16_is at h
  have h0 := h; clear h
  cbv
  obtain ⟨x91, h1, h0⟩ := bindS h0
  rcases condS h1 with ⟨hc0, h1⟩ | ⟨hc0, h1⟩
  · rw [hc0]
    cbv
    obtain ⟨b24, hv, h1⟩ := bindS h1
    refine call_go hO hX (fn_ref16_Same hO hv) (by kernel_rfl) [0, 1] rfl ⟨rfl, rfl, rfl, rfl, trivial⟩ rfl ?_
    rintro _ _ ⟨rfl, rfl⟩
    cbv
    rcases condS h1 with ⟨hc1, h1⟩ | ⟨hc1, h1⟩
    · rw [hc1]
      cbv
      rcases condS h1 with ⟨hc2, h1⟩ | ⟨hc2, h1⟩
      · rw [hc2]
        cbv
        cases h1
        try dsimp only at h0
        cases h0
        exact fin_ok hX rfl ⟨[], _, _, ⟨rfl, rfl⟩, rfl, rfl, rfl, rfl, by cbv; try simp⟩
      · rw [hc2]
        cbv
        obtain ⟨b25, hv, h1⟩ := bindS h1
        refine call_go hO hX (fn_ref16_Valid hO hv) (by kernel_rfl) [0] rfl ⟨rfl, rfl, trivial⟩ rfl ?_
        rintro _ _ ⟨rfl, rfl⟩
        cbv
        cases h1
        try dsimp only at h0
        cases h0
        exact fin_ok hX rfl ⟨[], _, _, ⟨rfl, rfl⟩, rfl, rfl, rfl, rfl, by cbv; try simp⟩
    · rw [hc1]
      cbv
      cases h1
      try dsimp only at h0
      cases h0
      exact fin_ok hX rfl ⟨[], _, _, ⟨rfl, rfl⟩, rfl, rfl, rfl, rfl, by cbv; try simp⟩
  · rw [hc0]
    cbv
    cases h1
    try dsimp only at h0
    cases h0
    exact fin_ok hX rfl ⟨[], _, _, ⟨rfl, rfl⟩, rfl, rfl, rfl, rfl, by cbv; try simp⟩
end Go.Proofs.Ytoklfjkanipjkaa
