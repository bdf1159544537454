/-
  The code does what its models say (printed by lift.py).
-/
import Derived.Test.YtegmjohhgedakaaBM
import Derived.Test.YtegmjohhgedakaaSrtB
import Derived.Test.YtegmjohhgedakaaBW1
import Derived.Test.YtegmjohhgedakaaBW2
import Derived.Test.YtegmjohhgedakaaBW4
import Derived.Test.YtegmjohhgedakaaBW5
namespace Go.Proofs.Ytegmjohhgedakaa
open Go.RowKit
set_option maxRecDepth 100000

set_option maxHeartbeats 40000000 in
theorem fn_ref45_Consistent {O0 : Ops} (hO0 : O0 = std) {n_1 : Int} {l_1 : List (Int × Int × Int)} {r1 : Bool} (h : m_ref45_Consistent O0 n_1 l_1 = some r1) :
    Fn Try.prog 15 [.c (.int .i64 n_1), .c (.sl 0)] [.arr false .i3 l_1] (fun v c => v = .c (.bool r1) ∧ c = []) := by
  refine fn_run tab_holds eqs_holds mixed [] Try.func15 (by kernel_rfl) (by kernel_rfl) (Nat.le_of_ble_eq_true rfl) ?_
  intro O X hO hX
  rw [hO0, ← hO] at h
  unfold m_ref45_Consistent at h
  have h0 := h; clear h
  cbv
  obtain ⟨⟨l53, b29⟩, hv, h0⟩ := bindS h0
  try dsimp only at h0
  refine call_is hO hX (fn_ref45_Tight hO hv) (by kernel_rfl) [0] rfl ⟨rfl, rfl, trivial⟩ rfl ?_
  cbv
  cases h0
  exact fin_ok hX rfl ⟨[], _, _, ⟨rfl, rfl⟩, rfl, rfl, rfl, rfl, by cbv; try simp⟩
set_option maxHeartbeats 40000000 in
theorem fn_law45_BoundsCycles {O0 : Ops} (hO0 : O0 = std) {n_1 : Int} {l_1 : List (Int × Int × Int)} {r1 : Bool} (h : m_law45_BoundsCycles O0 n_1 l_1 = some r1) :
    Fn Try.prog 3 [.c (.int .i64 n_1), .c (.sl 0)] [.arr false .i3 l_1] (fun v c => v = .c (.bool r1) ∧ c = []) := by
  refine fn_run tab_holds eqs_holds mixed [(14, (.seg 1 [0, 1, 2, 3, 4, 5, 6, 7, 8, 9, 10, 11, 12, 13, 14, 15, 16, 17, 18, 19, 20, 21, 22, 23, 24, 25, 26, 27, 28, 29, 30, 31, 32, 33, 34, 35, 36, 37, 38, 39, 40] .fin), [])] Try.func3 (by kernel_rfl) (by kernel_rfl) (Nat.le_of_ble_eq_true rfl) ?_
  intro O X hO hX
  rw [hO0, ← hO] at h
  unfold m_law45_BoundsCycles at h
  have h0 := h; clear h
  cbv
  obtain ⟨x100, h1, h0⟩ := bindS h0
  obtain ⟨b25, hv, h1⟩ := bindS h1
  refine call_is hO hX (fn_law45_awake hO hv) (by kernel_rfl) [] rfl trivial rfl ?_
  cbv
  rcases condS h1 with ⟨hc1, h1⟩ | ⟨hc1, h1⟩
  · rw [hc1]
    cbv
    cases h1
    try dsimp only at h0
    replace h0 := condT h0 rfl
    obtain ⟨b28, hv, h0⟩ := bindS h0
    refine call_is hO hX (fn_law45_awake hO hv) (by kernel_rfl) [] rfl trivial rfl ?_
    cbv
    cases h0
    exact fin_ok hX rfl ⟨[], _, _, ⟨rfl, rfl⟩, rfl, rfl, rfl, rfl, by cbv; try simp⟩
  · rw [hc1]
    cbv
    obtain ⟨b26, hv, h1⟩ := bindS h1
    refine call_is hO hX (fn_law45_long hO hv) (by kernel_rfl) [0] rfl ⟨rfl, rfl, trivial⟩ rfl ?_
    cbv
    rcases condS h1 with ⟨hc2, h1⟩ | ⟨hc2, h1⟩
    · rw [hc2]
      cbv
      cases h1
      try dsimp only at h0
      replace h0 := condT h0 rfl
      obtain ⟨b28, hv, h0⟩ := bindS h0
      refine call_is hO hX (fn_law45_awake hO hv) (by kernel_rfl) [] rfl trivial rfl ?_
      cbv
      cases h0
      exact fin_ok hX rfl ⟨[], _, _, ⟨rfl, rfl⟩, rfl, rfl, rfl, rfl, by cbv; try simp⟩
    · rw [hc2]
      cbv
      obtain ⟨b27, hv, h1⟩ := bindS h1
      refine call_is hO hX (fn_ref45_Valid hO hv) (by kernel_rfl) [0] rfl ⟨rfl, rfl, trivial⟩ rfl ?_
      cbv
      cases h1
      try dsimp only at h0
      rcases condS h0 with ⟨hc3, h0⟩ | ⟨hc3, h0⟩
      · rw [hc3]
        cbv
        obtain ⟨b28, hv, h0⟩ := bindS h0
        refine call_is hO hX (fn_law45_awake hO hv) (by kernel_rfl) [] rfl trivial rfl ?_
        cbv
        cases h0
        exact fin_ok hX rfl ⟨[], _, _, ⟨rfl, rfl⟩, rfl, rfl, rfl, rfl, by cbv; try simp⟩
      · rw [hc3]
        cbv
        obtain ⟨⟨l52, n22⟩, hv, h0⟩ := bindS h0
        try dsimp only at h0
        refine call_is hO hX (fn_bounds_Cycle hO hv) (by kernel_rfl) [0] rfl ⟨rfl, rfl, trivial⟩ rfl ?_
        cbv
        obtain ⟨b30, hv, h0⟩ := bindS h0
        refine call_is hO hX (fn_ref45_Consistent hO hv) (by kernel_rfl) [0] rfl ⟨rfl, rfl, trivial⟩ rfl ?_
        cbv
        rcases condS h0 with ⟨hc4, h0⟩ | ⟨hc4, h0⟩
        · rw [hc4]
          cbv
          obtain ⟨x102, h1, h0⟩ := bindS h0
          rcases condS h1 with ⟨hc5, h1⟩ | ⟨hc5, h1⟩
          · rw [hc5]
            cbv
            cases h1
            try dsimp only at h0
            cases h0
            exact fin_ok hX rfl ⟨[], _, _, ⟨rfl, rfl⟩, rfl, rfl, rfl, rfl, by cbv; try simp⟩
          · rw [hc5]
            cbv
            cases h1
            try dsimp only at h0
            cases h0
            exact fin_ok hX rfl ⟨[], _, _, ⟨rfl, rfl⟩, rfl, rfl, rfl, rfl, by cbv; try simp⟩
        · rw [hc4]
          cbv
          obtain ⟨x104, h1, h0⟩ := bindS h0
          rcases condS h1 with ⟨hc6, h1⟩ | ⟨hc6, h1⟩
          · rw [hc6]
            cbv
            cases h1
            try dsimp only at h0
            replace h0 := condT h0 rfl
            cases h0
            exact fin_ok hX rfl ⟨[], _, _, ⟨rfl, rfl⟩, rfl, rfl, rfl, rfl, by cbv; try simp⟩
          · rw [hc6]
            cbv
            rcases condS h1 with ⟨hc7, h1⟩ | ⟨hc7, h1⟩
            · rw [hc7]
              cbv
              cases h1
              try dsimp only at h0
              replace h0 := condT h0 rfl
              cases h0
              exact fin_ok hX rfl ⟨[], _, _, ⟨rfl, rfl⟩, rfl, rfl, rfl, rfl, by cbv; try simp⟩
            · rw [hc7]
              cbv
              cases h1
              try dsimp only at h0
              rcases condS h0 with ⟨hc8, h0⟩ | ⟨hc8, h0⟩
              · rw [hc8]
                cbv
                cases h0
                exact fin_ok hX rfl ⟨[], _, _, ⟨rfl, rfl⟩, rfl, rfl, rfl, rfl, by cbv; try simp⟩
              · rw [hc8]
                cbv
                obtain ⟨hg9, h0⟩ := grdS h0
                refine ⟨rng_of hO hg9, ?_⟩
                refine ⟨rng_of hO hg9, ?_⟩
                obtain ⟨hg10, h0⟩ := grdS h0
                refine ⟨room_of hO hg10, ?_⟩
                obtain ⟨e1, hi, h0⟩ := bindS h0
                obtain ⟨I1, hI1, hi⟩ := loopS hi
                refine loop1 tab_holds eqs_holds mixed [(14, (.seg 1 [0, 1, 2, 3, 4, 5, 6, 7, 8, 9, 10, 11, 12, 13, 14, 15, 16, 17, 18, 19, 20, 21, 22, 23, 24, 25, 26, 27, 28, 29, 30, 31, 32, 33, 34, 35, 36, 37, 38, 39, 40] .fin), [])] hO hX I1 (fun y => [(25, .junk), (28, .junk), (29, .junk), (44, .junk), (49, .junk), (55, .junk), (7, .c (.int .i64 y.2.1)), (58, .c (.int .i64 y.2.2.1))]) (fun y => [(2, .own 4 .b1 y.2.2.2)]) (fun y => y.1) _ (by kernel_rfl) hi (by cbv; try simp) ?_
                refine allp ?_
                intro n1
                refine allp ?_
                intro sum2
                refine allp ?_
                intro x108
                intro l54 hi
                cbv
                rw [hI1] at hi
                obtain ⟨n1, rfl, x1, h1, hi1⟩ := iterS hi
                unfold m_law45_BoundsCycles_L1 at h1
                try dsimp only at h1
                rcases condS h1 with ⟨hc11, h1⟩ | ⟨hc11, h1⟩
                · rw [hc11]
                  cbv
                  obtain ⟨hg12, h1⟩ := grdS h1
                  refine ⟨idx_of hO hg12, ?_⟩
                  obtain ⟨hg13, h1⟩ := grdS h1
                  refine ⟨kin_of hO hg13, ?_⟩
                  obtain ⟨hg14, h1⟩ := grdS h1
                  refine ⟨inr_of hO hg14, ?_⟩
                  obtain ⟨hg15, h1⟩ := grdS h1
                  refine ⟨nz_of hO hg15, ?_⟩
                  obtain ⟨hg16, h1⟩ := grdS h1
                  refine ⟨idx_of hO hg16, ?_⟩
                  obtain ⟨hg17, h1⟩ := grdS h1
                  refine ⟨kin_of hO hg17, ?_⟩
                  obtain ⟨x110, h2, h1⟩ := bindS h1
                  rcases condS h2 with ⟨hc18, h2⟩ | ⟨hc18, h2⟩
                  · rw [hc18]
                    cbv
                    cases h2
                    try dsimp only at h1
                    replace h1 := condT h1 rfl
                    cases h1
                    cases exitI hi1
                    try dsimp only at h0
                    cases h0
                    exact fin_ok hX rfl ⟨[], _, _, ⟨rfl, rfl⟩, rfl, rfl, rfl, rfl, by cbv; try simp⟩
                  · rw [hc18]
                    cbv
                    rcases condS h2 with ⟨hc19, h2⟩ | ⟨hc19, h2⟩
                    · rw [hc19]
                      cbv
                      cases h2
                      try dsimp only at h1
                      replace h1 := condT h1 rfl
                      cases h1
                      cases exitI hi1
                      try dsimp only at h0
                      cases h0
                      exact fin_ok hX rfl ⟨[], _, _, ⟨rfl, rfl⟩, rfl, rfl, rfl, rfl, by cbv; try simp⟩
                    · rw [hc19]
                      cbv
                      rcases condS h2 with ⟨hc20, h2⟩ | ⟨hc20, h2⟩
                      · rw [hc20]
                        cbv
                        cases h2
                        try dsimp only at h1
                        replace h1 := condT h1 rfl
                        cases h1
                        cases exitI hi1
                        try dsimp only at h0
                        cases h0
                        exact fin_ok hX rfl ⟨[], _, _, ⟨rfl, rfl⟩, rfl, rfl, rfl, rfl, by cbv; try simp⟩
                      · rw [hc20]
                        cbv
                        rcases condS h2 with ⟨hc21, h2⟩ | ⟨hc21, h2⟩
                        · rw [hc21]
                          cbv
                          cases h2
                          try dsimp only at h1
                          replace h1 := condT h1 rfl
                          cases h1
                          cases exitI hi1
                          try dsimp only at h0
                          cases h0
                          exact fin_ok hX rfl ⟨[], _, _, ⟨rfl, rfl⟩, rfl, rfl, rfl, rfl, by cbv; try simp⟩
                        · rw [hc21]
                          cbv
                          rcases condS h2 with ⟨hc22, h2⟩ | ⟨hc22, h2⟩
                          · rw [hc22]
                            cbv
                            obtain ⟨hg23, h2⟩ := grdS h2
                            refine ⟨idx_of hO hg23, ?_⟩
                            obtain ⟨hg24, h2⟩ := grdS h2
                            refine ⟨kin_of hO hg24, ?_⟩
                            obtain ⟨hg25, h2⟩ := grdS h2
                            refine ⟨idx_of hO hg25, ?_⟩
                            obtain ⟨hg26, h2⟩ := grdS h2
                            refine ⟨kin_of hO hg26, ?_⟩
                            cases h2
                            try dsimp only at h1
                            replace h1 := condT h1 rfl
                            cases h1
                            cases exitI hi1
                            try dsimp only at h0
                            cases h0
                            exact fin_ok hX rfl ⟨[], _, _, ⟨rfl, rfl⟩, rfl, rfl, rfl, rfl, by cbv; try simp⟩
                          · rw [hc22]
                            cbv
                            obtain ⟨hg27, h2⟩ := grdS h2
                            refine ⟨idx_of hO hg27, ?_⟩
                            obtain ⟨hg28, h2⟩ := grdS h2
                            refine ⟨kin_of hO hg28, ?_⟩
                            obtain ⟨hg29, h2⟩ := grdS h2
                            refine ⟨idx_of hO hg29, ?_⟩
                            obtain ⟨hg30, h2⟩ := grdS h2
                            refine ⟨kin_of hO hg30, ?_⟩
                            refine ⟨idx_of hO hg27, ?_⟩
                            refine ⟨kin_of hO hg28, ?_⟩
                            obtain ⟨hg31, h2⟩ := grdS h2
                            refine ⟨idx_of hO hg31, ?_⟩
                            obtain ⟨hg32, h2⟩ := grdS h2
                            refine ⟨kin_of hO hg32, ?_⟩
                            cases h2
                            try dsimp only at h1
                            rcases condS h1 with ⟨hc33, h1⟩ | ⟨hc33, h1⟩
                            · rw [hc33]
                              cbv
                              cases h1
                              cases exitI hi1
                              try dsimp only at h0
                              cases h0
                              exact fin_ok hX rfl ⟨[], _, _, ⟨rfl, rfl⟩, rfl, rfl, rfl, rfl, by cbv; try simp⟩
                            · rw [hc33]
                              cbv
                              obtain ⟨hg34, h1⟩ := grdS h1
                              refine ⟨idx_of hO hg34, ?_⟩
                              obtain ⟨hg35, h1⟩ := grdS h1
                              refine ⟨kin_of hO hg35, ?_⟩
                              obtain ⟨hg36, h1⟩ := grdS h1
                              refine ⟨idx_of hO hg36, ?_⟩
                              obtain ⟨hg37, h1⟩ := grdS h1
                              refine ⟨kin_of hO hg37, ?_⟩
                              refine ⟨idx_of hO hg34, ?_⟩
                              refine ⟨kin_of hO hg35, ?_⟩
                              obtain ⟨hg38, h1⟩ := grdS h1
                              refine ⟨inr_of hO hg38, ?_⟩
                              refine ⟨inr_of hO hg14, ?_⟩
                              cases h1
                              exact ⟨_, [0, 1, 2], nextI hI1 hi1, by cbv; try simp, by first | exact Nat.lt_succ_self _ | omega⟩
                · rw [hc11]
                  cbv
                  cases h1
                  cases exitI hi1
                  try dsimp only at h0
                  cases h0
                  exact fin_ok hX rfl ⟨[], _, _, ⟨rfl, rfl⟩, rfl, rfl, rfl, rfl, by cbv; try simp⟩
end Go.Proofs.Ytegmjohhgedakaa
