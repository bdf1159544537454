/-
  The code does what its models say (printed by lift.py).
-/
import Derived.Test.YtegmjohhgedakaaBM
import Derived.Test.YtegmjohhgedakaaSrtB
import Derived.Test.YtegmjohhgedakaaBW1
import Derived.Test.YtegmjohhgedakaaBW3
import Derived.Test.YtegmjohhgedakaaBW11
import Derived.Test.YtegmjohhgedakaaBW17
namespace Go.Proofs.Ytegmjohhgedakaa
open Go.RowKit
set_option maxRecDepth 100000

set_option maxHeartbeats 40000000 in
theorem fn_law45_BoundsKeeps {O0 : Ops} (hO0 : O0 = std) {i_1 : Int} {j_1 : Int} {l_1 : List (Int × Int × Int)} {at_1 : List Int} {r1 : Bool} (h : m_law45_BoundsKeeps O0 i_1 j_1 l_1 at_1 = some r1) :
    Fn Try.prog 9 [.c (.sl 0), .c (.sl 1), .c (.int .u8 i_1), .c (.int .u8 j_1)] [.arr false .i3 l_1, .arr false .i1 at_1] (fun v c => v = .c (.bool r1) ∧ c = []) := by
  refine fn_run tab_holds eqs_holds mixed [(9, (.seg 1 [0, 1, 2, 3, 4, 5, 6, 7, 8, 9] .fin), []), (13, (.seg 1 [0, 1, 2, 3, 4, 5, 6, 7, 8, 9] .fin), [])] Try.func9 (by kernel_rfl) (by kernel_rfl) (Nat.le_of_ble_eq_true rfl) ?_
  intro O X hO hX
  rw [hO0, ← hO] at h
  unfold m_law45_BoundsKeeps at h
  have h0 := h; clear h
  cbv
  obtain ⟨x211, h1, h0⟩ := bindS h0
  obtain ⟨b70, hv, h1⟩ := bindS h1
  refine call_is hO hX (fn_law45_awake hO hv) (by kernel_rfl) [] rfl trivial rfl ?_
  cbv
  rcases condS h1 with ⟨hc1, h1⟩ | ⟨hc1, h1⟩
  · rw [hc1]
    cbv
    cases h1
    try dsimp only at h0
    replace h0 := condT h0 rfl
    obtain ⟨b71, hv, h0⟩ := bindS h0
    refine call_is hO hX (fn_law45_awake hO hv) (by kernel_rfl) [] rfl trivial rfl ?_
    cbv
    cases h0
    exact fin_ok hX rfl ⟨[], _, _, ⟨rfl, rfl⟩, rfl, rfl, rfl, rfl, by cbv; try simp⟩
  · as_aux_lemma =>
    rw [hc1]
    cbv
    rcases condS h1 with ⟨hc2, h1⟩ | ⟨hc2, h1⟩
    · rw [hc2]
      cbv
      cases h1
      try dsimp only at h0
      replace h0 := condT h0 rfl
      obtain ⟨b71, hv, h0⟩ := bindS h0
      refine call_is hO hX (fn_law45_awake hO hv) (by kernel_rfl) [] rfl trivial rfl ?_
      cbv
      cases h0
      exact fin_ok hX rfl ⟨[], _, _, ⟨rfl, rfl⟩, rfl, rfl, rfl, rfl, by cbv; try simp⟩
    · as_aux_lemma =>
      rw [hc2]
      cbv
      cases h1
      try dsimp only at h0
      rcases condS h0 with ⟨hc3, h0⟩ | ⟨hc3, h0⟩
      · rw [hc3]
        cbv
        obtain ⟨b71, hv, h0⟩ := bindS h0
        refine call_is hO hX (fn_law45_awake hO hv) (by kernel_rfl) [] rfl trivial rfl ?_
        cbv
        cases h0
        exact fin_ok hX rfl ⟨[], _, _, ⟨rfl, rfl⟩, rfl, rfl, rfl, rfl, by cbv; try simp⟩
      · as_aux_lemma =>
        rw [hc3]
        cbv
        obtain ⟨b77, hv, h0⟩ := bindS h0
        refine call_is hO hX (fn_bounds_Holds hO hv) (by kernel_rfl) [0, 1] rfl ⟨rfl, rfl, rfl, rfl, trivial⟩ rfl ?_
        cbv
        obtain ⟨b78, hv, h0⟩ := bindS h0
        refine call_is hO hX (fn_ref45_Holds hO hv) (by kernel_rfl) [0, 1] rfl ⟨rfl, rfl, rfl, rfl, trivial⟩ rfl ?_
        cbv
        rcases condS h0 with ⟨hc4, h0⟩ | ⟨hc4, h0⟩
        · rw [hc4]
          cbv
          cases h0
          exact fin_ok hX rfl ⟨[], _, _, ⟨rfl, rfl⟩, rfl, rfl, rfl, rfl, by cbv; try simp⟩
        · as_aux_lemma =>
          rw [hc4]
          cbv
          obtain ⟨b79, hv, h0⟩ := bindS h0
          refine call_is hO hX (fn_bounds_Holds hO hv) (by kernel_rfl) [0, 1] rfl ⟨rfl, rfl, rfl, rfl, trivial⟩ rfl ?_
          cbv
          rcases condS h0 with ⟨hc5, h0⟩ | ⟨hc5, h0⟩
          · rw [hc5]
            cbv
            cases h0
            exact fin_ok hX rfl ⟨[], _, _, ⟨rfl, rfl⟩, rfl, rfl, rfl, rfl, by cbv; try simp⟩
          · as_aux_lemma =>
            rw [hc5]
            cbv
            obtain ⟨⟨b80, n48⟩, hv, h0⟩ := bindS h0
            try dsimp only at h0
            refine call_is hO hX (fn_bounds_Consistent hO hv) (by kernel_rfl) [0] rfl ⟨rfl, rfl, trivial⟩ rfl ?_
            cbv
            obtain ⟨hg6, h0⟩ := grdS h0
            refine ⟨inr_of hO hg6, ?_⟩
            obtain ⟨hg7, h0⟩ := grdS h0
            refine ⟨nz_of hO hg7, ?_⟩
            obtain ⟨hg8, h0⟩ := grdS h0
            refine ⟨inr_of hO hg8, ?_⟩
            refine ⟨nz_of hO hg7, ?_⟩
            obtain ⟨⟨n49, n50, n51⟩, hv, h0⟩ := bindS h0
            try dsimp only at h0
            refine call_is hO hX (fn_bounds_Between hO hv) (by kernel_rfl) [0] rfl ⟨rfl, rfl, trivial⟩ rfl ?_
            cbv
            obtain ⟨x221, h1, h0⟩ := bindS h0
            rcases condS h1 with ⟨hc9, h1⟩ | ⟨hc9, h1⟩
            · rw [hc9]
              cbv
              cases h1
              try dsimp only at h0
              replace h0 := condT h0 rfl
              cases h0
              exact fin_ok hX rfl ⟨[], _, _, ⟨rfl, rfl⟩, rfl, rfl, rfl, rfl, by cbv; try simp⟩
            · as_aux_lemma =>
              rw [hc9]
              cbv
              rcases condS h1 with ⟨hc10, h1⟩ | ⟨hc10, h1⟩
              · rw [hc10]
                cbv
                cases h1
                try dsimp only at h0
                replace h0 := condT h0 rfl
                cases h0
                exact fin_ok hX rfl ⟨[], _, _, ⟨rfl, rfl⟩, rfl, rfl, rfl, rfl, by cbv; try simp⟩
              · as_aux_lemma =>
                rw [hc10]
                cbv
                cases h1
                try dsimp only at h0
                rcases condS h0 with ⟨hc11, h0⟩ | ⟨hc11, h0⟩
                · rw [hc11]
                  cbv
                  cases h0
                  exact fin_ok hX rfl ⟨[], _, _, ⟨rfl, rfl⟩, rfl, rfl, rfl, rfl, by cbv; try simp⟩
                · as_aux_lemma =>
                  rw [hc11]
                  cbv
                  obtain ⟨hg12, h0⟩ := grdS h0
                  refine ⟨idx_of hO hg12, ?_⟩
                  obtain ⟨hg13, h0⟩ := grdS h0
                  refine ⟨kin_of hO hg13, ?_⟩
                  obtain ⟨hg14, h0⟩ := grdS h0
                  refine ⟨idx_of hO hg14, ?_⟩
                  obtain ⟨hg15, h0⟩ := grdS h0
                  refine ⟨kin_of hO hg15, ?_⟩
                  obtain ⟨hg16, h0⟩ := grdS h0
                  refine ⟨inr_of hO hg16, ?_⟩
                  obtain ⟨x226, h1, h0⟩ := bindS h0
                  rcases condS h1 with ⟨hc17, h1⟩ | ⟨hc17, h1⟩
                  · as_aux_lemma =>
                    rw [hc17]
                    cbv
                    rcases condS h1 with ⟨hc18, h1⟩ | ⟨hc18, h1⟩
                    · rw [hc18]
                      cbv
                      cases h1
                      try dsimp only at h0
                      replace h0 := condT h0 rfl
                      cases h0
                      exact fin_ok hX rfl ⟨[], _, _, ⟨rfl, rfl⟩, rfl, rfl, rfl, rfl, by cbv; try simp⟩
                    · as_aux_lemma =>
                      rw [hc18]
                      cbv
                      rcases condS h1 with ⟨hc19, h1⟩ | ⟨hc19, h1⟩
                      · rw [hc19]
                        cbv
                        cases h1
                        try dsimp only at h0
                        rcases condS h0 with ⟨hc20, h0⟩ | ⟨hc20, h0⟩
                        · rw [hc20]
                          cbv
                          cases h0
                          exact fin_ok hX rfl ⟨[], _, _, ⟨rfl, rfl⟩, rfl, rfl, rfl, rfl, by cbv; try simp⟩
                        · rw [hc20]
                          cbv
                          obtain ⟨hg21, h0⟩ := grdS h0
                          refine ⟨idx_of hO hg21, ?_⟩
                          obtain ⟨hg22, h0⟩ := grdS h0
                          refine ⟨kin_of hO hg22, ?_⟩
                          rcases condS h0 with ⟨hc23, h0⟩ | ⟨hc23, h0⟩
                          · rw [hc23]
                            cbv
                            cases h0
                            exact fin_ok hX rfl ⟨[], _, _, ⟨rfl, rfl⟩, rfl, rfl, rfl, rfl, by cbv; try simp⟩
                          · rw [hc23]
                            cbv
                            obtain ⟨⟨l78, n52⟩, hv, h0⟩ := bindS h0
                            try dsimp only at h0
                            refine call_is hO hX (fn_bounds_Earliest hO hv) (by kernel_rfl) [0] rfl ⟨rfl, rfl, trivial⟩ rfl ?_
                            cbv
                            obtain ⟨e1, h1, h0⟩ := bindS h0
                            rcases condS h1 with ⟨hc24, h1⟩ | ⟨hc24, h1⟩
                            · rw [hc24]
                              cbv
                              obtain ⟨e2, hi, h1⟩ := bindS h1
                              obtain ⟨I1, hI1, hi⟩ := loopS hi
                              refine loop1 tab_holds eqs_holds mixed [(9, (.seg 1 [0, 1, 2, 3, 4, 5, 6, 7, 8, 9] .fin), []), (13, (.seg 1 [0, 1, 2, 3, 4, 5, 6, 7, 8, 9] .fin), [])] hO hX I1 (fun y => [(18, .junk), (115, .junk), (118, .junk), (119, .junk), (125, .c (.int .i64 y.2))]) (fun _ => []) (fun y => y.1) _ (by kernel_rfl) hi (by cbv; try simp) ?_
                              refine allp ?_
                              intro n1
                              intro x227 hi
                              cbv
                              rw [hI1] at hi
                              obtain ⟨n1, rfl, x1, h2, hi1⟩ := iterS hi
                              unfold m_law45_BoundsKeeps_L1 at h2
                              try dsimp only at h2
                              rcases condS h2 with ⟨hc25, h2⟩ | ⟨hc25, h2⟩
                              · rw [hc25]
                                cbv
                                obtain ⟨hg26, h2⟩ := grdS h2
                                refine ⟨idx_of hO hg26, ?_⟩
                                obtain ⟨hg27, h2⟩ := grdS h2
                                refine ⟨kin_of hO hg27, ?_⟩
                                obtain ⟨x229, h3, h2⟩ := bindS h2
                                rcases condS h3 with ⟨hc28, h3⟩ | ⟨hc28, h3⟩
                                · rw [hc28]
                                  cbv
                                  cases h3
                                  try dsimp only at h2
                                  replace h2 := condT h2 rfl
                                  cases h2
                                  cases exitI hi1
                                  try dsimp only at h1
                                  cases h1
                                  try dsimp only at h0
                                  cases h0
                                  exact fin_ok hX rfl ⟨[], _, _, ⟨rfl, rfl⟩, rfl, rfl, rfl, rfl, by cbv; try simp⟩
                                · rw [hc28]
                                  cbv
                                  obtain ⟨hg29, h3⟩ := grdS h3
                                  refine ⟨idx_of hO hg29, ?_⟩
                                  obtain ⟨hg30, h3⟩ := grdS h3
                                  refine ⟨kin_of hO hg30, ?_⟩
                                  cases h3
                                  try dsimp only at h2
                                  rcases condS h2 with ⟨hc31, h2⟩ | ⟨hc31, h2⟩
                                  · rw [hc31]
                                    cbv
                                    cases h2
                                    cases exitI hi1
                                    try dsimp only at h1
                                    cases h1
                                    try dsimp only at h0
                                    cases h0
                                    exact fin_ok hX rfl ⟨[], _, _, ⟨rfl, rfl⟩, rfl, rfl, rfl, rfl, by cbv; try simp⟩
                                  · rw [hc31]
                                    cbv
                                    obtain ⟨hg32, h2⟩ := grdS h2
                                    refine ⟨inr_of hO hg32, ?_⟩
                                    cases h2
                                    exact ⟨_, [0, 1, 2], nextI hI1 hi1, by cbv; try simp, by first | exact Nat.lt_succ_self _ | omega⟩
                              · rw [hc25]
                                cbv
                                cases h2
                                cases exitI hi1
                                try dsimp only at h1
                                cases h1
                                try dsimp only at h0
                                obtain ⟨n53, hv, h0⟩ := bindS h0
                                refine call_is hO hX (fn_slices_Max hO hv) (by kernel_rfl) [1] rfl ⟨rfl, rfl, trivial⟩ rfl ?_
                                cbv
                                obtain ⟨⟨l79, n54⟩, hv, h0⟩ := bindS h0
                                try dsimp only at h0
                                refine call_is hO hX (fn_bounds_Latest hO hv) (by kernel_rfl) [0] rfl ⟨rfl, rfl, trivial⟩ rfl ?_
                                cbv
                                obtain ⟨x231, h1, h0⟩ := bindS h0
                                rcases condS h1 with ⟨hc33, h1⟩ | ⟨hc33, h1⟩
                                · rw [hc33]
                                  cbv
                                  cases h1
                                  try dsimp only at h0
                                  replace h0 := condT h0 rfl
                                  cases h0
                                  exact fin_ok hX rfl ⟨[], _, _, ⟨rfl, rfl⟩, rfl, rfl, rfl, rfl, by cbv; try simp⟩
                                · rw [hc33]
                                  cbv
                                  cases h1
                                  try dsimp only at h0
                                  rcases condS h0 with ⟨hc34, h0⟩ | ⟨hc34, h0⟩
                                  · rw [hc34]
                                    cbv
                                    cases h0
                                    exact fin_ok hX rfl ⟨[], _, _, ⟨rfl, rfl⟩, rfl, rfl, rfl, rfl, by cbv; try simp⟩
                                  · rw [hc34]
                                    cbv
                                    obtain ⟨x233, h1, h0⟩ := bindS h0
                                    rcases condS h1 with ⟨hc35, h1⟩ | ⟨hc35, h1⟩
                                    · rw [hc35]
                                      cbv
                                      cases h1
                                      try dsimp only at h0
                                      replace h0 := condT h0 rfl
                                      cases h0
                                      exact fin_ok hX rfl ⟨[], _, _, ⟨rfl, rfl⟩, rfl, rfl, rfl, rfl, by cbv; try simp⟩
                                    · rw [hc35]
                                      cbv
                                      cases h1
                                      try dsimp only at h0
                                      rcases condS h0 with ⟨hc36, h0⟩ | ⟨hc36, h0⟩
                                      · rw [hc36]
                                        cbv
                                        cases h0
                                        exact fin_ok hX rfl ⟨[], _, _, ⟨rfl, rfl⟩, rfl, rfl, rfl, rfl, by cbv; try simp⟩
                                      · rw [hc36]
                                        cbv
                                        obtain ⟨e1, hi, h0⟩ := bindS h0
                                        obtain ⟨I2, hI2, hi⟩ := loopS hi
                                        refine loop1 tab_holds eqs_holds mixed [(9, (.seg 1 [0, 1, 2, 3, 4, 5, 6, 7, 8, 9] .fin), []), (13, (.seg 1 [0, 1, 2, 3, 4, 5, 6, 7, 8, 9] .fin), [])] hO hX I2 (fun y => [(23, .junk), (123, .junk), (144, .junk), (148, .junk), (149, .junk), (160, .junk), (167, .c (.int .i64 y.2))]) (fun _ => []) (fun y => y.1) _ (by kernel_rfl) hi (by cbv; try simp) ?_
                                        refine allp ?_
                                        intro n2
                                        intro x234 hi
                                        cbv
                                        rw [hI2] at hi
                                        obtain ⟨n2, rfl, x2, h1, hi2⟩ := iterS hi
                                        unfold m_law45_BoundsKeeps_L2 at h1
                                        try dsimp only at h1
                                        rcases condS h1 with ⟨hc37, h1⟩ | ⟨hc37, h1⟩
                                        · rw [hc37]
                                          cbv
                                          obtain ⟨hg38, h1⟩ := grdS h1
                                          refine ⟨idx_of hO hg38, ?_⟩
                                          obtain ⟨hg39, h1⟩ := grdS h1
                                          refine ⟨kin_of hO hg39, ?_⟩
                                          obtain ⟨hg40, h1⟩ := grdS h1
                                          refine ⟨idx_of hO hg40, ?_⟩
                                          obtain ⟨hg41, h1⟩ := grdS h1
                                          refine ⟨kin_of hO hg41, ?_⟩
                                          rcases condS h1 with ⟨hc42, h1⟩ | ⟨hc42, h1⟩
                                          · rw [hc42]
                                            cbv
                                            cases h1
                                            cases exitI hi2
                                            try dsimp only at h0
                                            cases h0
                                            exact fin_ok hX rfl ⟨[], _, _, ⟨rfl, rfl⟩, rfl, rfl, rfl, rfl, by cbv; try simp⟩
                                          · rw [hc42]
                                            cbv
                                            obtain ⟨hg43, h1⟩ := grdS h1
                                            refine ⟨inr_of hO hg43, ?_⟩
                                            cases h1
                                            exact ⟨_, [0, 1, 2, 3], nextI hI2 hi2, by cbv; try simp, by first | exact Nat.lt_succ_self _ | omega⟩
                                        · rw [hc37]
                                          cbv
                                          cases h1
                                          cases exitI hi2
                                          try dsimp only at h0
                                          cases h0
                                          exact fin_ok hX rfl ⟨[], _, _, ⟨rfl, rfl⟩, rfl, rfl, rfl, rfl, by cbv; try simp⟩
                            · rw [hc24]
                              cbv
                              cases h1
                              try dsimp only at h0
                              obtain ⟨n53, hv, h0⟩ := bindS h0
                              refine call_is hO hX (fn_slices_Max hO hv) (by kernel_rfl) [1] rfl ⟨rfl, rfl, trivial⟩ rfl ?_
                              cbv
                              obtain ⟨⟨l79, n54⟩, hv, h0⟩ := bindS h0
                              try dsimp only at h0
                              refine call_is hO hX (fn_bounds_Latest hO hv) (by kernel_rfl) [0] rfl ⟨rfl, rfl, trivial⟩ rfl ?_
                              cbv
                              obtain ⟨x231, h1, h0⟩ := bindS h0
                              rcases condS h1 with ⟨hc44, h1⟩ | ⟨hc44, h1⟩
                              · rw [hc44]
                                cbv
                                cases h1
                                try dsimp only at h0
                                replace h0 := condT h0 rfl
                                cases h0
                                exact fin_ok hX rfl ⟨[], _, _, ⟨rfl, rfl⟩, rfl, rfl, rfl, rfl, by cbv; try simp⟩
                              · rw [hc44]
                                cbv
                                cases h1
                                try dsimp only at h0
                                rcases condS h0 with ⟨hc45, h0⟩ | ⟨hc45, h0⟩
                                · rw [hc45]
                                  cbv
                                  cases h0
                                  exact fin_ok hX rfl ⟨[], _, _, ⟨rfl, rfl⟩, rfl, rfl, rfl, rfl, by cbv; try simp⟩
                                · rw [hc45]
                                  cbv
                                  obtain ⟨x233, h1, h0⟩ := bindS h0
                                  rcases condS h1 with ⟨hc46, h1⟩ | ⟨hc46, h1⟩
                                  · rw [hc46]
                                    cbv
                                    cases h1
                                    try dsimp only at h0
                                    replace h0 := condT h0 rfl
                                    cases h0
                                    exact fin_ok hX rfl ⟨[], _, _, ⟨rfl, rfl⟩, rfl, rfl, rfl, rfl, by cbv; try simp⟩
                                  · rw [hc46]
                                    cbv
                                    cases h1
                                    try dsimp only at h0
                                    rcases condS h0 with ⟨hc47, h0⟩ | ⟨hc47, h0⟩
                                    · rw [hc47]
                                      cbv
                                      cases h0
                                      exact fin_ok hX rfl ⟨[], _, _, ⟨rfl, rfl⟩, rfl, rfl, rfl, rfl, by cbv; try simp⟩
                                    · rw [hc47]
                                      cbv
                                      obtain ⟨e1, hi, h0⟩ := bindS h0
                                      obtain ⟨I2, hI2, hi⟩ := loopS hi
                                      refine loop1 tab_holds eqs_holds mixed [(9, (.seg 1 [0, 1, 2, 3, 4, 5, 6, 7, 8, 9] .fin), []), (13, (.seg 1 [0, 1, 2, 3, 4, 5, 6, 7, 8, 9] .fin), [])] hO hX I2 (fun y => [(18, .junk), (23, .junk), (115, .junk), (118, .junk), (119, .junk), (144, .junk), (148, .junk), (149, .junk), (160, .junk), (167, .c (.int .i64 y.2))]) (fun _ => []) (fun y => y.1) _ (by kernel_rfl) hi (by cbv; try simp) ?_
                                      refine allp ?_
                                      intro n2
                                      intro x234 hi
                                      cbv
                                      rw [hI2] at hi
                                      obtain ⟨n2, rfl, x2, h1, hi2⟩ := iterS hi
                                      unfold m_law45_BoundsKeeps_L2 at h1
                                      try dsimp only at h1
                                      rcases condS h1 with ⟨hc48, h1⟩ | ⟨hc48, h1⟩
                                      · rw [hc48]
                                        cbv
                                        obtain ⟨hg49, h1⟩ := grdS h1
                                        refine ⟨idx_of hO hg49, ?_⟩
                                        obtain ⟨hg50, h1⟩ := grdS h1
                                        refine ⟨kin_of hO hg50, ?_⟩
                                        obtain ⟨hg51, h1⟩ := grdS h1
                                        refine ⟨idx_of hO hg51, ?_⟩
                                        obtain ⟨hg52, h1⟩ := grdS h1
                                        refine ⟨kin_of hO hg52, ?_⟩
                                        rcases condS h1 with ⟨hc53, h1⟩ | ⟨hc53, h1⟩
                                        · rw [hc53]
                                          cbv
                                          cases h1
                                          cases exitI hi2
                                          try dsimp only at h0
                                          cases h0
                                          exact fin_ok hX rfl ⟨[], _, _, ⟨rfl, rfl⟩, rfl, rfl, rfl, rfl, by cbv; try simp⟩
                                        · rw [hc53]
                                          cbv
                                          obtain ⟨hg54, h1⟩ := grdS h1
                                          refine ⟨inr_of hO hg54, ?_⟩
                                          cases h1
                                          exact ⟨_, [0, 1, 2, 3], nextI hI2 hi2, by cbv; try simp, by first | exact Nat.lt_succ_self _ | omega⟩
                                      · rw [hc48]
                                        cbv
                                        cases h1
                                        cases exitI hi2
                                        try dsimp only at h0
                                        cases h0
                                        exact fin_ok hX rfl ⟨[], _, _, ⟨rfl, rfl⟩, rfl, rfl, rfl, rfl, by cbv; try simp⟩
                      · rw [hc19]
                        cbv
                        cases h1
                        try dsimp only at h0
                        replace h0 := condF h0 rfl
                        obtain ⟨hg55, h0⟩ := grdS h0
                        refine ⟨idx_of hO hg55, ?_⟩
                        obtain ⟨hg56, h0⟩ := grdS h0
                        refine ⟨kin_of hO hg56, ?_⟩
                        rcases condS h0 with ⟨hc57, h0⟩ | ⟨hc57, h0⟩
                        · rw [hc57]
                          cbv
                          cases h0
                          exact fin_ok hX rfl ⟨[], _, _, ⟨rfl, rfl⟩, rfl, rfl, rfl, rfl, by cbv; try simp⟩
                        · rw [hc57]
                          cbv
                          obtain ⟨⟨l78, n52⟩, hv, h0⟩ := bindS h0
                          try dsimp only at h0
                          refine call_is hO hX (fn_bounds_Earliest hO hv) (by kernel_rfl) [0] rfl ⟨rfl, rfl, trivial⟩ rfl ?_
                          cbv
                          obtain ⟨e1, h1, h0⟩ := bindS h0
                          rcases condS h1 with ⟨hc58, h1⟩ | ⟨hc58, h1⟩
                          · rw [hc58]
                            cbv
                            obtain ⟨e2, hi, h1⟩ := bindS h1
                            obtain ⟨I1, hI1, hi⟩ := loopS hi
                            refine loop1 tab_holds eqs_holds mixed [(9, (.seg 1 [0, 1, 2, 3, 4, 5, 6, 7, 8, 9] .fin), []), (13, (.seg 1 [0, 1, 2, 3, 4, 5, 6, 7, 8, 9] .fin), [])] hO hX I1 (fun y => [(18, .junk), (115, .junk), (118, .junk), (119, .junk), (125, .c (.int .i64 y.2))]) (fun _ => []) (fun y => y.1) _ (by kernel_rfl) hi (by cbv; try simp) ?_
                            refine allp ?_
                            intro n1
                            intro x227 hi
                            cbv
                            rw [hI1] at hi
                            obtain ⟨n1, rfl, x1, h2, hi1⟩ := iterS hi
                            unfold m_law45_BoundsKeeps_L1 at h2
                            try dsimp only at h2
                            rcases condS h2 with ⟨hc59, h2⟩ | ⟨hc59, h2⟩
                            · rw [hc59]
                              cbv
                              obtain ⟨hg60, h2⟩ := grdS h2
                              refine ⟨idx_of hO hg60, ?_⟩
                              obtain ⟨hg61, h2⟩ := grdS h2
                              refine ⟨kin_of hO hg61, ?_⟩
                              obtain ⟨x229, h3, h2⟩ := bindS h2
                              rcases condS h3 with ⟨hc62, h3⟩ | ⟨hc62, h3⟩
                              · rw [hc62]
                                cbv
                                cases h3
                                try dsimp only at h2
                                replace h2 := condT h2 rfl
                                cases h2
                                cases exitI hi1
                                try dsimp only at h1
                                cases h1
                                try dsimp only at h0
                                cases h0
                                exact fin_ok hX rfl ⟨[], _, _, ⟨rfl, rfl⟩, rfl, rfl, rfl, rfl, by cbv; try simp⟩
                              · rw [hc62]
                                cbv
                                obtain ⟨hg63, h3⟩ := grdS h3
                                refine ⟨idx_of hO hg63, ?_⟩
                                obtain ⟨hg64, h3⟩ := grdS h3
                                refine ⟨kin_of hO hg64, ?_⟩
                                cases h3
                                try dsimp only at h2
                                rcases condS h2 with ⟨hc65, h2⟩ | ⟨hc65, h2⟩
                                · rw [hc65]
                                  cbv
                                  cases h2
                                  cases exitI hi1
                                  try dsimp only at h1
                                  cases h1
                                  try dsimp only at h0
                                  cases h0
                                  exact fin_ok hX rfl ⟨[], _, _, ⟨rfl, rfl⟩, rfl, rfl, rfl, rfl, by cbv; try simp⟩
                                · rw [hc65]
                                  cbv
                                  obtain ⟨hg66, h2⟩ := grdS h2
                                  refine ⟨inr_of hO hg66, ?_⟩
                                  cases h2
                                  exact ⟨_, [0, 1, 2], nextI hI1 hi1, by cbv; try simp, by first | exact Nat.lt_succ_self _ | omega⟩
                            · rw [hc59]
                              cbv
                              cases h2
                              cases exitI hi1
                              try dsimp only at h1
                              cases h1
                              try dsimp only at h0
                              obtain ⟨n53, hv, h0⟩ := bindS h0
                              refine call_is hO hX (fn_slices_Max hO hv) (by kernel_rfl) [1] rfl ⟨rfl, rfl, trivial⟩ rfl ?_
                              cbv
                              obtain ⟨⟨l79, n54⟩, hv, h0⟩ := bindS h0
                              try dsimp only at h0
                              refine call_is hO hX (fn_bounds_Latest hO hv) (by kernel_rfl) [0] rfl ⟨rfl, rfl, trivial⟩ rfl ?_
                              cbv
                              obtain ⟨x231, h1, h0⟩ := bindS h0
                              rcases condS h1 with ⟨hc67, h1⟩ | ⟨hc67, h1⟩
                              · rw [hc67]
                                cbv
                                cases h1
                                try dsimp only at h0
                                replace h0 := condT h0 rfl
                                cases h0
                                exact fin_ok hX rfl ⟨[], _, _, ⟨rfl, rfl⟩, rfl, rfl, rfl, rfl, by cbv; try simp⟩
                              · rw [hc67]
                                cbv
                                cases h1
                                try dsimp only at h0
                                rcases condS h0 with ⟨hc68, h0⟩ | ⟨hc68, h0⟩
                                · rw [hc68]
                                  cbv
                                  cases h0
                                  exact fin_ok hX rfl ⟨[], _, _, ⟨rfl, rfl⟩, rfl, rfl, rfl, rfl, by cbv; try simp⟩
                                · rw [hc68]
                                  cbv
                                  obtain ⟨x233, h1, h0⟩ := bindS h0
                                  rcases condS h1 with ⟨hc69, h1⟩ | ⟨hc69, h1⟩
                                  · rw [hc69]
                                    cbv
                                    cases h1
                                    try dsimp only at h0
                                    replace h0 := condT h0 rfl
                                    cases h0
                                    exact fin_ok hX rfl ⟨[], _, _, ⟨rfl, rfl⟩, rfl, rfl, rfl, rfl, by cbv; try simp⟩
                                  · rw [hc69]
                                    cbv
                                    cases h1
                                    try dsimp only at h0
                                    rcases condS h0 with ⟨hc70, h0⟩ | ⟨hc70, h0⟩
                                    · rw [hc70]
                                      cbv
                                      cases h0
                                      exact fin_ok hX rfl ⟨[], _, _, ⟨rfl, rfl⟩, rfl, rfl, rfl, rfl, by cbv; try simp⟩
                                    · rw [hc70]
                                      cbv
                                      obtain ⟨e1, hi, h0⟩ := bindS h0
                                      obtain ⟨I2, hI2, hi⟩ := loopS hi
                                      refine loop1 tab_holds eqs_holds mixed [(9, (.seg 1 [0, 1, 2, 3, 4, 5, 6, 7, 8, 9] .fin), []), (13, (.seg 1 [0, 1, 2, 3, 4, 5, 6, 7, 8, 9] .fin), [])] hO hX I2 (fun y => [(23, .junk), (123, .junk), (144, .junk), (148, .junk), (149, .junk), (160, .junk), (167, .c (.int .i64 y.2))]) (fun _ => []) (fun y => y.1) _ (by kernel_rfl) hi (by cbv; try simp) ?_
                                      refine allp ?_
                                      intro n2
                                      intro x234 hi
                                      cbv
                                      rw [hI2] at hi
                                      obtain ⟨n2, rfl, x2, h1, hi2⟩ := iterS hi
                                      unfold m_law45_BoundsKeeps_L2 at h1
                                      try dsimp only at h1
                                      rcases condS h1 with ⟨hc71, h1⟩ | ⟨hc71, h1⟩
                                      · rw [hc71]
                                        cbv
                                        obtain ⟨hg72, h1⟩ := grdS h1
                                        refine ⟨idx_of hO hg72, ?_⟩
                                        obtain ⟨hg73, h1⟩ := grdS h1
                                        refine ⟨kin_of hO hg73, ?_⟩
                                        obtain ⟨hg74, h1⟩ := grdS h1
                                        refine ⟨idx_of hO hg74, ?_⟩
                                        obtain ⟨hg75, h1⟩ := grdS h1
                                        refine ⟨kin_of hO hg75, ?_⟩
                                        rcases condS h1 with ⟨hc76, h1⟩ | ⟨hc76, h1⟩
                                        · rw [hc76]
                                          cbv
                                          cases h1
                                          cases exitI hi2
                                          try dsimp only at h0
                                          cases h0
                                          exact fin_ok hX rfl ⟨[], _, _, ⟨rfl, rfl⟩, rfl, rfl, rfl, rfl, by cbv; try simp⟩
                                        · rw [hc76]
                                          cbv
                                          obtain ⟨hg77, h1⟩ := grdS h1
                                          refine ⟨inr_of hO hg77, ?_⟩
                                          cases h1
                                          exact ⟨_, [0, 1, 2, 3], nextI hI2 hi2, by cbv; try simp, by first | exact Nat.lt_succ_self _ | omega⟩
                                      · rw [hc71]
                                        cbv
                                        cases h1
                                        cases exitI hi2
                                        try dsimp only at h0
                                        cases h0
                                        exact fin_ok hX rfl ⟨[], _, _, ⟨rfl, rfl⟩, rfl, rfl, rfl, rfl, by cbv; try simp⟩
                          · rw [hc58]
                            cbv
                            cases h1
                            try dsimp only at h0
                            obtain ⟨n53, hv, h0⟩ := bindS h0
                            refine call_is hO hX (fn_slices_Max hO hv) (by kernel_rfl) [1] rfl ⟨rfl, rfl, trivial⟩ rfl ?_
                            cbv
                            obtain ⟨⟨l79, n54⟩, hv, h0⟩ := bindS h0
                            try dsimp only at h0
                            refine call_is hO hX (fn_bounds_Latest hO hv) (by kernel_rfl) [0] rfl ⟨rfl, rfl, trivial⟩ rfl ?_
                            cbv
                            obtain ⟨x231, h1, h0⟩ := bindS h0
                            rcases condS h1 with ⟨hc78, h1⟩ | ⟨hc78, h1⟩
                            · rw [hc78]
                              cbv
                              cases h1
                              try dsimp only at h0
                              replace h0 := condT h0 rfl
                              cases h0
                              exact fin_ok hX rfl ⟨[], _, _, ⟨rfl, rfl⟩, rfl, rfl, rfl, rfl, by cbv; try simp⟩
                            · rw [hc78]
                              cbv
                              cases h1
                              try dsimp only at h0
                              rcases condS h0 with ⟨hc79, h0⟩ | ⟨hc79, h0⟩
                              · rw [hc79]
                                cbv
                                cases h0
                                exact fin_ok hX rfl ⟨[], _, _, ⟨rfl, rfl⟩, rfl, rfl, rfl, rfl, by cbv; try simp⟩
                              · rw [hc79]
                                cbv
                                obtain ⟨x233, h1, h0⟩ := bindS h0
                                rcases condS h1 with ⟨hc80, h1⟩ | ⟨hc80, h1⟩
                                · rw [hc80]
                                  cbv
                                  cases h1
                                  try dsimp only at h0
                                  replace h0 := condT h0 rfl
                                  cases h0
                                  exact fin_ok hX rfl ⟨[], _, _, ⟨rfl, rfl⟩, rfl, rfl, rfl, rfl, by cbv; try simp⟩
                                · rw [hc80]
                                  cbv
                                  cases h1
                                  try dsimp only at h0
                                  rcases condS h0 with ⟨hc81, h0⟩ | ⟨hc81, h0⟩
                                  · rw [hc81]
                                    cbv
                                    cases h0
                                    exact fin_ok hX rfl ⟨[], _, _, ⟨rfl, rfl⟩, rfl, rfl, rfl, rfl, by cbv; try simp⟩
                                  · rw [hc81]
                                    cbv
                                    obtain ⟨e1, hi, h0⟩ := bindS h0
                                    obtain ⟨I2, hI2, hi⟩ := loopS hi
                                    refine loop1 tab_holds eqs_holds mixed [(9, (.seg 1 [0, 1, 2, 3, 4, 5, 6, 7, 8, 9] .fin), []), (13, (.seg 1 [0, 1, 2, 3, 4, 5, 6, 7, 8, 9] .fin), [])] hO hX I2 (fun y => [(18, .junk), (23, .junk), (115, .junk), (118, .junk), (119, .junk), (144, .junk), (148, .junk), (149, .junk), (160, .junk), (167, .c (.int .i64 y.2))]) (fun _ => []) (fun y => y.1) _ (by kernel_rfl) hi (by cbv; try simp) ?_
                                    refine allp ?_
                                    intro n2
                                    intro x234 hi
                                    cbv
                                    rw [hI2] at hi
                                    obtain ⟨n2, rfl, x2, h1, hi2⟩ := iterS hi
                                    unfold m_law45_BoundsKeeps_L2 at h1
                                    try dsimp only at h1
                                    rcases condS h1 with ⟨hc82, h1⟩ | ⟨hc82, h1⟩
                                    · rw [hc82]
                                      cbv
                                      obtain ⟨hg83, h1⟩ := grdS h1
                                      refine ⟨idx_of hO hg83, ?_⟩
                                      obtain ⟨hg84, h1⟩ := grdS h1
                                      refine ⟨kin_of hO hg84, ?_⟩
                                      obtain ⟨hg85, h1⟩ := grdS h1
                                      refine ⟨idx_of hO hg85, ?_⟩
                                      obtain ⟨hg86, h1⟩ := grdS h1
                                      refine ⟨kin_of hO hg86, ?_⟩
                                      rcases condS h1 with ⟨hc87, h1⟩ | ⟨hc87, h1⟩
                                      · rw [hc87]
                                        cbv
                                        cases h1
                                        cases exitI hi2
                                        try dsimp only at h0
                                        cases h0
                                        exact fin_ok hX rfl ⟨[], _, _, ⟨rfl, rfl⟩, rfl, rfl, rfl, rfl, by cbv; try simp⟩
                                      · rw [hc87]
                                        cbv
                                        obtain ⟨hg88, h1⟩ := grdS h1
                                        refine ⟨inr_of hO hg88, ?_⟩
                                        cases h1
                                        exact ⟨_, [0, 1, 2, 3], nextI hI2 hi2, by cbv; try simp, by first | exact Nat.lt_succ_self _ | omega⟩
                                    · rw [hc82]
                                      cbv
                                      cases h1
                                      cases exitI hi2
                                      try dsimp only at h0
                                      cases h0
                                      exact fin_ok hX rfl ⟨[], _, _, ⟨rfl, rfl⟩, rfl, rfl, rfl, rfl, by cbv; try simp⟩
                  · as_aux_lemma =>
                    rw [hc17]
                    cbv
                    rcases condS h1 with ⟨hc89, h1⟩ | ⟨hc89, h1⟩
                    · rw [hc89]
                      cbv
                      cases h1
                      try dsimp only at h0
                      rcases condS h0 with ⟨hc90, h0⟩ | ⟨hc90, h0⟩
                      · rw [hc90]
                        cbv
                        cases h0
                        exact fin_ok hX rfl ⟨[], _, _, ⟨rfl, rfl⟩, rfl, rfl, rfl, rfl, by cbv; try simp⟩
                      · rw [hc90]
                        cbv
                        obtain ⟨hg91, h0⟩ := grdS h0
                        refine ⟨idx_of hO hg91, ?_⟩
                        obtain ⟨hg92, h0⟩ := grdS h0
                        refine ⟨kin_of hO hg92, ?_⟩
                        rcases condS h0 with ⟨hc93, h0⟩ | ⟨hc93, h0⟩
                        · rw [hc93]
                          cbv
                          cases h0
                          exact fin_ok hX rfl ⟨[], _, _, ⟨rfl, rfl⟩, rfl, rfl, rfl, rfl, by cbv; try simp⟩
                        · rw [hc93]
                          cbv
                          obtain ⟨⟨l78, n52⟩, hv, h0⟩ := bindS h0
                          try dsimp only at h0
                          refine call_is hO hX (fn_bounds_Earliest hO hv) (by kernel_rfl) [0] rfl ⟨rfl, rfl, trivial⟩ rfl ?_
                          cbv
                          obtain ⟨e1, h1, h0⟩ := bindS h0
                          rcases condS h1 with ⟨hc94, h1⟩ | ⟨hc94, h1⟩
                          · rw [hc94]
                            cbv
                            obtain ⟨e2, hi, h1⟩ := bindS h1
                            obtain ⟨I1, hI1, hi⟩ := loopS hi
                            refine loop1 tab_holds eqs_holds mixed [(9, (.seg 1 [0, 1, 2, 3, 4, 5, 6, 7, 8, 9] .fin), []), (13, (.seg 1 [0, 1, 2, 3, 4, 5, 6, 7, 8, 9] .fin), [])] hO hX I1 (fun y => [(18, .junk), (115, .junk), (118, .junk), (119, .junk), (125, .c (.int .i64 y.2))]) (fun _ => []) (fun y => y.1) _ (by kernel_rfl) hi (by cbv; try simp) ?_
                            refine allp ?_
                            intro n1
                            intro x227 hi
                            cbv
                            rw [hI1] at hi
                            obtain ⟨n1, rfl, x1, h2, hi1⟩ := iterS hi
                            unfold m_law45_BoundsKeeps_L1 at h2
                            try dsimp only at h2
                            rcases condS h2 with ⟨hc95, h2⟩ | ⟨hc95, h2⟩
                            · rw [hc95]
                              cbv
                              obtain ⟨hg96, h2⟩ := grdS h2
                              refine ⟨idx_of hO hg96, ?_⟩
                              obtain ⟨hg97, h2⟩ := grdS h2
                              refine ⟨kin_of hO hg97, ?_⟩
                              obtain ⟨x229, h3, h2⟩ := bindS h2
                              rcases condS h3 with ⟨hc98, h3⟩ | ⟨hc98, h3⟩
                              · rw [hc98]
                                cbv
                                cases h3
                                try dsimp only at h2
                                replace h2 := condT h2 rfl
                                cases h2
                                cases exitI hi1
                                try dsimp only at h1
                                cases h1
                                try dsimp only at h0
                                cases h0
                                exact fin_ok hX rfl ⟨[], _, _, ⟨rfl, rfl⟩, rfl, rfl, rfl, rfl, by cbv; try simp⟩
                              · rw [hc98]
                                cbv
                                obtain ⟨hg99, h3⟩ := grdS h3
                                refine ⟨idx_of hO hg99, ?_⟩
                                obtain ⟨hg100, h3⟩ := grdS h3
                                refine ⟨kin_of hO hg100, ?_⟩
                                cases h3
                                try dsimp only at h2
                                rcases condS h2 with ⟨hc101, h2⟩ | ⟨hc101, h2⟩
                                · rw [hc101]
                                  cbv
                                  cases h2
                                  cases exitI hi1
                                  try dsimp only at h1
                                  cases h1
                                  try dsimp only at h0
                                  cases h0
                                  exact fin_ok hX rfl ⟨[], _, _, ⟨rfl, rfl⟩, rfl, rfl, rfl, rfl, by cbv; try simp⟩
                                · rw [hc101]
                                  cbv
                                  obtain ⟨hg102, h2⟩ := grdS h2
                                  refine ⟨inr_of hO hg102, ?_⟩
                                  cases h2
                                  exact ⟨_, [0, 1, 2], nextI hI1 hi1, by cbv; try simp, by first | exact Nat.lt_succ_self _ | omega⟩
                            · rw [hc95]
                              cbv
                              cases h2
                              cases exitI hi1
                              try dsimp only at h1
                              cases h1
                              try dsimp only at h0
                              obtain ⟨n53, hv, h0⟩ := bindS h0
                              refine call_is hO hX (fn_slices_Max hO hv) (by kernel_rfl) [1] rfl ⟨rfl, rfl, trivial⟩ rfl ?_
                              cbv
                              obtain ⟨⟨l79, n54⟩, hv, h0⟩ := bindS h0
                              try dsimp only at h0
                              refine call_is hO hX (fn_bounds_Latest hO hv) (by kernel_rfl) [0] rfl ⟨rfl, rfl, trivial⟩ rfl ?_
                              cbv
                              obtain ⟨x231, h1, h0⟩ := bindS h0
                              rcases condS h1 with ⟨hc103, h1⟩ | ⟨hc103, h1⟩
                              · rw [hc103]
                                cbv
                                cases h1
                                try dsimp only at h0
                                replace h0 := condT h0 rfl
                                cases h0
                                exact fin_ok hX rfl ⟨[], _, _, ⟨rfl, rfl⟩, rfl, rfl, rfl, rfl, by cbv; try simp⟩
                              · rw [hc103]
                                cbv
                                cases h1
                                try dsimp only at h0
                                rcases condS h0 with ⟨hc104, h0⟩ | ⟨hc104, h0⟩
                                · rw [hc104]
                                  cbv
                                  cases h0
                                  exact fin_ok hX rfl ⟨[], _, _, ⟨rfl, rfl⟩, rfl, rfl, rfl, rfl, by cbv; try simp⟩
                                · rw [hc104]
                                  cbv
                                  obtain ⟨x233, h1, h0⟩ := bindS h0
                                  rcases condS h1 with ⟨hc105, h1⟩ | ⟨hc105, h1⟩
                                  · rw [hc105]
                                    cbv
                                    cases h1
                                    try dsimp only at h0
                                    replace h0 := condT h0 rfl
                                    cases h0
                                    exact fin_ok hX rfl ⟨[], _, _, ⟨rfl, rfl⟩, rfl, rfl, rfl, rfl, by cbv; try simp⟩
                                  · rw [hc105]
                                    cbv
                                    cases h1
                                    try dsimp only at h0
                                    rcases condS h0 with ⟨hc106, h0⟩ | ⟨hc106, h0⟩
                                    · rw [hc106]
                                      cbv
                                      cases h0
                                      exact fin_ok hX rfl ⟨[], _, _, ⟨rfl, rfl⟩, rfl, rfl, rfl, rfl, by cbv; try simp⟩
                                    · rw [hc106]
                                      cbv
                                      obtain ⟨e1, hi, h0⟩ := bindS h0
                                      obtain ⟨I2, hI2, hi⟩ := loopS hi
                                      refine loop1 tab_holds eqs_holds mixed [(9, (.seg 1 [0, 1, 2, 3, 4, 5, 6, 7, 8, 9] .fin), []), (13, (.seg 1 [0, 1, 2, 3, 4, 5, 6, 7, 8, 9] .fin), [])] hO hX I2 (fun y => [(23, .junk), (123, .junk), (144, .junk), (148, .junk), (149, .junk), (160, .junk), (167, .c (.int .i64 y.2))]) (fun _ => []) (fun y => y.1) _ (by kernel_rfl) hi (by cbv; try simp) ?_
                                      refine allp ?_
                                      intro n2
                                      intro x234 hi
                                      cbv
                                      rw [hI2] at hi
                                      obtain ⟨n2, rfl, x2, h1, hi2⟩ := iterS hi
                                      unfold m_law45_BoundsKeeps_L2 at h1
                                      try dsimp only at h1
                                      rcases condS h1 with ⟨hc107, h1⟩ | ⟨hc107, h1⟩
                                      · rw [hc107]
                                        cbv
                                        obtain ⟨hg108, h1⟩ := grdS h1
                                        refine ⟨idx_of hO hg108, ?_⟩
                                        obtain ⟨hg109, h1⟩ := grdS h1
                                        refine ⟨kin_of hO hg109, ?_⟩
                                        obtain ⟨hg110, h1⟩ := grdS h1
                                        refine ⟨idx_of hO hg110, ?_⟩
                                        obtain ⟨hg111, h1⟩ := grdS h1
                                        refine ⟨kin_of hO hg111, ?_⟩
                                        rcases condS h1 with ⟨hc112, h1⟩ | ⟨hc112, h1⟩
                                        · rw [hc112]
                                          cbv
                                          cases h1
                                          cases exitI hi2
                                          try dsimp only at h0
                                          cases h0
                                          exact fin_ok hX rfl ⟨[], _, _, ⟨rfl, rfl⟩, rfl, rfl, rfl, rfl, by cbv; try simp⟩
                                        · rw [hc112]
                                          cbv
                                          obtain ⟨hg113, h1⟩ := grdS h1
                                          refine ⟨inr_of hO hg113, ?_⟩
                                          cases h1
                                          exact ⟨_, [0, 1, 2, 3], nextI hI2 hi2, by cbv; try simp, by first | exact Nat.lt_succ_self _ | omega⟩
                                      · rw [hc107]
                                        cbv
                                        cases h1
                                        cases exitI hi2
                                        try dsimp only at h0
                                        cases h0
                                        exact fin_ok hX rfl ⟨[], _, _, ⟨rfl, rfl⟩, rfl, rfl, rfl, rfl, by cbv; try simp⟩
                          · rw [hc94]
                            cbv
                            cases h1
                            try dsimp only at h0
                            obtain ⟨n53, hv, h0⟩ := bindS h0
                            refine call_is hO hX (fn_slices_Max hO hv) (by kernel_rfl) [1] rfl ⟨rfl, rfl, trivial⟩ rfl ?_
                            cbv
                            obtain ⟨⟨l79, n54⟩, hv, h0⟩ := bindS h0
                            try dsimp only at h0
                            refine call_is hO hX (fn_bounds_Latest hO hv) (by kernel_rfl) [0] rfl ⟨rfl, rfl, trivial⟩ rfl ?_
                            cbv
                            obtain ⟨x231, h1, h0⟩ := bindS h0
                            rcases condS h1 with ⟨hc114, h1⟩ | ⟨hc114, h1⟩
                            · rw [hc114]
                              cbv
                              cases h1
                              try dsimp only at h0
                              replace h0 := condT h0 rfl
                              cases h0
                              exact fin_ok hX rfl ⟨[], _, _, ⟨rfl, rfl⟩, rfl, rfl, rfl, rfl, by cbv; try simp⟩
                            · rw [hc114]
                              cbv
                              cases h1
                              try dsimp only at h0
                              rcases condS h0 with ⟨hc115, h0⟩ | ⟨hc115, h0⟩
                              · rw [hc115]
                                cbv
                                cases h0
                                exact fin_ok hX rfl ⟨[], _, _, ⟨rfl, rfl⟩, rfl, rfl, rfl, rfl, by cbv; try simp⟩
                              · rw [hc115]
                                cbv
                                obtain ⟨x233, h1, h0⟩ := bindS h0
                                rcases condS h1 with ⟨hc116, h1⟩ | ⟨hc116, h1⟩
                                · rw [hc116]
                                  cbv
                                  cases h1
                                  try dsimp only at h0
                                  replace h0 := condT h0 rfl
                                  cases h0
                                  exact fin_ok hX rfl ⟨[], _, _, ⟨rfl, rfl⟩, rfl, rfl, rfl, rfl, by cbv; try simp⟩
                                · rw [hc116]
                                  cbv
                                  cases h1
                                  try dsimp only at h0
                                  rcases condS h0 with ⟨hc117, h0⟩ | ⟨hc117, h0⟩
                                  · rw [hc117]
                                    cbv
                                    cases h0
                                    exact fin_ok hX rfl ⟨[], _, _, ⟨rfl, rfl⟩, rfl, rfl, rfl, rfl, by cbv; try simp⟩
                                  · rw [hc117]
                                    cbv
                                    obtain ⟨e1, hi, h0⟩ := bindS h0
                                    obtain ⟨I2, hI2, hi⟩ := loopS hi
                                    refine loop1 tab_holds eqs_holds mixed [(9, (.seg 1 [0, 1, 2, 3, 4, 5, 6, 7, 8, 9] .fin), []), (13, (.seg 1 [0, 1, 2, 3, 4, 5, 6, 7, 8, 9] .fin), [])] hO hX I2 (fun y => [(18, .junk), (23, .junk), (115, .junk), (118, .junk), (119, .junk), (144, .junk), (148, .junk), (149, .junk), (160, .junk), (167, .c (.int .i64 y.2))]) (fun _ => []) (fun y => y.1) _ (by kernel_rfl) hi (by cbv; try simp) ?_
                                    refine allp ?_
                                    intro n2
                                    intro x234 hi
                                    cbv
                                    rw [hI2] at hi
                                    obtain ⟨n2, rfl, x2, h1, hi2⟩ := iterS hi
                                    unfold m_law45_BoundsKeeps_L2 at h1
                                    try dsimp only at h1
                                    rcases condS h1 with ⟨hc118, h1⟩ | ⟨hc118, h1⟩
                                    · rw [hc118]
                                      cbv
                                      obtain ⟨hg119, h1⟩ := grdS h1
                                      refine ⟨idx_of hO hg119, ?_⟩
                                      obtain ⟨hg120, h1⟩ := grdS h1
                                      refine ⟨kin_of hO hg120, ?_⟩
                                      obtain ⟨hg121, h1⟩ := grdS h1
                                      refine ⟨idx_of hO hg121, ?_⟩
                                      obtain ⟨hg122, h1⟩ := grdS h1
                                      refine ⟨kin_of hO hg122, ?_⟩
                                      rcases condS h1 with ⟨hc123, h1⟩ | ⟨hc123, h1⟩
                                      · rw [hc123]
                                        cbv
                                        cases h1
                                        cases exitI hi2
                                        try dsimp only at h0
                                        cases h0
                                        exact fin_ok hX rfl ⟨[], _, _, ⟨rfl, rfl⟩, rfl, rfl, rfl, rfl, by cbv; try simp⟩
                                      · rw [hc123]
                                        cbv
                                        obtain ⟨hg124, h1⟩ := grdS h1
                                        refine ⟨inr_of hO hg124, ?_⟩
                                        cases h1
                                        exact ⟨_, [0, 1, 2, 3], nextI hI2 hi2, by cbv; try simp, by first | exact Nat.lt_succ_self _ | omega⟩
                                    · rw [hc118]
                                      cbv
                                      cases h1
                                      cases exitI hi2
                                      try dsimp only at h0
                                      cases h0
                                      exact fin_ok hX rfl ⟨[], _, _, ⟨rfl, rfl⟩, rfl, rfl, rfl, rfl, by cbv; try simp⟩
                    · rw [hc89]
                      cbv
                      cases h1
                      try dsimp only at h0
                      replace h0 := condF h0 rfl
                      obtain ⟨hg125, h0⟩ := grdS h0
                      refine ⟨idx_of hO hg125, ?_⟩
                      obtain ⟨hg126, h0⟩ := grdS h0
                      refine ⟨kin_of hO hg126, ?_⟩
                      rcases condS h0 with ⟨hc127, h0⟩ | ⟨hc127, h0⟩
                      · rw [hc127]
                        cbv
                        cases h0
                        exact fin_ok hX rfl ⟨[], _, _, ⟨rfl, rfl⟩, rfl, rfl, rfl, rfl, by cbv; try simp⟩
                      · rw [hc127]
                        cbv
                        obtain ⟨⟨l78, n52⟩, hv, h0⟩ := bindS h0
                        try dsimp only at h0
                        refine call_is hO hX (fn_bounds_Earliest hO hv) (by kernel_rfl) [0] rfl ⟨rfl, rfl, trivial⟩ rfl ?_
                        cbv
                        obtain ⟨e1, h1, h0⟩ := bindS h0
                        rcases condS h1 with ⟨hc128, h1⟩ | ⟨hc128, h1⟩
                        · rw [hc128]
                          cbv
                          obtain ⟨e2, hi, h1⟩ := bindS h1
                          obtain ⟨I1, hI1, hi⟩ := loopS hi
                          refine loop1 tab_holds eqs_holds mixed [(9, (.seg 1 [0, 1, 2, 3, 4, 5, 6, 7, 8, 9] .fin), []), (13, (.seg 1 [0, 1, 2, 3, 4, 5, 6, 7, 8, 9] .fin), [])] hO hX I1 (fun y => [(18, .junk), (115, .junk), (118, .junk), (119, .junk), (125, .c (.int .i64 y.2))]) (fun _ => []) (fun y => y.1) _ (by kernel_rfl) hi (by cbv; try simp) ?_
                          refine allp ?_
                          intro n1
                          intro x227 hi
                          cbv
                          rw [hI1] at hi
                          obtain ⟨n1, rfl, x1, h2, hi1⟩ := iterS hi
                          unfold m_law45_BoundsKeeps_L1 at h2
                          try dsimp only at h2
                          rcases condS h2 with ⟨hc129, h2⟩ | ⟨hc129, h2⟩
                          · rw [hc129]
                            cbv
                            obtain ⟨hg130, h2⟩ := grdS h2
                            refine ⟨idx_of hO hg130, ?_⟩
                            obtain ⟨hg131, h2⟩ := grdS h2
                            refine ⟨kin_of hO hg131, ?_⟩
                            obtain ⟨x229, h3, h2⟩ := bindS h2
                            rcases condS h3 with ⟨hc132, h3⟩ | ⟨hc132, h3⟩
                            · rw [hc132]
                              cbv
                              cases h3
                              try dsimp only at h2
                              replace h2 := condT h2 rfl
                              cases h2
                              cases exitI hi1
                              try dsimp only at h1
                              cases h1
                              try dsimp only at h0
                              cases h0
                              exact fin_ok hX rfl ⟨[], _, _, ⟨rfl, rfl⟩, rfl, rfl, rfl, rfl, by cbv; try simp⟩
                            · rw [hc132]
                              cbv
                              obtain ⟨hg133, h3⟩ := grdS h3
                              refine ⟨idx_of hO hg133, ?_⟩
                              obtain ⟨hg134, h3⟩ := grdS h3
                              refine ⟨kin_of hO hg134, ?_⟩
                              cases h3
                              try dsimp only at h2
                              rcases condS h2 with ⟨hc135, h2⟩ | ⟨hc135, h2⟩
                              · rw [hc135]
                                cbv
                                cases h2
                                cases exitI hi1
                                try dsimp only at h1
                                cases h1
                                try dsimp only at h0
                                cases h0
                                exact fin_ok hX rfl ⟨[], _, _, ⟨rfl, rfl⟩, rfl, rfl, rfl, rfl, by cbv; try simp⟩
                              · rw [hc135]
                                cbv
                                obtain ⟨hg136, h2⟩ := grdS h2
                                refine ⟨inr_of hO hg136, ?_⟩
                                cases h2
                                exact ⟨_, [0, 1, 2], nextI hI1 hi1, by cbv; try simp, by first | exact Nat.lt_succ_self _ | omega⟩
                          · rw [hc129]
                            cbv
                            cases h2
                            cases exitI hi1
                            try dsimp only at h1
                            cases h1
                            try dsimp only at h0
                            obtain ⟨n53, hv, h0⟩ := bindS h0
                            refine call_is hO hX (fn_slices_Max hO hv) (by kernel_rfl) [1] rfl ⟨rfl, rfl, trivial⟩ rfl ?_
                            cbv
                            obtain ⟨⟨l79, n54⟩, hv, h0⟩ := bindS h0
                            try dsimp only at h0
                            refine call_is hO hX (fn_bounds_Latest hO hv) (by kernel_rfl) [0] rfl ⟨rfl, rfl, trivial⟩ rfl ?_
                            cbv
                            obtain ⟨x231, h1, h0⟩ := bindS h0
                            rcases condS h1 with ⟨hc137, h1⟩ | ⟨hc137, h1⟩
                            · rw [hc137]
                              cbv
                              cases h1
                              try dsimp only at h0
                              replace h0 := condT h0 rfl
                              cases h0
                              exact fin_ok hX rfl ⟨[], _, _, ⟨rfl, rfl⟩, rfl, rfl, rfl, rfl, by cbv; try simp⟩
                            · rw [hc137]
                              cbv
                              cases h1
                              try dsimp only at h0
                              rcases condS h0 with ⟨hc138, h0⟩ | ⟨hc138, h0⟩
                              · rw [hc138]
                                cbv
                                cases h0
                                exact fin_ok hX rfl ⟨[], _, _, ⟨rfl, rfl⟩, rfl, rfl, rfl, rfl, by cbv; try simp⟩
                              · rw [hc138]
                                cbv
                                obtain ⟨x233, h1, h0⟩ := bindS h0
                                rcases condS h1 with ⟨hc139, h1⟩ | ⟨hc139, h1⟩
                                · rw [hc139]
                                  cbv
                                  cases h1
                                  try dsimp only at h0
                                  replace h0 := condT h0 rfl
                                  cases h0
                                  exact fin_ok hX rfl ⟨[], _, _, ⟨rfl, rfl⟩, rfl, rfl, rfl, rfl, by cbv; try simp⟩
                                · rw [hc139]
                                  cbv
                                  cases h1
                                  try dsimp only at h0
                                  rcases condS h0 with ⟨hc140, h0⟩ | ⟨hc140, h0⟩
                                  · rw [hc140]
                                    cbv
                                    cases h0
                                    exact fin_ok hX rfl ⟨[], _, _, ⟨rfl, rfl⟩, rfl, rfl, rfl, rfl, by cbv; try simp⟩
                                  · rw [hc140]
                                    cbv
                                    obtain ⟨e1, hi, h0⟩ := bindS h0
                                    obtain ⟨I2, hI2, hi⟩ := loopS hi
                                    refine loop1 tab_holds eqs_holds mixed [(9, (.seg 1 [0, 1, 2, 3, 4, 5, 6, 7, 8, 9] .fin), []), (13, (.seg 1 [0, 1, 2, 3, 4, 5, 6, 7, 8, 9] .fin), [])] hO hX I2 (fun y => [(23, .junk), (123, .junk), (144, .junk), (148, .junk), (149, .junk), (160, .junk), (167, .c (.int .i64 y.2))]) (fun _ => []) (fun y => y.1) _ (by kernel_rfl) hi (by cbv; try simp) ?_
                                    refine allp ?_
                                    intro n2
                                    intro x234 hi
                                    cbv
                                    rw [hI2] at hi
                                    obtain ⟨n2, rfl, x2, h1, hi2⟩ := iterS hi
                                    unfold m_law45_BoundsKeeps_L2 at h1
                                    try dsimp only at h1
                                    rcases condS h1 with ⟨hc141, h1⟩ | ⟨hc141, h1⟩
                                    · rw [hc141]
                                      cbv
                                      obtain ⟨hg142, h1⟩ := grdS h1
                                      refine ⟨idx_of hO hg142, ?_⟩
                                      obtain ⟨hg143, h1⟩ := grdS h1
                                      refine ⟨kin_of hO hg143, ?_⟩
                                      obtain ⟨hg144, h1⟩ := grdS h1
                                      refine ⟨idx_of hO hg144, ?_⟩
                                      obtain ⟨hg145, h1⟩ := grdS h1
                                      refine ⟨kin_of hO hg145, ?_⟩
                                      rcases condS h1 with ⟨hc146, h1⟩ | ⟨hc146, h1⟩
                                      · rw [hc146]
                                        cbv
                                        cases h1
                                        cases exitI hi2
                                        try dsimp only at h0
                                        cases h0
                                        exact fin_ok hX rfl ⟨[], _, _, ⟨rfl, rfl⟩, rfl, rfl, rfl, rfl, by cbv; try simp⟩
                                      · rw [hc146]
                                        cbv
                                        obtain ⟨hg147, h1⟩ := grdS h1
                                        refine ⟨inr_of hO hg147, ?_⟩
                                        cases h1
                                        exact ⟨_, [0, 1, 2, 3], nextI hI2 hi2, by cbv; try simp, by first | exact Nat.lt_succ_self _ | omega⟩
                                    · rw [hc141]
                                      cbv
                                      cases h1
                                      cases exitI hi2
                                      try dsimp only at h0
                                      cases h0
                                      exact fin_ok hX rfl ⟨[], _, _, ⟨rfl, rfl⟩, rfl, rfl, rfl, rfl, by cbv; try simp⟩
                        · rw [hc128]
                          cbv
                          cases h1
                          try dsimp only at h0
                          obtain ⟨n53, hv, h0⟩ := bindS h0
                          refine call_is hO hX (fn_slices_Max hO hv) (by kernel_rfl) [1] rfl ⟨rfl, rfl, trivial⟩ rfl ?_
                          cbv
                          obtain ⟨⟨l79, n54⟩, hv, h0⟩ := bindS h0
                          try dsimp only at h0
                          refine call_is hO hX (fn_bounds_Latest hO hv) (by kernel_rfl) [0] rfl ⟨rfl, rfl, trivial⟩ rfl ?_
                          cbv
                          obtain ⟨x231, h1, h0⟩ := bindS h0
                          rcases condS h1 with ⟨hc148, h1⟩ | ⟨hc148, h1⟩
                          · rw [hc148]
                            cbv
                            cases h1
                            try dsimp only at h0
                            replace h0 := condT h0 rfl
                            cases h0
                            exact fin_ok hX rfl ⟨[], _, _, ⟨rfl, rfl⟩, rfl, rfl, rfl, rfl, by cbv; try simp⟩
                          · rw [hc148]
                            cbv
                            cases h1
                            try dsimp only at h0
                            rcases condS h0 with ⟨hc149, h0⟩ | ⟨hc149, h0⟩
                            · rw [hc149]
                              cbv
                              cases h0
                              exact fin_ok hX rfl ⟨[], _, _, ⟨rfl, rfl⟩, rfl, rfl, rfl, rfl, by cbv; try simp⟩
                            · rw [hc149]
                              cbv
                              obtain ⟨x233, h1, h0⟩ := bindS h0
                              rcases condS h1 with ⟨hc150, h1⟩ | ⟨hc150, h1⟩
                              · rw [hc150]
                                cbv
                                cases h1
                                try dsimp only at h0
                                replace h0 := condT h0 rfl
                                cases h0
                                exact fin_ok hX rfl ⟨[], _, _, ⟨rfl, rfl⟩, rfl, rfl, rfl, rfl, by cbv; try simp⟩
                              · rw [hc150]
                                cbv
                                cases h1
                                try dsimp only at h0
                                rcases condS h0 with ⟨hc151, h0⟩ | ⟨hc151, h0⟩
                                · rw [hc151]
                                  cbv
                                  cases h0
                                  exact fin_ok hX rfl ⟨[], _, _, ⟨rfl, rfl⟩, rfl, rfl, rfl, rfl, by cbv; try simp⟩
                                · rw [hc151]
                                  cbv
                                  obtain ⟨e1, hi, h0⟩ := bindS h0
                                  obtain ⟨I2, hI2, hi⟩ := loopS hi
                                  refine loop1 tab_holds eqs_holds mixed [(9, (.seg 1 [0, 1, 2, 3, 4, 5, 6, 7, 8, 9] .fin), []), (13, (.seg 1 [0, 1, 2, 3, 4, 5, 6, 7, 8, 9] .fin), [])] hO hX I2 (fun y => [(18, .junk), (23, .junk), (115, .junk), (118, .junk), (119, .junk), (144, .junk), (148, .junk), (149, .junk), (160, .junk), (167, .c (.int .i64 y.2))]) (fun _ => []) (fun y => y.1) _ (by kernel_rfl) hi (by cbv; try simp) ?_
                                  refine allp ?_
                                  intro n2
                                  intro x234 hi
                                  cbv
                                  rw [hI2] at hi
                                  obtain ⟨n2, rfl, x2, h1, hi2⟩ := iterS hi
                                  unfold m_law45_BoundsKeeps_L2 at h1
                                  try dsimp only at h1
                                  rcases condS h1 with ⟨hc152, h1⟩ | ⟨hc152, h1⟩
                                  · rw [hc152]
                                    cbv
                                    obtain ⟨hg153, h1⟩ := grdS h1
                                    refine ⟨idx_of hO hg153, ?_⟩
                                    obtain ⟨hg154, h1⟩ := grdS h1
                                    refine ⟨kin_of hO hg154, ?_⟩
                                    obtain ⟨hg155, h1⟩ := grdS h1
                                    refine ⟨idx_of hO hg155, ?_⟩
                                    obtain ⟨hg156, h1⟩ := grdS h1
                                    refine ⟨kin_of hO hg156, ?_⟩
                                    rcases condS h1 with ⟨hc157, h1⟩ | ⟨hc157, h1⟩
                                    · rw [hc157]
                                      cbv
                                      cases h1
                                      cases exitI hi2
                                      try dsimp only at h0
                                      cases h0
                                      exact fin_ok hX rfl ⟨[], _, _, ⟨rfl, rfl⟩, rfl, rfl, rfl, rfl, by cbv; try simp⟩
                                    · rw [hc157]
                                      cbv
                                      obtain ⟨hg158, h1⟩ := grdS h1
                                      refine ⟨inr_of hO hg158, ?_⟩
                                      cases h1
                                      exact ⟨_, [0, 1, 2, 3], nextI hI2 hi2, by cbv; try simp, by first | exact Nat.lt_succ_self _ | omega⟩
                                  · rw [hc152]
                                    cbv
                                    cases h1
                                    cases exitI hi2
                                    try dsimp only at h0
                                    cases h0
                                    exact fin_ok hX rfl ⟨[], _, _, ⟨rfl, rfl⟩, rfl, rfl, rfl, rfl, by cbv; try simp⟩
end Go.Proofs.Ytegmjohhgedakaa
