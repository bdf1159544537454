/-
  The code does what its models say (printed by lift.py).
-/
import Derived.Test.YtegmjohhgedakaaBM
import Derived.Test.YtegmjohhgedakaaSrtB
import Derived.Test.YtegmjohhgedakaaBW1
import Derived.Test.YtegmjohhgedakaaBW4
import Derived.Test.YtegmjohhgedakaaBW5
import Derived.Test.YtegmjohhgedakaaBW6
import Derived.Test.YtegmjohhgedakaaBW7
import Derived.Test.YtegmjohhgedakaaBW15
namespace Go.Proofs.Ytegmjohhgedakaa
open Go.RowKit
set_option maxRecDepth 100000

set_option maxHeartbeats 40000000 in
theorem fn_law45_BoundsAdds {O0 : Ops} (hO0 : O0 = std) {n_1 : Int} {b_1 : Int} {b_2 : Int} {b_3 : Int} {l_1 : List (Int × Int × Int)} {m_1 : List (List Int)} {r1 : Bool} (h : m_law45_BoundsAdds O0 n_1 b_1 b_2 b_3 l_1 m_1 = some r1) :
    Fn Try.prog 8 [.c (.int .i64 n_1), .c (.sl 0), .agg [.int .i64 b_1, .int .i64 b_2, .int .i64 b_3], .c (.sl 1)] [.arr false .i3 l_1, .mat false m_1] (fun v c => v = .c (.bool r1) ∧ c = []) := by
  refine fn_run tab_holds eqs_holds mixed [(12, (.seg 0 [0] (.seg 1 [1, 3] (.alt 2 (.seg 2 [4] (.one 5 (.one 6 (.tl [7, 8, 9, 10, 11] .done)))) (.alt 4 (.seg 2 [2] (.one 5 (.one 6 (.tl [7, 8, 9, 10, 11] .done)))) .no)))), [5, 6])] Try.func8 (by kernel_rfl) (by kernel_rfl) (Nat.le_of_ble_eq_true rfl) ?_
  intro O X hO hX
  rw [hO0, ← hO] at h
  unfold m_law45_BoundsAdds at h
  have h0 := h; clear h
  cbv
  obtain ⟨x177, h1, h0⟩ := bindS h0
  obtain ⟨b55, hv, h1⟩ := bindS h1
  refine call_is hO hX (fn_law45_awake hO hv) (by kernel_rfl) [] rfl trivial rfl ?_
  cbv
  rcases condS h1 with ⟨hc1, h1⟩ | ⟨hc1, h1⟩
  · rw [hc1]
    cbv
    cases h1
    try dsimp only at h0
    replace h0 := condT h0 rfl
    obtain ⟨b58, hv, h0⟩ := bindS h0
    refine call_is hO hX (fn_law45_awake hO hv) (by kernel_rfl) [] rfl trivial rfl ?_
    cbv
    cases h0
    exact fin_ok hX rfl ⟨[], _, _, ⟨rfl, rfl⟩, rfl, rfl, rfl, rfl, by cbv; try simp⟩
  · as_aux_lemma =>
    rw [hc1]
    cbv
    rcases condS h1 with ⟨hc2, h1⟩ | ⟨hc2, h1⟩
    · rw [hc2]
      cbv
      cases h1
      try dsimp only at h0
      replace h0 := condT h0 rfl
      obtain ⟨b58, hv, h0⟩ := bindS h0
      refine call_is hO hX (fn_law45_awake hO hv) (by kernel_rfl) [] rfl trivial rfl ?_
      cbv
      cases h0
      exact fin_ok hX rfl ⟨[], _, _, ⟨rfl, rfl⟩, rfl, rfl, rfl, rfl, by cbv; try simp⟩
    · as_aux_lemma =>
      rw [hc2]
      cbv
      rcases condS h1 with ⟨hc3, h1⟩ | ⟨hc3, h1⟩
      · rw [hc3]
        cbv
        cases h1
        try dsimp only at h0
        replace h0 := condT h0 rfl
        obtain ⟨b58, hv, h0⟩ := bindS h0
        refine call_is hO hX (fn_law45_awake hO hv) (by kernel_rfl) [] rfl trivial rfl ?_
        cbv
        cases h0
        exact fin_ok hX rfl ⟨[], _, _, ⟨rfl, rfl⟩, rfl, rfl, rfl, rfl, by cbv; try simp⟩
      · as_aux_lemma =>
        rw [hc3]
        cbv
        obtain ⟨b57, hv, h1⟩ := bindS h1
        refine call_is hO hX (fn_slices_ContainsFunc_5 hO hv) (by kernel_rfl) [1] rfl ⟨rfl, rfl, trivial⟩ rfl ?_
        cbv
        cases h1
        try dsimp only at h0
        rcases condS h0 with ⟨hc4, h0⟩ | ⟨hc4, h0⟩
        · rw [hc4]
          cbv
          obtain ⟨b58, hv, h0⟩ := bindS h0
          refine call_is hO hX (fn_law45_awake hO hv) (by kernel_rfl) [] rfl trivial rfl ?_
          cbv
          cases h0
          exact fin_ok hX rfl ⟨[], _, _, ⟨rfl, rfl⟩, rfl, rfl, rfl, rfl, by cbv; try simp⟩
        · as_aux_lemma =>
          rw [hc4]
          cbv
          obtain ⟨⟨l73, n44⟩, hv, h0⟩ := bindS h0
          try dsimp only at h0
          refine call_is hO hX (fn_bounds_Add hO hv) (by kernel_rfl) [1] rfl ⟨rfl, rfl, trivial⟩ rfl ?_
          cbv
          obtain ⟨x203, h1, h0⟩ := bindS h0
          obtain ⟨b63, hv, h1⟩ := bindS h1
          refine call_is hO hX (fn_ref45_Closed hO hv) (by kernel_rfl) [1] rfl ⟨rfl, rfl, trivial⟩ rfl ?_
          cbv
          rcases condS h1 with ⟨hc5, h1⟩ | ⟨hc5, h1⟩
          · rw [hc5]
            cbv
            rcases condS h1 with ⟨hc6, h1⟩ | ⟨hc6, h1⟩
            · rw [hc6]
              cbv
              cases h1
              try dsimp only at h0
              replace h0 := condT h0 rfl
              cases h0
              exact fin_ok hX rfl ⟨[], _, _, ⟨rfl, rfl⟩, rfl, rfl, rfl, rfl, by cbv; try simp⟩
            · rw [hc6]
              cbv
              cases h1
              try dsimp only at h0
              rcases condS h0 with ⟨hc7, h0⟩ | ⟨hc7, h0⟩
              · rw [hc7]
                cbv
                cases h0
                exact fin_ok hX rfl ⟨[], _, _, ⟨rfl, rfl⟩, rfl, rfl, rfl, rfl, by cbv; try simp⟩
              · rw [hc7]
                cbv
                obtain ⟨x205, h1, h0⟩ := bindS h0
                obtain ⟨b65, hv, h1⟩ := bindS h1
                refine call_is hO hX (fn_ref45_Valid hO hv) (by kernel_rfl) [0] rfl ⟨rfl, rfl, trivial⟩ rfl ?_
                cbv
                rcases condS h1 with ⟨hc8, h1⟩ | ⟨hc8, h1⟩
                · rw [hc8]
                  cbv
                  cases h1
                  try dsimp only at h0
                  replace h0 := condT h0 rfl
                  cases h0
                  exact fin_ok hX rfl ⟨[], _, _, ⟨rfl, rfl⟩, rfl, rfl, rfl, rfl, by cbv; try simp⟩
                · rw [hc8]
                  cbv
                  obtain ⟨b66, hv, h1⟩ := bindS h1
                  refine call_is hO hX (fn_ref45_Valid hO hv) (by kernel_rfl) [4] rfl ⟨rfl, rfl, trivial⟩ rfl ?_
                  cbv
                  cases h1
                  try dsimp only at h0
                  rcases condS h0 with ⟨hc9, h0⟩ | ⟨hc9, h0⟩
                  · rw [hc9]
                    cbv
                    cases h0
                    exact fin_ok hX rfl ⟨[], _, _, ⟨rfl, rfl⟩, rfl, rfl, rfl, rfl, by cbv; try simp⟩
                  · rw [hc9]
                    cbv
                    obtain ⟨⟨l74, b67⟩, hv, h0⟩ := bindS h0
                    try dsimp only at h0
                    refine call_is hO hX (fn_ref45_Tight hO hv) (by kernel_rfl) [0] rfl ⟨rfl, rfl, trivial⟩ rfl ?_
                    cbv
                    rcases condS h0 with ⟨hc10, h0⟩ | ⟨hc10, h0⟩
                    · rw [hc10]
                      cbv
                      cases h0
                      exact fin_ok hX rfl ⟨[], _, _, ⟨rfl, rfl⟩, rfl, rfl, rfl, rfl, by cbv; try simp⟩
                    · rw [hc10]
                      cbv
                      obtain ⟨⟨l75, n45⟩, hv, h0⟩ := bindS h0
                      try dsimp only at h0
                      refine call_is hO hX (fn_bounds_Add hO hv) (by kernel_rfl) [5] rfl ⟨rfl, rfl, trivial⟩ rfl ?_
                      cbv
                      refine ⟨?_, ?_, trivial⟩
                      · obtain ⟨l76, hv, h0⟩ := bindS h0
                        refine call_is hO hX (fn_clone_i3 hO hv) (by kernel_rfl) [0] rfl ⟨rfl, rfl, trivial⟩ rfl ?_
                        cbv
                        obtain ⟨hg11, h0⟩ := grdS h0
                        refine ⟨room_of hO hg11, ?_⟩
                        obtain ⟨hg12, h0⟩ := grdS h0
                        refine ⟨room_of hO hg12, ?_⟩
                        obtain ⟨⟨l77, b68⟩, hv, h0⟩ := bindS h0
                        try dsimp only at h0
                        refine call_is hO hX (fn_ref45_Tight hO hv) (by kernel_rfl) [9] rfl ⟨rfl, rfl, trivial⟩ rfl ?_
                        cbv
                        rcases condS h0 with ⟨hc13, h0⟩ | ⟨hc13, h0⟩
                        · rw [hc13]
                          cbv
                          obtain ⟨x207, h1, h0⟩ := bindS h0
                          rcases condS h1 with ⟨hc14, h1⟩ | ⟨hc14, h1⟩
                          · rw [hc14]
                            cbv
                            cases h1
                            try dsimp only at h0
                            cases h0
                            exact fin_ok hX rfl ⟨[], _, _, ⟨rfl, rfl⟩, rfl, rfl, rfl, rfl, by cbv; try simp⟩
                          · rw [hc14]
                            cbv
                            cases h1
                            try dsimp only at h0
                            cases h0
                            exact fin_ok hX rfl ⟨[], _, _, ⟨rfl, rfl⟩, rfl, rfl, rfl, rfl, by cbv; try simp⟩
                        · rw [hc13]
                          cbv
                          obtain ⟨x209, h1, h0⟩ := bindS h0
                          rcases condS h1 with ⟨hc15, h1⟩ | ⟨hc15, h1⟩
                          · rw [hc15]
                            cbv
                            obtain ⟨b69, hv, h1⟩ := bindS h1
                            refine call_is hO hX (fn_ref45_Same hO hv) (by kernel_rfl) [6, 10] rfl ⟨rfl, rfl, rfl, rfl, trivial⟩ rfl ?_
                            cbv
                            cases h1
                            try dsimp only at h0
                            cases h0
                            exact fin_ok hX rfl ⟨[], _, _, ⟨rfl, rfl⟩, rfl, rfl, rfl, rfl, by cbv; try simp⟩
                          · rw [hc15]
                            cbv
                            cases h1
                            try dsimp only at h0
                            cases h0
                            exact fin_ok hX rfl ⟨[], _, _, ⟨rfl, rfl⟩, rfl, rfl, rfl, rfl, by cbv; try simp⟩
                      · obtain ⟨l76, hv, h0⟩ := bindS h0
                        refine call_is hO hX (fn_clone_i3 hO hv) (by kernel_rfl) [0] rfl ⟨rfl, rfl, trivial⟩ rfl ?_
                        cbv
                        obtain ⟨hg16, h0⟩ := grdS h0
                        refine ⟨room_of hO hg16, ?_⟩
                        obtain ⟨hg17, h0⟩ := grdS h0
                        refine ⟨room_of hO hg17, ?_⟩
                        obtain ⟨⟨l77, b68⟩, hv, h0⟩ := bindS h0
                        try dsimp only at h0
                        refine call_is hO hX (fn_ref45_Tight hO hv) (by kernel_rfl) [9] rfl ⟨rfl, rfl, trivial⟩ rfl ?_
                        cbv
                        rcases condS h0 with ⟨hc18, h0⟩ | ⟨hc18, h0⟩
                        · rw [hc18]
                          cbv
                          obtain ⟨x207, h1, h0⟩ := bindS h0
                          rcases condS h1 with ⟨hc19, h1⟩ | ⟨hc19, h1⟩
                          · rw [hc19]
                            cbv
                            cases h1
                            try dsimp only at h0
                            cases h0
                            exact fin_ok hX rfl ⟨[], _, _, ⟨rfl, rfl⟩, rfl, rfl, rfl, rfl, by cbv; try simp⟩
                          · rw [hc19]
                            cbv
                            cases h1
                            try dsimp only at h0
                            cases h0
                            exact fin_ok hX rfl ⟨[], _, _, ⟨rfl, rfl⟩, rfl, rfl, rfl, rfl, by cbv; try simp⟩
                        · rw [hc18]
                          cbv
                          obtain ⟨x209, h1, h0⟩ := bindS h0
                          rcases condS h1 with ⟨hc20, h1⟩ | ⟨hc20, h1⟩
                          · rw [hc20]
                            cbv
                            obtain ⟨b69, hv, h1⟩ := bindS h1
                            refine call_is hO hX (fn_ref45_Same hO hv) (by kernel_rfl) [6, 10] rfl ⟨rfl, rfl, rfl, rfl, trivial⟩ rfl ?_
                            cbv
                            cases h1
                            try dsimp only at h0
                            cases h0
                            exact fin_ok hX rfl ⟨[], _, _, ⟨rfl, rfl⟩, rfl, rfl, rfl, rfl, by cbv; try simp⟩
                          · rw [hc20]
                            cbv
                            cases h1
                            try dsimp only at h0
                            cases h0
                            exact fin_ok hX rfl ⟨[], _, _, ⟨rfl, rfl⟩, rfl, rfl, rfl, rfl, by cbv; try simp⟩
          · rw [hc5]
            cbv
            obtain ⟨b64, hv, h1⟩ := bindS h1
            refine call_is hO hX (fn_ref45_Valid hO hv) (by kernel_rfl) [4] rfl ⟨rfl, rfl, trivial⟩ rfl ?_
            cbv
            rcases condS h1 with ⟨hc21, h1⟩ | ⟨hc21, h1⟩
            · rw [hc21]
              cbv
              rcases condS h1 with ⟨hc22, h1⟩ | ⟨hc22, h1⟩
              · rw [hc22]
                cbv
                cases h1
                try dsimp only at h0
                replace h0 := condT h0 rfl
                cases h0
                exact fin_ok hX rfl ⟨[], _, _, ⟨rfl, rfl⟩, rfl, rfl, rfl, rfl, by cbv; try simp⟩
              · rw [hc22]
                cbv
                cases h1
                try dsimp only at h0
                rcases condS h0 with ⟨hc23, h0⟩ | ⟨hc23, h0⟩
                · rw [hc23]
                  cbv
                  cases h0
                  exact fin_ok hX rfl ⟨[], _, _, ⟨rfl, rfl⟩, rfl, rfl, rfl, rfl, by cbv; try simp⟩
                · rw [hc23]
                  cbv
                  obtain ⟨x205, h1, h0⟩ := bindS h0
                  obtain ⟨b65, hv, h1⟩ := bindS h1
                  refine call_is hO hX (fn_ref45_Valid hO hv) (by kernel_rfl) [0] rfl ⟨rfl, rfl, trivial⟩ rfl ?_
                  cbv
                  rcases condS h1 with ⟨hc24, h1⟩ | ⟨hc24, h1⟩
                  · rw [hc24]
                    cbv
                    cases h1
                    try dsimp only at h0
                    replace h0 := condT h0 rfl
                    cases h0
                    exact fin_ok hX rfl ⟨[], _, _, ⟨rfl, rfl⟩, rfl, rfl, rfl, rfl, by cbv; try simp⟩
                  · rw [hc24]
                    cbv
                    obtain ⟨b66, hv, h1⟩ := bindS h1
                    refine call_is hO hX (fn_ref45_Valid hO hv) (by kernel_rfl) [5] rfl ⟨rfl, rfl, trivial⟩ rfl ?_
                    cbv
                    cases h1
                    try dsimp only at h0
                    rcases condS h0 with ⟨hc25, h0⟩ | ⟨hc25, h0⟩
                    · rw [hc25]
                      cbv
                      cases h0
                      exact fin_ok hX rfl ⟨[], _, _, ⟨rfl, rfl⟩, rfl, rfl, rfl, rfl, by cbv; try simp⟩
                    · rw [hc25]
                      cbv
                      obtain ⟨⟨l74, b67⟩, hv, h0⟩ := bindS h0
                      try dsimp only at h0
                      refine call_is hO hX (fn_ref45_Tight hO hv) (by kernel_rfl) [0] rfl ⟨rfl, rfl, trivial⟩ rfl ?_
                      cbv
                      rcases condS h0 with ⟨hc26, h0⟩ | ⟨hc26, h0⟩
                      · rw [hc26]
                        cbv
                        cases h0
                        exact fin_ok hX rfl ⟨[], _, _, ⟨rfl, rfl⟩, rfl, rfl, rfl, rfl, by cbv; try simp⟩
                      · rw [hc26]
                        cbv
                        obtain ⟨⟨l75, n45⟩, hv, h0⟩ := bindS h0
                        try dsimp only at h0
                        refine call_is hO hX (fn_bounds_Add hO hv) (by kernel_rfl) [6] rfl ⟨rfl, rfl, trivial⟩ rfl ?_
                        cbv
                        refine ⟨?_, ?_, trivial⟩
                        · obtain ⟨l76, hv, h0⟩ := bindS h0
                          refine call_is hO hX (fn_clone_i3 hO hv) (by kernel_rfl) [0] rfl ⟨rfl, rfl, trivial⟩ rfl ?_
                          cbv
                          obtain ⟨hg27, h0⟩ := grdS h0
                          refine ⟨room_of hO hg27, ?_⟩
                          obtain ⟨hg28, h0⟩ := grdS h0
                          refine ⟨room_of hO hg28, ?_⟩
                          obtain ⟨⟨l77, b68⟩, hv, h0⟩ := bindS h0
                          try dsimp only at h0
                          refine call_is hO hX (fn_ref45_Tight hO hv) (by kernel_rfl) [10] rfl ⟨rfl, rfl, trivial⟩ rfl ?_
                          cbv
                          rcases condS h0 with ⟨hc29, h0⟩ | ⟨hc29, h0⟩
                          · rw [hc29]
                            cbv
                            obtain ⟨x207, h1, h0⟩ := bindS h0
                            rcases condS h1 with ⟨hc30, h1⟩ | ⟨hc30, h1⟩
                            · rw [hc30]
                              cbv
                              cases h1
                              try dsimp only at h0
                              cases h0
                              exact fin_ok hX rfl ⟨[], _, _, ⟨rfl, rfl⟩, rfl, rfl, rfl, rfl, by cbv; try simp⟩
                            · rw [hc30]
                              cbv
                              cases h1
                              try dsimp only at h0
                              cases h0
                              exact fin_ok hX rfl ⟨[], _, _, ⟨rfl, rfl⟩, rfl, rfl, rfl, rfl, by cbv; try simp⟩
                          · rw [hc29]
                            cbv
                            obtain ⟨x209, h1, h0⟩ := bindS h0
                            rcases condS h1 with ⟨hc31, h1⟩ | ⟨hc31, h1⟩
                            · rw [hc31]
                              cbv
                              obtain ⟨b69, hv, h1⟩ := bindS h1
                              refine call_is hO hX (fn_ref45_Same hO hv) (by kernel_rfl) [7, 11] rfl ⟨rfl, rfl, rfl, rfl, trivial⟩ rfl ?_
                              cbv
                              cases h1
                              try dsimp only at h0
                              cases h0
                              exact fin_ok hX rfl ⟨[], _, _, ⟨rfl, rfl⟩, rfl, rfl, rfl, rfl, by cbv; try simp⟩
                            · rw [hc31]
                              cbv
                              cases h1
                              try dsimp only at h0
                              cases h0
                              exact fin_ok hX rfl ⟨[], _, _, ⟨rfl, rfl⟩, rfl, rfl, rfl, rfl, by cbv; try simp⟩
                        · obtain ⟨l76, hv, h0⟩ := bindS h0
                          refine call_is hO hX (fn_clone_i3 hO hv) (by kernel_rfl) [0] rfl ⟨rfl, rfl, trivial⟩ rfl ?_
                          cbv
                          obtain ⟨hg32, h0⟩ := grdS h0
                          refine ⟨room_of hO hg32, ?_⟩
                          obtain ⟨hg33, h0⟩ := grdS h0
                          refine ⟨room_of hO hg33, ?_⟩
                          obtain ⟨⟨l77, b68⟩, hv, h0⟩ := bindS h0
                          try dsimp only at h0
                          refine call_is hO hX (fn_ref45_Tight hO hv) (by kernel_rfl) [10] rfl ⟨rfl, rfl, trivial⟩ rfl ?_
                          cbv
                          rcases condS h0 with ⟨hc34, h0⟩ | ⟨hc34, h0⟩
                          · rw [hc34]
                            cbv
                            obtain ⟨x207, h1, h0⟩ := bindS h0
                            rcases condS h1 with ⟨hc35, h1⟩ | ⟨hc35, h1⟩
                            · rw [hc35]
                              cbv
                              cases h1
                              try dsimp only at h0
                              cases h0
                              exact fin_ok hX rfl ⟨[], _, _, ⟨rfl, rfl⟩, rfl, rfl, rfl, rfl, by cbv; try simp⟩
                            · rw [hc35]
                              cbv
                              cases h1
                              try dsimp only at h0
                              cases h0
                              exact fin_ok hX rfl ⟨[], _, _, ⟨rfl, rfl⟩, rfl, rfl, rfl, rfl, by cbv; try simp⟩
                          · rw [hc34]
                            cbv
                            obtain ⟨x209, h1, h0⟩ := bindS h0
                            rcases condS h1 with ⟨hc36, h1⟩ | ⟨hc36, h1⟩
                            · rw [hc36]
                              cbv
                              obtain ⟨b69, hv, h1⟩ := bindS h1
                              refine call_is hO hX (fn_ref45_Same hO hv) (by kernel_rfl) [7, 11] rfl ⟨rfl, rfl, rfl, rfl, trivial⟩ rfl ?_
                              cbv
                              cases h1
                              try dsimp only at h0
                              cases h0
                              exact fin_ok hX rfl ⟨[], _, _, ⟨rfl, rfl⟩, rfl, rfl, rfl, rfl, by cbv; try simp⟩
                            · rw [hc36]
                              cbv
                              cases h1
                              try dsimp only at h0
                              cases h0
                              exact fin_ok hX rfl ⟨[], _, _, ⟨rfl, rfl⟩, rfl, rfl, rfl, rfl, by cbv; try simp⟩
            · rw [hc21]
              cbv
              cases h1
              try dsimp only at h0
              replace h0 := condF h0 rfl
              obtain ⟨x205, h1, h0⟩ := bindS h0
              obtain ⟨b65, hv, h1⟩ := bindS h1
              refine call_is hO hX (fn_ref45_Valid hO hv) (by kernel_rfl) [0] rfl ⟨rfl, rfl, trivial⟩ rfl ?_
              cbv
              rcases condS h1 with ⟨hc37, h1⟩ | ⟨hc37, h1⟩
              · rw [hc37]
                cbv
                cases h1
                try dsimp only at h0
                replace h0 := condT h0 rfl
                cases h0
                exact fin_ok hX rfl ⟨[], _, _, ⟨rfl, rfl⟩, rfl, rfl, rfl, rfl, by cbv; try simp⟩
              · rw [hc37]
                cbv
                obtain ⟨b66, hv, h1⟩ := bindS h1
                refine call_is hO hX (fn_ref45_Valid hO hv) (by kernel_rfl) [5] rfl ⟨rfl, rfl, trivial⟩ rfl ?_
                cbv
                cases h1
                try dsimp only at h0
                rcases condS h0 with ⟨hc38, h0⟩ | ⟨hc38, h0⟩
                · rw [hc38]
                  cbv
                  cases h0
                  exact fin_ok hX rfl ⟨[], _, _, ⟨rfl, rfl⟩, rfl, rfl, rfl, rfl, by cbv; try simp⟩
                · rw [hc38]
                  cbv
                  obtain ⟨⟨l74, b67⟩, hv, h0⟩ := bindS h0
                  try dsimp only at h0
                  refine call_is hO hX (fn_ref45_Tight hO hv) (by kernel_rfl) [0] rfl ⟨rfl, rfl, trivial⟩ rfl ?_
                  cbv
                  rcases condS h0 with ⟨hc39, h0⟩ | ⟨hc39, h0⟩
                  · rw [hc39]
                    cbv
                    cases h0
                    exact fin_ok hX rfl ⟨[], _, _, ⟨rfl, rfl⟩, rfl, rfl, rfl, rfl, by cbv; try simp⟩
                  · rw [hc39]
                    cbv
                    obtain ⟨⟨l75, n45⟩, hv, h0⟩ := bindS h0
                    try dsimp only at h0
                    refine call_is hO hX (fn_bounds_Add hO hv) (by kernel_rfl) [6] rfl ⟨rfl, rfl, trivial⟩ rfl ?_
                    cbv
                    refine ⟨?_, ?_, trivial⟩
                    · obtain ⟨l76, hv, h0⟩ := bindS h0
                      refine call_is hO hX (fn_clone_i3 hO hv) (by kernel_rfl) [0] rfl ⟨rfl, rfl, trivial⟩ rfl ?_
                      cbv
                      obtain ⟨hg40, h0⟩ := grdS h0
                      refine ⟨room_of hO hg40, ?_⟩
                      obtain ⟨hg41, h0⟩ := grdS h0
                      refine ⟨room_of hO hg41, ?_⟩
                      obtain ⟨⟨l77, b68⟩, hv, h0⟩ := bindS h0
                      try dsimp only at h0
                      refine call_is hO hX (fn_ref45_Tight hO hv) (by kernel_rfl) [10] rfl ⟨rfl, rfl, trivial⟩ rfl ?_
                      cbv
                      rcases condS h0 with ⟨hc42, h0⟩ | ⟨hc42, h0⟩
                      · rw [hc42]
                        cbv
                        obtain ⟨x207, h1, h0⟩ := bindS h0
                        rcases condS h1 with ⟨hc43, h1⟩ | ⟨hc43, h1⟩
                        · rw [hc43]
                          cbv
                          cases h1
                          try dsimp only at h0
                          cases h0
                          exact fin_ok hX rfl ⟨[], _, _, ⟨rfl, rfl⟩, rfl, rfl, rfl, rfl, by cbv; try simp⟩
                        · rw [hc43]
                          cbv
                          cases h1
                          try dsimp only at h0
                          cases h0
                          exact fin_ok hX rfl ⟨[], _, _, ⟨rfl, rfl⟩, rfl, rfl, rfl, rfl, by cbv; try simp⟩
                      · rw [hc42]
                        cbv
                        obtain ⟨x209, h1, h0⟩ := bindS h0
                        rcases condS h1 with ⟨hc44, h1⟩ | ⟨hc44, h1⟩
                        · rw [hc44]
                          cbv
                          obtain ⟨b69, hv, h1⟩ := bindS h1
                          refine call_is hO hX (fn_ref45_Same hO hv) (by kernel_rfl) [7, 11] rfl ⟨rfl, rfl, rfl, rfl, trivial⟩ rfl ?_
                          cbv
                          cases h1
                          try dsimp only at h0
                          cases h0
                          exact fin_ok hX rfl ⟨[], _, _, ⟨rfl, rfl⟩, rfl, rfl, rfl, rfl, by cbv; try simp⟩
                        · rw [hc44]
                          cbv
                          cases h1
                          try dsimp only at h0
                          cases h0
                          exact fin_ok hX rfl ⟨[], _, _, ⟨rfl, rfl⟩, rfl, rfl, rfl, rfl, by cbv; try simp⟩
                    · obtain ⟨l76, hv, h0⟩ := bindS h0
                      refine call_is hO hX (fn_clone_i3 hO hv) (by kernel_rfl) [0] rfl ⟨rfl, rfl, trivial⟩ rfl ?_
                      cbv
                      obtain ⟨hg45, h0⟩ := grdS h0
                      refine ⟨room_of hO hg45, ?_⟩
                      obtain ⟨hg46, h0⟩ := grdS h0
                      refine ⟨room_of hO hg46, ?_⟩
                      obtain ⟨⟨l77, b68⟩, hv, h0⟩ := bindS h0
                      try dsimp only at h0
                      refine call_is hO hX (fn_ref45_Tight hO hv) (by kernel_rfl) [10] rfl ⟨rfl, rfl, trivial⟩ rfl ?_
                      cbv
                      rcases condS h0 with ⟨hc47, h0⟩ | ⟨hc47, h0⟩
                      · rw [hc47]
                        cbv
                        obtain ⟨x207, h1, h0⟩ := bindS h0
                        rcases condS h1 with ⟨hc48, h1⟩ | ⟨hc48, h1⟩
                        · rw [hc48]
                          cbv
                          cases h1
                          try dsimp only at h0
                          cases h0
                          exact fin_ok hX rfl ⟨[], _, _, ⟨rfl, rfl⟩, rfl, rfl, rfl, rfl, by cbv; try simp⟩
                        · rw [hc48]
                          cbv
                          cases h1
                          try dsimp only at h0
                          cases h0
                          exact fin_ok hX rfl ⟨[], _, _, ⟨rfl, rfl⟩, rfl, rfl, rfl, rfl, by cbv; try simp⟩
                      · rw [hc47]
                        cbv
                        obtain ⟨x209, h1, h0⟩ := bindS h0
                        rcases condS h1 with ⟨hc49, h1⟩ | ⟨hc49, h1⟩
                        · rw [hc49]
                          cbv
                          obtain ⟨b69, hv, h1⟩ := bindS h1
                          refine call_is hO hX (fn_ref45_Same hO hv) (by kernel_rfl) [7, 11] rfl ⟨rfl, rfl, rfl, rfl, trivial⟩ rfl ?_
                          cbv
                          cases h1
                          try dsimp only at h0
                          cases h0
                          exact fin_ok hX rfl ⟨[], _, _, ⟨rfl, rfl⟩, rfl, rfl, rfl, rfl, by cbv; try simp⟩
                        · rw [hc49]
                          cbv
                          cases h1
                          try dsimp only at h0
                          cases h0
                          exact fin_ok hX rfl ⟨[], _, _, ⟨rfl, rfl⟩, rfl, rfl, rfl, rfl, by cbv; try simp⟩
end Go.Proofs.Ytegmjohhgedakaa
