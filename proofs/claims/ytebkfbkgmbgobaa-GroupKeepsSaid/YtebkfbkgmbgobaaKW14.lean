/-
  The code does what its models say (printed by lift.py).
-/
import Derived.Test.YtebkfbkgmbgobaaKM
import Derived.Test.YtebkfbkgmbgobaaManW
import Derived.Test.YtebkfbkgmbgobaaKW0
import Derived.Test.YtebkfbkgmbgobaaKW2
import Derived.Test.YtebkfbkgmbgobaaKW5
import Derived.Test.YtebkfbkgmbgobaaKW12
import Derived.Test.YtebkfbkgmbgobaaKW13
namespace Go.Proofs.Ytebkfbkgmbgobaa
open Go.RowKit
set_option maxRecDepth 100000

set_option maxHeartbeats 40000000 in
theorem fn_law16_GroupKeeps {O0 : Ops} (hO0 : O0 = std) {c_1 : Int} {c_2 : Int} {in_1 : Int} {in_2 : Int} {p_1 : Int} {m_1 : Int} {k_1 : Int} {c_3 : List (Int × Int)} {in_3 : List (Int × Int)} {p_2 : List (Int × Int)} {r1 : Bool} (h : m_law16_GroupKeeps O0 c_1 c_2 in_1 in_2 p_1 m_1 k_1 c_3 in_3 p_2 = some r1) :
    Fn Try.prog 4 [.agg [.int .i64 c_1, .int .i64 c_2, .sl 0], .agg [.int .i64 in_1, .int .i64 in_2, .sl 1], .agg [.int .i64 p_1, .sl 2], .c (.int .i64 m_1), .c (.int .i64 k_1)] [.arr false .i2 c_3, .arr false .i2 in_3, .arr false .i2 p_2] (fun v c => v = .c (.bool r1) ∧ c = []) := by
  refine fn_run tab_holds eqs_holds mixed [] Try.func4 (by kernel_rfl) (by kernel_rfl) (Nat.le_of_ble_eq_true rfl) ?_
  intro O X hO hX
  rw [hO0, ← hO] at h
  unfold m_law16_GroupKeeps at h
  have h0 := h; clear h
  cbv
  obtain ⟨b58, hv, h0⟩ := bindS h0
  refine call_is hO hX (fn_law16_awake hO hv) (by kernel_rfl) [] rfl trivial rfl ?_
  cbv
  rcases condS h0 with ⟨hc1, h0⟩ | ⟨hc1, h0⟩
  · rw [hc1]
    cbv
    cases h0
    exact fin_ok hX rfl ⟨[], _, _, ⟨rfl, rfl⟩, rfl, rfl, rfl, rfl, by cbv; try simp⟩
  · as_aux_lemma =>
    rw [hc1]
    cbv
    obtain ⟨x208, h1, h0⟩ := bindS h0
    obtain ⟨b62, hv, h1⟩ := bindS h1
    refine call_is hO hX (fn_law16_great_2 hO hv) (by kernel_rfl) [7, 0, 1] rfl ⟨rfl, rfl, rfl, rfl, rfl, rfl, trivial⟩ rfl ?_
    cbv
    rcases condS h1 with ⟨hc2, h1⟩ | ⟨hc2, h1⟩
    · rw [hc2]
      cbv
      cases h1
      try dsimp only at h0
      replace h0 := condT h0 rfl
      cases h0
      exact fin_ok hX rfl ⟨[], _, _, ⟨rfl, rfl⟩, rfl, rfl, rfl, rfl, by cbv; try simp⟩
    · as_aux_lemma =>
      rw [hc2]
      cbv
      rcases condS h1 with ⟨hc3, h1⟩ | ⟨hc3, h1⟩
      · rw [hc3]
        cbv
        cases h1
        try dsimp only at h0
        replace h0 := condT h0 rfl
        cases h0
        exact fin_ok hX rfl ⟨[], _, _, ⟨rfl, rfl⟩, rfl, rfl, rfl, rfl, by cbv; try simp⟩
      · as_aux_lemma =>
        rw [hc3]
        cbv
        obtain ⟨b63, hv, h1⟩ := bindS h1
        refine call_is hO hX (fn_granule_Valid hO hv) (by kernel_rfl) [0] rfl ⟨rfl, rfl, trivial⟩ rfl ?_
        cbv
        rcases condS h1 with ⟨hc4, h1⟩ | ⟨hc4, h1⟩
        · rw [hc4]
          cbv
          cases h1
          try dsimp only at h0
          replace h0 := condT h0 rfl
          cases h0
          exact fin_ok hX rfl ⟨[], _, _, ⟨rfl, rfl⟩, rfl, rfl, rfl, rfl, by cbv; try simp⟩
        · as_aux_lemma =>
          rw [hc4]
          cbv
          obtain ⟨b64, hv, h1⟩ := bindS h1
          refine call_is hO hX (fn_granule_Valid hO hv) (by kernel_rfl) [1] rfl ⟨rfl, rfl, trivial⟩ rfl ?_
          cbv
          rcases condS h1 with ⟨hc5, h1⟩ | ⟨hc5, h1⟩
          · rw [hc5]
            cbv
            cases h1
            try dsimp only at h0
            replace h0 := condT h0 rfl
            cases h0
            exact fin_ok hX rfl ⟨[], _, _, ⟨rfl, rfl⟩, rfl, rfl, rfl, rfl, by cbv; try simp⟩
          · as_aux_lemma =>
            rw [hc5]
            cbv
            rcases condS h1 with ⟨hc6, h1⟩ | ⟨hc6, h1⟩
            · rw [hc6]
              cbv
              cases h1
              try dsimp only at h0
              replace h0 := condT h0 rfl
              cases h0
              exact fin_ok hX rfl ⟨[], _, _, ⟨rfl, rfl⟩, rfl, rfl, rfl, rfl, by cbv; try simp⟩
            · as_aux_lemma =>
              rw [hc6]
              cbv
              rcases condS h1 with ⟨hc7, h1⟩ | ⟨hc7, h1⟩
              · rw [hc7]
                cbv
                cases h1
                try dsimp only at h0
                replace h0 := condT h0 rfl
                cases h0
                exact fin_ok hX rfl ⟨[], _, _, ⟨rfl, rfl⟩, rfl, rfl, rfl, rfl, by cbv; try simp⟩
              · as_aux_lemma =>
                rw [hc7]
                cbv
                obtain ⟨b65, hv, h1⟩ := bindS h1
                refine call_is hO hX (fn_law16_few hO hv) (by kernel_rfl) [0, 1] rfl ⟨rfl, rfl, rfl, rfl, trivial⟩ rfl ?_
                cbv
                cases h1
                try dsimp only at h0
                rcases condS h0 with ⟨hc8, h0⟩ | ⟨hc8, h0⟩
                · rw [hc8]
                  cbv
                  cases h0
                  exact fin_ok hX rfl ⟨[], _, _, ⟨rfl, rfl⟩, rfl, rfl, rfl, rfl, by cbv; try simp⟩
                · as_aux_lemma =>
                  rw [hc8]
                  cbv
                  obtain ⟨⟨n116, n117, l96, n118⟩, hv, h0⟩ := bindS h0
                  try dsimp only at h0
                  refine call_is hO hX (fn_group_Restrict hO hv) (by kernel_rfl) [0, 2] rfl ⟨rfl, rfl, rfl, rfl, trivial⟩ rfl ?_
                  cbv
                  obtain ⟨e1, h1, h0⟩ := bindS h0
                  rcases condS h1 with ⟨hc9, h1⟩ | ⟨hc9, h1⟩
                  · as_aux_lemma =>
                    rw [hc9]
                    cbv
                    obtain ⟨⟨n119, n120, l97, n121⟩, hv, h1⟩ := bindS h1
                    try dsimp only at h1
                    refine call_is hO hX (fn_group_Restrict hO hv) (by kernel_rfl) [8, 2] rfl ⟨rfl, rfl, rfl, rfl, trivial⟩ rfl ?_
                    cbv
                    obtain ⟨x221, h2, h1⟩ := bindS h1
                    obtain ⟨b75, hv, h2⟩ := bindS h2
                    refine call_is hO hX (fn_law16_GroupKeeps_1 hO hv) (by kernel_rfl) [8, 6, 3, 0] rfl ⟨rfl, rfl, rfl, rfl, rfl, rfl, rfl, rfl, trivial⟩ rfl ?_
                    cbv
                    rcases condS h2 with ⟨hc10, h2⟩ | ⟨hc10, h2⟩
                    · rw [hc10]
                      cbv
                      cases h2
                      try dsimp only at h1
                      replace h1 := condT h1 rfl
                      cases h1
                      try dsimp only at h0
                      cases h0
                      exact fin_ok hX rfl ⟨[], _, _, ⟨rfl, rfl⟩, rfl, rfl, rfl, rfl, by cbv; try simp⟩
                    · as_aux_lemma =>
                      rw [hc10]
                      cbv
                      rcases condS h2 with ⟨hc11, h2⟩ | ⟨hc11, h2⟩
                      · rw [hc11]
                        cbv
                        cases h2
                        try dsimp only at h1
                        replace h1 := condT h1 rfl
                        cases h1
                        try dsimp only at h0
                        cases h0
                        exact fin_ok hX rfl ⟨[], _, _, ⟨rfl, rfl⟩, rfl, rfl, rfl, rfl, by cbv; try simp⟩
                      · rw [hc11]
                        cbv
                        obtain ⟨b76, hv, h2⟩ := bindS h2
                        refine call_is hO hX (fn_ref16_Same hO hv) (by kernel_rfl) [8, 10] rfl ⟨rfl, rfl, rfl, rfl, trivial⟩ rfl ?_
                        cbv
                        cases h2
                        try dsimp only at h1
                        rcases condS h1 with ⟨hc12, h1⟩ | ⟨hc12, h1⟩
                        · rw [hc12]
                          cbv
                          cases h1
                          try dsimp only at h0
                          cases h0
                          exact fin_ok hX rfl ⟨[], _, _, ⟨rfl, rfl⟩, rfl, rfl, rfl, rfl, by cbv; try simp⟩
                        · rw [hc12]
                          cbv
                          cases h1
                          try dsimp only at h0
                          obtain ⟨⟨n160, n161, l106, n162⟩, hv, h0⟩ := bindS h0
                          try dsimp only at h0
                          refine call_is hO hX (fn_group_Inside hO hv) (by kernel_rfl) [0, 1] rfl ⟨rfl, rfl, rfl, rfl, trivial⟩ rfl ?_
                          cbv
                          obtain ⟨x237, h1, h0⟩ := bindS h0
                          rcases condS h1 with ⟨hc13, h1⟩ | ⟨hc13, h1⟩
                          · rw [hc13]
                            cbv
                            cases h1
                            try dsimp only at h0
                            cases h0
                            exact fin_ok hX rfl ⟨[], _, _, ⟨rfl, rfl⟩, rfl, rfl, rfl, rfl, by cbv; try simp⟩
                          · rw [hc13]
                            cbv
                            obtain ⟨b81, hv, h1⟩ := bindS h1
                            refine call_is hO hX (fn_law16_GroupKeeps_1 hO hv) (by kernel_rfl) [12, 6, 3, 0] rfl ⟨rfl, rfl, rfl, rfl, rfl, rfl, rfl, rfl, trivial⟩ rfl ?_
                            cbv
                            cases h1
                            try dsimp only at h0
                            cases h0
                            exact fin_ok hX rfl ⟨[], _, _, ⟨rfl, rfl⟩, rfl, rfl, rfl, rfl, by cbv; try simp⟩
                  · rw [hc9]
                    cbv
                    cases h1
                    try dsimp only at h0
                    obtain ⟨⟨n160, n161, l106, n162⟩, hv, h0⟩ := bindS h0
                    try dsimp only at h0
                    refine call_is hO hX (fn_group_Inside hO hv) (by kernel_rfl) [0, 1] rfl ⟨rfl, rfl, rfl, rfl, trivial⟩ rfl ?_
                    cbv
                    obtain ⟨x237, h1, h0⟩ := bindS h0
                    rcases condS h1 with ⟨hc14, h1⟩ | ⟨hc14, h1⟩
                    · rw [hc14]
                      cbv
                      cases h1
                      try dsimp only at h0
                      cases h0
                      exact fin_ok hX rfl ⟨[], _, _, ⟨rfl, rfl⟩, rfl, rfl, rfl, rfl, by cbv; try simp⟩
                    · rw [hc14]
                      cbv
                      obtain ⟨b81, hv, h1⟩ := bindS h1
                      refine call_is hO hX (fn_law16_GroupKeeps_1 hO hv) (by kernel_rfl) [10, 6, 3, 0] rfl ⟨rfl, rfl, rfl, rfl, rfl, rfl, rfl, rfl, trivial⟩ rfl ?_
                      cbv
                      cases h1
                      try dsimp only at h0
                      cases h0
                      exact fin_ok hX rfl ⟨[], _, _, ⟨rfl, rfl⟩, rfl, rfl, rfl, rfl, by cbv; try simp⟩
end Go.Proofs.Ytebkfbkgmbgobaa
