/-
  The code does what its models say (printed by lift.py).
-/
import Derived.Test.YtfhfifcfkimgpaaHM
import Derived.Test.YtfhfifcfkimgpaaManW2
import Derived.Test.YtfhfifcfkimgpaaJW2
import Derived.Test.YtfhfifcfkimgpaaJW5
import Derived.Test.YtfhfifcfkimgpaaJW13
import Derived.Test.YtfhfifcfkimgpaaJW21
import Derived.Test.YtfhfifcfkimgpaaJW24
import Derived.Test.YtfhfifcfkimgpaaJW28
namespace Go.Proofs.Ytfhfifcfkimgpaa
open Go.RowKit
set_option maxRecDepth 100000

set_option maxHeartbeats 40000000 in
theorem fn_law13_PeriodicCounts {O0 : Ops} (hO0 : O0 = std) {p_1 : Int} {a_1 : Int} {b_1 : Int} {c_1 : Int} {p_2 : List (Int × Int)} {r1 : Bool} (h : m_law13_PeriodicCounts O0 p_1 a_1 b_1 c_1 p_2 = some r1) :
    Fn Try.prog 8 [.agg [.int .i64 p_1, .sl 0], .c (.int .i64 a_1), .c (.int .i64 b_1), .c (.int .i64 c_1)] [.arr false .i2 p_2] (fun v c => v = .c (.bool r1) ∧ c = []) := by
  refine fn_run tab_holds eqs_holds mixed [] Try.func8 (by kernel_rfl) (by kernel_rfl) (Nat.le_of_ble_eq_true rfl) ?_
  intro O X hO hX
  rw [hO0, ← hO] at h
  unfold m_law13_PeriodicCounts at h
  have h0 := h; clear h
  cbv
  obtain ⟨x458, h1, h0⟩ := bindS h0
  obtain ⟨b170, hv, h1⟩ := bindS h1
  refine call_is hO hX (fn_law13_awake hO hv) (by kernel_rfl) [] rfl trivial rfl ?_
  cbv
  rcases condS h1 with ⟨hc1, h1⟩ | ⟨hc1, h1⟩
  · rw [hc1]
    cbv
    cases h1
    try dsimp only at h0
    replace h0 := condT h0 rfl
    obtain ⟨b175, hv, h0⟩ := bindS h0
    refine call_is hO hX (fn_law13_awake hO hv) (by kernel_rfl) [] rfl trivial rfl ?_
    cbv
    cases h0
    exact fin_ok hX rfl ⟨[], _, _, ⟨rfl, rfl⟩, rfl, rfl, rfl, rfl, by cbv; try simp⟩
  · as_aux_lemma =>
    rw [hc1]
    cbv
    obtain ⟨b171, hv, h1⟩ := bindS h1
    refine call_is hO hX (fn_law13_long hO hv) (by kernel_rfl) [0] rfl ⟨rfl, rfl, trivial⟩ rfl ?_
    cbv
    rcases condS h1 with ⟨hc2, h1⟩ | ⟨hc2, h1⟩
    · rw [hc2]
      cbv
      cases h1
      try dsimp only at h0
      replace h0 := condT h0 rfl
      obtain ⟨b175, hv, h0⟩ := bindS h0
      refine call_is hO hX (fn_law13_awake hO hv) (by kernel_rfl) [] rfl trivial rfl ?_
      cbv
      cases h0
      exact fin_ok hX rfl ⟨[], _, _, ⟨rfl, rfl⟩, rfl, rfl, rfl, rfl, by cbv; try simp⟩
    · as_aux_lemma =>
      rw [hc2]
      cbv
      obtain ⟨b172, hv, h1⟩ := bindS h1
      refine call_is hO hX (fn_periodic_Valid hO hv) (by kernel_rfl) [0] rfl ⟨rfl, rfl, trivial⟩ rfl ?_
      cbv
      rcases condS h1 with ⟨hc3, h1⟩ | ⟨hc3, h1⟩
      · rw [hc3]
        cbv
        cases h1
        try dsimp only at h0
        replace h0 := condT h0 rfl
        obtain ⟨b175, hv, h0⟩ := bindS h0
        refine call_is hO hX (fn_law13_awake hO hv) (by kernel_rfl) [] rfl trivial rfl ?_
        cbv
        cases h0
        exact fin_ok hX rfl ⟨[], _, _, ⟨rfl, rfl⟩, rfl, rfl, rfl, rfl, by cbv; try simp⟩
      · as_aux_lemma =>
        rw [hc3]
        cbv
        obtain ⟨b173, hv, h1⟩ := bindS h1
        refine call_is hO hX (fn_law13_line hO hv) (by kernel_rfl) [] rfl trivial rfl ?_
        cbv
        rcases condS h1 with ⟨hc4, h1⟩ | ⟨hc4, h1⟩
        · rw [hc4]
          cbv
          cases h1
          try dsimp only at h0
          replace h0 := condT h0 rfl
          obtain ⟨b175, hv, h0⟩ := bindS h0
          refine call_is hO hX (fn_law13_awake hO hv) (by kernel_rfl) [] rfl trivial rfl ?_
          cbv
          cases h0
          exact fin_ok hX rfl ⟨[], _, _, ⟨rfl, rfl⟩, rfl, rfl, rfl, rfl, by cbv; try simp⟩
        · as_aux_lemma =>
          rw [hc4]
          cbv
          obtain ⟨b174, hv, h1⟩ := bindS h1
          refine call_is hO hX (fn_law13_line hO hv) (by kernel_rfl) [] rfl trivial rfl ?_
          cbv
          rcases condS h1 with ⟨hc5, h1⟩ | ⟨hc5, h1⟩
          · rw [hc5]
            cbv
            cases h1
            try dsimp only at h0
            replace h0 := condT h0 rfl
            obtain ⟨b175, hv, h0⟩ := bindS h0
            refine call_is hO hX (fn_law13_awake hO hv) (by kernel_rfl) [] rfl trivial rfl ?_
            cbv
            cases h0
            exact fin_ok hX rfl ⟨[], _, _, ⟨rfl, rfl⟩, rfl, rfl, rfl, rfl, by cbv; try simp⟩
          · as_aux_lemma =>
            rw [hc5]
            cbv
            rcases condS h1 with ⟨hc6, h1⟩ | ⟨hc6, h1⟩
            · rw [hc6]
              cbv
              cases h1
              try dsimp only at h0
              replace h0 := condT h0 rfl
              obtain ⟨b175, hv, h0⟩ := bindS h0
              refine call_is hO hX (fn_law13_awake hO hv) (by kernel_rfl) [] rfl trivial rfl ?_
              cbv
              cases h0
              exact fin_ok hX rfl ⟨[], _, _, ⟨rfl, rfl⟩, rfl, rfl, rfl, rfl, by cbv; try simp⟩
            · as_aux_lemma =>
              rw [hc6]
              cbv
              cases h1
              try dsimp only at h0
              rcases condS h0 with ⟨hc7, h0⟩ | ⟨hc7, h0⟩
              · rw [hc7]
                cbv
                obtain ⟨b175, hv, h0⟩ := bindS h0
                refine call_is hO hX (fn_law13_awake hO hv) (by kernel_rfl) [] rfl trivial rfl ?_
                cbv
                cases h0
                exact fin_ok hX rfl ⟨[], _, _, ⟨rfl, rfl⟩, rfl, rfl, rfl, rfl, by cbv; try simp⟩
              · as_aux_lemma =>
                rw [hc7]
                cbv
                obtain ⟨⟨n180, n181⟩, hv, h0⟩ := bindS h0
                try dsimp only at h0
                refine call_is hO hX (fn_periodic_Count hO hv) (by kernel_rfl) [0] rfl ⟨rfl, rfl, trivial⟩ rfl ?_
                cbv
                obtain ⟨⟨n182, n183⟩, hv, h0⟩ := bindS h0
                try dsimp only at h0
                refine call_is hO hX (fn_periodic_Count hO hv) (by kernel_rfl) [0] rfl ⟨rfl, rfl, trivial⟩ rfl ?_
                cbv
                obtain ⟨⟨n184, n185⟩, hv, h0⟩ := bindS h0
                try dsimp only at h0
                refine call_is hO hX (fn_periodic_Count hO hv) (by kernel_rfl) [0] rfl ⟨rfl, rfl, trivial⟩ rfl ?_
                cbv
                obtain ⟨⟨n186, l262, n187⟩, hv, h0⟩ := bindS h0
                try dsimp only at h0
                refine call_is hO hX (fn_periodic_Not hO hv) (by kernel_rfl) [0] rfl ⟨rfl, rfl, trivial⟩ rfl ?_
                cbv
                obtain ⟨⟨n188, n189⟩, hv, h0⟩ := bindS h0
                try dsimp only at h0
                refine call_is hO hX (fn_periodic_Count hO hv) (by kernel_rfl) [2] rfl ⟨rfl, rfl, trivial⟩ rfl ?_
                cbv
                obtain ⟨x460, h1, h0⟩ := bindS h0
                rcases condS h1 with ⟨hc8, h1⟩ | ⟨hc8, h1⟩
                · rw [hc8]
                  cbv
                  cases h1
                  try dsimp only at h0
                  replace h0 := condT h0 rfl
                  cases h0
                  exact fin_ok hX rfl ⟨[], _, _, ⟨rfl, rfl⟩, rfl, rfl, rfl, rfl, by cbv; try simp⟩
                · as_aux_lemma =>
                  rw [hc8]
                  cbv
                  rcases condS h1 with ⟨hc9, h1⟩ | ⟨hc9, h1⟩
                  · rw [hc9]
                    cbv
                    cases h1
                    try dsimp only at h0
                    replace h0 := condT h0 rfl
                    cases h0
                    exact fin_ok hX rfl ⟨[], _, _, ⟨rfl, rfl⟩, rfl, rfl, rfl, rfl, by cbv; try simp⟩
                  · as_aux_lemma =>
                    rw [hc9]
                    cbv
                    rcases condS h1 with ⟨hc10, h1⟩ | ⟨hc10, h1⟩
                    · rw [hc10]
                      cbv
                      cases h1
                      try dsimp only at h0
                      replace h0 := condT h0 rfl
                      cases h0
                      exact fin_ok hX rfl ⟨[], _, _, ⟨rfl, rfl⟩, rfl, rfl, rfl, rfl, by cbv; try simp⟩
                    · as_aux_lemma =>
                      rw [hc10]
                      cbv
                      rcases condS h1 with ⟨hc11, h1⟩ | ⟨hc11, h1⟩
                      · rw [hc11]
                        cbv
                        cases h1
                        try dsimp only at h0
                        replace h0 := condT h0 rfl
                        cases h0
                        exact fin_ok hX rfl ⟨[], _, _, ⟨rfl, rfl⟩, rfl, rfl, rfl, rfl, by cbv; try simp⟩
                      · as_aux_lemma =>
                        rw [hc11]
                        cbv
                        rcases condS h1 with ⟨hc12, h1⟩ | ⟨hc12, h1⟩
                        · rw [hc12]
                          cbv
                          cases h1
                          try dsimp only at h0
                          replace h0 := condT h0 rfl
                          cases h0
                          exact fin_ok hX rfl ⟨[], _, _, ⟨rfl, rfl⟩, rfl, rfl, rfl, rfl, by cbv; try simp⟩
                        · as_aux_lemma =>
                          rw [hc12]
                          cbv
                          rcases condS h1 with ⟨hc13, h1⟩ | ⟨hc13, h1⟩
                          · rw [hc13]
                            cbv
                            obtain ⟨hg14, h1⟩ := grdS h1
                            refine ⟨inr_of hO hg14, ?_⟩
                            cases h1
                            try dsimp only at h0
                            replace h0 := condT h0 rfl
                            cases h0
                            exact fin_ok hX rfl ⟨[], _, _, ⟨rfl, rfl⟩, rfl, rfl, rfl, rfl, by cbv; try simp⟩
                          · as_aux_lemma =>
                            rw [hc13]
                            cbv
                            obtain ⟨hg15, h1⟩ := grdS h1
                            refine ⟨inr_of hO hg15, ?_⟩
                            obtain ⟨hg16, h1⟩ := grdS h1
                            refine ⟨inr_of hO hg16, ?_⟩
                            obtain ⟨hg17, h1⟩ := grdS h1
                            refine ⟨inr_of hO hg17, ?_⟩
                            cases h1
                            try dsimp only at h0
                            rcases condS h0 with ⟨hc18, h0⟩ | ⟨hc18, h0⟩
                            · rw [hc18]
                              cbv
                              cases h0
                              exact fin_ok hX rfl ⟨[], _, _, ⟨rfl, rfl⟩, rfl, rfl, rfl, rfl, by cbv; try simp⟩
                            · as_aux_lemma =>
                              rw [hc18]
                              cbv
                              obtain ⟨hg19, h0⟩ := grdS h0
                              refine ⟨inr_of hO hg19, ?_⟩
                              obtain ⟨b176, hv, h0⟩ := bindS h0
                              refine call_is hO hX (fn_law13_line hO hv) (by kernel_rfl) [] rfl trivial rfl ?_
                              cbv
                              rcases condS h0 with ⟨hc20, h0⟩ | ⟨hc20, h0⟩
                              · rw [hc20]
                                cbv
                                cases h0
                                exact fin_ok hX rfl ⟨[], _, _, ⟨rfl, rfl⟩, rfl, rfl, rfl, rfl, by cbv; try simp⟩
                              · rw [hc20]
                                cbv
                                obtain ⟨⟨n190, n191⟩, hv, h0⟩ := bindS h0
                                try dsimp only at h0
                                refine call_is hO hX (fn_periodic_Count hO hv) (by kernel_rfl) [0] rfl ⟨rfl, rfl, trivial⟩ rfl ?_
                                cbv
                                refine ⟨inr_of hO hg19, ?_⟩
                                obtain ⟨⟨n192, n193⟩, hv, h0⟩ := bindS h0
                                try dsimp only at h0
                                refine call_is hO hX (fn_periodic_Count hO hv) (by kernel_rfl) [0] rfl ⟨rfl, rfl, trivial⟩ rfl ?_
                                cbv
                                obtain ⟨x463, h1, h0⟩ := bindS h0
                                rcases condS h1 with ⟨hc21, h1⟩ | ⟨hc21, h1⟩
                                · rw [hc21]
                                  cbv
                                  rcases condS h1 with ⟨hc22, h1⟩ | ⟨hc22, h1⟩
                                  · rw [hc22]
                                    cbv
                                    cases h1
                                    try dsimp only at h0
                                    cases h0
                                    exact fin_ok hX rfl ⟨[], _, _, ⟨rfl, rfl⟩, rfl, rfl, rfl, rfl, by cbv; try simp⟩
                                  · rw [hc22]
                                    cbv
                                    cases h1
                                    try dsimp only at h0
                                    cases h0
                                    exact fin_ok hX rfl ⟨[], _, _, ⟨rfl, rfl⟩, rfl, rfl, rfl, rfl, by cbv; try simp⟩
                                · rw [hc21]
                                  cbv
                                  cases h1
                                  try dsimp only at h0
                                  cases h0
                                  exact fin_ok hX rfl ⟨[], _, _, ⟨rfl, rfl⟩, rfl, rfl, rfl, rfl, by cbv; try simp⟩
end Go.Proofs.Ytfhfifcfkimgpaa
