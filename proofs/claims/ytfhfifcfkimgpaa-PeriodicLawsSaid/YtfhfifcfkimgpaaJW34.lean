/-
  The code does what its models say (printed by lift.py).
-/
import Derived.Test.YtfhfifcfkimgpaaHM
import Derived.Test.YtfhfifcfkimgpaaManW2
import Derived.Test.YtfhfifcfkimgpaaJW2
import Derived.Test.YtfhfifcfkimgpaaJW5
import Derived.Test.YtfhfifcfkimgpaaJW13
import Derived.Test.YtfhfifcfkimgpaaJW17
import Derived.Test.YtfhfifcfkimgpaaJW20
import Derived.Test.YtfhfifcfkimgpaaJW21
import Derived.Test.YtfhfifcfkimgpaaJW33
namespace Go.Proofs.Ytfhfifcfkimgpaa
open Go.RowKit
set_option maxRecDepth 100000

set_option maxHeartbeats 40000000 in
theorem fn_law13_PeriodicLaws {O0 : Ops} (hO0 : O0 = std) {a_1 : Int} {b_1 : Int} {a_2 : List (Int × Int)} {b_2 : List (Int × Int)} {r1 : Bool} (h : m_law13_PeriodicLaws O0 a_1 b_1 a_2 b_2 = some r1) :
    Fn Try.prog 6 [.agg [.int .i64 a_1, .sl 0], .agg [.int .i64 b_1, .sl 1]] [.arr false .i2 a_2, .arr false .i2 b_2] (fun v c => v = .c (.bool r1) ∧ c = []) := by
  refine fn_run tab_holds eqs_holds mixed [] Try.func6 (by kernel_rfl) (by kernel_rfl) (Nat.le_of_ble_eq_true rfl) ?_
  intro O X hO hX
  rw [hO0, ← hO] at h
  unfold m_law13_PeriodicLaws at h
  have h0 := h; clear h
  cbv
  obtain ⟨x498, h1, h0⟩ := bindS h0
  obtain ⟨b196, hv, h1⟩ := bindS h1
  refine call_is hO hX (fn_law13_awake hO hv) (by kernel_rfl) [] rfl trivial rfl ?_
  cbv
  rcases condS h1 with ⟨hc1, h1⟩ | ⟨hc1, h1⟩
  · rw [hc1]
    cbv
    cases h1
    try dsimp only at h0
    replace h0 := condT h0 rfl
    obtain ⟨b201, hv, h0⟩ := bindS h0
    refine call_is hO hX (fn_law13_awake hO hv) (by kernel_rfl) [] rfl trivial rfl ?_
    cbv
    cases h0
    exact fin_ok hX rfl ⟨[], _, _, ⟨rfl, rfl⟩, rfl, rfl, rfl, rfl, by cbv; try simp⟩
  · as_aux_lemma =>
    rw [hc1]
    cbv
    obtain ⟨b197, hv, h1⟩ := bindS h1
    refine call_is hO hX (fn_law13_long hO hv) (by kernel_rfl) [0] rfl ⟨rfl, rfl, trivial⟩ rfl ?_
    cbv
    rcases condS h1 with ⟨hc2, h1⟩ | ⟨hc2, h1⟩
    · rw [hc2]
      cbv
      cases h1
      try dsimp only at h0
      replace h0 := condT h0 rfl
      obtain ⟨b201, hv, h0⟩ := bindS h0
      refine call_is hO hX (fn_law13_awake hO hv) (by kernel_rfl) [] rfl trivial rfl ?_
      cbv
      cases h0
      exact fin_ok hX rfl ⟨[], _, _, ⟨rfl, rfl⟩, rfl, rfl, rfl, rfl, by cbv; try simp⟩
    · as_aux_lemma =>
      rw [hc2]
      cbv
      obtain ⟨b198, hv, h1⟩ := bindS h1
      refine call_is hO hX (fn_law13_long hO hv) (by kernel_rfl) [1] rfl ⟨rfl, rfl, trivial⟩ rfl ?_
      cbv
      rcases condS h1 with ⟨hc3, h1⟩ | ⟨hc3, h1⟩
      · rw [hc3]
        cbv
        cases h1
        try dsimp only at h0
        replace h0 := condT h0 rfl
        obtain ⟨b201, hv, h0⟩ := bindS h0
        refine call_is hO hX (fn_law13_awake hO hv) (by kernel_rfl) [] rfl trivial rfl ?_
        cbv
        cases h0
        exact fin_ok hX rfl ⟨[], _, _, ⟨rfl, rfl⟩, rfl, rfl, rfl, rfl, by cbv; try simp⟩
      · as_aux_lemma =>
        rw [hc3]
        cbv
        obtain ⟨b199, hv, h1⟩ := bindS h1
        refine call_is hO hX (fn_periodic_Valid hO hv) (by kernel_rfl) [0] rfl ⟨rfl, rfl, trivial⟩ rfl ?_
        cbv
        rcases condS h1 with ⟨hc4, h1⟩ | ⟨hc4, h1⟩
        · rw [hc4]
          cbv
          cases h1
          try dsimp only at h0
          replace h0 := condT h0 rfl
          obtain ⟨b201, hv, h0⟩ := bindS h0
          refine call_is hO hX (fn_law13_awake hO hv) (by kernel_rfl) [] rfl trivial rfl ?_
          cbv
          cases h0
          exact fin_ok hX rfl ⟨[], _, _, ⟨rfl, rfl⟩, rfl, rfl, rfl, rfl, by cbv; try simp⟩
        · as_aux_lemma =>
          rw [hc4]
          cbv
          obtain ⟨b200, hv, h1⟩ := bindS h1
          refine call_is hO hX (fn_periodic_Valid hO hv) (by kernel_rfl) [1] rfl ⟨rfl, rfl, trivial⟩ rfl ?_
          cbv
          cases h1
          try dsimp only at h0
          rcases condS h0 with ⟨hc5, h0⟩ | ⟨hc5, h0⟩
          · rw [hc5]
            cbv
            obtain ⟨b201, hv, h0⟩ := bindS h0
            refine call_is hO hX (fn_law13_awake hO hv) (by kernel_rfl) [] rfl trivial rfl ?_
            cbv
            cases h0
            exact fin_ok hX rfl ⟨[], _, _, ⟨rfl, rfl⟩, rfl, rfl, rfl, rfl, by cbv; try simp⟩
          · as_aux_lemma =>
            rw [hc5]
            cbv
            obtain ⟨⟨n214, l267, n215⟩, hv, h0⟩ := bindS h0
            try dsimp only at h0
            refine call_is hO hX (fn_periodic_Union hO hv) (by kernel_rfl) [0, 1] rfl ⟨rfl, rfl, rfl, rfl, trivial⟩ rfl ?_
            cbv
            obtain ⟨⟨n216, l268, n217⟩, hv, h0⟩ := bindS h0
            try dsimp only at h0
            refine call_is hO hX (fn_periodic_Union hO hv) (by kernel_rfl) [1, 0] rfl ⟨rfl, rfl, rfl, rfl, trivial⟩ rfl ?_
            cbv
            obtain ⟨⟨n218, l269, n219⟩, hv, h0⟩ := bindS h0
            try dsimp only at h0
            refine call_is hO hX (fn_periodic_Meet hO hv) (by kernel_rfl) [0, 1] rfl ⟨rfl, rfl, rfl, rfl, trivial⟩ rfl ?_
            cbv
            obtain ⟨⟨n220, l270, n221⟩, hv, h0⟩ := bindS h0
            try dsimp only at h0
            refine call_is hO hX (fn_periodic_Minus hO hv) (by kernel_rfl) [0, 1] rfl ⟨rfl, rfl, rfl, rfl, trivial⟩ rfl ?_
            cbv
            obtain ⟨x501, h1, h0⟩ := bindS h0
            rcases condS h1 with ⟨hc6, h1⟩ | ⟨hc6, h1⟩
            · rw [hc6]
              cbv
              cases h1
              try dsimp only at h0
              replace h0 := condT h0 rfl
              cases h0
              exact fin_ok hX rfl ⟨[], _, _, ⟨rfl, rfl⟩, rfl, rfl, rfl, rfl, by cbv; try simp⟩
            · as_aux_lemma =>
              rw [hc6]
              cbv
              rcases condS h1 with ⟨hc7, h1⟩ | ⟨hc7, h1⟩
              · as_aux_lemma =>
                rw [hc7]
                cbv
                obtain ⟨b202, hv, h1⟩ := bindS h1
                refine call_is hO hX (fn_periodic_Valid hO hv) (by kernel_rfl) [4] rfl ⟨rfl, rfl, trivial⟩ rfl ?_
                cbv
                rcases condS h1 with ⟨hc8, h1⟩ | ⟨hc8, h1⟩
                · rw [hc8]
                  cbv
                  cases h1
                  try dsimp only at h0
                  replace h0 := condT h0 rfl
                  cases h0
                  exact fin_ok hX rfl ⟨[], _, _, ⟨rfl, rfl⟩, rfl, rfl, rfl, rfl, by cbv; try simp⟩
                · as_aux_lemma =>
                  rw [hc8]
                  cbv
                  obtain ⟨b203, hv, h1⟩ := bindS h1
                  refine call_is hO hX (fn_periodic_Equal hO hv) (by kernel_rfl) [4, 6] rfl ⟨rfl, rfl, rfl, rfl, trivial⟩ rfl ?_
                  cbv
                  cases h1
                  try dsimp only at h0
                  rcases condS h0 with ⟨hc9, h0⟩ | ⟨hc9, h0⟩
                  · rw [hc9]
                    cbv
                    cases h0
                    exact fin_ok hX rfl ⟨[], _, _, ⟨rfl, rfl⟩, rfl, rfl, rfl, rfl, by cbv; try simp⟩
                  · as_aux_lemma =>
                    rw [hc9]
                    cbv
                    try (rw [show (O .not (O .eq n215 0)) = false from by rw [hc7]; subst hO; rfl]; cbv)
                    obtain ⟨x503, h1, h0⟩ := bindS h0
                    replace h1 := condF h1 (by rw [hc7]; subst hO; rfl)
                    rcases condS h1 with ⟨hc10, h1⟩ | ⟨hc10, h1⟩
                    · rw [hc10]
                      cbv
                      cases h1
                      try dsimp only at h0
                      replace h0 := condT h0 rfl
                      cases h0
                      exact fin_ok hX rfl ⟨[], _, _, ⟨rfl, rfl⟩, rfl, rfl, rfl, rfl, by cbv; try simp⟩
                    · as_aux_lemma =>
                      rw [hc10]
                      cbv
                      cases h1
                      try dsimp only at h0
                      rcases condS h0 with ⟨hc11, h0⟩ | ⟨hc11, h0⟩
                      · rw [hc11]
                        cbv
                        cases h0
                        exact fin_ok hX rfl ⟨[], _, _, ⟨rfl, rfl⟩, rfl, rfl, rfl, rfl, by cbv; try simp⟩
                      · as_aux_lemma =>
                        rw [hc11]
                        cbv
                        obtain ⟨⟨n222, l271, n223⟩, hv, h0⟩ := bindS h0
                        try dsimp only at h0
                        refine call_is hO hX (fn_periodic_Not hO hv) (by kernel_rfl) [0] rfl ⟨rfl, rfl, trivial⟩ rfl ?_
                        cbv
                        obtain ⟨⟨n224, l272, n225⟩, hv, h0⟩ := bindS h0
                        try dsimp only at h0
                        refine call_is hO hX (fn_periodic_Not hO hv) (by kernel_rfl) [1] rfl ⟨rfl, rfl, trivial⟩ rfl ?_
                        cbv
                        obtain ⟨⟨n226, l273, n227⟩, hv, h0⟩ := bindS h0
                        try dsimp only at h0
                        refine call_is hO hX (fn_periodic_Not hO hv) (by kernel_rfl) [4] rfl ⟨rfl, rfl, trivial⟩ rfl ?_
                        cbv
                        obtain ⟨b205, hv, h0⟩ := bindS h0
                        refine call_is hO hX (fn_slices_ContainsFunc_2 hO hv) (by kernel_rfl) [18] rfl ⟨rfl, rfl, trivial⟩ rfl ?_
                        cbv
                        rcases condS h0 with ⟨hc12, h0⟩ | ⟨hc12, h0⟩
                        · as_aux_lemma =>
                          rw [hc12]
                          cbv
                          obtain ⟨x516, h1, h0⟩ := bindS h0
                          rcases condS h1 with ⟨hc13, h1⟩ | ⟨hc13, h1⟩
                          · as_aux_lemma =>
                            rw [hc13]
                            cbv
                            rcases condS h1 with ⟨hc14, h1⟩ | ⟨hc14, h1⟩
                            · rw [hc14]
                              cbv
                              rcases condS h1 with ⟨hc15, h1⟩ | ⟨hc15, h1⟩
                              · rw [hc15]
                                cbv
                                cases h1
                                try dsimp only at h0
                                cases h0
                                exact fin_ok hX rfl ⟨[], _, _, ⟨rfl, rfl⟩, rfl, rfl, rfl, rfl, by cbv; try simp⟩
                              · rw [hc15]
                                cbv
                                cases h1
                                try dsimp only at h0
                                cases h0
                                exact fin_ok hX rfl ⟨[], _, _, ⟨rfl, rfl⟩, rfl, rfl, rfl, rfl, by cbv; try simp⟩
                            · rw [hc14]
                              cbv
                              rcases condS h1 with ⟨hc16, h1⟩ | ⟨hc16, h1⟩
                              · rw [hc16]
                                cbv
                                rcases condS h1 with ⟨hc17, h1⟩ | ⟨hc17, h1⟩
                                · rw [hc17]
                                  cbv
                                  cases h1
                                  try dsimp only at h0
                                  cases h0
                                  exact fin_ok hX rfl ⟨[], _, _, ⟨rfl, rfl⟩, rfl, rfl, rfl, rfl, by cbv; try simp⟩
                                · rw [hc17]
                                  cbv
                                  cases h1
                                  try dsimp only at h0
                                  cases h0
                                  exact fin_ok hX rfl ⟨[], _, _, ⟨rfl, rfl⟩, rfl, rfl, rfl, rfl, by cbv; try simp⟩
                              · rw [hc16]
                                cbv
                                cases h1
                                try dsimp only at h0
                                cases h0
                                exact fin_ok hX rfl ⟨[], _, _, ⟨rfl, rfl⟩, rfl, rfl, rfl, rfl, by cbv; try simp⟩
                          · as_aux_lemma =>
                            rw [hc13]
                            cbv
                            rcases condS h1 with ⟨hc18, h1⟩ | ⟨hc18, h1⟩
                            · as_aux_lemma =>
                              rw [hc18]
                              cbv
                              rcases condS h1 with ⟨hc19, h1⟩ | ⟨hc19, h1⟩
                              · rw [hc19]
                                cbv
                                rcases condS h1 with ⟨hc20, h1⟩ | ⟨hc20, h1⟩
                                · rw [hc20]
                                  cbv
                                  cases h1
                                  try dsimp only at h0
                                  cases h0
                                  exact fin_ok hX rfl ⟨[], _, _, ⟨rfl, rfl⟩, rfl, rfl, rfl, rfl, by cbv; try simp⟩
                                · rw [hc20]
                                  cbv
                                  cases h1
                                  try dsimp only at h0
                                  cases h0
                                  exact fin_ok hX rfl ⟨[], _, _, ⟨rfl, rfl⟩, rfl, rfl, rfl, rfl, by cbv; try simp⟩
                              · rw [hc19]
                                cbv
                                rcases condS h1 with ⟨hc21, h1⟩ | ⟨hc21, h1⟩
                                · rw [hc21]
                                  cbv
                                  rcases condS h1 with ⟨hc22, h1⟩ | ⟨hc22, h1⟩
                                  · rw [hc22]
                                    cbv
                                    cases h1
                                    try dsimp only at h0
                                    cases h0
                                    exact fin_ok hX rfl ⟨[], _, _, ⟨rfl, rfl⟩, rfl, rfl, rfl, rfl, by cbv; try simp⟩
                                  · rw [hc22]
                                    cbv
                                    cases h1
                                    try dsimp only at h0
                                    cases h0
                                    exact fin_ok hX rfl ⟨[], _, _, ⟨rfl, rfl⟩, rfl, rfl, rfl, rfl, by cbv; try simp⟩
                                · rw [hc21]
                                  cbv
                                  cases h1
                                  try dsimp only at h0
                                  cases h0
                                  exact fin_ok hX rfl ⟨[], _, _, ⟨rfl, rfl⟩, rfl, rfl, rfl, rfl, by cbv; try simp⟩
                            · rw [hc18]
                              cbv
                              cases h1
                              try dsimp only at h0
                              cases h0
                              exact fin_ok hX rfl ⟨[], _, _, ⟨rfl, rfl⟩, rfl, rfl, rfl, rfl, by cbv; try simp⟩
                        · as_aux_lemma =>
                          rw [hc12]
                          cbv
                          obtain ⟨⟨n229, l274, n230⟩, hv, h0⟩ := bindS h0
                          try dsimp only at h0
                          refine call_is hO hX (fn_periodic_Meet hO hv) (by kernel_rfl) [12, 14] rfl ⟨rfl, rfl, rfl, rfl, trivial⟩ rfl ?_
                          cbv
                          obtain ⟨x518, h1, h0⟩ := bindS h0
                          rcases condS h1 with ⟨hc23, h1⟩ | ⟨hc23, h1⟩
                          · as_aux_lemma =>
                            rw [hc23]
                            cbv
                            obtain ⟨b206, hv, h1⟩ := bindS h1
                            refine call_is hO hX (fn_periodic_Equal hO hv) (by kernel_rfl) [16, 19] rfl ⟨rfl, rfl, rfl, rfl, trivial⟩ rfl ?_
                            cbv
                            cases h1
                            try dsimp only at h0
                            rcases condS h0 with ⟨hc24, h0⟩ | ⟨hc24, h0⟩
                            · rw [hc24]
                              cbv
                              cases h0
                              exact fin_ok hX rfl ⟨[], _, _, ⟨rfl, rfl⟩, rfl, rfl, rfl, rfl, by cbv; try simp⟩
                            · as_aux_lemma =>
                              rw [hc24]
                              cbv
                              obtain ⟨⟨n231, l275, n232⟩, hv, h0⟩ := bindS h0
                              try dsimp only at h0
                              refine call_is hO hX (fn_periodic_Meet hO hv) (by kernel_rfl) [0, 14] rfl ⟨rfl, rfl, rfl, rfl, trivial⟩ rfl ?_
                              cbv
                              obtain ⟨⟨n233, l276, n234⟩, hv, h0⟩ := bindS h0
                              try dsimp only at h0
                              refine call_is hO hX (fn_periodic_Union hO hv) (by kernel_rfl) [10, 8] rfl ⟨rfl, rfl, rfl, rfl, trivial⟩ rfl ?_
                              cbv
                              obtain ⟨⟨n235, l277, n236⟩, hv, h0⟩ := bindS h0
                              try dsimp only at h0
                              refine call_is hO hX (fn_periodic_Meet hO hv) (by kernel_rfl) [0, 4] rfl ⟨rfl, rfl, rfl, rfl, trivial⟩ rfl ?_
                              cbv
                              obtain ⟨x529, h1, h0⟩ := bindS h0
                              rcases condS h1 with ⟨hc25, h1⟩ | ⟨hc25, h1⟩
                              · as_aux_lemma =>
                                rw [hc25]
                                cbv
                                rcases condS h1 with ⟨hc26, h1⟩ | ⟨hc26, h1⟩
                                · rw [hc26]
                                  cbv
                                  rcases condS h1 with ⟨hc27, h1⟩ | ⟨hc27, h1⟩
                                  · rw [hc27]
                                    cbv
                                    cases h1
                                    try dsimp only at h0
                                    cases h0
                                    exact fin_ok hX rfl ⟨[], _, _, ⟨rfl, rfl⟩, rfl, rfl, rfl, rfl, by cbv; try simp⟩
                                  · rw [hc27]
                                    cbv
                                    obtain ⟨b207, hv, h1⟩ := bindS h1
                                    refine call_is hO hX (fn_periodic_Equal hO hv) (by kernel_rfl) [25, 0] rfl ⟨rfl, rfl, rfl, rfl, trivial⟩ rfl ?_
                                    cbv
                                    cases h1
                                    try dsimp only at h0
                                    cases h0
                                    exact fin_ok hX rfl ⟨[], _, _, ⟨rfl, rfl⟩, rfl, rfl, rfl, rfl, by cbv; try simp⟩
                                · rw [hc26]
                                  cbv
                                  obtain ⟨b208, hv, h1⟩ := bindS h1
                                  refine call_is hO hX (fn_periodic_Equal hO hv) (by kernel_rfl) [23, 0] rfl ⟨rfl, rfl, rfl, rfl, trivial⟩ rfl ?_
                                  cbv
                                  rcases condS h1 with ⟨hc28, h1⟩ | ⟨hc28, h1⟩
                                  · rw [hc28]
                                    cbv
                                    rcases condS h1 with ⟨hc29, h1⟩ | ⟨hc29, h1⟩
                                    · rw [hc29]
                                      cbv
                                      cases h1
                                      try dsimp only at h0
                                      cases h0
                                      exact fin_ok hX rfl ⟨[], _, _, ⟨rfl, rfl⟩, rfl, rfl, rfl, rfl, by cbv; try simp⟩
                                    · rw [hc29]
                                      cbv
                                      obtain ⟨b209, hv, h1⟩ := bindS h1
                                      refine call_is hO hX (fn_periodic_Equal hO hv) (by kernel_rfl) [25, 0] rfl ⟨rfl, rfl, rfl, rfl, trivial⟩ rfl ?_
                                      cbv
                                      cases h1
                                      try dsimp only at h0
                                      cases h0
                                      exact fin_ok hX rfl ⟨[], _, _, ⟨rfl, rfl⟩, rfl, rfl, rfl, rfl, by cbv; try simp⟩
                                  · rw [hc28]
                                    cbv
                                    cases h1
                                    try dsimp only at h0
                                    cases h0
                                    exact fin_ok hX rfl ⟨[], _, _, ⟨rfl, rfl⟩, rfl, rfl, rfl, rfl, by cbv; try simp⟩
                              · as_aux_lemma =>
                                rw [hc25]
                                cbv
                                obtain ⟨b210, hv, h1⟩ := bindS h1
                                refine call_is hO hX (fn_periodic_Equal hO hv) (by kernel_rfl) [21, 10] rfl ⟨rfl, rfl, rfl, rfl, trivial⟩ rfl ?_
                                cbv
                                rcases condS h1 with ⟨hc30, h1⟩ | ⟨hc30, h1⟩
                                · as_aux_lemma =>
                                  rw [hc30]
                                  cbv
                                  rcases condS h1 with ⟨hc31, h1⟩ | ⟨hc31, h1⟩
                                  · rw [hc31]
                                    cbv
                                    rcases condS h1 with ⟨hc32, h1⟩ | ⟨hc32, h1⟩
                                    · rw [hc32]
                                      cbv
                                      cases h1
                                      try dsimp only at h0
                                      cases h0
                                      exact fin_ok hX rfl ⟨[], _, _, ⟨rfl, rfl⟩, rfl, rfl, rfl, rfl, by cbv; try simp⟩
                                    · rw [hc32]
                                      cbv
                                      obtain ⟨b211, hv, h1⟩ := bindS h1
                                      refine call_is hO hX (fn_periodic_Equal hO hv) (by kernel_rfl) [25, 0] rfl ⟨rfl, rfl, rfl, rfl, trivial⟩ rfl ?_
                                      cbv
                                      cases h1
                                      try dsimp only at h0
                                      cases h0
                                      exact fin_ok hX rfl ⟨[], _, _, ⟨rfl, rfl⟩, rfl, rfl, rfl, rfl, by cbv; try simp⟩
                                  · rw [hc31]
                                    cbv
                                    obtain ⟨b212, hv, h1⟩ := bindS h1
                                    refine call_is hO hX (fn_periodic_Equal hO hv) (by kernel_rfl) [23, 0] rfl ⟨rfl, rfl, rfl, rfl, trivial⟩ rfl ?_
                                    cbv
                                    rcases condS h1 with ⟨hc33, h1⟩ | ⟨hc33, h1⟩
                                    · rw [hc33]
                                      cbv
                                      rcases condS h1 with ⟨hc34, h1⟩ | ⟨hc34, h1⟩
                                      · rw [hc34]
                                        cbv
                                        cases h1
                                        try dsimp only at h0
                                        cases h0
                                        exact fin_ok hX rfl ⟨[], _, _, ⟨rfl, rfl⟩, rfl, rfl, rfl, rfl, by cbv; try simp⟩
                                      · rw [hc34]
                                        cbv
                                        obtain ⟨b213, hv, h1⟩ := bindS h1
                                        refine call_is hO hX (fn_periodic_Equal hO hv) (by kernel_rfl) [25, 0] rfl ⟨rfl, rfl, rfl, rfl, trivial⟩ rfl ?_
                                        cbv
                                        cases h1
                                        try dsimp only at h0
                                        cases h0
                                        exact fin_ok hX rfl ⟨[], _, _, ⟨rfl, rfl⟩, rfl, rfl, rfl, rfl, by cbv; try simp⟩
                                    · rw [hc33]
                                      cbv
                                      cases h1
                                      try dsimp only at h0
                                      cases h0
                                      exact fin_ok hX rfl ⟨[], _, _, ⟨rfl, rfl⟩, rfl, rfl, rfl, rfl, by cbv; try simp⟩
                                · rw [hc30]
                                  cbv
                                  cases h1
                                  try dsimp only at h0
                                  cases h0
                                  exact fin_ok hX rfl ⟨[], _, _, ⟨rfl, rfl⟩, rfl, rfl, rfl, rfl, by cbv; try simp⟩
                          · as_aux_lemma =>
                            rw [hc23]
                            cbv
                            cases h1
                            try dsimp only at h0
                            replace h0 := condF h0 rfl
                            obtain ⟨⟨n231, l275, n232⟩, hv, h0⟩ := bindS h0
                            try dsimp only at h0
                            refine call_is hO hX (fn_periodic_Meet hO hv) (by kernel_rfl) [0, 14] rfl ⟨rfl, rfl, rfl, rfl, trivial⟩ rfl ?_
                            cbv
                            obtain ⟨⟨n233, l276, n234⟩, hv, h0⟩ := bindS h0
                            try dsimp only at h0
                            refine call_is hO hX (fn_periodic_Union hO hv) (by kernel_rfl) [10, 8] rfl ⟨rfl, rfl, rfl, rfl, trivial⟩ rfl ?_
                            cbv
                            obtain ⟨⟨n235, l277, n236⟩, hv, h0⟩ := bindS h0
                            try dsimp only at h0
                            refine call_is hO hX (fn_periodic_Meet hO hv) (by kernel_rfl) [0, 4] rfl ⟨rfl, rfl, rfl, rfl, trivial⟩ rfl ?_
                            cbv
                            obtain ⟨x529, h1, h0⟩ := bindS h0
                            rcases condS h1 with ⟨hc35, h1⟩ | ⟨hc35, h1⟩
                            · as_aux_lemma =>
                              rw [hc35]
                              cbv
                              rcases condS h1 with ⟨hc36, h1⟩ | ⟨hc36, h1⟩
                              · rw [hc36]
                                cbv
                                rcases condS h1 with ⟨hc37, h1⟩ | ⟨hc37, h1⟩
                                · rw [hc37]
                                  cbv
                                  cases h1
                                  try dsimp only at h0
                                  cases h0
                                  exact fin_ok hX rfl ⟨[], _, _, ⟨rfl, rfl⟩, rfl, rfl, rfl, rfl, by cbv; try simp⟩
                                · rw [hc37]
                                  cbv
                                  obtain ⟨b207, hv, h1⟩ := bindS h1
                                  refine call_is hO hX (fn_periodic_Equal hO hv) (by kernel_rfl) [25, 0] rfl ⟨rfl, rfl, rfl, rfl, trivial⟩ rfl ?_
                                  cbv
                                  cases h1
                                  try dsimp only at h0
                                  cases h0
                                  exact fin_ok hX rfl ⟨[], _, _, ⟨rfl, rfl⟩, rfl, rfl, rfl, rfl, by cbv; try simp⟩
                              · rw [hc36]
                                cbv
                                obtain ⟨b208, hv, h1⟩ := bindS h1
                                refine call_is hO hX (fn_periodic_Equal hO hv) (by kernel_rfl) [23, 0] rfl ⟨rfl, rfl, rfl, rfl, trivial⟩ rfl ?_
                                cbv
                                rcases condS h1 with ⟨hc38, h1⟩ | ⟨hc38, h1⟩
                                · rw [hc38]
                                  cbv
                                  rcases condS h1 with ⟨hc39, h1⟩ | ⟨hc39, h1⟩
                                  · rw [hc39]
                                    cbv
                                    cases h1
                                    try dsimp only at h0
                                    cases h0
                                    exact fin_ok hX rfl ⟨[], _, _, ⟨rfl, rfl⟩, rfl, rfl, rfl, rfl, by cbv; try simp⟩
                                  · rw [hc39]
                                    cbv
                                    obtain ⟨b209, hv, h1⟩ := bindS h1
                                    refine call_is hO hX (fn_periodic_Equal hO hv) (by kernel_rfl) [25, 0] rfl ⟨rfl, rfl, rfl, rfl, trivial⟩ rfl ?_
                                    cbv
                                    cases h1
                                    try dsimp only at h0
                                    cases h0
                                    exact fin_ok hX rfl ⟨[], _, _, ⟨rfl, rfl⟩, rfl, rfl, rfl, rfl, by cbv; try simp⟩
                                · rw [hc38]
                                  cbv
                                  cases h1
                                  try dsimp only at h0
                                  cases h0
                                  exact fin_ok hX rfl ⟨[], _, _, ⟨rfl, rfl⟩, rfl, rfl, rfl, rfl, by cbv; try simp⟩
                            · as_aux_lemma =>
                              rw [hc35]
                              cbv
                              obtain ⟨b210, hv, h1⟩ := bindS h1
                              refine call_is hO hX (fn_periodic_Equal hO hv) (by kernel_rfl) [21, 10] rfl ⟨rfl, rfl, rfl, rfl, trivial⟩ rfl ?_
                              cbv
                              rcases condS h1 with ⟨hc40, h1⟩ | ⟨hc40, h1⟩
                              · as_aux_lemma =>
                                rw [hc40]
                                cbv
                                rcases condS h1 with ⟨hc41, h1⟩ | ⟨hc41, h1⟩
                                · rw [hc41]
                                  cbv
                                  rcases condS h1 with ⟨hc42, h1⟩ | ⟨hc42, h1⟩
                                  · rw [hc42]
                                    cbv
                                    cases h1
                                    try dsimp only at h0
                                    cases h0
                                    exact fin_ok hX rfl ⟨[], _, _, ⟨rfl, rfl⟩, rfl, rfl, rfl, rfl, by cbv; try simp⟩
                                  · rw [hc42]
                                    cbv
                                    obtain ⟨b211, hv, h1⟩ := bindS h1
                                    refine call_is hO hX (fn_periodic_Equal hO hv) (by kernel_rfl) [25, 0] rfl ⟨rfl, rfl, rfl, rfl, trivial⟩ rfl ?_
                                    cbv
                                    cases h1
                                    try dsimp only at h0
                                    cases h0
                                    exact fin_ok hX rfl ⟨[], _, _, ⟨rfl, rfl⟩, rfl, rfl, rfl, rfl, by cbv; try simp⟩
                                · rw [hc41]
                                  cbv
                                  obtain ⟨b212, hv, h1⟩ := bindS h1
                                  refine call_is hO hX (fn_periodic_Equal hO hv) (by kernel_rfl) [23, 0] rfl ⟨rfl, rfl, rfl, rfl, trivial⟩ rfl ?_
                                  cbv
                                  rcases condS h1 with ⟨hc43, h1⟩ | ⟨hc43, h1⟩
                                  · rw [hc43]
                                    cbv
                                    rcases condS h1 with ⟨hc44, h1⟩ | ⟨hc44, h1⟩
                                    · rw [hc44]
                                      cbv
                                      cases h1
                                      try dsimp only at h0
                                      cases h0
                                      exact fin_ok hX rfl ⟨[], _, _, ⟨rfl, rfl⟩, rfl, rfl, rfl, rfl, by cbv; try simp⟩
                                    · rw [hc44]
                                      cbv
                                      obtain ⟨b213, hv, h1⟩ := bindS h1
                                      refine call_is hO hX (fn_periodic_Equal hO hv) (by kernel_rfl) [25, 0] rfl ⟨rfl, rfl, rfl, rfl, trivial⟩ rfl ?_
                                      cbv
                                      cases h1
                                      try dsimp only at h0
                                      cases h0
                                      exact fin_ok hX rfl ⟨[], _, _, ⟨rfl, rfl⟩, rfl, rfl, rfl, rfl, by cbv; try simp⟩
                                  · rw [hc43]
                                    cbv
                                    cases h1
                                    try dsimp only at h0
                                    cases h0
                                    exact fin_ok hX rfl ⟨[], _, _, ⟨rfl, rfl⟩, rfl, rfl, rfl, rfl, by cbv; try simp⟩
                              · rw [hc40]
                                cbv
                                cases h1
                                try dsimp only at h0
                                cases h0
                                exact fin_ok hX rfl ⟨[], _, _, ⟨rfl, rfl⟩, rfl, rfl, rfl, rfl, by cbv; try simp⟩
              · rw [hc7]
                cbv
                try (rw [show (O .not (O .eq n215 0)) = true from by rw [hc7]; subst hO; rfl]; cbv)
                cases h1
                try dsimp only at h0
                replace h0 := condF h0 rfl
                obtain ⟨x503, h1, h0⟩ := bindS h0
                replace h1 := condT h1 (by rw [hc7]; subst hO; rfl)
                cases h1
                try dsimp only at h0
                replace h0 := condT h0 rfl
                cases h0
                exact fin_ok hX rfl ⟨[], _, _, ⟨rfl, rfl⟩, rfl, rfl, rfl, rfl, by cbv; try simp⟩
end Go.Proofs.Ytfhfifcfkimgpaa
