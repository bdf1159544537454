/-
  The code does what its models say (printed by lift.py).
-/
import Derived.Test.YtfhfifcfkimgpaaHM
import Derived.Test.YtfhfifcfkimgpaaManW2
import Derived.Test.YtfhfifcfkimgpaaJW2
import Derived.Test.YtfhfifcfkimgpaaJW5
import Derived.Test.YtfhfifcfkimgpaaJW13
import Derived.Test.YtfhfifcfkimgpaaJW15
import Derived.Test.YtfhfifcfkimgpaaJW20
import Derived.Test.YtfhfifcfkimgpaaJW21
import Derived.Test.YtfhfifcfkimgpaaJW22
import Derived.Test.YtfhfifcfkimgpaaJW24
import Derived.Test.YtfhfifcfkimgpaaJW25
namespace Go.Proofs.Ytfhfifcfkimgpaa
open Go.RowKit
set_option maxRecDepth 100000

set_option maxHeartbeats 40000000 in
theorem fn_law13_PeriodicPoints {O0 : Ops} (hO0 : O0 = std) {a_1 : Int} {b_1 : Int} {n_1 : Int} {x_1 : Int} {a_2 : List (Int × Int)} {b_2 : List (Int × Int)} {r1 : Bool} (h : m_law13_PeriodicPoints O0 a_1 b_1 n_1 x_1 a_2 b_2 = some r1) :
    Fn Try.prog 10 [.agg [.int .i64 a_1, .sl 0], .agg [.int .i64 b_1, .sl 1], .c (.int .i64 n_1), .c (.int .i64 x_1)] [.arr false .i2 a_2, .arr false .i2 b_2] (fun v c => v = .c (.bool r1) ∧ c = []) := by
  refine fn_run tab_holds eqs_holds mixed [(13, (.seg 1 [0, 1, 3, 4] (.seg 2 [2] (.seg 2 [5] (.seg 1 [6, 7] .fin)))), [])] Try.func10 (by kernel_rfl) (by kernel_rfl) (Nat.le_of_ble_eq_true rfl) ?_
  intro O X hO hX
  rw [hO0, ← hO] at h
  unfold m_law13_PeriodicPoints at h
  have h0 := h; clear h
  cbv
  obtain ⟨x357, h1, h0⟩ := bindS h0
  obtain ⟨b111, hv, h1⟩ := bindS h1
  refine call_is hO hX (fn_law13_awake hO hv) (by kernel_rfl) [] rfl trivial rfl ?_
  cbv
  rcases condS h1 with ⟨hc1, h1⟩ | ⟨hc1, h1⟩
  · rw [hc1]
    cbv
    cases h1
    try dsimp only at h0
    replace h0 := condT h0 rfl
    obtain ⟨b118, hv, h0⟩ := bindS h0
    refine call_is hO hX (fn_law13_awake hO hv) (by kernel_rfl) [] rfl trivial rfl ?_
    cbv
    cases h0
    exact fin_ok hX rfl ⟨[], _, _, ⟨rfl, rfl⟩, rfl, rfl, rfl, rfl, by cbv; try simp⟩
  · as_aux_lemma =>
    rw [hc1]
    cbv
    obtain ⟨b112, hv, h1⟩ := bindS h1
    refine call_is hO hX (fn_law13_long hO hv) (by kernel_rfl) [0] rfl ⟨rfl, rfl, trivial⟩ rfl ?_
    cbv
    rcases condS h1 with ⟨hc2, h1⟩ | ⟨hc2, h1⟩
    · rw [hc2]
      cbv
      cases h1
      try dsimp only at h0
      replace h0 := condT h0 rfl
      obtain ⟨b118, hv, h0⟩ := bindS h0
      refine call_is hO hX (fn_law13_awake hO hv) (by kernel_rfl) [] rfl trivial rfl ?_
      cbv
      cases h0
      exact fin_ok hX rfl ⟨[], _, _, ⟨rfl, rfl⟩, rfl, rfl, rfl, rfl, by cbv; try simp⟩
    · as_aux_lemma =>
      rw [hc2]
      cbv
      obtain ⟨b113, hv, h1⟩ := bindS h1
      refine call_is hO hX (fn_law13_long hO hv) (by kernel_rfl) [1] rfl ⟨rfl, rfl, trivial⟩ rfl ?_
      cbv
      rcases condS h1 with ⟨hc3, h1⟩ | ⟨hc3, h1⟩
      · rw [hc3]
        cbv
        cases h1
        try dsimp only at h0
        replace h0 := condT h0 rfl
        obtain ⟨b118, hv, h0⟩ := bindS h0
        refine call_is hO hX (fn_law13_awake hO hv) (by kernel_rfl) [] rfl trivial rfl ?_
        cbv
        cases h0
        exact fin_ok hX rfl ⟨[], _, _, ⟨rfl, rfl⟩, rfl, rfl, rfl, rfl, by cbv; try simp⟩
      · as_aux_lemma =>
        rw [hc3]
        cbv
        obtain ⟨b114, hv, h1⟩ := bindS h1
        refine call_is hO hX (fn_periodic_Valid hO hv) (by kernel_rfl) [0] rfl ⟨rfl, rfl, trivial⟩ rfl ?_
        cbv
        rcases condS h1 with ⟨hc4, h1⟩ | ⟨hc4, h1⟩
        · rw [hc4]
          cbv
          cases h1
          try dsimp only at h0
          replace h0 := condT h0 rfl
          obtain ⟨b118, hv, h0⟩ := bindS h0
          refine call_is hO hX (fn_law13_awake hO hv) (by kernel_rfl) [] rfl trivial rfl ?_
          cbv
          cases h0
          exact fin_ok hX rfl ⟨[], _, _, ⟨rfl, rfl⟩, rfl, rfl, rfl, rfl, by cbv; try simp⟩
        · as_aux_lemma =>
          rw [hc4]
          cbv
          obtain ⟨b115, hv, h1⟩ := bindS h1
          refine call_is hO hX (fn_periodic_Valid hO hv) (by kernel_rfl) [1] rfl ⟨rfl, rfl, trivial⟩ rfl ?_
          cbv
          rcases condS h1 with ⟨hc5, h1⟩ | ⟨hc5, h1⟩
          · rw [hc5]
            cbv
            cases h1
            try dsimp only at h0
            replace h0 := condT h0 rfl
            obtain ⟨b118, hv, h0⟩ := bindS h0
            refine call_is hO hX (fn_law13_awake hO hv) (by kernel_rfl) [] rfl trivial rfl ?_
            cbv
            cases h0
            exact fin_ok hX rfl ⟨[], _, _, ⟨rfl, rfl⟩, rfl, rfl, rfl, rfl, by cbv; try simp⟩
          · as_aux_lemma =>
            rw [hc5]
            cbv
            obtain ⟨b116, hv, h1⟩ := bindS h1
            refine call_is hO hX (fn_law13_line hO hv) (by kernel_rfl) [] rfl trivial rfl ?_
            cbv
            rcases condS h1 with ⟨hc6, h1⟩ | ⟨hc6, h1⟩
            · rw [hc6]
              cbv
              cases h1
              try dsimp only at h0
              replace h0 := condT h0 rfl
              obtain ⟨b118, hv, h0⟩ := bindS h0
              refine call_is hO hX (fn_law13_awake hO hv) (by kernel_rfl) [] rfl trivial rfl ?_
              cbv
              cases h0
              exact fin_ok hX rfl ⟨[], _, _, ⟨rfl, rfl⟩, rfl, rfl, rfl, rfl, by cbv; try simp⟩
            · as_aux_lemma =>
              rw [hc6]
              cbv
              obtain ⟨b117, hv, h1⟩ := bindS h1
              refine call_is hO hX (fn_law13_line hO hv) (by kernel_rfl) [] rfl trivial rfl ?_
              cbv
              cases h1
              try dsimp only at h0
              rcases condS h0 with ⟨hc7, h0⟩ | ⟨hc7, h0⟩
              · rw [hc7]
                cbv
                obtain ⟨b118, hv, h0⟩ := bindS h0
                refine call_is hO hX (fn_law13_awake hO hv) (by kernel_rfl) [] rfl trivial rfl ?_
                cbv
                cases h0
                exact fin_ok hX rfl ⟨[], _, _, ⟨rfl, rfl⟩, rfl, rfl, rfl, rfl, by cbv; try simp⟩
              · as_aux_lemma =>
                rw [hc7]
                cbv
                obtain ⟨⟨n134, l212, n135⟩, hv, h0⟩ := bindS h0
                try dsimp only at h0
                refine call_is hO hX (fn_periodic_Union hO hv) (by kernel_rfl) [0, 1] rfl ⟨rfl, rfl, rfl, rfl, trivial⟩ rfl ?_
                cbv
                obtain ⟨⟨n136, l213, n137⟩, hv, h0⟩ := bindS h0
                try dsimp only at h0
                refine call_is hO hX (fn_periodic_Meet hO hv) (by kernel_rfl) [0, 1] rfl ⟨rfl, rfl, rfl, rfl, trivial⟩ rfl ?_
                cbv
                obtain ⟨⟨n138, l214, n139⟩, hv, h0⟩ := bindS h0
                try dsimp only at h0
                refine call_is hO hX (fn_periodic_Minus hO hv) (by kernel_rfl) [0, 1] rfl ⟨rfl, rfl, rfl, rfl, trivial⟩ rfl ?_
                cbv
                obtain ⟨⟨n140, l215, n141⟩, hv, h0⟩ := bindS h0
                try dsimp only at h0
                refine call_is hO hX (fn_periodic_Not hO hv) (by kernel_rfl) [0] rfl ⟨rfl, rfl, trivial⟩ rfl ?_
                cbv
                obtain ⟨⟨n142, l216, n143⟩, hv, h0⟩ := bindS h0
                try dsimp only at h0
                refine call_is hO hX (fn_periodic_Move hO hv) (by kernel_rfl) [0] rfl ⟨rfl, rfl, trivial⟩ rfl ?_
                cbv
                obtain ⟨x359, h1, h0⟩ := bindS h0
                rcases condS h1 with ⟨hc8, h1⟩ | ⟨hc8, h1⟩
                · rw [hc8]
                  cbv
                  cases h1
                  try dsimp only at h0
                  replace h0 := condT h0 rfl
                  cases h0
                  exact fin_ok hX rfl ⟨[], _, _, ⟨rfl, rfl⟩, rfl, rfl, rfl, rfl, by cbv; try simp⟩
                · as_aux_lemma =>
                  rw [hc8]
                  cbv
                  cases h1
                  try dsimp only at h0
                  rcases condS h0 with ⟨hc9, h0⟩ | ⟨hc9, h0⟩
                  · rw [hc9]
                    cbv
                    cases h0
                    exact fin_ok hX rfl ⟨[], _, _, ⟨rfl, rfl⟩, rfl, rfl, rfl, rfl, by cbv; try simp⟩
                  · as_aux_lemma =>
                    rw [hc9]
                    cbv
                    obtain ⟨l221, hv, h0⟩ := bindS h0
                    refine call_is hO hX (fn_law13_near hO hv) (by kernel_rfl) [14, 0, 1] rfl ⟨rfl, rfl, rfl, rfl, rfl, rfl, trivial⟩ rfl ?_
                    cbv
                    obtain ⟨e1, hi, h0⟩ := bindS h0
                    obtain ⟨I1, hI1, hi⟩ := loopS hi
                    refine loop1 tab_holds eqs_holds mixed [(13, (.seg 1 [0, 1, 3, 4] (.seg 2 [2] (.seg 2 [5] (.seg 1 [6, 7] .fin)))), [])] hO hX I1 (fun y => [(54, .junk), (57, .junk), (58, .junk), (60, .junk), (63, .junk), (64, .junk), (66, .junk), (69, .junk), (70, .junk), (72, .junk), (74, .junk), (75, .junk), (77, .junk), (80, .junk), (81, .junk), (92, .junk), (95, .c (.int .i64 y.2))]) (fun _ => []) (fun y => y.1) _ (by kernel_rfl) hi (by cbv; try simp) ?_
                    refine allp ?_
                    intro n1
                    intro x387 hi
                    cbv
                    rw [hI1] at hi
                    obtain ⟨n1, rfl, x1, h1, hi1⟩ := iterS hi
                    unfold m_law13_PeriodicPoints_L1 at h1
                    try dsimp only at h1
                    rcases condS h1 with ⟨hc10, h1⟩ | ⟨hc10, h1⟩
                    · as_aux_lemma =>
                      rw [hc10]
                      cbv
                      obtain ⟨hg11, h1⟩ := grdS h1
                      refine ⟨idx_of hO hg11, ?_⟩
                      obtain ⟨hg12, h1⟩ := grdS h1
                      refine ⟨kin_of hO hg12, ?_⟩
                      obtain ⟨b134, hv, h1⟩ := bindS h1
                      refine call_is hO hX (fn_periodic_Has hO hv) (by kernel_rfl) [0] rfl ⟨rfl, rfl, trivial⟩ rfl ?_
                      cbv
                      obtain ⟨b135, hv, h1⟩ := bindS h1
                      refine call_is hO hX (fn_periodic_Has hO hv) (by kernel_rfl) [1] rfl ⟨rfl, rfl, trivial⟩ rfl ?_
                      cbv
                      obtain ⟨⟨p32, x407⟩, h2, h1⟩ := bindS h1
                      rcases condS h2 with ⟨hc13, h2⟩ | ⟨hc13, h2⟩
                      · as_aux_lemma =>
                        rw [hc13]
                        cbv
                        obtain ⟨b136, hv, h2⟩ := bindS h2
                        refine call_is hO hX (fn_periodic_Has hO hv) (by kernel_rfl) [4] rfl ⟨rfl, rfl, trivial⟩ rfl ?_
                        cbv
                        rcases condS h2 with ⟨hc14, h2⟩ | ⟨hc14, h2⟩
                        · as_aux_lemma =>
                          rw [hc14]
                          cbv
                          rcases condS h2 with ⟨hc15, h2⟩ | ⟨hc15, h2⟩
                          · rw [hc15]
                            cbv
                            cases h2
                            try dsimp only at h1
                            replace h1 := condT h1 rfl
                            cases h1
                            cases exitI hi1
                            try dsimp only at h0
                            cases h0
                            exact fin_ok hX rfl ⟨[], _, _, ⟨rfl, rfl⟩, rfl, rfl, rfl, rfl, by cbv; try simp⟩
                          · as_aux_lemma =>
                            rw [hc15]
                            cbv
                            rcases condS h2 with ⟨hc16, h2⟩ | ⟨hc16, h2⟩
                            · as_aux_lemma =>
                              rw [hc16]
                              cbv
                              obtain ⟨b137, hv, h2⟩ := bindS h2
                              refine call_is hO hX (fn_periodic_Has hO hv) (by kernel_rfl) [6] rfl ⟨rfl, rfl, trivial⟩ rfl ?_
                              cbv
                              rcases condS h2 with ⟨hc17, h2⟩ | ⟨hc17, h2⟩
                              · rw [hc17]
                                cbv
                                cases h2
                                try dsimp only at h1
                                replace h1 := condT h1 rfl
                                cases h1
                                cases exitI hi1
                                try dsimp only at h0
                                cases h0
                                exact fin_ok hX rfl ⟨[], _, _, ⟨rfl, rfl⟩, rfl, rfl, rfl, rfl, by cbv; try simp⟩
                              · as_aux_lemma =>
                                rw [hc17]
                                cbv
                                rcases condS h2 with ⟨hc18, h2⟩ | ⟨hc18, h2⟩
                                · as_aux_lemma =>
                                  rw [hc18]
                                  cbv
                                  obtain ⟨b138, hv, h2⟩ := bindS h2
                                  refine call_is hO hX (fn_periodic_Has hO hv) (by kernel_rfl) [8] rfl ⟨rfl, rfl, trivial⟩ rfl ?_
                                  cbv
                                  cases h2
                                  try dsimp only at h1
                                  rcases condS h1 with ⟨hc19, h1⟩ | ⟨hc19, h1⟩
                                  · rw [hc19]
                                    cbv
                                    cases h1
                                    cases exitI hi1
                                    try dsimp only at h0
                                    cases h0
                                    exact fin_ok hX rfl ⟨[], _, _, ⟨rfl, rfl⟩, rfl, rfl, rfl, rfl, by cbv; try simp⟩
                                  · rw [hc19]
                                    cbv
                                    obtain ⟨x409, h2, h1⟩ := bindS h1
                                    obtain ⟨b147, hv, h2⟩ := bindS h2
                                    refine call_is hO hX (fn_periodic_Has hO hv) (by kernel_rfl) [10] rfl ⟨rfl, rfl, trivial⟩ rfl ?_
                                    cbv
                                    rcases condS h2 with ⟨hc20, h2⟩ | ⟨hc20, h2⟩
                                    · rw [hc20]
                                      cbv
                                      cases h2
                                      try dsimp only at h1
                                      replace h1 := condT h1 rfl
                                      cases h1
                                      cases exitI hi1
                                      try dsimp only at h0
                                      cases h0
                                      exact fin_ok hX rfl ⟨[], _, _, ⟨rfl, rfl⟩, rfl, rfl, rfl, rfl, by cbv; try simp⟩
                                    · rw [hc20]
                                      cbv
                                      obtain ⟨hg21, h2⟩ := grdS h2
                                      refine ⟨inr_of hO hg21, ?_⟩
                                      obtain ⟨b148, hv, h2⟩ := bindS h2
                                      refine call_is hO hX (fn_periodic_Has hO hv) (by kernel_rfl) [12] rfl ⟨rfl, rfl, trivial⟩ rfl ?_
                                      cbv
                                      cases h2
                                      try dsimp only at h1
                                      rcases condS h1 with ⟨hc22, h1⟩ | ⟨hc22, h1⟩
                                      · rw [hc22]
                                        cbv
                                        cases h1
                                        cases exitI hi1
                                        try dsimp only at h0
                                        cases h0
                                        exact fin_ok hX rfl ⟨[], _, _, ⟨rfl, rfl⟩, rfl, rfl, rfl, rfl, by cbv; try simp⟩
                                      · rw [hc22]
                                        cbv
                                        obtain ⟨hg23, h1⟩ := grdS h1
                                        refine ⟨inr_of hO hg23, ?_⟩
                                        cases h1
                                        exact ⟨_, [0, 1, 2, 3, 4, 5, 6, 7, 8, 9, 10, 11, 12, 13, 14, 15], nextI hI1 hi1, by cbv; try simp, by first | exact Nat.lt_succ_self _ | omega⟩
                                · as_aux_lemma =>
                                  rw [hc18]
                                  cbv
                                  cases h2
                                  try dsimp only at h1
                                  replace h1 := condF h1 rfl
                                  obtain ⟨x409, h2, h1⟩ := bindS h1
                                  obtain ⟨b147, hv, h2⟩ := bindS h2
                                  refine call_is hO hX (fn_periodic_Has hO hv) (by kernel_rfl) [10] rfl ⟨rfl, rfl, trivial⟩ rfl ?_
                                  cbv
                                  rcases condS h2 with ⟨hc24, h2⟩ | ⟨hc24, h2⟩
                                  · rw [hc24]
                                    cbv
                                    cases h2
                                    try dsimp only at h1
                                    replace h1 := condT h1 rfl
                                    cases h1
                                    cases exitI hi1
                                    try dsimp only at h0
                                    cases h0
                                    exact fin_ok hX rfl ⟨[], _, _, ⟨rfl, rfl⟩, rfl, rfl, rfl, rfl, by cbv; try simp⟩
                                  · rw [hc24]
                                    cbv
                                    obtain ⟨hg25, h2⟩ := grdS h2
                                    refine ⟨inr_of hO hg25, ?_⟩
                                    obtain ⟨b148, hv, h2⟩ := bindS h2
                                    refine call_is hO hX (fn_periodic_Has hO hv) (by kernel_rfl) [12] rfl ⟨rfl, rfl, trivial⟩ rfl ?_
                                    cbv
                                    cases h2
                                    try dsimp only at h1
                                    rcases condS h1 with ⟨hc26, h1⟩ | ⟨hc26, h1⟩
                                    · rw [hc26]
                                      cbv
                                      cases h1
                                      cases exitI hi1
                                      try dsimp only at h0
                                      cases h0
                                      exact fin_ok hX rfl ⟨[], _, _, ⟨rfl, rfl⟩, rfl, rfl, rfl, rfl, by cbv; try simp⟩
                                    · rw [hc26]
                                      cbv
                                      obtain ⟨hg27, h1⟩ := grdS h1
                                      refine ⟨inr_of hO hg27, ?_⟩
                                      cases h1
                                      exact ⟨_, [0, 1, 2, 3, 4, 5, 6, 7, 8, 9, 10, 11, 12, 13, 14, 15], nextI hI1 hi1, by cbv; try simp, by first | exact Nat.lt_succ_self _ | omega⟩
                            · as_aux_lemma =>
                              rw [hc16]
                              cbv
                              rcases condS h2 with ⟨hc28, h2⟩ | ⟨hc28, h2⟩
                              · as_aux_lemma =>
                                rw [hc28]
                                cbv
                                obtain ⟨b139, hv, h2⟩ := bindS h2
                                refine call_is hO hX (fn_periodic_Has hO hv) (by kernel_rfl) [8] rfl ⟨rfl, rfl, trivial⟩ rfl ?_
                                cbv
                                cases h2
                                try dsimp only at h1
                                rcases condS h1 with ⟨hc29, h1⟩ | ⟨hc29, h1⟩
                                · rw [hc29]
                                  cbv
                                  cases h1
                                  cases exitI hi1
                                  try dsimp only at h0
                                  cases h0
                                  exact fin_ok hX rfl ⟨[], _, _, ⟨rfl, rfl⟩, rfl, rfl, rfl, rfl, by cbv; try simp⟩
                                · rw [hc29]
                                  cbv
                                  obtain ⟨x409, h2, h1⟩ := bindS h1
                                  obtain ⟨b147, hv, h2⟩ := bindS h2
                                  refine call_is hO hX (fn_periodic_Has hO hv) (by kernel_rfl) [10] rfl ⟨rfl, rfl, trivial⟩ rfl ?_
                                  cbv
                                  rcases condS h2 with ⟨hc30, h2⟩ | ⟨hc30, h2⟩
                                  · rw [hc30]
                                    cbv
                                    cases h2
                                    try dsimp only at h1
                                    replace h1 := condT h1 rfl
                                    cases h1
                                    cases exitI hi1
                                    try dsimp only at h0
                                    cases h0
                                    exact fin_ok hX rfl ⟨[], _, _, ⟨rfl, rfl⟩, rfl, rfl, rfl, rfl, by cbv; try simp⟩
                                  · rw [hc30]
                                    cbv
                                    obtain ⟨hg31, h2⟩ := grdS h2
                                    refine ⟨inr_of hO hg31, ?_⟩
                                    obtain ⟨b148, hv, h2⟩ := bindS h2
                                    refine call_is hO hX (fn_periodic_Has hO hv) (by kernel_rfl) [12] rfl ⟨rfl, rfl, trivial⟩ rfl ?_
                                    cbv
                                    cases h2
                                    try dsimp only at h1
                                    rcases condS h1 with ⟨hc32, h1⟩ | ⟨hc32, h1⟩
                                    · rw [hc32]
                                      cbv
                                      cases h1
                                      cases exitI hi1
                                      try dsimp only at h0
                                      cases h0
                                      exact fin_ok hX rfl ⟨[], _, _, ⟨rfl, rfl⟩, rfl, rfl, rfl, rfl, by cbv; try simp⟩
                                    · rw [hc32]
                                      cbv
                                      obtain ⟨hg33, h1⟩ := grdS h1
                                      refine ⟨inr_of hO hg33, ?_⟩
                                      cases h1
                                      exact ⟨_, [0, 1, 2, 3, 4, 5, 6, 7, 8, 9, 10, 11, 12, 13, 14, 15], nextI hI1 hi1, by cbv; try simp, by first | exact Nat.lt_succ_self _ | omega⟩
                              · as_aux_lemma =>
                                rw [hc28]
                                cbv
                                cases h2
                                try dsimp only at h1
                                replace h1 := condF h1 rfl
                                obtain ⟨x409, h2, h1⟩ := bindS h1
                                obtain ⟨b147, hv, h2⟩ := bindS h2
                                refine call_is hO hX (fn_periodic_Has hO hv) (by kernel_rfl) [10] rfl ⟨rfl, rfl, trivial⟩ rfl ?_
                                cbv
                                rcases condS h2 with ⟨hc34, h2⟩ | ⟨hc34, h2⟩
                                · rw [hc34]
                                  cbv
                                  cases h2
                                  try dsimp only at h1
                                  replace h1 := condT h1 rfl
                                  cases h1
                                  cases exitI hi1
                                  try dsimp only at h0
                                  cases h0
                                  exact fin_ok hX rfl ⟨[], _, _, ⟨rfl, rfl⟩, rfl, rfl, rfl, rfl, by cbv; try simp⟩
                                · rw [hc34]
                                  cbv
                                  obtain ⟨hg35, h2⟩ := grdS h2
                                  refine ⟨inr_of hO hg35, ?_⟩
                                  obtain ⟨b148, hv, h2⟩ := bindS h2
                                  refine call_is hO hX (fn_periodic_Has hO hv) (by kernel_rfl) [12] rfl ⟨rfl, rfl, trivial⟩ rfl ?_
                                  cbv
                                  cases h2
                                  try dsimp only at h1
                                  rcases condS h1 with ⟨hc36, h1⟩ | ⟨hc36, h1⟩
                                  · rw [hc36]
                                    cbv
                                    cases h1
                                    cases exitI hi1
                                    try dsimp only at h0
                                    cases h0
                                    exact fin_ok hX rfl ⟨[], _, _, ⟨rfl, rfl⟩, rfl, rfl, rfl, rfl, by cbv; try simp⟩
                                  · rw [hc36]
                                    cbv
                                    obtain ⟨hg37, h1⟩ := grdS h1
                                    refine ⟨inr_of hO hg37, ?_⟩
                                    cases h1
                                    exact ⟨_, [0, 1, 2, 3, 4, 5, 6, 7, 8, 9, 10, 11, 12, 13, 14, 15], nextI hI1 hi1, by cbv; try simp, by first | exact Nat.lt_succ_self _ | omega⟩
                        · as_aux_lemma =>
                          rw [hc14]
                          cbv
                          rcases condS h2 with ⟨hc38, h2⟩ | ⟨hc38, h2⟩
                          · rw [hc38]
                            cbv
                            cases h2
                            try dsimp only at h1
                            replace h1 := condT h1 rfl
                            cases h1
                            cases exitI hi1
                            try dsimp only at h0
                            cases h0
                            exact fin_ok hX rfl ⟨[], _, _, ⟨rfl, rfl⟩, rfl, rfl, rfl, rfl, by cbv; try simp⟩
                          · as_aux_lemma =>
                            rw [hc38]
                            cbv
                            rcases condS h2 with ⟨hc39, h2⟩ | ⟨hc39, h2⟩
                            · as_aux_lemma =>
                              rw [hc39]
                              cbv
                              obtain ⟨b140, hv, h2⟩ := bindS h2
                              refine call_is hO hX (fn_periodic_Has hO hv) (by kernel_rfl) [6] rfl ⟨rfl, rfl, trivial⟩ rfl ?_
                              cbv
                              rcases condS h2 with ⟨hc40, h2⟩ | ⟨hc40, h2⟩
                              · rw [hc40]
                                cbv
                                cases h2
                                try dsimp only at h1
                                replace h1 := condT h1 rfl
                                cases h1
                                cases exitI hi1
                                try dsimp only at h0
                                cases h0
                                exact fin_ok hX rfl ⟨[], _, _, ⟨rfl, rfl⟩, rfl, rfl, rfl, rfl, by cbv; try simp⟩
                              · as_aux_lemma =>
                                rw [hc40]
                                cbv
                                rcases condS h2 with ⟨hc41, h2⟩ | ⟨hc41, h2⟩
                                · as_aux_lemma =>
                                  rw [hc41]
                                  cbv
                                  obtain ⟨b141, hv, h2⟩ := bindS h2
                                  refine call_is hO hX (fn_periodic_Has hO hv) (by kernel_rfl) [8] rfl ⟨rfl, rfl, trivial⟩ rfl ?_
                                  cbv
                                  cases h2
                                  try dsimp only at h1
                                  rcases condS h1 with ⟨hc42, h1⟩ | ⟨hc42, h1⟩
                                  · rw [hc42]
                                    cbv
                                    cases h1
                                    cases exitI hi1
                                    try dsimp only at h0
                                    cases h0
                                    exact fin_ok hX rfl ⟨[], _, _, ⟨rfl, rfl⟩, rfl, rfl, rfl, rfl, by cbv; try simp⟩
                                  · rw [hc42]
                                    cbv
                                    obtain ⟨x409, h2, h1⟩ := bindS h1
                                    obtain ⟨b147, hv, h2⟩ := bindS h2
                                    refine call_is hO hX (fn_periodic_Has hO hv) (by kernel_rfl) [10] rfl ⟨rfl, rfl, trivial⟩ rfl ?_
                                    cbv
                                    rcases condS h2 with ⟨hc43, h2⟩ | ⟨hc43, h2⟩
                                    · rw [hc43]
                                      cbv
                                      cases h2
                                      try dsimp only at h1
                                      replace h1 := condT h1 rfl
                                      cases h1
                                      cases exitI hi1
                                      try dsimp only at h0
                                      cases h0
                                      exact fin_ok hX rfl ⟨[], _, _, ⟨rfl, rfl⟩, rfl, rfl, rfl, rfl, by cbv; try simp⟩
                                    · rw [hc43]
                                      cbv
                                      obtain ⟨hg44, h2⟩ := grdS h2
                                      refine ⟨inr_of hO hg44, ?_⟩
                                      obtain ⟨b148, hv, h2⟩ := bindS h2
                                      refine call_is hO hX (fn_periodic_Has hO hv) (by kernel_rfl) [12] rfl ⟨rfl, rfl, trivial⟩ rfl ?_
                                      cbv
                                      cases h2
                                      try dsimp only at h1
                                      rcases condS h1 with ⟨hc45, h1⟩ | ⟨hc45, h1⟩
                                      · rw [hc45]
                                        cbv
                                        cases h1
                                        cases exitI hi1
                                        try dsimp only at h0
                                        cases h0
                                        exact fin_ok hX rfl ⟨[], _, _, ⟨rfl, rfl⟩, rfl, rfl, rfl, rfl, by cbv; try simp⟩
                                      · rw [hc45]
                                        cbv
                                        obtain ⟨hg46, h1⟩ := grdS h1
                                        refine ⟨inr_of hO hg46, ?_⟩
                                        cases h1
                                        exact ⟨_, [0, 1, 2, 3, 4, 5, 6, 7, 8, 9, 10, 11, 12, 13, 14, 15], nextI hI1 hi1, by cbv; try simp, by first | exact Nat.lt_succ_self _ | omega⟩
                                · as_aux_lemma =>
                                  rw [hc41]
                                  cbv
                                  cases h2
                                  try dsimp only at h1
                                  replace h1 := condF h1 rfl
                                  obtain ⟨x409, h2, h1⟩ := bindS h1
                                  obtain ⟨b147, hv, h2⟩ := bindS h2
                                  refine call_is hO hX (fn_periodic_Has hO hv) (by kernel_rfl) [10] rfl ⟨rfl, rfl, trivial⟩ rfl ?_
                                  cbv
                                  rcases condS h2 with ⟨hc47, h2⟩ | ⟨hc47, h2⟩
                                  · rw [hc47]
                                    cbv
                                    cases h2
                                    try dsimp only at h1
                                    replace h1 := condT h1 rfl
                                    cases h1
                                    cases exitI hi1
                                    try dsimp only at h0
                                    cases h0
                                    exact fin_ok hX rfl ⟨[], _, _, ⟨rfl, rfl⟩, rfl, rfl, rfl, rfl, by cbv; try simp⟩
                                  · rw [hc47]
                                    cbv
                                    obtain ⟨hg48, h2⟩ := grdS h2
                                    refine ⟨inr_of hO hg48, ?_⟩
                                    obtain ⟨b148, hv, h2⟩ := bindS h2
                                    refine call_is hO hX (fn_periodic_Has hO hv) (by kernel_rfl) [12] rfl ⟨rfl, rfl, trivial⟩ rfl ?_
                                    cbv
                                    cases h2
                                    try dsimp only at h1
                                    rcases condS h1 with ⟨hc49, h1⟩ | ⟨hc49, h1⟩
                                    · rw [hc49]
                                      cbv
                                      cases h1
                                      cases exitI hi1
                                      try dsimp only at h0
                                      cases h0
                                      exact fin_ok hX rfl ⟨[], _, _, ⟨rfl, rfl⟩, rfl, rfl, rfl, rfl, by cbv; try simp⟩
                                    · rw [hc49]
                                      cbv
                                      obtain ⟨hg50, h1⟩ := grdS h1
                                      refine ⟨inr_of hO hg50, ?_⟩
                                      cases h1
                                      exact ⟨_, [0, 1, 2, 3, 4, 5, 6, 7, 8, 9, 10, 11, 12, 13, 14, 15], nextI hI1 hi1, by cbv; try simp, by first | exact Nat.lt_succ_self _ | omega⟩
                            · as_aux_lemma =>
                              rw [hc39]
                              cbv
                              rcases condS h2 with ⟨hc51, h2⟩ | ⟨hc51, h2⟩
                              · as_aux_lemma =>
                                rw [hc51]
                                cbv
                                obtain ⟨b142, hv, h2⟩ := bindS h2
                                refine call_is hO hX (fn_periodic_Has hO hv) (by kernel_rfl) [8] rfl ⟨rfl, rfl, trivial⟩ rfl ?_
                                cbv
                                cases h2
                                try dsimp only at h1
                                rcases condS h1 with ⟨hc52, h1⟩ | ⟨hc52, h1⟩
                                · rw [hc52]
                                  cbv
                                  cases h1
                                  cases exitI hi1
                                  try dsimp only at h0
                                  cases h0
                                  exact fin_ok hX rfl ⟨[], _, _, ⟨rfl, rfl⟩, rfl, rfl, rfl, rfl, by cbv; try simp⟩
                                · rw [hc52]
                                  cbv
                                  obtain ⟨x409, h2, h1⟩ := bindS h1
                                  obtain ⟨b147, hv, h2⟩ := bindS h2
                                  refine call_is hO hX (fn_periodic_Has hO hv) (by kernel_rfl) [10] rfl ⟨rfl, rfl, trivial⟩ rfl ?_
                                  cbv
                                  rcases condS h2 with ⟨hc53, h2⟩ | ⟨hc53, h2⟩
                                  · rw [hc53]
                                    cbv
                                    cases h2
                                    try dsimp only at h1
                                    replace h1 := condT h1 rfl
                                    cases h1
                                    cases exitI hi1
                                    try dsimp only at h0
                                    cases h0
                                    exact fin_ok hX rfl ⟨[], _, _, ⟨rfl, rfl⟩, rfl, rfl, rfl, rfl, by cbv; try simp⟩
                                  · rw [hc53]
                                    cbv
                                    obtain ⟨hg54, h2⟩ := grdS h2
                                    refine ⟨inr_of hO hg54, ?_⟩
                                    obtain ⟨b148, hv, h2⟩ := bindS h2
                                    refine call_is hO hX (fn_periodic_Has hO hv) (by kernel_rfl) [12] rfl ⟨rfl, rfl, trivial⟩ rfl ?_
                                    cbv
                                    cases h2
                                    try dsimp only at h1
                                    rcases condS h1 with ⟨hc55, h1⟩ | ⟨hc55, h1⟩
                                    · rw [hc55]
                                      cbv
                                      cases h1
                                      cases exitI hi1
                                      try dsimp only at h0
                                      cases h0
                                      exact fin_ok hX rfl ⟨[], _, _, ⟨rfl, rfl⟩, rfl, rfl, rfl, rfl, by cbv; try simp⟩
                                    · rw [hc55]
                                      cbv
                                      obtain ⟨hg56, h1⟩ := grdS h1
                                      refine ⟨inr_of hO hg56, ?_⟩
                                      cases h1
                                      exact ⟨_, [0, 1, 2, 3, 4, 5, 6, 7, 8, 9, 10, 11, 12, 13, 14, 15], nextI hI1 hi1, by cbv; try simp, by first | exact Nat.lt_succ_self _ | omega⟩
                              · as_aux_lemma =>
                                rw [hc51]
                                cbv
                                cases h2
                                try dsimp only at h1
                                replace h1 := condF h1 rfl
                                obtain ⟨x409, h2, h1⟩ := bindS h1
                                obtain ⟨b147, hv, h2⟩ := bindS h2
                                refine call_is hO hX (fn_periodic_Has hO hv) (by kernel_rfl) [10] rfl ⟨rfl, rfl, trivial⟩ rfl ?_
                                cbv
                                rcases condS h2 with ⟨hc57, h2⟩ | ⟨hc57, h2⟩
                                · rw [hc57]
                                  cbv
                                  cases h2
                                  try dsimp only at h1
                                  replace h1 := condT h1 rfl
                                  cases h1
                                  cases exitI hi1
                                  try dsimp only at h0
                                  cases h0
                                  exact fin_ok hX rfl ⟨[], _, _, ⟨rfl, rfl⟩, rfl, rfl, rfl, rfl, by cbv; try simp⟩
                                · rw [hc57]
                                  cbv
                                  obtain ⟨hg58, h2⟩ := grdS h2
                                  refine ⟨inr_of hO hg58, ?_⟩
                                  obtain ⟨b148, hv, h2⟩ := bindS h2
                                  refine call_is hO hX (fn_periodic_Has hO hv) (by kernel_rfl) [12] rfl ⟨rfl, rfl, trivial⟩ rfl ?_
                                  cbv
                                  cases h2
                                  try dsimp only at h1
                                  rcases condS h1 with ⟨hc59, h1⟩ | ⟨hc59, h1⟩
                                  · rw [hc59]
                                    cbv
                                    cases h1
                                    cases exitI hi1
                                    try dsimp only at h0
                                    cases h0
                                    exact fin_ok hX rfl ⟨[], _, _, ⟨rfl, rfl⟩, rfl, rfl, rfl, rfl, by cbv; try simp⟩
                                  · rw [hc59]
                                    cbv
                                    obtain ⟨hg60, h1⟩ := grdS h1
                                    refine ⟨inr_of hO hg60, ?_⟩
                                    cases h1
                                    exact ⟨_, [0, 1, 2, 3, 4, 5, 6, 7, 8, 9, 10, 11, 12, 13, 14, 15], nextI hI1 hi1, by cbv; try simp, by first | exact Nat.lt_succ_self _ | omega⟩
                      · as_aux_lemma =>
                        rw [hc13]
                        cbv
                        rcases condS h2 with ⟨hc61, h2⟩ | ⟨hc61, h2⟩
                        · as_aux_lemma =>
                          rw [hc61]
                          cbv
                          obtain ⟨b143, hv, h2⟩ := bindS h2
                          refine call_is hO hX (fn_periodic_Has hO hv) (by kernel_rfl) [6] rfl ⟨rfl, rfl, trivial⟩ rfl ?_
                          cbv
                          rcases condS h2 with ⟨hc62, h2⟩ | ⟨hc62, h2⟩
                          · as_aux_lemma =>
                            rw [hc62]
                            cbv
                            rcases condS h2 with ⟨hc63, h2⟩ | ⟨hc63, h2⟩
                            · rw [hc63]
                              cbv
                              cases h2
                              try dsimp only at h1
                              replace h1 := condT h1 rfl
                              cases h1
                              cases exitI hi1
                              try dsimp only at h0
                              cases h0
                              exact fin_ok hX rfl ⟨[], _, _, ⟨rfl, rfl⟩, rfl, rfl, rfl, rfl, by cbv; try simp⟩
                            · as_aux_lemma =>
                              rw [hc63]
                              cbv
                              rcases condS h2 with ⟨hc64, h2⟩ | ⟨hc64, h2⟩
                              · as_aux_lemma =>
                                rw [hc64]
                                cbv
                                obtain ⟨b144, hv, h2⟩ := bindS h2
                                refine call_is hO hX (fn_periodic_Has hO hv) (by kernel_rfl) [8] rfl ⟨rfl, rfl, trivial⟩ rfl ?_
                                cbv
                                cases h2
                                try dsimp only at h1
                                rcases condS h1 with ⟨hc65, h1⟩ | ⟨hc65, h1⟩
                                · rw [hc65]
                                  cbv
                                  cases h1
                                  cases exitI hi1
                                  try dsimp only at h0
                                  cases h0
                                  exact fin_ok hX rfl ⟨[], _, _, ⟨rfl, rfl⟩, rfl, rfl, rfl, rfl, by cbv; try simp⟩
                                · rw [hc65]
                                  cbv
                                  obtain ⟨x409, h2, h1⟩ := bindS h1
                                  obtain ⟨b147, hv, h2⟩ := bindS h2
                                  refine call_is hO hX (fn_periodic_Has hO hv) (by kernel_rfl) [10] rfl ⟨rfl, rfl, trivial⟩ rfl ?_
                                  cbv
                                  rcases condS h2 with ⟨hc66, h2⟩ | ⟨hc66, h2⟩
                                  · rw [hc66]
                                    cbv
                                    cases h2
                                    try dsimp only at h1
                                    replace h1 := condT h1 rfl
                                    cases h1
                                    cases exitI hi1
                                    try dsimp only at h0
                                    cases h0
                                    exact fin_ok hX rfl ⟨[], _, _, ⟨rfl, rfl⟩, rfl, rfl, rfl, rfl, by cbv; try simp⟩
                                  · rw [hc66]
                                    cbv
                                    obtain ⟨hg67, h2⟩ := grdS h2
                                    refine ⟨inr_of hO hg67, ?_⟩
                                    obtain ⟨b148, hv, h2⟩ := bindS h2
                                    refine call_is hO hX (fn_periodic_Has hO hv) (by kernel_rfl) [12] rfl ⟨rfl, rfl, trivial⟩ rfl ?_
                                    cbv
                                    cases h2
                                    try dsimp only at h1
                                    rcases condS h1 with ⟨hc68, h1⟩ | ⟨hc68, h1⟩
                                    · rw [hc68]
                                      cbv
                                      cases h1
                                      cases exitI hi1
                                      try dsimp only at h0
                                      cases h0
                                      exact fin_ok hX rfl ⟨[], _, _, ⟨rfl, rfl⟩, rfl, rfl, rfl, rfl, by cbv; try simp⟩
                                    · rw [hc68]
                                      cbv
                                      obtain ⟨hg69, h1⟩ := grdS h1
                                      refine ⟨inr_of hO hg69, ?_⟩
                                      cases h1
                                      exact ⟨_, [0, 1, 2, 3, 4, 5, 6, 7, 8, 9, 10, 11, 12, 13, 14, 15], nextI hI1 hi1, by cbv; try simp, by first | exact Nat.lt_succ_self _ | omega⟩
                              · as_aux_lemma =>
                                rw [hc64]
                                cbv
                                cases h2
                                try dsimp only at h1
                                replace h1 := condF h1 rfl
                                obtain ⟨x409, h2, h1⟩ := bindS h1
                                obtain ⟨b147, hv, h2⟩ := bindS h2
                                refine call_is hO hX (fn_periodic_Has hO hv) (by kernel_rfl) [10] rfl ⟨rfl, rfl, trivial⟩ rfl ?_
                                cbv
                                rcases condS h2 with ⟨hc70, h2⟩ | ⟨hc70, h2⟩
                                · rw [hc70]
                                  cbv
                                  cases h2
                                  try dsimp only at h1
                                  replace h1 := condT h1 rfl
                                  cases h1
                                  cases exitI hi1
                                  try dsimp only at h0
                                  cases h0
                                  exact fin_ok hX rfl ⟨[], _, _, ⟨rfl, rfl⟩, rfl, rfl, rfl, rfl, by cbv; try simp⟩
                                · rw [hc70]
                                  cbv
                                  obtain ⟨hg71, h2⟩ := grdS h2
                                  refine ⟨inr_of hO hg71, ?_⟩
                                  obtain ⟨b148, hv, h2⟩ := bindS h2
                                  refine call_is hO hX (fn_periodic_Has hO hv) (by kernel_rfl) [12] rfl ⟨rfl, rfl, trivial⟩ rfl ?_
                                  cbv
                                  cases h2
                                  try dsimp only at h1
                                  rcases condS h1 with ⟨hc72, h1⟩ | ⟨hc72, h1⟩
                                  · rw [hc72]
                                    cbv
                                    cases h1
                                    cases exitI hi1
                                    try dsimp only at h0
                                    cases h0
                                    exact fin_ok hX rfl ⟨[], _, _, ⟨rfl, rfl⟩, rfl, rfl, rfl, rfl, by cbv; try simp⟩
                                  · rw [hc72]
                                    cbv
                                    obtain ⟨hg73, h1⟩ := grdS h1
                                    refine ⟨inr_of hO hg73, ?_⟩
                                    cases h1
                                    exact ⟨_, [0, 1, 2, 3, 4, 5, 6, 7, 8, 9, 10, 11, 12, 13, 14, 15], nextI hI1 hi1, by cbv; try simp, by first | exact Nat.lt_succ_self _ | omega⟩
                          · as_aux_lemma =>
                            rw [hc62]
                            cbv
                            rcases condS h2 with ⟨hc74, h2⟩ | ⟨hc74, h2⟩
                            · rw [hc74]
                              cbv
                              cases h2
                              try dsimp only at h1
                              replace h1 := condT h1 rfl
                              cases h1
                              cases exitI hi1
                              try dsimp only at h0
                              cases h0
                              exact fin_ok hX rfl ⟨[], _, _, ⟨rfl, rfl⟩, rfl, rfl, rfl, rfl, by cbv; try simp⟩
                            · as_aux_lemma =>
                              rw [hc74]
                              cbv
                              rcases condS h2 with ⟨hc75, h2⟩ | ⟨hc75, h2⟩
                              · as_aux_lemma =>
                                rw [hc75]
                                cbv
                                obtain ⟨b145, hv, h2⟩ := bindS h2
                                refine call_is hO hX (fn_periodic_Has hO hv) (by kernel_rfl) [8] rfl ⟨rfl, rfl, trivial⟩ rfl ?_
                                cbv
                                cases h2
                                try dsimp only at h1
                                rcases condS h1 with ⟨hc76, h1⟩ | ⟨hc76, h1⟩
                                · rw [hc76]
                                  cbv
                                  cases h1
                                  cases exitI hi1
                                  try dsimp only at h0
                                  cases h0
                                  exact fin_ok hX rfl ⟨[], _, _, ⟨rfl, rfl⟩, rfl, rfl, rfl, rfl, by cbv; try simp⟩
                                · rw [hc76]
                                  cbv
                                  obtain ⟨x409, h2, h1⟩ := bindS h1
                                  obtain ⟨b147, hv, h2⟩ := bindS h2
                                  refine call_is hO hX (fn_periodic_Has hO hv) (by kernel_rfl) [10] rfl ⟨rfl, rfl, trivial⟩ rfl ?_
                                  cbv
                                  rcases condS h2 with ⟨hc77, h2⟩ | ⟨hc77, h2⟩
                                  · rw [hc77]
                                    cbv
                                    cases h2
                                    try dsimp only at h1
                                    replace h1 := condT h1 rfl
                                    cases h1
                                    cases exitI hi1
                                    try dsimp only at h0
                                    cases h0
                                    exact fin_ok hX rfl ⟨[], _, _, ⟨rfl, rfl⟩, rfl, rfl, rfl, rfl, by cbv; try simp⟩
                                  · rw [hc77]
                                    cbv
                                    obtain ⟨hg78, h2⟩ := grdS h2
                                    refine ⟨inr_of hO hg78, ?_⟩
                                    obtain ⟨b148, hv, h2⟩ := bindS h2
                                    refine call_is hO hX (fn_periodic_Has hO hv) (by kernel_rfl) [12] rfl ⟨rfl, rfl, trivial⟩ rfl ?_
                                    cbv
                                    cases h2
                                    try dsimp only at h1
                                    rcases condS h1 with ⟨hc79, h1⟩ | ⟨hc79, h1⟩
                                    · rw [hc79]
                                      cbv
                                      cases h1
                                      cases exitI hi1
                                      try dsimp only at h0
                                      cases h0
                                      exact fin_ok hX rfl ⟨[], _, _, ⟨rfl, rfl⟩, rfl, rfl, rfl, rfl, by cbv; try simp⟩
                                    · rw [hc79]
                                      cbv
                                      obtain ⟨hg80, h1⟩ := grdS h1
                                      refine ⟨inr_of hO hg80, ?_⟩
                                      cases h1
                                      exact ⟨_, [0, 1, 2, 3, 4, 5, 6, 7, 8, 9, 10, 11, 12, 13, 14, 15], nextI hI1 hi1, by cbv; try simp, by first | exact Nat.lt_succ_self _ | omega⟩
                              · as_aux_lemma =>
                                rw [hc75]
                                cbv
                                cases h2
                                try dsimp only at h1
                                replace h1 := condF h1 rfl
                                obtain ⟨x409, h2, h1⟩ := bindS h1
                                obtain ⟨b147, hv, h2⟩ := bindS h2
                                refine call_is hO hX (fn_periodic_Has hO hv) (by kernel_rfl) [10] rfl ⟨rfl, rfl, trivial⟩ rfl ?_
                                cbv
                                rcases condS h2 with ⟨hc81, h2⟩ | ⟨hc81, h2⟩
                                · rw [hc81]
                                  cbv
                                  cases h2
                                  try dsimp only at h1
                                  replace h1 := condT h1 rfl
                                  cases h1
                                  cases exitI hi1
                                  try dsimp only at h0
                                  cases h0
                                  exact fin_ok hX rfl ⟨[], _, _, ⟨rfl, rfl⟩, rfl, rfl, rfl, rfl, by cbv; try simp⟩
                                · rw [hc81]
                                  cbv
                                  obtain ⟨hg82, h2⟩ := grdS h2
                                  refine ⟨inr_of hO hg82, ?_⟩
                                  obtain ⟨b148, hv, h2⟩ := bindS h2
                                  refine call_is hO hX (fn_periodic_Has hO hv) (by kernel_rfl) [12] rfl ⟨rfl, rfl, trivial⟩ rfl ?_
                                  cbv
                                  cases h2
                                  try dsimp only at h1
                                  rcases condS h1 with ⟨hc83, h1⟩ | ⟨hc83, h1⟩
                                  · rw [hc83]
                                    cbv
                                    cases h1
                                    cases exitI hi1
                                    try dsimp only at h0
                                    cases h0
                                    exact fin_ok hX rfl ⟨[], _, _, ⟨rfl, rfl⟩, rfl, rfl, rfl, rfl, by cbv; try simp⟩
                                  · rw [hc83]
                                    cbv
                                    obtain ⟨hg84, h1⟩ := grdS h1
                                    refine ⟨inr_of hO hg84, ?_⟩
                                    cases h1
                                    exact ⟨_, [0, 1, 2, 3, 4, 5, 6, 7, 8, 9, 10, 11, 12, 13, 14, 15], nextI hI1 hi1, by cbv; try simp, by first | exact Nat.lt_succ_self _ | omega⟩
                        · as_aux_lemma =>
                          rw [hc61]
                          cbv
                          rcases condS h2 with ⟨hc85, h2⟩ | ⟨hc85, h2⟩
                          · as_aux_lemma =>
                            rw [hc85]
                            cbv
                            obtain ⟨b146, hv, h2⟩ := bindS h2
                            refine call_is hO hX (fn_periodic_Has hO hv) (by kernel_rfl) [8] rfl ⟨rfl, rfl, trivial⟩ rfl ?_
                            cbv
                            rcases condS h2 with ⟨hc86, h2⟩ | ⟨hc86, h2⟩
                            · as_aux_lemma =>
                              rw [hc86]
                              cbv
                              cases h2
                              try dsimp only at h1
                              rcases condS h1 with ⟨hc87, h1⟩ | ⟨hc87, h1⟩
                              · rw [hc87]
                                cbv
                                cases h1
                                cases exitI hi1
                                try dsimp only at h0
                                cases h0
                                exact fin_ok hX rfl ⟨[], _, _, ⟨rfl, rfl⟩, rfl, rfl, rfl, rfl, by cbv; try simp⟩
                              · rw [hc87]
                                cbv
                                obtain ⟨x409, h2, h1⟩ := bindS h1
                                obtain ⟨b147, hv, h2⟩ := bindS h2
                                refine call_is hO hX (fn_periodic_Has hO hv) (by kernel_rfl) [10] rfl ⟨rfl, rfl, trivial⟩ rfl ?_
                                cbv
                                rcases condS h2 with ⟨hc88, h2⟩ | ⟨hc88, h2⟩
                                · rw [hc88]
                                  cbv
                                  cases h2
                                  try dsimp only at h1
                                  replace h1 := condT h1 rfl
                                  cases h1
                                  cases exitI hi1
                                  try dsimp only at h0
                                  cases h0
                                  exact fin_ok hX rfl ⟨[], _, _, ⟨rfl, rfl⟩, rfl, rfl, rfl, rfl, by cbv; try simp⟩
                                · rw [hc88]
                                  cbv
                                  obtain ⟨hg89, h2⟩ := grdS h2
                                  refine ⟨inr_of hO hg89, ?_⟩
                                  obtain ⟨b148, hv, h2⟩ := bindS h2
                                  refine call_is hO hX (fn_periodic_Has hO hv) (by kernel_rfl) [12] rfl ⟨rfl, rfl, trivial⟩ rfl ?_
                                  cbv
                                  cases h2
                                  try dsimp only at h1
                                  rcases condS h1 with ⟨hc90, h1⟩ | ⟨hc90, h1⟩
                                  · rw [hc90]
                                    cbv
                                    cases h1
                                    cases exitI hi1
                                    try dsimp only at h0
                                    cases h0
                                    exact fin_ok hX rfl ⟨[], _, _, ⟨rfl, rfl⟩, rfl, rfl, rfl, rfl, by cbv; try simp⟩
                                  · rw [hc90]
                                    cbv
                                    obtain ⟨hg91, h1⟩ := grdS h1
                                    refine ⟨inr_of hO hg91, ?_⟩
                                    cases h1
                                    exact ⟨_, [0, 1, 2, 3, 4, 5, 6, 7, 8, 9, 10, 11, 12, 13, 14, 15], nextI hI1 hi1, by cbv; try simp, by first | exact Nat.lt_succ_self _ | omega⟩
                            · as_aux_lemma =>
                              rw [hc86]
                              cbv
                              cases h2
                              try dsimp only at h1
                              rcases condS h1 with ⟨hc92, h1⟩ | ⟨hc92, h1⟩
                              · rw [hc92]
                                cbv
                                cases h1
                                cases exitI hi1
                                try dsimp only at h0
                                cases h0
                                exact fin_ok hX rfl ⟨[], _, _, ⟨rfl, rfl⟩, rfl, rfl, rfl, rfl, by cbv; try simp⟩
                              · rw [hc92]
                                cbv
                                obtain ⟨x409, h2, h1⟩ := bindS h1
                                obtain ⟨b147, hv, h2⟩ := bindS h2
                                refine call_is hO hX (fn_periodic_Has hO hv) (by kernel_rfl) [10] rfl ⟨rfl, rfl, trivial⟩ rfl ?_
                                cbv
                                rcases condS h2 with ⟨hc93, h2⟩ | ⟨hc93, h2⟩
                                · rw [hc93]
                                  cbv
                                  cases h2
                                  try dsimp only at h1
                                  replace h1 := condT h1 rfl
                                  cases h1
                                  cases exitI hi1
                                  try dsimp only at h0
                                  cases h0
                                  exact fin_ok hX rfl ⟨[], _, _, ⟨rfl, rfl⟩, rfl, rfl, rfl, rfl, by cbv; try simp⟩
                                · rw [hc93]
                                  cbv
                                  obtain ⟨hg94, h2⟩ := grdS h2
                                  refine ⟨inr_of hO hg94, ?_⟩
                                  obtain ⟨b148, hv, h2⟩ := bindS h2
                                  refine call_is hO hX (fn_periodic_Has hO hv) (by kernel_rfl) [12] rfl ⟨rfl, rfl, trivial⟩ rfl ?_
                                  cbv
                                  cases h2
                                  try dsimp only at h1
                                  rcases condS h1 with ⟨hc95, h1⟩ | ⟨hc95, h1⟩
                                  · rw [hc95]
                                    cbv
                                    cases h1
                                    cases exitI hi1
                                    try dsimp only at h0
                                    cases h0
                                    exact fin_ok hX rfl ⟨[], _, _, ⟨rfl, rfl⟩, rfl, rfl, rfl, rfl, by cbv; try simp⟩
                                  · rw [hc95]
                                    cbv
                                    obtain ⟨hg96, h1⟩ := grdS h1
                                    refine ⟨inr_of hO hg96, ?_⟩
                                    cases h1
                                    exact ⟨_, [0, 1, 2, 3, 4, 5, 6, 7, 8, 9, 10, 11, 12, 13, 14, 15], nextI hI1 hi1, by cbv; try simp, by first | exact Nat.lt_succ_self _ | omega⟩
                          · as_aux_lemma =>
                            rw [hc85]
                            cbv
                            cases h2
                            try dsimp only at h1
                            replace h1 := condF h1 rfl
                            obtain ⟨x409, h2, h1⟩ := bindS h1
                            obtain ⟨b147, hv, h2⟩ := bindS h2
                            refine call_is hO hX (fn_periodic_Has hO hv) (by kernel_rfl) [10] rfl ⟨rfl, rfl, trivial⟩ rfl ?_
                            cbv
                            rcases condS h2 with ⟨hc97, h2⟩ | ⟨hc97, h2⟩
                            · rw [hc97]
                              cbv
                              cases h2
                              try dsimp only at h1
                              replace h1 := condT h1 rfl
                              cases h1
                              cases exitI hi1
                              try dsimp only at h0
                              cases h0
                              exact fin_ok hX rfl ⟨[], _, _, ⟨rfl, rfl⟩, rfl, rfl, rfl, rfl, by cbv; try simp⟩
                            · rw [hc97]
                              cbv
                              obtain ⟨hg98, h2⟩ := grdS h2
                              refine ⟨inr_of hO hg98, ?_⟩
                              obtain ⟨b148, hv, h2⟩ := bindS h2
                              refine call_is hO hX (fn_periodic_Has hO hv) (by kernel_rfl) [12] rfl ⟨rfl, rfl, trivial⟩ rfl ?_
                              cbv
                              cases h2
                              try dsimp only at h1
                              rcases condS h1 with ⟨hc99, h1⟩ | ⟨hc99, h1⟩
                              · rw [hc99]
                                cbv
                                cases h1
                                cases exitI hi1
                                try dsimp only at h0
                                cases h0
                                exact fin_ok hX rfl ⟨[], _, _, ⟨rfl, rfl⟩, rfl, rfl, rfl, rfl, by cbv; try simp⟩
                              · rw [hc99]
                                cbv
                                obtain ⟨hg100, h1⟩ := grdS h1
                                refine ⟨inr_of hO hg100, ?_⟩
                                cases h1
                                exact ⟨_, [0, 1, 2, 3, 4, 5, 6, 7, 8, 9, 10, 11, 12, 13, 14, 15], nextI hI1 hi1, by cbv; try simp, by first | exact Nat.lt_succ_self _ | omega⟩
                    · rw [hc10]
                      cbv
                      cases h1
                      cases exitI hi1
                      try dsimp only at h0
                      cases h0
                      exact fin_ok hX rfl ⟨[], _, _, ⟨rfl, rfl⟩, rfl, rfl, rfl, rfl, by cbv; try simp⟩
end Go.Proofs.Ytfhfifcfkimgpaa
