/-
  The code does what its models say (printed by lift.py).
-/
import Derived.Test.YtkdffpncpikdmaaRM
import Derived.Test.YtkdffpncpikdmaaSrtR
import Derived.Test.YtkdffpncpikdmaaRW1
import Derived.Test.YtkdffpncpikdmaaRW2
import Derived.Test.YtkdffpncpikdmaaRW3
import Derived.Test.YtkdffpncpikdmaaRW5
namespace Go.Proofs.Ytkdffpncpikdmaa
open Go.RowKit
set_option maxRecDepth 100000

set_option maxHeartbeats 40000000 in
theorem fn_law35_RectangleForm {O0 : Ops} (hO0 : O0 = std) {l_1 : List (Int × Int × Int × Int)} {r1 : Bool} (h : m_law35_RectangleForm O0 l_1 = some r1) :
    Fn Try.prog 4 [.c (.sl 0)] [.arr false .i4 l_1] (fun v c => v = .c (.bool r1) ∧ c = []) := by
  refine fn_run tab_holds eqs_holds mixed [(17, (.seg 1 [0, 1, 2, 3, 4, 5, 6, 7, 8, 9, 10, 11, 12] .fin), []), (22, (.seg 1 [0, 1, 2] .fin), [3])] Try.func4 (by kernel_rfl) (by kernel_rfl) (Nat.le_of_ble_eq_true rfl) ?_
  intro O X hO hX
  rw [hO0, ← hO] at h
  unfold m_law35_RectangleForm at h
  have h0 := h; clear h
  cbv
  obtain ⟨b73, hv, h0⟩ := bindS h0
  refine call_is hO hX (fn_law35_awake hO hv) (by kernel_rfl) [] rfl trivial rfl ?_
  cbv
  rcases condS h0 with ⟨hc1, h0⟩ | ⟨hc1, h0⟩
  · rw [hc1]
    cbv
    cases h0
    exact fin_ok hX rfl ⟨[], _, _, ⟨rfl, rfl⟩, rfl, rfl, rfl, rfl, by cbv; try simp⟩
  · as_aux_lemma =>
    rw [hc1]
    cbv
    obtain ⟨b74, hv, h0⟩ := bindS h0
    refine call_is hO hX (fn_law35_few hO hv) (by kernel_rfl) [1, 0] rfl ⟨rfl, rfl, rfl, rfl, trivial⟩ rfl ?_
    cbv
    rcases condS h0 with ⟨hc2, h0⟩ | ⟨hc2, h0⟩
    · rw [hc2]
      cbv
      cases h0
      exact fin_ok hX rfl ⟨[], _, _, ⟨rfl, rfl⟩, rfl, rfl, rfl, rfl, by cbv; try simp⟩
    · as_aux_lemma =>
      rw [hc2]
      cbv
      obtain ⟨⟨l229, n88⟩, hv, h0⟩ := bindS h0
      try dsimp only at h0
      refine call_is hO hX (fn_rectangle_Canonical hO hv) (by kernel_rfl) [0] rfl ⟨rfl, rfl, trivial⟩ rfl ?_
      cbv
      rcases condS h0 with ⟨hc3, h0⟩ | ⟨hc3, h0⟩
      · rw [hc3]
        cbv
        obtain ⟨x208, h1, h0⟩ := bindS h0
        rcases condS h1 with ⟨hc4, h1⟩ | ⟨hc4, h1⟩
        · rw [hc4]
          cbv
          obtain ⟨b75, hv, h1⟩ := bindS h1
          refine call_is hO hX (fn_ref35_List hO hv) (by kernel_rfl) [0] rfl ⟨rfl, rfl, trivial⟩ rfl ?_
          cbv
          rcases condS h1 with ⟨hc5, h1⟩ | ⟨hc5, h1⟩
          · rw [hc5]
            cbv
            cases h1
            try dsimp only at h0
            cases h0
            exact fin_ok hX rfl ⟨[], _, _, ⟨rfl, rfl⟩, rfl, rfl, rfl, rfl, by cbv; try simp⟩
          · rw [hc5]
            cbv
            cases h1
            try dsimp only at h0
            cases h0
            exact fin_ok hX rfl ⟨[], _, _, ⟨rfl, rfl⟩, rfl, rfl, rfl, rfl, by cbv; try simp⟩
        · rw [hc4]
          cbv
          cases h1
          try dsimp only at h0
          cases h0
          exact fin_ok hX rfl ⟨[], _, _, ⟨rfl, rfl⟩, rfl, rfl, rfl, rfl, by cbv; try simp⟩
      · as_aux_lemma =>
        rw [hc3]
        cbv
        obtain ⟨⟨l230, n89⟩, hv, h0⟩ := bindS h0
        try dsimp only at h0
        refine call_is hO hX (fn_rectangle_Canonical hO hv) (by kernel_rfl) [2] rfl ⟨rfl, rfl, trivial⟩ rfl ?_
        cbv
        obtain ⟨x210, h1, h0⟩ := bindS h0
        rcases condS h1 with ⟨hc6, h1⟩ | ⟨hc6, h1⟩
        · rw [hc6]
          cbv
          cases h1
          try dsimp only at h0
          replace h0 := condT h0 rfl
          cases h0
          exact fin_ok hX rfl ⟨[], _, _, ⟨rfl, rfl⟩, rfl, rfl, rfl, rfl, by cbv; try simp⟩
        · as_aux_lemma =>
          rw [hc6]
          cbv
          obtain ⟨b76, hv, h1⟩ := bindS h1
          refine call_is hO hX (fn_slices_Equal_2 hO hv) (by kernel_rfl) [3, 2] rfl ⟨rfl, rfl, rfl, rfl, trivial⟩ rfl ?_
          cbv
          cases h1
          try dsimp only at h0
          rcases condS h0 with ⟨hc7, h0⟩ | ⟨hc7, h0⟩
          · rw [hc7]
            cbv
            cases h0
            exact fin_ok hX rfl ⟨[], _, _, ⟨rfl, rfl⟩, rfl, rfl, rfl, rfl, by cbv; try simp⟩
          · as_aux_lemma =>
            rw [hc7]
            cbv
            obtain ⟨e1, hi, h0⟩ := bindS h0
            obtain ⟨I2, hI2, hi⟩ := loopS hi
            refine loop1 tab_holds eqs_holds mixed [(17, (.seg 1 [0, 1, 2, 3, 4, 5, 6, 7, 8, 9, 10, 11, 12] .fin), []), (22, (.seg 1 [0, 1, 2] .fin), [3])] hO hX I2 (fun y => [(5, .junk), (15, .junk), (18, .junk), (20, .junk), (21, .junk), (38, .junk), (39, .junk), (40, .junk), (41, .junk), (46, .junk), (47, .junk), (7, .c (.sl 4)), (9, .c (.int .i64 y.2.1))]) (fun y => [(4, .own 32 .i2 y.2.2.1), (5, .blk 32 [.int .i64 y.2.2.2.1, .int .i64 y.2.2.2.2])]) (fun y => y.1) _ (by kernel_rfl) hi (by cbv; try simp) ?_
            refine allp ?_
            intro n2
            refine allp ?_
            intro i65
            refine allp ?_
            intro l233
            refine allp ?_
            intro x219
            intro x220 hi
            cbv
            rw [hI2] at hi
            obtain ⟨n2, rfl, x2, h1, hi2⟩ := iterS hi
            unfold m_law35_RectangleForm_L2 at h1
            try dsimp only at h1
            rcases condS h1 with ⟨hc8, h1⟩ | ⟨hc8, h1⟩
            · as_aux_lemma =>
              rw [hc8]
              cbv
              obtain ⟨hg9, h1⟩ := grdS h1
              refine ⟨idx_of hO hg9, ?_⟩
              obtain ⟨hg10, h1⟩ := grdS h1
              refine ⟨kin_of hO hg10, ?_⟩
              obtain ⟨⟨i68, l235⟩, hi, h1⟩ := bindS h1
              obtain ⟨I1, hI1, hi⟩ := loopS hi
              refine loop1 tab_holds eqs_holds mixed [(17, (.seg 1 [0, 1, 2, 3, 4, 5, 6, 7, 8, 9, 10, 11, 12] .fin), []), (22, (.seg 1 [0, 1, 2] .fin), [3])] hO hX I1 (fun y => [(52, .junk), (55, .junk), (57, .junk), (58, .junk), (9, .c (.int .i64 y.2.1)), (10, .c (.sl 6))]) (fun y => [(6, .own 32 .i2 y.2.2)]) (fun y => y.1) _ (by kernel_rfl) hi (by cbv; try simp) ?_
              refine allp ?_
              intro n1
              refine allp ?_
              intro i67
              intro l234 hi
              cbv
              rw [hI1] at hi
              obtain ⟨n1, rfl, x1, h2, hi1⟩ := iterS hi
              unfold m_law35_RectangleForm_L1 at h2
              try dsimp only at h2
              obtain ⟨x224, h3, h2⟩ := bindS h2
              rcases condS h3 with ⟨hc11, h3⟩ | ⟨hc11, h3⟩
              · as_aux_lemma =>
                rw [hc11]
                cbv
                obtain ⟨hg12, h3⟩ := grdS h3
                refine ⟨idx_of hO hg12, ?_⟩
                obtain ⟨hg13, h3⟩ := grdS h3
                refine ⟨kin_of hO hg13, ?_⟩
                cases h3
                try dsimp only at h2
                rcases condS h2 with ⟨hc14, h2⟩ | ⟨hc14, h2⟩
                · rw [hc14]
                  cbv
                  obtain ⟨hg15, h2⟩ := grdS h2
                  refine ⟨idx_of hO hg15, ?_⟩
                  obtain ⟨hg16, h2⟩ := grdS h2
                  refine ⟨kin_of hO hg16, ?_⟩
                  obtain ⟨hg17, h2⟩ := grdS h2
                  refine ⟨room_of hO hg17, ?_⟩
                  obtain ⟨hg18, h2⟩ := grdS h2
                  refine ⟨room_of hO hg18, ?_⟩
                  obtain ⟨hg19, h2⟩ := grdS h2
                  refine ⟨inr_of hO hg19, ?_⟩
                  cases h2
                  exact ⟨_, [0, 1, 2, 3, 4, 5, 9, 7], nextI hI1 hi1, by cbv; try simp, by first | exact Nat.lt_succ_self _ | omega⟩
                · as_aux_lemma =>
                  rw [hc14]
                  cbv
                  cases h2
                  cases exitI hi1
                  try dsimp only at h1
                  obtain ⟨x228, h2, h1⟩ := bindS h1
                  obtain ⟨b80, hv, h2⟩ := bindS h2
                  refine call_is hO hX (fn_runs_Valid hO hv) (by kernel_rfl) [6] rfl ⟨rfl, rfl, trivial⟩ rfl ?_
                  cbv
                  rcases condS h2 with ⟨hc20, h2⟩ | ⟨hc20, h2⟩
                  · rw [hc20]
                    cbv
                    cases h2
                    try dsimp only at h1
                    replace h1 := condT h1 rfl
                    cases h1
                    cases exitI hi2
                    try dsimp only at h0
                    cases h0
                    exact fin_ok hX rfl ⟨[], _, _, ⟨rfl, rfl⟩, rfl, rfl, rfl, rfl, by cbv; try simp⟩
                  · as_aux_lemma =>
                    rw [hc20]
                    cbv
                    obtain ⟨b81, hv, h2⟩ := bindS h2
                    refine call_is hO hX (fn_ref35_Span hO hv) (by kernel_rfl) [] rfl trivial rfl ?_
                    cbv
                    rcases condS h2 with ⟨hc21, h2⟩ | ⟨hc21, h2⟩
                    · rw [hc21]
                      cbv
                      cases h2
                      try dsimp only at h1
                      replace h1 := condT h1 rfl
                      cases h1
                      cases exitI hi2
                      try dsimp only at h0
                      cases h0
                      exact fin_ok hX rfl ⟨[], _, _, ⟨rfl, rfl⟩, rfl, rfl, rfl, rfl, by cbv; try simp⟩
                    · as_aux_lemma =>
                      rw [hc21]
                      cbv
                      rcases condS h2 with ⟨hc22, h2⟩ | ⟨hc22, h2⟩
                      · as_aux_lemma =>
                        rw [hc22]
                        cbv
                        rcases condS h2 with ⟨hc23, h2⟩ | ⟨hc23, h2⟩
                        · rw [hc23]
                          cbv
                          cases h2
                          try dsimp only at h1
                          replace h1 := condT h1 rfl
                          cases h1
                          cases exitI hi2
                          try dsimp only at h0
                          cases h0
                          exact fin_ok hX rfl ⟨[], _, _, ⟨rfl, rfl⟩, rfl, rfl, rfl, rfl, by cbv; try simp⟩
                        · rw [hc23]
                          cbv
                          rcases condS h2 with ⟨hc24, h2⟩ | ⟨hc24, h2⟩
                          · rw [hc24]
                            cbv
                            obtain ⟨b82, hv, h2⟩ := bindS h2
                            refine call_is hO hX (fn_slices_Equal hO hv) (by kernel_rfl) [6, 4] rfl ⟨rfl, rfl, rfl, rfl, trivial⟩ rfl ?_
                            cbv
                            cases h2
                            try dsimp only at h1
                            rcases condS h1 with ⟨hc25, h1⟩ | ⟨hc25, h1⟩
                            · rw [hc25]
                              cbv
                              cases h1
                              cases exitI hi2
                              try dsimp only at h0
                              cases h0
                              exact fin_ok hX rfl ⟨[], _, _, ⟨rfl, rfl⟩, rfl, rfl, rfl, rfl, by cbv; try simp⟩
                            · rw [hc25]
                              cbv
                              cases h1
                              exact ⟨_, [0, 1, 2, 3, 6, 5], nextI hI2 hi2, by cbv; try simp, by first | exact Nat.lt_succ_self _ | omega⟩
                          · rw [hc24]
                            cbv
                            cases h2
                            try dsimp only at h1
                            replace h1 := condF h1 rfl
                            cases h1
                            exact ⟨_, [0, 1, 2, 3, 6, 5], nextI hI2 hi2, by cbv; try simp, by first | exact Nat.lt_succ_self _ | omega⟩
                      · rw [hc22]
                        cbv
                        cases h2
                        try dsimp only at h1
                        replace h1 := condF h1 rfl
                        cases h1
                        exact ⟨_, [0, 1, 2, 3, 6, 5], nextI hI2 hi2, by cbv; try simp, by first | exact Nat.lt_succ_self _ | omega⟩
              · as_aux_lemma =>
                rw [hc11]
                cbv
                cases h3
                try dsimp only at h2
                replace h2 := condF h2 rfl
                cases h2
                cases exitI hi1
                try dsimp only at h1
                obtain ⟨x228, h2, h1⟩ := bindS h1
                obtain ⟨b80, hv, h2⟩ := bindS h2
                refine call_is hO hX (fn_runs_Valid hO hv) (by kernel_rfl) [6] rfl ⟨rfl, rfl, trivial⟩ rfl ?_
                cbv
                rcases condS h2 with ⟨hc26, h2⟩ | ⟨hc26, h2⟩
                · rw [hc26]
                  cbv
                  cases h2
                  try dsimp only at h1
                  replace h1 := condT h1 rfl
                  cases h1
                  cases exitI hi2
                  try dsimp only at h0
                  cases h0
                  exact fin_ok hX rfl ⟨[], _, _, ⟨rfl, rfl⟩, rfl, rfl, rfl, rfl, by cbv; try simp⟩
                · as_aux_lemma =>
                  rw [hc26]
                  cbv
                  obtain ⟨b81, hv, h2⟩ := bindS h2
                  refine call_is hO hX (fn_ref35_Span hO hv) (by kernel_rfl) [] rfl trivial rfl ?_
                  cbv
                  rcases condS h2 with ⟨hc27, h2⟩ | ⟨hc27, h2⟩
                  · rw [hc27]
                    cbv
                    cases h2
                    try dsimp only at h1
                    replace h1 := condT h1 rfl
                    cases h1
                    cases exitI hi2
                    try dsimp only at h0
                    cases h0
                    exact fin_ok hX rfl ⟨[], _, _, ⟨rfl, rfl⟩, rfl, rfl, rfl, rfl, by cbv; try simp⟩
                  · as_aux_lemma =>
                    rw [hc27]
                    cbv
                    rcases condS h2 with ⟨hc28, h2⟩ | ⟨hc28, h2⟩
                    · as_aux_lemma =>
                      rw [hc28]
                      cbv
                      rcases condS h2 with ⟨hc29, h2⟩ | ⟨hc29, h2⟩
                      · rw [hc29]
                        cbv
                        cases h2
                        try dsimp only at h1
                        replace h1 := condT h1 rfl
                        cases h1
                        cases exitI hi2
                        try dsimp only at h0
                        cases h0
                        exact fin_ok hX rfl ⟨[], _, _, ⟨rfl, rfl⟩, rfl, rfl, rfl, rfl, by cbv; try simp⟩
                      · rw [hc29]
                        cbv
                        rcases condS h2 with ⟨hc30, h2⟩ | ⟨hc30, h2⟩
                        · rw [hc30]
                          cbv
                          obtain ⟨b82, hv, h2⟩ := bindS h2
                          refine call_is hO hX (fn_slices_Equal hO hv) (by kernel_rfl) [6, 4] rfl ⟨rfl, rfl, rfl, rfl, trivial⟩ rfl ?_
                          cbv
                          cases h2
                          try dsimp only at h1
                          rcases condS h1 with ⟨hc31, h1⟩ | ⟨hc31, h1⟩
                          · rw [hc31]
                            cbv
                            cases h1
                            cases exitI hi2
                            try dsimp only at h0
                            cases h0
                            exact fin_ok hX rfl ⟨[], _, _, ⟨rfl, rfl⟩, rfl, rfl, rfl, rfl, by cbv; try simp⟩
                          · rw [hc31]
                            cbv
                            cases h1
                            exact ⟨_, [0, 1, 2, 3, 6, 5], nextI hI2 hi2, by cbv; try simp, by first | exact Nat.lt_succ_self _ | omega⟩
                        · rw [hc30]
                          cbv
                          cases h2
                          try dsimp only at h1
                          replace h1 := condF h1 rfl
                          cases h1
                          exact ⟨_, [0, 1, 2, 3, 6, 5], nextI hI2 hi2, by cbv; try simp, by first | exact Nat.lt_succ_self _ | omega⟩
                    · rw [hc28]
                      cbv
                      cases h2
                      try dsimp only at h1
                      replace h1 := condF h1 rfl
                      cases h1
                      exact ⟨_, [0, 1, 2, 3, 6, 5], nextI hI2 hi2, by cbv; try simp, by first | exact Nat.lt_succ_self _ | omega⟩
            · rw [hc8]
              cbv
              cases h1
              cases exitI hi2
              try dsimp only at h0
              cases h0
              exact fin_ok hX rfl ⟨[], _, _, ⟨rfl, rfl⟩, rfl, rfl, rfl, rfl, by cbv; try simp⟩
end Go.Proofs.Ytkdffpncpikdmaa
