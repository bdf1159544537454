/-
  The code does what its models say (printed by lift.py).
-/
import Derived.Test.YtkdffpncpikdmaaRM
import Derived.Test.YtkdffpncpikdmaaSrtR
import Derived.Test.YtkdffpncpikdmaaRW0
import Derived.Test.YtkdffpncpikdmaaRW3
import Derived.Test.YtkdffpncpikdmaaRW18
namespace Go.Proofs.Ytkdffpncpikdmaa
open Go.RowKit
set_option maxRecDepth 100000

set_option maxHeartbeats 40000000 in
theorem fn_law35_RectangleOrder {O0 : Ops} (hO0 : O0 = std) {turn_1 : Int} {at_1 : Int} {by_1 : Bool} {l_1 : List (Int × Int × Int × Int)} {r1 : Bool} (h : m_law35_RectangleOrder O0 turn_1 at_1 by_1 l_1 = some r1) :
    Fn Try.prog 6 [.c (.sl 0), .c (.int .u8 turn_1), .c (.int .i64 at_1), .c (.bool by_1)] [.arr false .i4 l_1] (fun v c => v = .c (.bool r1) ∧ c = []) := by
  refine fn_run tab_holds eqs_holds mixed [(6, (.seg 1 [0, 1, 2, 3, 4, 5] (.seg 2 [6] (.seg 2 [7] (.seg 1 [8] .fin)))), []), (9, (.seg 1 [0, 1] (.alt 2 (.seg 2 [3] (.seg 3 [4] (.seg 3 [5] .fin))) (.alt 3 (.seg 2 [2] (.seg 3 [4] (.seg 3 [5] .fin))) .no))), []), (14, (.seg 1 [0, 1, 2, 3, 4, 5, 6, 7] (.seg 2 [8] .fin)), [9, 10])] Try.func6 (by kernel_rfl) (by kernel_rfl) (Nat.le_of_ble_eq_true rfl) ?_
  intro O X hO hX
  rw [hO0, ← hO] at h
  unfold m_law35_RectangleOrder at h
  have h0 := h; clear h
  cbv
  obtain ⟨b118, hv, h0⟩ := bindS h0
  refine call_is hO hX (fn_law35_awake hO hv) (by kernel_rfl) [] rfl trivial rfl ?_
  cbv
  rcases condS h0 with ⟨hc1, h0⟩ | ⟨hc1, h0⟩
  · rw [hc1]
    cbv
    cases h0
    exact fin_ok hX rfl ⟨[], _, _, ⟨rfl, rfl⟩, rfl, rfl, rfl, rfl, by cbv; try simp⟩
  · as_aux_lemma =>
    rw [hc1]
    cbv
    obtain ⟨x275, h1, h0⟩ := bindS h0
    rcases condS h1 with ⟨hc2, h1⟩ | ⟨hc2, h1⟩
    · rw [hc2]
      cbv
      cases h1
      try dsimp only at h0
      replace h0 := condT h0 rfl
      cases h0
      exact fin_ok hX rfl ⟨[], _, _, ⟨rfl, rfl⟩, rfl, rfl, rfl, rfl, by cbv; try simp⟩
    · as_aux_lemma =>
      rw [hc2]
      cbv
      obtain ⟨b119, hv, h1⟩ := bindS h1
      refine call_is hO hX (fn_ref35_List hO hv) (by kernel_rfl) [0] rfl ⟨rfl, rfl, trivial⟩ rfl ?_
      cbv
      rcases condS h1 with ⟨hc3, h1⟩ | ⟨hc3, h1⟩
      · rw [hc3]
        cbv
        cases h1
        try dsimp only at h0
        replace h0 := condT h0 rfl
        cases h0
        exact fin_ok hX rfl ⟨[], _, _, ⟨rfl, rfl⟩, rfl, rfl, rfl, rfl, by cbv; try simp⟩
      · as_aux_lemma =>
        rw [hc3]
        cbv
        cases h1
        try dsimp only at h0
        rcases condS h0 with ⟨hc4, h0⟩ | ⟨hc4, h0⟩
        · rw [hc4]
          cbv
          cases h0
          exact fin_ok hX rfl ⟨[], _, _, ⟨rfl, rfl⟩, rfl, rfl, rfl, rfl, by cbv; try simp⟩
        · as_aux_lemma =>
          rw [hc4]
          cbv
          obtain ⟨hg5, h0⟩ := grdS h0
          refine ⟨inr_of hO hg5, ?_⟩
          obtain ⟨hg6, h0⟩ := grdS h0
          refine ⟨nz_of hO hg6, ?_⟩
          obtain ⟨hg7, h0⟩ := grdS h0
          refine ⟨rng_of hO hg7, ?_⟩
          refine ⟨rng_of hO hg7, ?_⟩
          obtain ⟨l253, hv, h0⟩ := bindS h0
          refine call_is hO hX (fn_slices_Concat hO hv) (by kernel_rfl) [3, 1, 2] rfl ⟨rfl, rfl, rfl, rfl, rfl, rfl, trivial⟩ rfl ?_
          cbv
          refine call_inline tab_holds eqs_holds mixed [(3, (.seg 1 [0, 1] (.seg 0 [2, 3] (.seg 1 [4, 5, 6, 7, 8, 9, 10, 11, 12] .fin))), [13, 14, 15])] hO hX (by kernel_rfl) Try.func31 (by kernel_rfl) (by kernel_rfl) rfl ?_
          intro X1 hX1 hF1
          cbv
          obtain ⟨hg8, h0⟩ := grdS h0
          refine ⟨inr_of hO hg8, ?_⟩
          obtain ⟨l255, hi, h0⟩ := bindS h0
          obtain ⟨I1, hI1, hi⟩ := loopS hi
          refine loop1 tab_holds eqs_holds mixed [(3, (.seg 1 [0, 1] (.seg 0 [2, 3] (.seg 1 [4, 5, 6, 7, 8, 9, 10, 11, 12] .fin))), [13, 14, 15])] hO hX1 I1 (fun y => [(2, .c (.int .i64 y.2.1)), (3, .c (.int .i64 y.2.2.1))]) (fun y => [(4, .own 34 .i4 y.2.2.2)]) (fun y => y.1) _ (by kernel_rfl) hi (by cbv; try simp) ?_
          refine allp ?_
          intro n1
          refine allp ?_
          intro i70
          refine allp ?_
          intro j2
          intro l254 hi
          cbv
          rw [hI1] at hi
          obtain ⟨n1, rfl, x1, h1, hi1⟩ := iterS hi
          unfold m_law35_RectangleOrder_L1 at h1
          try dsimp only at h1
          rcases condS h1 with ⟨hc9, h1⟩ | ⟨hc9, h1⟩
          · rw [hc9]
            cbv
            obtain ⟨hg10, h1⟩ := grdS h1
            refine ⟨idx_of hO hg10, ?_⟩
            obtain ⟨hg11, h1⟩ := grdS h1
            refine ⟨kin_of hO hg11, ?_⟩
            obtain ⟨hg12, h1⟩ := grdS h1
            refine ⟨idx_of hO hg12, ?_⟩
            obtain ⟨hg13, h1⟩ := grdS h1
            refine ⟨kin_of hO hg13, ?_⟩
            refine ⟨idx_of hO hg12, ?_⟩
            refine ⟨kin_of hO hg13, ?_⟩
            obtain ⟨hg14, h1⟩ := grdS h1
            refine ⟨idx_of hO hg14, ?_⟩
            obtain ⟨hg15, h1⟩ := grdS h1
            refine ⟨kin_of hO hg15, ?_⟩
            obtain ⟨hg16, h1⟩ := grdS h1
            refine ⟨inr_of hO hg16, ?_⟩
            obtain ⟨hg17, h1⟩ := grdS h1
            refine ⟨inr_of hO hg17, ?_⟩
            cases h1
            exact ⟨_, [0, 1, 2, 3, 4], nextI hI1 hi1, by cbv; try simp, by first | exact Nat.lt_succ_self _ | omega⟩
          · as_aux_lemma =>
            rw [hc9]
            cbv
            cases h1
            cases exitI hi1
            try dsimp only at h0
            refine hF1 _ _ ?_
            cbv
            obtain ⟨hg18, h0⟩ := grdS h0
            refine ⟨idx_of hO hg18, ?_⟩
            obtain ⟨hg19, h0⟩ := grdS h0
            refine ⟨kin_of hO hg19, ?_⟩
            refine ⟨?_, ?_, trivial⟩
            · as_aux_lemma =>
              obtain ⟨⟨by2, x278⟩, h1, h0⟩ := bindS h0
              rcases condS h1 with ⟨hc20, h1⟩ | ⟨hc20, h1⟩
              · as_aux_lemma =>
                rw [hc20]
                cbv
                rcases condS h1 with ⟨hc21, h1⟩ | ⟨hc21, h1⟩
                · as_aux_lemma =>
                  rw [hc21]
                  cbv
                  cases h1
                  try dsimp only at h0
                  obtain ⟨⟨x281, x282⟩, h1, h0⟩ := bindS h0
                  rcases condS h1 with ⟨hc22, h1⟩ | ⟨hc22, h1⟩
                  · as_aux_lemma =>
                    rw [hc22]
                    cbv
                    rw [show (O .not true) = false from by subst hO; rfl]
                    cbv
                    cases h1
                    try dsimp only at h0
                    obtain ⟨x285, h1, h0⟩ := bindS h0
                    replace h1 := condF h1 (by subst hO; rfl)
                    cases h1
                    try dsimp only at h0
                    obtain ⟨⟨x288, x289⟩, h1, h0⟩ := bindS h0
                    replace h1 := condF h1 rfl
                    cases h1
                    try dsimp only at h0
                    obtain ⟨hg23, h0⟩ := grdS h0
                    refine ⟨rng_of hO hg23, ?_⟩
                    obtain ⟨hg24, h0⟩ := grdS h0
                    refine ⟨rng_of hO hg24, ?_⟩
                    obtain ⟨hg25, h0⟩ := grdS h0
                    refine ⟨rng_of hO hg25, ?_⟩
                    refine ⟨rng_of hO hg24, ?_⟩
                    obtain ⟨hg26, h0⟩ := grdS h0
                    refine ⟨room_of hO hg26, ?_⟩
                    obtain ⟨hg27, h0⟩ := grdS h0
                    refine ⟨room_of hO hg27, ?_⟩
                    obtain ⟨hg28, h0⟩ := grdS h0
                    refine ⟨kin_of hO hg28, ?_⟩
                    obtain ⟨⟨l256, n96⟩, hv, h0⟩ := bindS h0
                    try dsimp only at h0
                    refine call_is hO hX (fn_rectangle_Canonical hO hv) (by kernel_rfl) [0] rfl ⟨rfl, rfl, trivial⟩ rfl ?_
                    cbv
                    obtain ⟨⟨l257, n97⟩, hv, h0⟩ := bindS h0
                    try dsimp only at h0
                    refine call_is hO hX (fn_rectangle_Canonical hO hv) (by kernel_rfl) [10] rfl ⟨rfl, rfl, trivial⟩ rfl ?_
                    cbv
                    obtain ⟨x293, h1, h0⟩ := bindS h0
                    rcases condS h1 with ⟨hc29, h1⟩ | ⟨hc29, h1⟩
                    · rw [hc29]
                      cbv
                      obtain ⟨b120, hv, h1⟩ := bindS h1
                      refine call_is hO hX (fn_slices_Equal_2 hO hv) (by kernel_rfl) [11, 12] rfl ⟨rfl, rfl, rfl, rfl, trivial⟩ rfl ?_
                      cbv
                      rcases condS h1 with ⟨hc30, h1⟩ | ⟨hc30, h1⟩
                      · rw [hc30]
                        cbv
                        rcases condS h1 with ⟨hc31, h1⟩ | ⟨hc31, h1⟩
                        · rw [hc31]
                          cbv
                          cases h1
                          try dsimp only at h0
                          cases h0
                          exact fin_ok hX rfl ⟨[], _, _, ⟨rfl, rfl⟩, rfl, rfl, rfl, rfl, by cbv; try simp⟩
                        · rw [hc31]
                          cbv
                          obtain ⟨b121, hv, h1⟩ := bindS h1
                          refine call_is hO hX (fn_rectangle_Equal hO hv) (by kernel_rfl) [0, 10] rfl ⟨rfl, rfl, rfl, rfl, trivial⟩ rfl ?_
                          cbv
                          cases h1
                          try dsimp only at h0
                          cases h0
                          exact fin_ok hX rfl ⟨[], _, _, ⟨rfl, rfl⟩, rfl, rfl, rfl, rfl, by cbv; try simp⟩
                      · rw [hc30]
                        cbv
                        cases h1
                        try dsimp only at h0
                        cases h0
                        exact fin_ok hX rfl ⟨[], _, _, ⟨rfl, rfl⟩, rfl, rfl, rfl, rfl, by cbv; try simp⟩
                    · rw [hc29]
                      cbv
                      cases h1
                      try dsimp only at h0
                      cases h0
                      exact fin_ok hX rfl ⟨[], _, _, ⟨rfl, rfl⟩, rfl, rfl, rfl, rfl, by cbv; try simp⟩
                  · as_aux_lemma =>
                    rw [hc22]
                    cbv
                    rw [show (O .not true) = false from by subst hO; rfl]
                    cbv
                    cases h1
                    try dsimp only at h0
                    obtain ⟨x285, h1, h0⟩ := bindS h0
                    replace h1 := condF h1 (by subst hO; rfl)
                    cases h1
                    try dsimp only at h0
                    obtain ⟨⟨x288, x289⟩, h1, h0⟩ := bindS h0
                    replace h1 := condF h1 rfl
                    cases h1
                    try dsimp only at h0
                    obtain ⟨hg32, h0⟩ := grdS h0
                    refine ⟨rng_of hO hg32, ?_⟩
                    obtain ⟨hg33, h0⟩ := grdS h0
                    refine ⟨rng_of hO hg33, ?_⟩
                    obtain ⟨hg34, h0⟩ := grdS h0
                    refine ⟨rng_of hO hg34, ?_⟩
                    refine ⟨rng_of hO hg33, ?_⟩
                    obtain ⟨hg35, h0⟩ := grdS h0
                    refine ⟨room_of hO hg35, ?_⟩
                    obtain ⟨hg36, h0⟩ := grdS h0
                    refine ⟨room_of hO hg36, ?_⟩
                    obtain ⟨hg37, h0⟩ := grdS h0
                    refine ⟨kin_of hO hg37, ?_⟩
                    obtain ⟨⟨l256, n96⟩, hv, h0⟩ := bindS h0
                    try dsimp only at h0
                    refine call_is hO hX (fn_rectangle_Canonical hO hv) (by kernel_rfl) [0] rfl ⟨rfl, rfl, trivial⟩ rfl ?_
                    cbv
                    obtain ⟨⟨l257, n97⟩, hv, h0⟩ := bindS h0
                    try dsimp only at h0
                    refine call_is hO hX (fn_rectangle_Canonical hO hv) (by kernel_rfl) [10] rfl ⟨rfl, rfl, trivial⟩ rfl ?_
                    cbv
                    obtain ⟨x293, h1, h0⟩ := bindS h0
                    rcases condS h1 with ⟨hc38, h1⟩ | ⟨hc38, h1⟩
                    · rw [hc38]
                      cbv
                      obtain ⟨b120, hv, h1⟩ := bindS h1
                      refine call_is hO hX (fn_slices_Equal_2 hO hv) (by kernel_rfl) [11, 12] rfl ⟨rfl, rfl, rfl, rfl, trivial⟩ rfl ?_
                      cbv
                      rcases condS h1 with ⟨hc39, h1⟩ | ⟨hc39, h1⟩
                      · rw [hc39]
                        cbv
                        rcases condS h1 with ⟨hc40, h1⟩ | ⟨hc40, h1⟩
                        · rw [hc40]
                          cbv
                          cases h1
                          try dsimp only at h0
                          cases h0
                          exact fin_ok hX rfl ⟨[], _, _, ⟨rfl, rfl⟩, rfl, rfl, rfl, rfl, by cbv; try simp⟩
                        · rw [hc40]
                          cbv
                          obtain ⟨b121, hv, h1⟩ := bindS h1
                          refine call_is hO hX (fn_rectangle_Equal hO hv) (by kernel_rfl) [0, 10] rfl ⟨rfl, rfl, rfl, rfl, trivial⟩ rfl ?_
                          cbv
                          cases h1
                          try dsimp only at h0
                          cases h0
                          exact fin_ok hX rfl ⟨[], _, _, ⟨rfl, rfl⟩, rfl, rfl, rfl, rfl, by cbv; try simp⟩
                      · rw [hc39]
                        cbv
                        cases h1
                        try dsimp only at h0
                        cases h0
                        exact fin_ok hX rfl ⟨[], _, _, ⟨rfl, rfl⟩, rfl, rfl, rfl, rfl, by cbv; try simp⟩
                    · rw [hc38]
                      cbv
                      cases h1
                      try dsimp only at h0
                      cases h0
                      exact fin_ok hX rfl ⟨[], _, _, ⟨rfl, rfl⟩, rfl, rfl, rfl, rfl, by cbv; try simp⟩
                · as_aux_lemma =>
                  rw [hc21]
                  cbv
                  rw [show (O .not true) = false from by subst hO; rfl]
                  cbv
                  cases h1
                  try dsimp only at h0
                  obtain ⟨⟨x281, x282⟩, h1, h0⟩ := bindS h0
                  replace h1 := condF h1 rfl
                  cases h1
                  try dsimp only at h0
                  obtain ⟨x285, h1, h0⟩ := bindS h0
                  replace h1 := condF h1 (by subst hO; rfl)
                  cases h1
                  try dsimp only at h0
                  obtain ⟨⟨x288, x289⟩, h1, h0⟩ := bindS h0
                  replace h1 := condF h1 rfl
                  cases h1
                  try dsimp only at h0
                  obtain ⟨hg41, h0⟩ := grdS h0
                  refine ⟨rng_of hO hg41, ?_⟩
                  obtain ⟨hg42, h0⟩ := grdS h0
                  refine ⟨rng_of hO hg42, ?_⟩
                  obtain ⟨hg43, h0⟩ := grdS h0
                  refine ⟨rng_of hO hg43, ?_⟩
                  refine ⟨rng_of hO hg42, ?_⟩
                  obtain ⟨hg44, h0⟩ := grdS h0
                  refine ⟨room_of hO hg44, ?_⟩
                  obtain ⟨hg45, h0⟩ := grdS h0
                  refine ⟨room_of hO hg45, ?_⟩
                  obtain ⟨hg46, h0⟩ := grdS h0
                  refine ⟨kin_of hO hg46, ?_⟩
                  obtain ⟨⟨l256, n96⟩, hv, h0⟩ := bindS h0
                  try dsimp only at h0
                  refine call_is hO hX (fn_rectangle_Canonical hO hv) (by kernel_rfl) [0] rfl ⟨rfl, rfl, trivial⟩ rfl ?_
                  cbv
                  obtain ⟨⟨l257, n97⟩, hv, h0⟩ := bindS h0
                  try dsimp only at h0
                  refine call_is hO hX (fn_rectangle_Canonical hO hv) (by kernel_rfl) [10] rfl ⟨rfl, rfl, trivial⟩ rfl ?_
                  cbv
                  obtain ⟨x293, h1, h0⟩ := bindS h0
                  rcases condS h1 with ⟨hc47, h1⟩ | ⟨hc47, h1⟩
                  · rw [hc47]
                    cbv
                    obtain ⟨b120, hv, h1⟩ := bindS h1
                    refine call_is hO hX (fn_slices_Equal_2 hO hv) (by kernel_rfl) [11, 12] rfl ⟨rfl, rfl, rfl, rfl, trivial⟩ rfl ?_
                    cbv
                    rcases condS h1 with ⟨hc48, h1⟩ | ⟨hc48, h1⟩
                    · rw [hc48]
                      cbv
                      rcases condS h1 with ⟨hc49, h1⟩ | ⟨hc49, h1⟩
                      · rw [hc49]
                        cbv
                        cases h1
                        try dsimp only at h0
                        cases h0
                        exact fin_ok hX rfl ⟨[], _, _, ⟨rfl, rfl⟩, rfl, rfl, rfl, rfl, by cbv; try simp⟩
                      · rw [hc49]
                        cbv
                        obtain ⟨b121, hv, h1⟩ := bindS h1
                        refine call_is hO hX (fn_rectangle_Equal hO hv) (by kernel_rfl) [0, 10] rfl ⟨rfl, rfl, rfl, rfl, trivial⟩ rfl ?_
                        cbv
                        cases h1
                        try dsimp only at h0
                        cases h0
                        exact fin_ok hX rfl ⟨[], _, _, ⟨rfl, rfl⟩, rfl, rfl, rfl, rfl, by cbv; try simp⟩
                    · rw [hc48]
                      cbv
                      cases h1
                      try dsimp only at h0
                      cases h0
                      exact fin_ok hX rfl ⟨[], _, _, ⟨rfl, rfl⟩, rfl, rfl, rfl, rfl, by cbv; try simp⟩
                  · rw [hc47]
                    cbv
                    cases h1
                    try dsimp only at h0
                    cases h0
                    exact fin_ok hX rfl ⟨[], _, _, ⟨rfl, rfl⟩, rfl, rfl, rfl, rfl, by cbv; try simp⟩
              · as_aux_lemma =>
                rw [hc20]
                cbv
                rw [show (O .not false) = true from by subst hO; rfl]
                cbv
                cases h1
                try dsimp only at h0
                obtain ⟨⟨x281, x282⟩, h1, h0⟩ := bindS h0
                replace h1 := condF h1 rfl
                cases h1
                try dsimp only at h0
                obtain ⟨x285, h1, h0⟩ := bindS h0
                replace h1 := condT h1 (by subst hO; rfl)
                rcases condS h1 with ⟨hc50, h1⟩ | ⟨hc50, h1⟩
                · as_aux_lemma =>
                  rw [hc50]
                  cbv
                  cases h1
                  try dsimp only at h0
                  obtain ⟨⟨x288, x289⟩, h1, h0⟩ := bindS h0
                  rcases condS h1 with ⟨hc51, h1⟩ | ⟨hc51, h1⟩
                  · as_aux_lemma =>
                    rw [hc51]
                    cbv
                    cases h1
                    try dsimp only at h0
                    obtain ⟨hg52, h0⟩ := grdS h0
                    refine ⟨rng_of hO hg52, ?_⟩
                    obtain ⟨hg53, h0⟩ := grdS h0
                    refine ⟨rng_of hO hg53, ?_⟩
                    obtain ⟨hg54, h0⟩ := grdS h0
                    refine ⟨rng_of hO hg54, ?_⟩
                    refine ⟨rng_of hO hg53, ?_⟩
                    obtain ⟨hg55, h0⟩ := grdS h0
                    refine ⟨room_of hO hg55, ?_⟩
                    obtain ⟨hg56, h0⟩ := grdS h0
                    refine ⟨room_of hO hg56, ?_⟩
                    obtain ⟨hg57, h0⟩ := grdS h0
                    refine ⟨kin_of hO hg57, ?_⟩
                    obtain ⟨⟨l256, n96⟩, hv, h0⟩ := bindS h0
                    try dsimp only at h0
                    refine call_is hO hX (fn_rectangle_Canonical hO hv) (by kernel_rfl) [0] rfl ⟨rfl, rfl, trivial⟩ rfl ?_
                    cbv
                    obtain ⟨⟨l257, n97⟩, hv, h0⟩ := bindS h0
                    try dsimp only at h0
                    refine call_is hO hX (fn_rectangle_Canonical hO hv) (by kernel_rfl) [10] rfl ⟨rfl, rfl, trivial⟩ rfl ?_
                    cbv
                    obtain ⟨x293, h1, h0⟩ := bindS h0
                    rcases condS h1 with ⟨hc58, h1⟩ | ⟨hc58, h1⟩
                    · rw [hc58]
                      cbv
                      obtain ⟨b120, hv, h1⟩ := bindS h1
                      refine call_is hO hX (fn_slices_Equal_2 hO hv) (by kernel_rfl) [11, 12] rfl ⟨rfl, rfl, rfl, rfl, trivial⟩ rfl ?_
                      cbv
                      rcases condS h1 with ⟨hc59, h1⟩ | ⟨hc59, h1⟩
                      · rw [hc59]
                        cbv
                        rcases condS h1 with ⟨hc60, h1⟩ | ⟨hc60, h1⟩
                        · rw [hc60]
                          cbv
                          cases h1
                          try dsimp only at h0
                          cases h0
                          exact fin_ok hX rfl ⟨[], _, _, ⟨rfl, rfl⟩, rfl, rfl, rfl, rfl, by cbv; try simp⟩
                        · rw [hc60]
                          cbv
                          obtain ⟨b121, hv, h1⟩ := bindS h1
                          refine call_is hO hX (fn_rectangle_Equal hO hv) (by kernel_rfl) [0, 10] rfl ⟨rfl, rfl, rfl, rfl, trivial⟩ rfl ?_
                          cbv
                          cases h1
                          try dsimp only at h0
                          cases h0
                          exact fin_ok hX rfl ⟨[], _, _, ⟨rfl, rfl⟩, rfl, rfl, rfl, rfl, by cbv; try simp⟩
                      · rw [hc59]
                        cbv
                        cases h1
                        try dsimp only at h0
                        cases h0
                        exact fin_ok hX rfl ⟨[], _, _, ⟨rfl, rfl⟩, rfl, rfl, rfl, rfl, by cbv; try simp⟩
                    · rw [hc58]
                      cbv
                      cases h1
                      try dsimp only at h0
                      cases h0
                      exact fin_ok hX rfl ⟨[], _, _, ⟨rfl, rfl⟩, rfl, rfl, rfl, rfl, by cbv; try simp⟩
                  · as_aux_lemma =>
                    rw [hc51]
                    cbv
                    cases h1
                    try dsimp only at h0
                    obtain ⟨hg61, h0⟩ := grdS h0
                    refine ⟨rng_of hO hg61, ?_⟩
                    obtain ⟨hg62, h0⟩ := grdS h0
                    refine ⟨rng_of hO hg62, ?_⟩
                    obtain ⟨hg63, h0⟩ := grdS h0
                    refine ⟨rng_of hO hg63, ?_⟩
                    refine ⟨rng_of hO hg62, ?_⟩
                    obtain ⟨hg64, h0⟩ := grdS h0
                    refine ⟨room_of hO hg64, ?_⟩
                    obtain ⟨hg65, h0⟩ := grdS h0
                    refine ⟨room_of hO hg65, ?_⟩
                    obtain ⟨hg66, h0⟩ := grdS h0
                    refine ⟨kin_of hO hg66, ?_⟩
                    obtain ⟨⟨l256, n96⟩, hv, h0⟩ := bindS h0
                    try dsimp only at h0
                    refine call_is hO hX (fn_rectangle_Canonical hO hv) (by kernel_rfl) [0] rfl ⟨rfl, rfl, trivial⟩ rfl ?_
                    cbv
                    obtain ⟨⟨l257, n97⟩, hv, h0⟩ := bindS h0
                    try dsimp only at h0
                    refine call_is hO hX (fn_rectangle_Canonical hO hv) (by kernel_rfl) [10] rfl ⟨rfl, rfl, trivial⟩ rfl ?_
                    cbv
                    obtain ⟨x293, h1, h0⟩ := bindS h0
                    rcases condS h1 with ⟨hc67, h1⟩ | ⟨hc67, h1⟩
                    · rw [hc67]
                      cbv
                      obtain ⟨b120, hv, h1⟩ := bindS h1
                      refine call_is hO hX (fn_slices_Equal_2 hO hv) (by kernel_rfl) [11, 12] rfl ⟨rfl, rfl, rfl, rfl, trivial⟩ rfl ?_
                      cbv
                      rcases condS h1 with ⟨hc68, h1⟩ | ⟨hc68, h1⟩
                      · rw [hc68]
                        cbv
                        rcases condS h1 with ⟨hc69, h1⟩ | ⟨hc69, h1⟩
                        · rw [hc69]
                          cbv
                          cases h1
                          try dsimp only at h0
                          cases h0
                          exact fin_ok hX rfl ⟨[], _, _, ⟨rfl, rfl⟩, rfl, rfl, rfl, rfl, by cbv; try simp⟩
                        · rw [hc69]
                          cbv
                          obtain ⟨b121, hv, h1⟩ := bindS h1
                          refine call_is hO hX (fn_rectangle_Equal hO hv) (by kernel_rfl) [0, 10] rfl ⟨rfl, rfl, rfl, rfl, trivial⟩ rfl ?_
                          cbv
                          cases h1
                          try dsimp only at h0
                          cases h0
                          exact fin_ok hX rfl ⟨[], _, _, ⟨rfl, rfl⟩, rfl, rfl, rfl, rfl, by cbv; try simp⟩
                      · rw [hc68]
                        cbv
                        cases h1
                        try dsimp only at h0
                        cases h0
                        exact fin_ok hX rfl ⟨[], _, _, ⟨rfl, rfl⟩, rfl, rfl, rfl, rfl, by cbv; try simp⟩
                    · rw [hc67]
                      cbv
                      cases h1
                      try dsimp only at h0
                      cases h0
                      exact fin_ok hX rfl ⟨[], _, _, ⟨rfl, rfl⟩, rfl, rfl, rfl, rfl, by cbv; try simp⟩
                · as_aux_lemma =>
                  rw [hc50]
                  cbv
                  cases h1
                  try dsimp only at h0
                  obtain ⟨⟨x288, x289⟩, h1, h0⟩ := bindS h0
                  replace h1 := condF h1 rfl
                  cases h1
                  try dsimp only at h0
                  obtain ⟨hg70, h0⟩ := grdS h0
                  refine ⟨rng_of hO hg70, ?_⟩
                  obtain ⟨hg71, h0⟩ := grdS h0
                  refine ⟨rng_of hO hg71, ?_⟩
                  obtain ⟨hg72, h0⟩ := grdS h0
                  refine ⟨rng_of hO hg72, ?_⟩
                  refine ⟨rng_of hO hg71, ?_⟩
                  obtain ⟨hg73, h0⟩ := grdS h0
                  refine ⟨room_of hO hg73, ?_⟩
                  obtain ⟨hg74, h0⟩ := grdS h0
                  refine ⟨room_of hO hg74, ?_⟩
                  obtain ⟨hg75, h0⟩ := grdS h0
                  refine ⟨kin_of hO hg75, ?_⟩
                  obtain ⟨⟨l256, n96⟩, hv, h0⟩ := bindS h0
                  try dsimp only at h0
                  refine call_is hO hX (fn_rectangle_Canonical hO hv) (by kernel_rfl) [0] rfl ⟨rfl, rfl, trivial⟩ rfl ?_
                  cbv
                  obtain ⟨⟨l257, n97⟩, hv, h0⟩ := bindS h0
                  try dsimp only at h0
                  refine call_is hO hX (fn_rectangle_Canonical hO hv) (by kernel_rfl) [10] rfl ⟨rfl, rfl, trivial⟩ rfl ?_
                  cbv
                  obtain ⟨x293, h1, h0⟩ := bindS h0
                  rcases condS h1 with ⟨hc76, h1⟩ | ⟨hc76, h1⟩
                  · rw [hc76]
                    cbv
                    obtain ⟨b120, hv, h1⟩ := bindS h1
                    refine call_is hO hX (fn_slices_Equal_2 hO hv) (by kernel_rfl) [11, 12] rfl ⟨rfl, rfl, rfl, rfl, trivial⟩ rfl ?_
                    cbv
                    rcases condS h1 with ⟨hc77, h1⟩ | ⟨hc77, h1⟩
                    · rw [hc77]
                      cbv
                      rcases condS h1 with ⟨hc78, h1⟩ | ⟨hc78, h1⟩
                      · rw [hc78]
                        cbv
                        cases h1
                        try dsimp only at h0
                        cases h0
                        exact fin_ok hX rfl ⟨[], _, _, ⟨rfl, rfl⟩, rfl, rfl, rfl, rfl, by cbv; try simp⟩
                      · rw [hc78]
                        cbv
                        obtain ⟨b121, hv, h1⟩ := bindS h1
                        refine call_is hO hX (fn_rectangle_Equal hO hv) (by kernel_rfl) [0, 10] rfl ⟨rfl, rfl, rfl, rfl, trivial⟩ rfl ?_
                        cbv
                        cases h1
                        try dsimp only at h0
                        cases h0
                        exact fin_ok hX rfl ⟨[], _, _, ⟨rfl, rfl⟩, rfl, rfl, rfl, rfl, by cbv; try simp⟩
                    · rw [hc77]
                      cbv
                      cases h1
                      try dsimp only at h0
                      cases h0
                      exact fin_ok hX rfl ⟨[], _, _, ⟨rfl, rfl⟩, rfl, rfl, rfl, rfl, by cbv; try simp⟩
                  · rw [hc76]
                    cbv
                    cases h1
                    try dsimp only at h0
                    cases h0
                    exact fin_ok hX rfl ⟨[], _, _, ⟨rfl, rfl⟩, rfl, rfl, rfl, rfl, by cbv; try simp⟩
            · as_aux_lemma =>
              obtain ⟨⟨by2, x278⟩, h1, h0⟩ := bindS h0
              rcases condS h1 with ⟨hc79, h1⟩ | ⟨hc79, h1⟩
              · as_aux_lemma =>
                rw [hc79]
                cbv
                rcases condS h1 with ⟨hc80, h1⟩ | ⟨hc80, h1⟩
                · as_aux_lemma =>
                  rw [hc80]
                  cbv
                  cases h1
                  try dsimp only at h0
                  obtain ⟨⟨x281, x282⟩, h1, h0⟩ := bindS h0
                  rcases condS h1 with ⟨hc81, h1⟩ | ⟨hc81, h1⟩
                  · as_aux_lemma =>
                    rw [hc81]
                    cbv
                    rw [show (O .not true) = false from by subst hO; rfl]
                    cbv
                    cases h1
                    try dsimp only at h0
                    obtain ⟨x285, h1, h0⟩ := bindS h0
                    replace h1 := condF h1 (by subst hO; rfl)
                    cases h1
                    try dsimp only at h0
                    obtain ⟨⟨x288, x289⟩, h1, h0⟩ := bindS h0
                    replace h1 := condF h1 rfl
                    cases h1
                    try dsimp only at h0
                    obtain ⟨hg82, h0⟩ := grdS h0
                    refine ⟨rng_of hO hg82, ?_⟩
                    obtain ⟨hg83, h0⟩ := grdS h0
                    refine ⟨rng_of hO hg83, ?_⟩
                    obtain ⟨hg84, h0⟩ := grdS h0
                    refine ⟨rng_of hO hg84, ?_⟩
                    refine ⟨rng_of hO hg83, ?_⟩
                    obtain ⟨hg85, h0⟩ := grdS h0
                    refine ⟨room_of hO hg85, ?_⟩
                    obtain ⟨hg86, h0⟩ := grdS h0
                    refine ⟨room_of hO hg86, ?_⟩
                    obtain ⟨hg87, h0⟩ := grdS h0
                    refine ⟨kin_of hO hg87, ?_⟩
                    obtain ⟨⟨l256, n96⟩, hv, h0⟩ := bindS h0
                    try dsimp only at h0
                    refine call_is hO hX (fn_rectangle_Canonical hO hv) (by kernel_rfl) [0] rfl ⟨rfl, rfl, trivial⟩ rfl ?_
                    cbv
                    obtain ⟨⟨l257, n97⟩, hv, h0⟩ := bindS h0
                    try dsimp only at h0
                    refine call_is hO hX (fn_rectangle_Canonical hO hv) (by kernel_rfl) [10] rfl ⟨rfl, rfl, trivial⟩ rfl ?_
                    cbv
                    obtain ⟨x293, h1, h0⟩ := bindS h0
                    rcases condS h1 with ⟨hc88, h1⟩ | ⟨hc88, h1⟩
                    · rw [hc88]
                      cbv
                      obtain ⟨b120, hv, h1⟩ := bindS h1
                      refine call_is hO hX (fn_slices_Equal_2 hO hv) (by kernel_rfl) [11, 12] rfl ⟨rfl, rfl, rfl, rfl, trivial⟩ rfl ?_
                      cbv
                      rcases condS h1 with ⟨hc89, h1⟩ | ⟨hc89, h1⟩
                      · rw [hc89]
                        cbv
                        rcases condS h1 with ⟨hc90, h1⟩ | ⟨hc90, h1⟩
                        · rw [hc90]
                          cbv
                          cases h1
                          try dsimp only at h0
                          cases h0
                          exact fin_ok hX rfl ⟨[], _, _, ⟨rfl, rfl⟩, rfl, rfl, rfl, rfl, by cbv; try simp⟩
                        · rw [hc90]
                          cbv
                          obtain ⟨b121, hv, h1⟩ := bindS h1
                          refine call_is hO hX (fn_rectangle_Equal hO hv) (by kernel_rfl) [0, 10] rfl ⟨rfl, rfl, rfl, rfl, trivial⟩ rfl ?_
                          cbv
                          cases h1
                          try dsimp only at h0
                          cases h0
                          exact fin_ok hX rfl ⟨[], _, _, ⟨rfl, rfl⟩, rfl, rfl, rfl, rfl, by cbv; try simp⟩
                      · rw [hc89]
                        cbv
                        cases h1
                        try dsimp only at h0
                        cases h0
                        exact fin_ok hX rfl ⟨[], _, _, ⟨rfl, rfl⟩, rfl, rfl, rfl, rfl, by cbv; try simp⟩
                    · rw [hc88]
                      cbv
                      cases h1
                      try dsimp only at h0
                      cases h0
                      exact fin_ok hX rfl ⟨[], _, _, ⟨rfl, rfl⟩, rfl, rfl, rfl, rfl, by cbv; try simp⟩
                  · as_aux_lemma =>
                    rw [hc81]
                    cbv
                    rw [show (O .not true) = false from by subst hO; rfl]
                    cbv
                    cases h1
                    try dsimp only at h0
                    obtain ⟨x285, h1, h0⟩ := bindS h0
                    replace h1 := condF h1 (by subst hO; rfl)
                    cases h1
                    try dsimp only at h0
                    obtain ⟨⟨x288, x289⟩, h1, h0⟩ := bindS h0
                    replace h1 := condF h1 rfl
                    cases h1
                    try dsimp only at h0
                    obtain ⟨hg91, h0⟩ := grdS h0
                    refine ⟨rng_of hO hg91, ?_⟩
                    obtain ⟨hg92, h0⟩ := grdS h0
                    refine ⟨rng_of hO hg92, ?_⟩
                    obtain ⟨hg93, h0⟩ := grdS h0
                    refine ⟨rng_of hO hg93, ?_⟩
                    refine ⟨rng_of hO hg92, ?_⟩
                    obtain ⟨hg94, h0⟩ := grdS h0
                    refine ⟨room_of hO hg94, ?_⟩
                    obtain ⟨hg95, h0⟩ := grdS h0
                    refine ⟨room_of hO hg95, ?_⟩
                    obtain ⟨hg96, h0⟩ := grdS h0
                    refine ⟨kin_of hO hg96, ?_⟩
                    obtain ⟨⟨l256, n96⟩, hv, h0⟩ := bindS h0
                    try dsimp only at h0
                    refine call_is hO hX (fn_rectangle_Canonical hO hv) (by kernel_rfl) [0] rfl ⟨rfl, rfl, trivial⟩ rfl ?_
                    cbv
                    obtain ⟨⟨l257, n97⟩, hv, h0⟩ := bindS h0
                    try dsimp only at h0
                    refine call_is hO hX (fn_rectangle_Canonical hO hv) (by kernel_rfl) [10] rfl ⟨rfl, rfl, trivial⟩ rfl ?_
                    cbv
                    obtain ⟨x293, h1, h0⟩ := bindS h0
                    rcases condS h1 with ⟨hc97, h1⟩ | ⟨hc97, h1⟩
                    · rw [hc97]
                      cbv
                      obtain ⟨b120, hv, h1⟩ := bindS h1
                      refine call_is hO hX (fn_slices_Equal_2 hO hv) (by kernel_rfl) [11, 12] rfl ⟨rfl, rfl, rfl, rfl, trivial⟩ rfl ?_
                      cbv
                      rcases condS h1 with ⟨hc98, h1⟩ | ⟨hc98, h1⟩
                      · rw [hc98]
                        cbv
                        rcases condS h1 with ⟨hc99, h1⟩ | ⟨hc99, h1⟩
                        · rw [hc99]
                          cbv
                          cases h1
                          try dsimp only at h0
                          cases h0
                          exact fin_ok hX rfl ⟨[], _, _, ⟨rfl, rfl⟩, rfl, rfl, rfl, rfl, by cbv; try simp⟩
                        · rw [hc99]
                          cbv
                          obtain ⟨b121, hv, h1⟩ := bindS h1
                          refine call_is hO hX (fn_rectangle_Equal hO hv) (by kernel_rfl) [0, 10] rfl ⟨rfl, rfl, rfl, rfl, trivial⟩ rfl ?_
                          cbv
                          cases h1
                          try dsimp only at h0
                          cases h0
                          exact fin_ok hX rfl ⟨[], _, _, ⟨rfl, rfl⟩, rfl, rfl, rfl, rfl, by cbv; try simp⟩
                      · rw [hc98]
                        cbv
                        cases h1
                        try dsimp only at h0
                        cases h0
                        exact fin_ok hX rfl ⟨[], _, _, ⟨rfl, rfl⟩, rfl, rfl, rfl, rfl, by cbv; try simp⟩
                    · rw [hc97]
                      cbv
                      cases h1
                      try dsimp only at h0
                      cases h0
                      exact fin_ok hX rfl ⟨[], _, _, ⟨rfl, rfl⟩, rfl, rfl, rfl, rfl, by cbv; try simp⟩
                · as_aux_lemma =>
                  rw [hc80]
                  cbv
                  rw [show (O .not true) = false from by subst hO; rfl]
                  cbv
                  cases h1
                  try dsimp only at h0
                  obtain ⟨⟨x281, x282⟩, h1, h0⟩ := bindS h0
                  replace h1 := condF h1 rfl
                  cases h1
                  try dsimp only at h0
                  obtain ⟨x285, h1, h0⟩ := bindS h0
                  replace h1 := condF h1 (by subst hO; rfl)
                  cases h1
                  try dsimp only at h0
                  obtain ⟨⟨x288, x289⟩, h1, h0⟩ := bindS h0
                  replace h1 := condF h1 rfl
                  cases h1
                  try dsimp only at h0
                  obtain ⟨hg100, h0⟩ := grdS h0
                  refine ⟨rng_of hO hg100, ?_⟩
                  obtain ⟨hg101, h0⟩ := grdS h0
                  refine ⟨rng_of hO hg101, ?_⟩
                  obtain ⟨hg102, h0⟩ := grdS h0
                  refine ⟨rng_of hO hg102, ?_⟩
                  refine ⟨rng_of hO hg101, ?_⟩
                  obtain ⟨hg103, h0⟩ := grdS h0
                  refine ⟨room_of hO hg103, ?_⟩
                  obtain ⟨hg104, h0⟩ := grdS h0
                  refine ⟨room_of hO hg104, ?_⟩
                  obtain ⟨hg105, h0⟩ := grdS h0
                  refine ⟨kin_of hO hg105, ?_⟩
                  obtain ⟨⟨l256, n96⟩, hv, h0⟩ := bindS h0
                  try dsimp only at h0
                  refine call_is hO hX (fn_rectangle_Canonical hO hv) (by kernel_rfl) [0] rfl ⟨rfl, rfl, trivial⟩ rfl ?_
                  cbv
                  obtain ⟨⟨l257, n97⟩, hv, h0⟩ := bindS h0
                  try dsimp only at h0
                  refine call_is hO hX (fn_rectangle_Canonical hO hv) (by kernel_rfl) [10] rfl ⟨rfl, rfl, trivial⟩ rfl ?_
                  cbv
                  obtain ⟨x293, h1, h0⟩ := bindS h0
                  rcases condS h1 with ⟨hc106, h1⟩ | ⟨hc106, h1⟩
                  · rw [hc106]
                    cbv
                    obtain ⟨b120, hv, h1⟩ := bindS h1
                    refine call_is hO hX (fn_slices_Equal_2 hO hv) (by kernel_rfl) [11, 12] rfl ⟨rfl, rfl, rfl, rfl, trivial⟩ rfl ?_
                    cbv
                    rcases condS h1 with ⟨hc107, h1⟩ | ⟨hc107, h1⟩
                    · rw [hc107]
                      cbv
                      rcases condS h1 with ⟨hc108, h1⟩ | ⟨hc108, h1⟩
                      · rw [hc108]
                        cbv
                        cases h1
                        try dsimp only at h0
                        cases h0
                        exact fin_ok hX rfl ⟨[], _, _, ⟨rfl, rfl⟩, rfl, rfl, rfl, rfl, by cbv; try simp⟩
                      · rw [hc108]
                        cbv
                        obtain ⟨b121, hv, h1⟩ := bindS h1
                        refine call_is hO hX (fn_rectangle_Equal hO hv) (by kernel_rfl) [0, 10] rfl ⟨rfl, rfl, rfl, rfl, trivial⟩ rfl ?_
                        cbv
                        cases h1
                        try dsimp only at h0
                        cases h0
                        exact fin_ok hX rfl ⟨[], _, _, ⟨rfl, rfl⟩, rfl, rfl, rfl, rfl, by cbv; try simp⟩
                    · rw [hc107]
                      cbv
                      cases h1
                      try dsimp only at h0
                      cases h0
                      exact fin_ok hX rfl ⟨[], _, _, ⟨rfl, rfl⟩, rfl, rfl, rfl, rfl, by cbv; try simp⟩
                  · rw [hc106]
                    cbv
                    cases h1
                    try dsimp only at h0
                    cases h0
                    exact fin_ok hX rfl ⟨[], _, _, ⟨rfl, rfl⟩, rfl, rfl, rfl, rfl, by cbv; try simp⟩
              · as_aux_lemma =>
                rw [hc79]
                cbv
                rw [show (O .not false) = true from by subst hO; rfl]
                cbv
                cases h1
                try dsimp only at h0
                obtain ⟨⟨x281, x282⟩, h1, h0⟩ := bindS h0
                replace h1 := condF h1 rfl
                cases h1
                try dsimp only at h0
                obtain ⟨x285, h1, h0⟩ := bindS h0
                replace h1 := condT h1 (by subst hO; rfl)
                rcases condS h1 with ⟨hc109, h1⟩ | ⟨hc109, h1⟩
                · as_aux_lemma =>
                  rw [hc109]
                  cbv
                  cases h1
                  try dsimp only at h0
                  obtain ⟨⟨x288, x289⟩, h1, h0⟩ := bindS h0
                  rcases condS h1 with ⟨hc110, h1⟩ | ⟨hc110, h1⟩
                  · as_aux_lemma =>
                    rw [hc110]
                    cbv
                    cases h1
                    try dsimp only at h0
                    obtain ⟨hg111, h0⟩ := grdS h0
                    refine ⟨rng_of hO hg111, ?_⟩
                    obtain ⟨hg112, h0⟩ := grdS h0
                    refine ⟨rng_of hO hg112, ?_⟩
                    obtain ⟨hg113, h0⟩ := grdS h0
                    refine ⟨rng_of hO hg113, ?_⟩
                    refine ⟨rng_of hO hg112, ?_⟩
                    obtain ⟨hg114, h0⟩ := grdS h0
                    refine ⟨room_of hO hg114, ?_⟩
                    obtain ⟨hg115, h0⟩ := grdS h0
                    refine ⟨room_of hO hg115, ?_⟩
                    obtain ⟨hg116, h0⟩ := grdS h0
                    refine ⟨kin_of hO hg116, ?_⟩
                    obtain ⟨⟨l256, n96⟩, hv, h0⟩ := bindS h0
                    try dsimp only at h0
                    refine call_is hO hX (fn_rectangle_Canonical hO hv) (by kernel_rfl) [0] rfl ⟨rfl, rfl, trivial⟩ rfl ?_
                    cbv
                    obtain ⟨⟨l257, n97⟩, hv, h0⟩ := bindS h0
                    try dsimp only at h0
                    refine call_is hO hX (fn_rectangle_Canonical hO hv) (by kernel_rfl) [10] rfl ⟨rfl, rfl, trivial⟩ rfl ?_
                    cbv
                    obtain ⟨x293, h1, h0⟩ := bindS h0
                    rcases condS h1 with ⟨hc117, h1⟩ | ⟨hc117, h1⟩
                    · rw [hc117]
                      cbv
                      obtain ⟨b120, hv, h1⟩ := bindS h1
                      refine call_is hO hX (fn_slices_Equal_2 hO hv) (by kernel_rfl) [11, 12] rfl ⟨rfl, rfl, rfl, rfl, trivial⟩ rfl ?_
                      cbv
                      rcases condS h1 with ⟨hc118, h1⟩ | ⟨hc118, h1⟩
                      · rw [hc118]
                        cbv
                        rcases condS h1 with ⟨hc119, h1⟩ | ⟨hc119, h1⟩
                        · rw [hc119]
                          cbv
                          cases h1
                          try dsimp only at h0
                          cases h0
                          exact fin_ok hX rfl ⟨[], _, _, ⟨rfl, rfl⟩, rfl, rfl, rfl, rfl, by cbv; try simp⟩
                        · rw [hc119]
                          cbv
                          obtain ⟨b121, hv, h1⟩ := bindS h1
                          refine call_is hO hX (fn_rectangle_Equal hO hv) (by kernel_rfl) [0, 10] rfl ⟨rfl, rfl, rfl, rfl, trivial⟩ rfl ?_
                          cbv
                          cases h1
                          try dsimp only at h0
                          cases h0
                          exact fin_ok hX rfl ⟨[], _, _, ⟨rfl, rfl⟩, rfl, rfl, rfl, rfl, by cbv; try simp⟩
                      · rw [hc118]
                        cbv
                        cases h1
                        try dsimp only at h0
                        cases h0
                        exact fin_ok hX rfl ⟨[], _, _, ⟨rfl, rfl⟩, rfl, rfl, rfl, rfl, by cbv; try simp⟩
                    · rw [hc117]
                      cbv
                      cases h1
                      try dsimp only at h0
                      cases h0
                      exact fin_ok hX rfl ⟨[], _, _, ⟨rfl, rfl⟩, rfl, rfl, rfl, rfl, by cbv; try simp⟩
                  · as_aux_lemma =>
                    rw [hc110]
                    cbv
                    cases h1
                    try dsimp only at h0
                    obtain ⟨hg120, h0⟩ := grdS h0
                    refine ⟨rng_of hO hg120, ?_⟩
                    obtain ⟨hg121, h0⟩ := grdS h0
                    refine ⟨rng_of hO hg121, ?_⟩
                    obtain ⟨hg122, h0⟩ := grdS h0
                    refine ⟨rng_of hO hg122, ?_⟩
                    refine ⟨rng_of hO hg121, ?_⟩
                    obtain ⟨hg123, h0⟩ := grdS h0
                    refine ⟨room_of hO hg123, ?_⟩
                    obtain ⟨hg124, h0⟩ := grdS h0
                    refine ⟨room_of hO hg124, ?_⟩
                    obtain ⟨hg125, h0⟩ := grdS h0
                    refine ⟨kin_of hO hg125, ?_⟩
                    obtain ⟨⟨l256, n96⟩, hv, h0⟩ := bindS h0
                    try dsimp only at h0
                    refine call_is hO hX (fn_rectangle_Canonical hO hv) (by kernel_rfl) [0] rfl ⟨rfl, rfl, trivial⟩ rfl ?_
                    cbv
                    obtain ⟨⟨l257, n97⟩, hv, h0⟩ := bindS h0
                    try dsimp only at h0
                    refine call_is hO hX (fn_rectangle_Canonical hO hv) (by kernel_rfl) [10] rfl ⟨rfl, rfl, trivial⟩ rfl ?_
                    cbv
                    obtain ⟨x293, h1, h0⟩ := bindS h0
                    rcases condS h1 with ⟨hc126, h1⟩ | ⟨hc126, h1⟩
                    · rw [hc126]
                      cbv
                      obtain ⟨b120, hv, h1⟩ := bindS h1
                      refine call_is hO hX (fn_slices_Equal_2 hO hv) (by kernel_rfl) [11, 12] rfl ⟨rfl, rfl, rfl, rfl, trivial⟩ rfl ?_
                      cbv
                      rcases condS h1 with ⟨hc127, h1⟩ | ⟨hc127, h1⟩
                      · rw [hc127]
                        cbv
                        rcases condS h1 with ⟨hc128, h1⟩ | ⟨hc128, h1⟩
                        · rw [hc128]
                          cbv
                          cases h1
                          try dsimp only at h0
                          cases h0
                          exact fin_ok hX rfl ⟨[], _, _, ⟨rfl, rfl⟩, rfl, rfl, rfl, rfl, by cbv; try simp⟩
                        · rw [hc128]
                          cbv
                          obtain ⟨b121, hv, h1⟩ := bindS h1
                          refine call_is hO hX (fn_rectangle_Equal hO hv) (by kernel_rfl) [0, 10] rfl ⟨rfl, rfl, rfl, rfl, trivial⟩ rfl ?_
                          cbv
                          cases h1
                          try dsimp only at h0
                          cases h0
                          exact fin_ok hX rfl ⟨[], _, _, ⟨rfl, rfl⟩, rfl, rfl, rfl, rfl, by cbv; try simp⟩
                      · rw [hc127]
                        cbv
                        cases h1
                        try dsimp only at h0
                        cases h0
                        exact fin_ok hX rfl ⟨[], _, _, ⟨rfl, rfl⟩, rfl, rfl, rfl, rfl, by cbv; try simp⟩
                    · rw [hc126]
                      cbv
                      cases h1
                      try dsimp only at h0
                      cases h0
                      exact fin_ok hX rfl ⟨[], _, _, ⟨rfl, rfl⟩, rfl, rfl, rfl, rfl, by cbv; try simp⟩
                · as_aux_lemma =>
                  rw [hc109]
                  cbv
                  cases h1
                  try dsimp only at h0
                  obtain ⟨⟨x288, x289⟩, h1, h0⟩ := bindS h0
                  replace h1 := condF h1 rfl
                  cases h1
                  try dsimp only at h0
                  obtain ⟨hg129, h0⟩ := grdS h0
                  refine ⟨rng_of hO hg129, ?_⟩
                  obtain ⟨hg130, h0⟩ := grdS h0
                  refine ⟨rng_of hO hg130, ?_⟩
                  obtain ⟨hg131, h0⟩ := grdS h0
                  refine ⟨rng_of hO hg131, ?_⟩
                  refine ⟨rng_of hO hg130, ?_⟩
                  obtain ⟨hg132, h0⟩ := grdS h0
                  refine ⟨room_of hO hg132, ?_⟩
                  obtain ⟨hg133, h0⟩ := grdS h0
                  refine ⟨room_of hO hg133, ?_⟩
                  obtain ⟨hg134, h0⟩ := grdS h0
                  refine ⟨kin_of hO hg134, ?_⟩
                  obtain ⟨⟨l256, n96⟩, hv, h0⟩ := bindS h0
                  try dsimp only at h0
                  refine call_is hO hX (fn_rectangle_Canonical hO hv) (by kernel_rfl) [0] rfl ⟨rfl, rfl, trivial⟩ rfl ?_
                  cbv
                  obtain ⟨⟨l257, n97⟩, hv, h0⟩ := bindS h0
                  try dsimp only at h0
                  refine call_is hO hX (fn_rectangle_Canonical hO hv) (by kernel_rfl) [10] rfl ⟨rfl, rfl, trivial⟩ rfl ?_
                  cbv
                  obtain ⟨x293, h1, h0⟩ := bindS h0
                  rcases condS h1 with ⟨hc135, h1⟩ | ⟨hc135, h1⟩
                  · rw [hc135]
                    cbv
                    obtain ⟨b120, hv, h1⟩ := bindS h1
                    refine call_is hO hX (fn_slices_Equal_2 hO hv) (by kernel_rfl) [11, 12] rfl ⟨rfl, rfl, rfl, rfl, trivial⟩ rfl ?_
                    cbv
                    rcases condS h1 with ⟨hc136, h1⟩ | ⟨hc136, h1⟩
                    · rw [hc136]
                      cbv
                      rcases condS h1 with ⟨hc137, h1⟩ | ⟨hc137, h1⟩
                      · rw [hc137]
                        cbv
                        cases h1
                        try dsimp only at h0
                        cases h0
                        exact fin_ok hX rfl ⟨[], _, _, ⟨rfl, rfl⟩, rfl, rfl, rfl, rfl, by cbv; try simp⟩
                      · rw [hc137]
                        cbv
                        obtain ⟨b121, hv, h1⟩ := bindS h1
                        refine call_is hO hX (fn_rectangle_Equal hO hv) (by kernel_rfl) [0, 10] rfl ⟨rfl, rfl, rfl, rfl, trivial⟩ rfl ?_
                        cbv
                        cases h1
                        try dsimp only at h0
                        cases h0
                        exact fin_ok hX rfl ⟨[], _, _, ⟨rfl, rfl⟩, rfl, rfl, rfl, rfl, by cbv; try simp⟩
                    · rw [hc136]
                      cbv
                      cases h1
                      try dsimp only at h0
                      cases h0
                      exact fin_ok hX rfl ⟨[], _, _, ⟨rfl, rfl⟩, rfl, rfl, rfl, rfl, by cbv; try simp⟩
                  · rw [hc135]
                    cbv
                    cases h1
                    try dsimp only at h0
                    cases h0
                    exact fin_ok hX rfl ⟨[], _, _, ⟨rfl, rfl⟩, rfl, rfl, rfl, rfl, by cbv; try simp⟩
end Go.Proofs.Ytkdffpncpikdmaa
