/-
  The code does what its models say (printed by lift.py).
-/
import Derived.Test.YtegmjohhgedakaaBM
import Derived.Test.YtegmjohhgedakaaSrtB
import Derived.Test.YtegmjohhgedakaaBW1
import Derived.Test.YtegmjohhgedakaaBW4
import Derived.Test.YtegmjohhgedakaaBW6
namespace Go.Proofs.Ytegmjohhgedakaa
open Go.RowKit
set_option maxRecDepth 100000

set_option maxHeartbeats 40000000 in
theorem fn_law45_BoundsTriangle_1 {O0 : Ops} (hO0 : O0 = std) {row_1 : List Int} {x_1 : Int} {r1 : Bool} (h : m_law45_BoundsTriangle_1 O0 row_1 x_1 = some r1) :
    Fn Try.prog 24 [.c (.sl 0), .c (.ptr 1 0)] [.arr false .i1 row_1, .ro 3 [.int .i64 x_1]] (fun v c => v = .c (.bool r1) ∧ c = []) := by
  refine fn_run tab_holds eqs_holds mixed [] Try.func24 (by kernel_rfl) (by kernel_rfl) (Nat.le_of_ble_eq_true rfl) ?_
  intro O X hO hX
  rw [hO0, ← hO] at h
  unfold m_law45_BoundsTriangle_1 at h
  have h0 := h; clear h
  cbv
  cases h0
  exact fin_ok hX rfl ⟨[], _, _, ⟨rfl, rfl⟩, rfl, rfl, rfl, rfl, by cbv; try simp⟩
set_option maxHeartbeats 40000000 in
theorem fn_slices_IndexFunc_4 {O0 : Ops} (hO0 : O0 = std) {s_1 : List (List Int)} {c_1 : Int} {r1 : Int} (h : m_slices_IndexFunc_4 O0 s_1 c_1 = some r1) :
    Fn Try.prog 47 [.c (.sl 0), .c (.fn 24 [1])] [.mat false s_1, .ro 3 [.int .i64 c_1]] (fun v c => v = .c (.int .i64 r1) ∧ c = []) := by
  refine fn_run tab_holds eqs_holds mixed [] Try.func47 (by kernel_rfl) (by kernel_rfl) (Nat.le_of_ble_eq_true rfl) ?_
  intro O X hO hX
  rw [hO0, ← hO] at h
  unfold m_slices_IndexFunc_4 at h
  have h0 := h; clear h
  cbv
  obtain ⟨e1, hi, h0⟩ := bindS h0
  obtain ⟨I1, hI1, hi⟩ := loopS hi
  refine loop1 tab_holds eqs_holds mixed [] hO hX I1 (fun y => [(8, .c (.int .i64 y.2))]) (fun _ => []) (fun y => y.1) _ (by kernel_rfl) hi (by cbv; try simp) ?_
  refine allp ?_
  intro n1
  intro x161 hi
  cbv
  rw [hI1] at hi
  obtain ⟨n1, rfl, x1, h1, hi1⟩ := iterS hi
  unfold m_slices_IndexFunc_4_L1 at h1
  try dsimp only at h1
  rcases condS h1 with ⟨hc1, h1⟩ | ⟨hc1, h1⟩
  · rw [hc1]
    cbv
    obtain ⟨hg2, h1⟩ := grdS h1
    refine ⟨idx_of hO hg2, ?_⟩
    obtain ⟨hg3, h1⟩ := grdS h1
    refine ⟨kin_of hO hg3, ?_⟩
    obtain ⟨b51, hv, h1⟩ := bindS h1
    refine call_is hO hX (fn_law45_BoundsTriangle_1 hO hv) (by kernel_rfl) [2, 1] rfl ⟨rfl, rfl, rfl, rfl, trivial⟩ rfl ?_
    cbv
    rcases condS h1 with ⟨hc4, h1⟩ | ⟨hc4, h1⟩
    · rw [hc4]
      cbv
      cases h1
      cases exitI hi1
      try dsimp only at h0
      cases h0
      exact fin_ok hX rfl ⟨[], _, _, ⟨rfl, rfl⟩, rfl, rfl, rfl, rfl, by cbv; try simp⟩
    · rw [hc4]
      cbv
      obtain ⟨hg5, h1⟩ := grdS h1
      refine ⟨inr_of hO hg5, ?_⟩
      cases h1
      exact ⟨_, [0, 1], nextI hI1 hi1, by cbv; try simp, by first | exact Nat.lt_succ_self _ | omega⟩
  · rw [hc1]
    cbv
    cases h1
    cases exitI hi1
    try dsimp only at h0
    cases h0
    exact fin_ok hX rfl ⟨[], _, _, ⟨rfl, rfl⟩, rfl, rfl, rfl, rfl, by cbv; try simp⟩
set_option maxHeartbeats 40000000 in
theorem fn_slices_ContainsFunc_4 {O0 : Ops} (hO0 : O0 = std) {s_1 : List (List Int)} {c_1 : Int} {r1 : Bool} (h : m_slices_ContainsFunc_4 O0 s_1 c_1 = some r1) :
    Fn Try.prog 23 [.c (.sl 0), .c (.fn 24 [1])] [.mat false s_1, .ro 3 [.int .i64 c_1]] (fun v c => v = .c (.bool r1) ∧ c = []) := by
  refine fn_run tab_holds eqs_holds mixed [] Try.func23 (by kernel_rfl) (by kernel_rfl) (Nat.le_of_ble_eq_true rfl) ?_
  intro O X hO hX
  rw [hO0, ← hO] at h
  unfold m_slices_ContainsFunc_4 at h
  have h0 := h; clear h
  cbv
  obtain ⟨n30, hv, h0⟩ := bindS h0
  refine call_is hO hX (fn_slices_IndexFunc_4 hO hv) (by kernel_rfl) [0, 1] rfl ⟨rfl, rfl, rfl, rfl, trivial⟩ rfl ?_
  cbv
  cases h0
  exact fin_ok hX rfl ⟨[], _, _, ⟨rfl, rfl⟩, rfl, rfl, rfl, rfl, by cbv; try simp⟩
set_option maxHeartbeats 40000000 in
theorem fn_law45_BoundsTriangle {O0 : Ops} (hO0 : O0 = std) {n_1 : Int} {i_1 : Int} {j_1 : Int} {l_1 : List (Int × Int × Int)} {r1 : Bool} (h : m_law45_BoundsTriangle O0 n_1 i_1 j_1 l_1 = some r1) :
    Fn Try.prog 6 [.c (.int .i64 n_1), .c (.sl 0), .c (.int .u8 i_1), .c (.int .u8 j_1)] [.arr false .i3 l_1] (fun v c => v = .c (.bool r1) ∧ c = []) := by
  refine fn_run tab_holds eqs_holds mixed [(11, (.seg 1 [0, 1, 2, 3, 4, 5, 6, 7, 8, 9, 10, 11] .fin), []), (14, (.seg 1 [0, 1, 2, 3, 4, 5, 6, 7, 8, 9] .fin), []), (18, (.seg 1 [0, 1, 2, 3, 4, 5, 6, 7, 8, 9, 10, 11, 12, 13, 14, 15, 16, 17, 18, 19, 20, 21, 22, 23, 24, 25, 26, 27, 28, 29, 30, 31, 32, 33, 34, 35, 36, 37, 38, 39, 40, 41, 42] .fin), []), (23, (.seg 1 [0, 1, 3, 4, 5, 6, 7, 8, 9, 10, 11, 12] (.alt 2 (.seg 2 [13] (.seg 3 [14] (.seg 2 [15] (.seg 1 [16, 17, 18, 19, 20] .fin)))) (.alt 13 (.seg 2 [2] (.seg 3 [14] (.seg 2 [15] (.seg 1 [16, 17, 18, 19, 20] .fin)))) .no))), [])] Try.func6 (by kernel_rfl) (by kernel_rfl) (Nat.le_of_ble_eq_true rfl) ?_
  intro O X hO hX
  rw [hO0, ← hO] at h
  unfold m_law45_BoundsTriangle at h
  have h0 := h; clear h
  cbv
  obtain ⟨x160, h1, h0⟩ := bindS h0
  obtain ⟨b49, hv, h1⟩ := bindS h1
  refine call_is hO hX (fn_law45_awake hO hv) (by kernel_rfl) [] rfl trivial rfl ?_
  cbv
  rcases condS h1 with ⟨hc1, h1⟩ | ⟨hc1, h1⟩
  · rw [hc1]
    cbv
    cases h1
    try dsimp only at h0
    replace h0 := condT h0 rfl
    obtain ⟨b50, hv, h0⟩ := bindS h0
    refine call_is hO hX (fn_law45_awake hO hv) (by kernel_rfl) [] rfl trivial rfl ?_
    cbv
    cases h0
    exact fin_ok hX rfl ⟨[], _, _, ⟨rfl, rfl⟩, rfl, rfl, rfl, rfl, by cbv; try simp⟩
  · rw [hc1]
    cbv
    cases h1
    try dsimp only at h0
    rcases condS h0 with ⟨hc2, h0⟩ | ⟨hc2, h0⟩
    · rw [hc2]
      cbv
      obtain ⟨b50, hv, h0⟩ := bindS h0
      refine call_is hO hX (fn_law45_awake hO hv) (by kernel_rfl) [] rfl trivial rfl ?_
      cbv
      cases h0
      exact fin_ok hX rfl ⟨[], _, _, ⟨rfl, rfl⟩, rfl, rfl, rfl, rfl, by cbv; try simp⟩
    · rw [hc2]
      cbv
      obtain ⟨⟨l68, n29⟩, hv, h0⟩ := bindS h0
      try dsimp only at h0
      refine call_is hO hX (fn_bounds_Tight hO hv) (by kernel_rfl) [0] rfl ⟨rfl, rfl, trivial⟩ rfl ?_
      cbv
      rcases condS h0 with ⟨hc3, h0⟩ | ⟨hc3, h0⟩
      · rw [hc3]
        cbv
        cases h0
        exact fin_ok hX rfl ⟨[], _, _, ⟨rfl, rfl⟩, rfl, rfl, rfl, rfl, by cbv; try simp⟩
      · rw [hc3]
        cbv
        obtain ⟨x164, h1, h0⟩ := bindS h0
        rcases condS h1 with ⟨hc4, h1⟩ | ⟨hc4, h1⟩
        · rw [hc4]
          cbv
          cases h1
          try dsimp only at h0
          replace h0 := condT h0 rfl
          cases h0
          exact fin_ok hX rfl ⟨[], _, _, ⟨rfl, rfl⟩, rfl, rfl, rfl, rfl, by cbv; try simp⟩
        · rw [hc4]
          cbv
          obtain ⟨b52, hv, h1⟩ := bindS h1
          refine call_is hO hX (fn_slices_ContainsFunc_4 hO hv) (by kernel_rfl) [2, 1] rfl ⟨rfl, rfl, rfl, rfl, trivial⟩ rfl ?_
          cbv
          rcases condS h1 with ⟨hc5, h1⟩ | ⟨hc5, h1⟩
          · rw [hc5]
            cbv
            cases h1
            try dsimp only at h0
            replace h0 := condT h0 rfl
            cases h0
            exact fin_ok hX rfl ⟨[], _, _, ⟨rfl, rfl⟩, rfl, rfl, rfl, rfl, by cbv; try simp⟩
          · rw [hc5]
            cbv
            obtain ⟨b53, hv, h1⟩ := bindS h1
            refine call_is hO hX (fn_ref45_Valid hO hv) (by kernel_rfl) [0] rfl ⟨rfl, rfl, trivial⟩ rfl ?_
            cbv
            cases h1
            try dsimp only at h0
            rcases condS h0 with ⟨hc6, h0⟩ | ⟨hc6, h0⟩
            · rw [hc6]
              cbv
              cases h0
              exact fin_ok hX rfl ⟨[], _, _, ⟨rfl, rfl⟩, rfl, rfl, rfl, rfl, by cbv; try simp⟩
            · rw [hc6]
              cbv
              obtain ⟨e1, hi, h0⟩ := bindS h0
              obtain ⟨I1, hI1, hi⟩ := loopS hi
              refine loop1 tab_holds eqs_holds mixed [(11, (.seg 1 [0, 1, 2, 3, 4, 5, 6, 7, 8, 9, 10, 11] .fin), []), (14, (.seg 1 [0, 1, 2, 3, 4, 5, 6, 7, 8, 9] .fin), []), (18, (.seg 1 [0, 1, 2, 3, 4, 5, 6, 7, 8, 9, 10, 11, 12, 13, 14, 15, 16, 17, 18, 19, 20, 21, 22, 23, 24, 25, 26, 27, 28, 29, 30, 31, 32, 33, 34, 35, 36, 37, 38, 39, 40, 41, 42] .fin), []), (23, (.seg 1 [0, 1, 3, 4, 5, 6, 7, 8, 9, 10, 11, 12] (.alt 2 (.seg 2 [13] (.seg 3 [14] (.seg 2 [15] (.seg 1 [16, 17, 18, 19, 20] .fin)))) (.alt 13 (.seg 2 [2] (.seg 3 [14] (.seg 2 [15] (.seg 1 [16, 17, 18, 19, 20] .fin)))) .no))), [])] hO hX I1 (fun y => [(26, .junk), (29, .junk), (30, .junk), (37, .junk), (42, .junk), (43, .junk), (54, .c (.int .i64 y.2))]) (fun _ => []) (fun y => y.1) _ (by kernel_rfl) hi (by cbv; try simp) ?_
              refine allp ?_
              intro n1
              intro x165 hi
              cbv
              rw [hI1] at hi
              obtain ⟨n1, rfl, x1, h1, hi1⟩ := iterS hi
              unfold m_law45_BoundsTriangle_L1 at h1
              try dsimp only at h1
              rcases condS h1 with ⟨hc7, h1⟩ | ⟨hc7, h1⟩
              · rw [hc7]
                cbv
                obtain ⟨hg8, h1⟩ := grdS h1
                refine ⟨idx_of hO hg8, ?_⟩
                obtain ⟨hg9, h1⟩ := grdS h1
                refine ⟨kin_of hO hg9, ?_⟩
                obtain ⟨hg10, h1⟩ := grdS h1
                refine ⟨idx_of hO hg10, ?_⟩
                obtain ⟨hg11, h1⟩ := grdS h1
                refine ⟨kin_of hO hg11, ?_⟩
                obtain ⟨hg12, h1⟩ := grdS h1
                refine ⟨idx_of hO hg12, ?_⟩
                obtain ⟨hg13, h1⟩ := grdS h1
                refine ⟨kin_of hO hg13, ?_⟩
                rcases condS h1 with ⟨hc14, h1⟩ | ⟨hc14, h1⟩
                · rw [hc14]
                  cbv
                  cases h1
                  cases exitI hi1
                  try dsimp only at h0
                  cases h0
                  exact fin_ok hX rfl ⟨[], _, _, ⟨rfl, rfl⟩, rfl, rfl, rfl, rfl, by cbv; try simp⟩
                · rw [hc14]
                  cbv
                  obtain ⟨hg15, h1⟩ := grdS h1
                  refine ⟨inr_of hO hg15, ?_⟩
                  cases h1
                  exact ⟨_, [0, 1, 2], nextI hI1 hi1, by cbv; try simp, by first | exact Nat.lt_succ_self _ | omega⟩
              · rw [hc7]
                cbv
                cases h1
                cases exitI hi1
                try dsimp only at h0
                obtain ⟨hg16, h0⟩ := grdS h0
                refine ⟨inr_of hO hg16, ?_⟩
                obtain ⟨hg17, h0⟩ := grdS h0
                refine ⟨nz_of hO hg17, ?_⟩
                obtain ⟨hg18, h0⟩ := grdS h0
                refine ⟨inr_of hO hg18, ?_⟩
                refine ⟨nz_of hO hg17, ?_⟩
                obtain ⟨e1, hi, h0⟩ := bindS h0
                obtain ⟨I2, hI2, hi⟩ := loopS hi
                refine loop1 tab_holds eqs_holds mixed [(11, (.seg 1 [0, 1, 2, 3, 4, 5, 6, 7, 8, 9, 10, 11] .fin), []), (14, (.seg 1 [0, 1, 2, 3, 4, 5, 6, 7, 8, 9] .fin), []), (18, (.seg 1 [0, 1, 2, 3, 4, 5, 6, 7, 8, 9, 10, 11, 12, 13, 14, 15, 16, 17, 18, 19, 20, 21, 22, 23, 24, 25, 26, 27, 28, 29, 30, 31, 32, 33, 34, 35, 36, 37, 38, 39, 40, 41, 42] .fin), []), (23, (.seg 1 [0, 1, 3, 4, 5, 6, 7, 8, 9, 10, 11, 12] (.alt 2 (.seg 2 [13] (.seg 3 [14] (.seg 2 [15] (.seg 1 [16, 17, 18, 19, 20] .fin)))) (.alt 13 (.seg 2 [2] (.seg 3 [14] (.seg 2 [15] (.seg 1 [16, 17, 18, 19, 20] .fin)))) .no))), [])] hO hX I2 (fun y => [(80, .c (.int .i64 y.2))]) (fun _ => []) (fun y => y.1) _ (by kernel_rfl) hi (by cbv; try simp) ?_
                refine allp ?_
                intro n2
                intro x166 hi
                cbv
                rw [hI2] at hi
                obtain ⟨n2, rfl, x2, h1, hi2⟩ := iterS hi
                unfold m_law45_BoundsTriangle_L2 at h1
                try dsimp only at h1
                rcases condS h1 with ⟨hc19, h1⟩ | ⟨hc19, h1⟩
                · rw [hc19]
                  cbv
                  obtain ⟨x169, h2, h1⟩ := bindS h1
                  rcases condS h2 with ⟨hc20, h2⟩ | ⟨hc20, h2⟩
                  · rw [hc20]
                    cbv
                    rcases condS h2 with ⟨hc21, h2⟩ | ⟨hc21, h2⟩
                    · rw [hc21]
                      cbv
                      obtain ⟨hg22, h2⟩ := grdS h2
                      refine ⟨idx_of hO hg22, ?_⟩
                      obtain ⟨hg23, h2⟩ := grdS h2
                      refine ⟨kin_of hO hg23, ?_⟩
                      obtain ⟨hg24, h2⟩ := grdS h2
                      refine ⟨idx_of hO hg24, ?_⟩
                      obtain ⟨hg25, h2⟩ := grdS h2
                      refine ⟨kin_of hO hg25, ?_⟩
                      obtain ⟨hg26, h2⟩ := grdS h2
                      refine ⟨idx_of hO hg26, ?_⟩
                      obtain ⟨hg27, h2⟩ := grdS h2
                      refine ⟨kin_of hO hg27, ?_⟩
                      obtain ⟨hg28, h2⟩ := grdS h2
                      refine ⟨idx_of hO hg28, ?_⟩
                      obtain ⟨hg29, h2⟩ := grdS h2
                      refine ⟨kin_of hO hg29, ?_⟩
                      refine ⟨idx_of hO hg22, ?_⟩
                      refine ⟨kin_of hO hg23, ?_⟩
                      obtain ⟨hg30, h2⟩ := grdS h2
                      refine ⟨idx_of hO hg30, ?_⟩
                      obtain ⟨hg31, h2⟩ := grdS h2
                      refine ⟨kin_of hO hg31, ?_⟩
                      refine ⟨idx_of hO hg22, ?_⟩
                      refine ⟨kin_of hO hg23, ?_⟩
                      refine ⟨idx_of hO hg24, ?_⟩
                      refine ⟨kin_of hO hg25, ?_⟩
                      refine ⟨idx_of hO hg26, ?_⟩
                      refine ⟨kin_of hO hg27, ?_⟩
                      refine ⟨idx_of hO hg28, ?_⟩
                      refine ⟨kin_of hO hg29, ?_⟩
                      obtain ⟨hg32, h2⟩ := grdS h2
                      refine ⟨inr_of hO hg32, ?_⟩
                      cases h2
                      try dsimp only at h1
                      rcases condS h1 with ⟨hc33, h1⟩ | ⟨hc33, h1⟩
                      · rw [hc33]
                        cbv
                        cases h1
                        cases exitI hi2
                        try dsimp only at h0
                        cases h0
                        exact fin_ok hX rfl ⟨[], _, _, ⟨rfl, rfl⟩, rfl, rfl, rfl, rfl, by cbv; try simp⟩
                      · rw [hc33]
                        cbv
                        obtain ⟨hg34, h1⟩ := grdS h1
                        refine ⟨inr_of hO hg34, ?_⟩
                        cases h1
                        exact ⟨_, [0, 1, 2], nextI hI2 hi2, by cbv; try simp, by first | exact Nat.lt_succ_self _ | omega⟩
                    · rw [hc21]
                      cbv
                      obtain ⟨hg35, h2⟩ := grdS h2
                      refine ⟨idx_of hO hg35, ?_⟩
                      obtain ⟨hg36, h2⟩ := grdS h2
                      refine ⟨kin_of hO hg36, ?_⟩
                      obtain ⟨hg37, h2⟩ := grdS h2
                      refine ⟨idx_of hO hg37, ?_⟩
                      obtain ⟨hg38, h2⟩ := grdS h2
                      refine ⟨kin_of hO hg38, ?_⟩
                      obtain ⟨hg39, h2⟩ := grdS h2
                      refine ⟨idx_of hO hg39, ?_⟩
                      obtain ⟨hg40, h2⟩ := grdS h2
                      refine ⟨kin_of hO hg40, ?_⟩
                      obtain ⟨hg41, h2⟩ := grdS h2
                      refine ⟨idx_of hO hg41, ?_⟩
                      obtain ⟨hg42, h2⟩ := grdS h2
                      refine ⟨kin_of hO hg42, ?_⟩
                      cases h2
                      try dsimp only at h1
                      replace h1 := condF h1 rfl
                      obtain ⟨hg43, h1⟩ := grdS h1
                      refine ⟨inr_of hO hg43, ?_⟩
                      cases h1
                      exact ⟨_, [0, 1, 2], nextI hI2 hi2, by cbv; try simp, by first | exact Nat.lt_succ_self _ | omega⟩
                  · rw [hc20]
                    cbv
                    obtain ⟨hg44, h2⟩ := grdS h2
                    refine ⟨idx_of hO hg44, ?_⟩
                    obtain ⟨hg45, h2⟩ := grdS h2
                    refine ⟨kin_of hO hg45, ?_⟩
                    obtain ⟨hg46, h2⟩ := grdS h2
                    refine ⟨idx_of hO hg46, ?_⟩
                    obtain ⟨hg47, h2⟩ := grdS h2
                    refine ⟨kin_of hO hg47, ?_⟩
                    cases h2
                    try dsimp only at h1
                    replace h1 := condF h1 rfl
                    obtain ⟨hg48, h1⟩ := grdS h1
                    refine ⟨inr_of hO hg48, ?_⟩
                    cases h1
                    exact ⟨_, [0, 1, 2], nextI hI2 hi2, by cbv; try simp, by first | exact Nat.lt_succ_self _ | omega⟩
                · rw [hc19]
                  cbv
                  cases h1
                  cases exitI hi2
                  try dsimp only at h0
                  obtain ⟨x171, h1, h0⟩ := bindS h0
                  rcases condS h1 with ⟨hc49, h1⟩ | ⟨hc49, h1⟩
                  · rw [hc49]
                    cbv
                    obtain ⟨hg50, h1⟩ := grdS h1
                    refine ⟨idx_of hO hg50, ?_⟩
                    obtain ⟨hg51, h1⟩ := grdS h1
                    refine ⟨kin_of hO hg51, ?_⟩
                    obtain ⟨hg52, h1⟩ := grdS h1
                    refine ⟨idx_of hO hg52, ?_⟩
                    obtain ⟨hg53, h1⟩ := grdS h1
                    refine ⟨kin_of hO hg53, ?_⟩
                    cases h1
                    try dsimp only at h0
                    replace h0 := condT h0 rfl
                    cases h0
                    exact fin_ok hX rfl ⟨[], _, _, ⟨rfl, rfl⟩, rfl, rfl, rfl, rfl, by cbv; try simp⟩
                  · rw [hc49]
                    cbv
                    obtain ⟨hg54, h1⟩ := grdS h1
                    refine ⟨idx_of hO hg54, ?_⟩
                    obtain ⟨hg55, h1⟩ := grdS h1
                    refine ⟨kin_of hO hg55, ?_⟩
                    obtain ⟨hg56, h1⟩ := grdS h1
                    refine ⟨idx_of hO hg56, ?_⟩
                    obtain ⟨hg57, h1⟩ := grdS h1
                    refine ⟨kin_of hO hg57, ?_⟩
                    cases h1
                    try dsimp only at h0
                    refine ⟨idx_of hO hg54, ?_⟩
                    refine ⟨kin_of hO hg55, ?_⟩
                    refine ⟨idx_of hO hg56, ?_⟩
                    refine ⟨kin_of hO hg57, ?_⟩
                    rcases condS h0 with ⟨hc58, h0⟩ | ⟨hc58, h0⟩
                    · rw [hc58]
                      cbv
                      cases h0
                      exact fin_ok hX rfl ⟨[], _, _, ⟨rfl, rfl⟩, rfl, rfl, rfl, rfl, by cbv; try simp⟩
                    · rw [hc58]
                      cbv
                      refine ⟨?_, ?_, trivial⟩
                      · refine ⟨idx_of hO hg54, ?_⟩
                        refine ⟨kin_of hO hg55, ?_⟩
                        refine ⟨idx_of hO hg56, ?_⟩
                        refine ⟨kin_of hO hg57, ?_⟩
                        obtain ⟨l69, hv, h0⟩ := bindS h0
                        refine call_is hO hX (fn_clone_i3 hO hv) (by kernel_rfl) [0] rfl ⟨rfl, rfl, trivial⟩ rfl ?_
                        cbv
                        obtain ⟨hg59, h0⟩ := grdS h0
                        refine ⟨room_of hO hg59, ?_⟩
                        obtain ⟨hg60, h0⟩ := grdS h0
                        refine ⟨room_of hO hg60, ?_⟩
                        obtain ⟨⟨l70, n31⟩, hv, h0⟩ := bindS h0
                        try dsimp only at h0
                        refine call_is hO hX (fn_bounds_Tight hO hv) (by kernel_rfl) [5] rfl ⟨rfl, rfl, trivial⟩ rfl ?_
                        cbv
                        obtain ⟨x173, h1, h0⟩ := bindS h0
                        rcases condS h1 with ⟨hc61, h1⟩ | ⟨hc61, h1⟩
                        · rw [hc61]
                          cbv
                          obtain ⟨b54, hv, h1⟩ := bindS h1
                          refine call_is hO hX (fn_ref45_Same hO hv) (by kernel_rfl) [2, 6] rfl ⟨rfl, rfl, rfl, rfl, trivial⟩ rfl ?_
                          cbv
                          cases h1
                          try dsimp only at h0
                          cases h0
                          exact fin_ok hX rfl ⟨[], _, _, ⟨rfl, rfl⟩, rfl, rfl, rfl, rfl, by cbv; try simp⟩
                        · rw [hc61]
                          cbv
                          cases h1
                          try dsimp only at h0
                          cases h0
                          exact fin_ok hX rfl ⟨[], _, _, ⟨rfl, rfl⟩, rfl, rfl, rfl, rfl, by cbv; try simp⟩
                      · refine ⟨idx_of hO hg54, ?_⟩
                        refine ⟨kin_of hO hg55, ?_⟩
                        refine ⟨idx_of hO hg56, ?_⟩
                        refine ⟨kin_of hO hg57, ?_⟩
                        obtain ⟨l69, hv, h0⟩ := bindS h0
                        refine call_is hO hX (fn_clone_i3 hO hv) (by kernel_rfl) [0] rfl ⟨rfl, rfl, trivial⟩ rfl ?_
                        cbv
                        obtain ⟨hg62, h0⟩ := grdS h0
                        refine ⟨room_of hO hg62, ?_⟩
                        obtain ⟨hg63, h0⟩ := grdS h0
                        refine ⟨room_of hO hg63, ?_⟩
                        obtain ⟨⟨l70, n31⟩, hv, h0⟩ := bindS h0
                        try dsimp only at h0
                        refine call_is hO hX (fn_bounds_Tight hO hv) (by kernel_rfl) [5] rfl ⟨rfl, rfl, trivial⟩ rfl ?_
                        cbv
                        obtain ⟨x173, h1, h0⟩ := bindS h0
                        rcases condS h1 with ⟨hc64, h1⟩ | ⟨hc64, h1⟩
                        · rw [hc64]
                          cbv
                          obtain ⟨b54, hv, h1⟩ := bindS h1
                          refine call_is hO hX (fn_ref45_Same hO hv) (by kernel_rfl) [2, 6] rfl ⟨rfl, rfl, rfl, rfl, trivial⟩ rfl ?_
                          cbv
                          cases h1
                          try dsimp only at h0
                          cases h0
                          exact fin_ok hX rfl ⟨[], _, _, ⟨rfl, rfl⟩, rfl, rfl, rfl, rfl, by cbv; try simp⟩
                        · rw [hc64]
                          cbv
                          cases h1
                          try dsimp only at h0
                          cases h0
                          exact fin_ok hX rfl ⟨[], _, _, ⟨rfl, rfl⟩, rfl, rfl, rfl, rfl, by cbv; try simp⟩
end Go.Proofs.Ytegmjohhgedakaa
