/-
  The code does what its models say (printed by lift.py).
-/
import Derived.Test.YtegmjohhgedakaaBmM
import Derived.Test.YtegmjohhgedakaaBW9
import Derived.Test.YtegmjohhgedakaaSrtB2
import Derived.Test.YtegmjohhgedakaaSrtB2
namespace Go.Proofs.Ytegmjohhgedakaa
open Go.RowKit
set_option maxRecDepth 100000

set_option maxHeartbeats 40000000 in
theorem fn_bounds_Minimal {O0 : Ops} (hO0 : O0 = std) {n_1 : Int} {l_1 : List (Int × Int × Int)} {r1 : List Int} {r2 : Int} (h : m_bounds_Minimal O0 n_1 l_1 = some (r1, r2)) :
    Fn Try.prog 36 [.c (.int .i64 n_1), .c (.sl 0)] [.arr false .i3 l_1] (fun v c => v = .tup [.one (.sl 1), .one (.int .i64 r2)] ∧ c = [.own 3 .i1 r1]) := by
  refine fn_run tab_holds eqs_holds mixed [] Try.func36 (by kernel_rfl) (by kernel_rfl) (Nat.le_of_ble_eq_true rfl) ?_
  intro O X hO hX
  rw [hO0, ← hO] at h
  unfold m_bounds_Minimal at h
  have h0 := h; clear h
  cbv
  obtain ⟨⟨l80, n55⟩, hv, h0⟩ := bindS h0
  try dsimp only at h0
  refine call_is hO hX (fn_bounds_Cycle hO hv) (by kernel_rfl) [0] rfl ⟨rfl, rfl, trivial⟩ rfl ?_
  cbv
  rcases condS h0 with ⟨hc1, h0⟩ | ⟨hc1, h0⟩
  · rw [hc1]
    cbv
    cases h0
    exact fin_ok hX rfl ⟨[3], _, _, ⟨rfl, rfl⟩, rfl, rfl, rfl, rfl, by cbv; try simp⟩
  · rw [hc1]
    cbv
    obtain ⟨l81, hv, h0⟩ := bindS h0
    refine srt_int hO hX (i := 2) rfl hv ?_
    cbv
    cases h0
    exact fin_ok hX rfl ⟨[2], _, _, ⟨rfl, rfl⟩, rfl, rfl, rfl, rfl, by cbv; try simp⟩
set_option maxHeartbeats 40000000 in
theorem fn_cmp_isNaN {O0 : Ops} (hO0 : O0 = std) {x_1 : Int} {r1 : Bool} (h : m_cmp_isNaN O0 x_1 = some r1) :
    Fn Try.prog 65 [.c (.int .i64 x_1)] [] (fun v c => v = .c (.bool r1) ∧ c = []) := by
  refine fn_run tab_holds eqs_holds mixed [] Try.func65 (by kernel_rfl) (by kernel_rfl) (Nat.le_of_ble_eq_true rfl) ?_
  intro O X hO hX
  rw [hO0, ← hO] at h
  unfold m_cmp_isNaN at h
  have h0 := h; clear h
  cbv
  cases h0
  exact fin_ok hX rfl ⟨[], _, _, ⟨rfl, rfl⟩, rfl, rfl, rfl, rfl, by cbv; try simp⟩
set_option maxHeartbeats 40000000 in
theorem fn_cmp_Less {O0 : Ops} (hO0 : O0 = std) {x_1 : Int} {y_1 : Int} {r1 : Bool} (h : m_cmp_Less O0 x_1 y_1 = some r1) :
    Fn Try.prog 54 [.c (.int .i64 x_1), .c (.int .i64 y_1)] [] (fun v c => v = .c (.bool r1) ∧ c = []) := by
  refine fn_run tab_holds eqs_holds mixed [] Try.func54 (by kernel_rfl) (by kernel_rfl) (Nat.le_of_ble_eq_true rfl) ?_
  intro O X hO hX
  rw [hO0, ← hO] at h
  unfold m_cmp_Less at h
  have h0 := h; clear h
  cbv
  obtain ⟨x241, h1, h0⟩ := bindS h0
  obtain ⟨b86, hv, h1⟩ := bindS h1
  refine call_is hO hX (fn_cmp_isNaN hO hv) (by kernel_rfl) [] rfl trivial rfl ?_
  cbv
  rcases condS h1 with ⟨hc1, h1⟩ | ⟨hc1, h1⟩
  · rw [hc1]
    cbv
    obtain ⟨b87, hv, h1⟩ := bindS h1
    refine call_is hO hX (fn_cmp_isNaN hO hv) (by kernel_rfl) [] rfl trivial rfl ?_
    cbv
    rcases condS h1 with ⟨hc2, h1⟩ | ⟨hc2, h1⟩
    · rw [hc2]
      cbv
      cases h1
      try dsimp only at h0
      cases h0
      exact fin_ok hX rfl ⟨[], _, _, ⟨rfl, rfl⟩, rfl, rfl, rfl, rfl, by cbv; try simp⟩
    · rw [hc2]
      cbv
      cases h1
      try dsimp only at h0
      cases h0
      exact fin_ok hX rfl ⟨[], _, _, ⟨rfl, rfl⟩, rfl, rfl, rfl, rfl, by cbv; try simp⟩
  · rw [hc1]
    cbv
    cases h1
    try dsimp only at h0
    cases h0
    exact fin_ok hX rfl ⟨[], _, _, ⟨rfl, rfl⟩, rfl, rfl, rfl, rfl, by cbv; try simp⟩
set_option maxHeartbeats 40000000 in
theorem fn_slices_IsSorted {O0 : Ops} (hO0 : O0 = std) {x_1 : List Int} {r1 : Bool} (h : m_slices_IsSorted O0 x_1 = some r1) :
    Fn Try.prog 37 [.c (.sl 0)] [.arr false .i1 x_1] (fun v c => v = .c (.bool r1) ∧ c = []) := by
  refine fn_run tab_holds eqs_holds mixed [(4, (.seg 1 [0, 1, 2, 3, 4, 5, 6, 7, 8] (.seg 2 [9] .fin)), [])] Try.func37 (by kernel_rfl) (by kernel_rfl) (Nat.le_of_ble_eq_true rfl) ?_
  intro O X hO hX
  rw [hO0, ← hO] at h
  unfold m_slices_IsSorted at h
  have h0 := h; clear h
  cbv
  obtain ⟨hg1, h0⟩ := grdS h0
  refine ⟨inr_of hO hg1, ?_⟩
  obtain ⟨e1, hi, h0⟩ := bindS h0
  obtain ⟨I1, hI1, hi⟩ := loopS hi
  refine loop1 tab_holds eqs_holds mixed [(4, (.seg 1 [0, 1, 2, 3, 4, 5, 6, 7, 8] (.seg 2 [9] .fin)), [])] hO hX I1 (fun y => [(3, .c (.int .i64 y.2))]) (fun _ => []) (fun y => y.1) _ (by kernel_rfl) hi (by cbv; try simp) ?_
  refine allp ?_
  intro n1
  intro i21 hi
  cbv
  rw [hI1] at hi
  obtain ⟨n1, rfl, x1, h1, hi1⟩ := iterS hi
  unfold m_slices_IsSorted_L1 at h1
  try dsimp only at h1
  rcases condS h1 with ⟨hc2, h1⟩ | ⟨hc2, h1⟩
  · rw [hc2]
    cbv
    obtain ⟨hg3, h1⟩ := grdS h1
    refine ⟨idx_of hO hg3, ?_⟩
    obtain ⟨hg4, h1⟩ := grdS h1
    refine ⟨kin_of hO hg4, ?_⟩
    obtain ⟨hg5, h1⟩ := grdS h1
    refine ⟨inr_of hO hg5, ?_⟩
    obtain ⟨hg6, h1⟩ := grdS h1
    refine ⟨idx_of hO hg6, ?_⟩
    obtain ⟨hg7, h1⟩ := grdS h1
    refine ⟨kin_of hO hg7, ?_⟩
    obtain ⟨b88, hv, h1⟩ := bindS h1
    refine call_is hO hX (fn_cmp_Less hO hv) (by kernel_rfl) [] rfl trivial rfl ?_
    cbv
    rcases condS h1 with ⟨hc8, h1⟩ | ⟨hc8, h1⟩
    · rw [hc8]
      cbv
      cases h1
      cases exitI hi1
      try dsimp only at h0
      cases h0
      exact fin_ok hX rfl ⟨[], _, _, ⟨rfl, rfl⟩, rfl, rfl, rfl, rfl, by cbv; try simp⟩
    · rw [hc8]
      cbv
      refine ⟨inr_of hO hg5, ?_⟩
      cases h1
      exact ⟨_, [0], nextI hI1 hi1, by cbv; try simp, by first | exact Nat.lt_succ_self _ | omega⟩
  · rw [hc2]
    cbv
    cases h1
    cases exitI hi1
    try dsimp only at h0
    cases h0
    exact fin_ok hX rfl ⟨[], _, _, ⟨rfl, rfl⟩, rfl, rfl, rfl, rfl, by cbv; try simp⟩
set_option maxHeartbeats 40000000 in
theorem fn_ref45_Part {O0 : Ops} (hO0 : O0 = std) {l_1 : List (Int × Int × Int)} {at_1 : List Int} {r1 : List (Int × Int × Int)} (h : m_ref45_Part O0 l_1 at_1 = some r1) :
    Fn Try.prog 40 [.c (.sl 0), .c (.sl 1)] [.arr false .i3 l_1, .arr false .i1 at_1] (fun v c => v = .c (.sl 2) ∧ c = [.own 32 .i3 r1]) := by
  refine fn_run tab_holds eqs_holds mixed [] Try.func40 (by kernel_rfl) (by kernel_rfl) (Nat.le_of_ble_eq_true rfl) ?_
  intro O X hO hX
  rw [hO0, ← hO] at h
  unfold m_ref45_Part at h
  have h0 := h; clear h
  cbv
  obtain ⟨l86, hi, h0⟩ := bindS h0
  obtain ⟨I1, hI1, hi⟩ := loopS hi
  refine loop1 tab_holds eqs_holds mixed [] hO hX I1 (fun y => [(4, .junk), (5, .c (.sl 3)), (6, .c (.int .i64 y.2.1))]) (fun y => [(3, .own 32 .i3 y.2.2)]) (fun y => y.1) _ (by kernel_rfl) hi (by cbv; try simp) ?_
  refine allp ?_
  intro n1
  refine allp ?_
  intro i23
  intro l85 hi
  cbv
  rw [hI1] at hi
  obtain ⟨n1, rfl, x1, h1, hi1⟩ := iterS hi
  unfold m_ref45_Part_L1 at h1
  try dsimp only at h1
  rcases condS h1 with ⟨hc1, h1⟩ | ⟨hc1, h1⟩
  · rw [hc1]
    cbv
    obtain ⟨hg2, h1⟩ := grdS h1
    refine ⟨idx_of hO hg2, ?_⟩
    obtain ⟨hg3, h1⟩ := grdS h1
    refine ⟨kin_of hO hg3, ?_⟩
    obtain ⟨hg4, h1⟩ := grdS h1
    refine ⟨idx_of hO hg4, ?_⟩
    obtain ⟨hg5, h1⟩ := grdS h1
    refine ⟨kin_of hO hg5, ?_⟩
    obtain ⟨hg6, h1⟩ := grdS h1
    refine ⟨room_of hO hg6, ?_⟩
    obtain ⟨hg7, h1⟩ := grdS h1
    refine ⟨room_of hO hg7, ?_⟩
    obtain ⟨hg8, h1⟩ := grdS h1
    refine ⟨inr_of hO hg8, ?_⟩
    cases h1
    exact ⟨_, [0, 1, 2, 5], nextI hI1 hi1, by cbv; try simp, by first | exact Nat.lt_succ_self _ | omega⟩
  · rw [hc1]
    cbv
    cases h1
    cases exitI hi1
    try dsimp only at h0
    cases h0
    exact fin_ok hX rfl ⟨[3], _, _, ⟨rfl, rfl⟩, rfl, rfl, rfl, rfl, by cbv; try simp⟩
set_option maxHeartbeats 40000000 in
theorem fn_law45_BoundsMinimal {O0 : Ops} (hO0 : O0 = std) {n_1 : Int} {l_1 : List (Int × Int × Int)} {r1 : Bool} (h : m_law45_BoundsMinimal O0 n_1 l_1 = some r1) :
    Fn Try.prog 10 [.c (.int .i64 n_1), .c (.sl 0)] [.arr false .i3 l_1] (fun v c => v = .c (.bool r1) ∧ c = []) := by
  refine fn_run tab_holds eqs_holds mixed [] Try.func10 (by kernel_rfl) (by kernel_rfl) (Nat.le_of_ble_eq_true rfl) ?_
  intro O X hO hX
  rw [hO0, ← hO] at h
  unfold m_law45_BoundsMinimal at h
  have h0 := h; clear h
  cbv
  obtain ⟨x236, h1, h0⟩ := bindS h0
  obtain ⟨b81, hv, h1⟩ := bindS h1
  refine call_is hO hX (fn_law45_awake hO hv) (by kernel_rfl) [] rfl trivial rfl ?_
  cbv
  rcases condS h1 with ⟨hc1, h1⟩ | ⟨hc1, h1⟩
  · rw [hc1]
    cbv
    cases h1
    try dsimp only at h0
    replace h0 := condT h0 rfl
    obtain ⟨b84, hv, h0⟩ := bindS h0
    refine call_is hO hX (fn_law45_awake hO hv) (by kernel_rfl) [] rfl trivial rfl ?_
    cbv
    cases h0
    exact fin_ok hX rfl ⟨[], _, _, ⟨rfl, rfl⟩, rfl, rfl, rfl, rfl, by cbv; try simp⟩
  · rw [hc1]
    cbv
    obtain ⟨b82, hv, h1⟩ := bindS h1
    refine call_is hO hX (fn_law45_long hO hv) (by kernel_rfl) [0] rfl ⟨rfl, rfl, trivial⟩ rfl ?_
    cbv
    rcases condS h1 with ⟨hc2, h1⟩ | ⟨hc2, h1⟩
    · rw [hc2]
      cbv
      cases h1
      try dsimp only at h0
      replace h0 := condT h0 rfl
      obtain ⟨b84, hv, h0⟩ := bindS h0
      refine call_is hO hX (fn_law45_awake hO hv) (by kernel_rfl) [] rfl trivial rfl ?_
      cbv
      cases h0
      exact fin_ok hX rfl ⟨[], _, _, ⟨rfl, rfl⟩, rfl, rfl, rfl, rfl, by cbv; try simp⟩
    · rw [hc2]
      cbv
      obtain ⟨b83, hv, h1⟩ := bindS h1
      refine call_is hO hX (fn_ref45_Valid hO hv) (by kernel_rfl) [0] rfl ⟨rfl, rfl, trivial⟩ rfl ?_
      cbv
      cases h1
      try dsimp only at h0
      rcases condS h0 with ⟨hc3, h0⟩ | ⟨hc3, h0⟩
      · rw [hc3]
        cbv
        obtain ⟨b84, hv, h0⟩ := bindS h0
        refine call_is hO hX (fn_law45_awake hO hv) (by kernel_rfl) [] rfl trivial rfl ?_
        cbv
        cases h0
        exact fin_ok hX rfl ⟨[], _, _, ⟨rfl, rfl⟩, rfl, rfl, rfl, rfl, by cbv; try simp⟩
      · rw [hc3]
        cbv
        obtain ⟨⟨l82, n56⟩, hv, h0⟩ := bindS h0
        try dsimp only at h0
        refine call_is hO hX (fn_bounds_Minimal hO hv) (by kernel_rfl) [0] rfl ⟨rfl, rfl, trivial⟩ rfl ?_
        cbv
        obtain ⟨b85, hv, h0⟩ := bindS h0
        refine call_is hO hX (fn_ref45_Consistent hO hv) (by kernel_rfl) [0] rfl ⟨rfl, rfl, trivial⟩ rfl ?_
        cbv
        rcases condS h0 with ⟨hc4, h0⟩ | ⟨hc4, h0⟩
        · rw [hc4]
          cbv
          obtain ⟨x238, h1, h0⟩ := bindS h0
          rcases condS h1 with ⟨hc5, h1⟩ | ⟨hc5, h1⟩
          · rw [hc5]
            cbv
            cases h1
            try dsimp only at h0
            cases h0
            exact fin_ok hX rfl ⟨[], _, _, ⟨rfl, rfl⟩, rfl, rfl, rfl, rfl, by cbv; try simp⟩
          · rw [hc5]
            cbv
            cases h1
            try dsimp only at h0
            cases h0
            exact fin_ok hX rfl ⟨[], _, _, ⟨rfl, rfl⟩, rfl, rfl, rfl, rfl, by cbv; try simp⟩
        · rw [hc4]
          cbv
          obtain ⟨x243, h1, h0⟩ := bindS h0
          rcases condS h1 with ⟨hc6, h1⟩ | ⟨hc6, h1⟩
          · rw [hc6]
            cbv
            cases h1
            try dsimp only at h0
            replace h0 := condT h0 rfl
            cases h0
            exact fin_ok hX rfl ⟨[], _, _, ⟨rfl, rfl⟩, rfl, rfl, rfl, rfl, by cbv; try simp⟩
          · rw [hc6]
            cbv
            rcases condS h1 with ⟨hc7, h1⟩ | ⟨hc7, h1⟩
            · rw [hc7]
              cbv
              cases h1
              try dsimp only at h0
              replace h0 := condT h0 rfl
              cases h0
              exact fin_ok hX rfl ⟨[], _, _, ⟨rfl, rfl⟩, rfl, rfl, rfl, rfl, by cbv; try simp⟩
            · rw [hc7]
              cbv
              obtain ⟨b89, hv, h1⟩ := bindS h1
              refine call_is hO hX (fn_slices_IsSorted hO hv) (by kernel_rfl) [1] rfl ⟨rfl, rfl, trivial⟩ rfl ?_
              cbv
              rcases condS h1 with ⟨hc8, h1⟩ | ⟨hc8, h1⟩
              · rw [hc8]
                cbv
                cases h1
                try dsimp only at h0
                replace h0 := condT h0 rfl
                cases h0
                exact fin_ok hX rfl ⟨[], _, _, ⟨rfl, rfl⟩, rfl, rfl, rfl, rfl, by cbv; try simp⟩
              · rw [hc8]
                cbv
                obtain ⟨l83, hv, h1⟩ := bindS h1
                refine call_is hO hX (fn_clone_i1 hO hv) (by kernel_rfl) [1] rfl ⟨rfl, rfl, trivial⟩ rfl ?_
                cbv
                obtain ⟨l84, hv, h1⟩ := bindS h1
                refine cpt_int hO hX (i := 2) rfl hv ?_
                cbv
                rcases condS h1 with ⟨hc9, h1⟩ | ⟨hc9, h1⟩
                · rw [hc9]
                  cbv
                  cases h1
                  try dsimp only at h0
                  replace h0 := condT h0 rfl
                  cases h0
                  exact fin_ok hX rfl ⟨[], _, _, ⟨rfl, rfl⟩, rfl, rfl, rfl, rfl, by cbv; try simp⟩
                · rw [hc9]
                  cbv
                  rcases condS h1 with ⟨hc10, h1⟩ | ⟨hc10, h1⟩
                  · rw [hc10]
                    cbv
                    obtain ⟨hg11, h1⟩ := grdS h1
                    refine ⟨idx_of hO hg11, ?_⟩
                    obtain ⟨hg12, h1⟩ := grdS h1
                    refine ⟨kin_of hO hg12, ?_⟩
                    cases h1
                    try dsimp only at h0
                    replace h0 := condT h0 rfl
                    cases h0
                    exact fin_ok hX rfl ⟨[], _, _, ⟨rfl, rfl⟩, rfl, rfl, rfl, rfl, by cbv; try simp⟩
                  · rw [hc10]
                    cbv
                    obtain ⟨hg13, h1⟩ := grdS h1
                    refine ⟨idx_of hO hg13, ?_⟩
                    obtain ⟨hg14, h1⟩ := grdS h1
                    refine ⟨kin_of hO hg14, ?_⟩
                    obtain ⟨hg15, h1⟩ := grdS h1
                    refine ⟨inr_of hO hg15, ?_⟩
                    obtain ⟨hg16, h1⟩ := grdS h1
                    refine ⟨idx_of hO hg16, ?_⟩
                    obtain ⟨hg17, h1⟩ := grdS h1
                    refine ⟨kin_of hO hg17, ?_⟩
                    cases h1
                    try dsimp only at h0
                    rcases condS h0 with ⟨hc18, h0⟩ | ⟨hc18, h0⟩
                    · rw [hc18]
                      cbv
                      cases h0
                      exact fin_ok hX rfl ⟨[], _, _, ⟨rfl, rfl⟩, rfl, rfl, rfl, rfl, by cbv; try simp⟩
                    · rw [hc18]
                      cbv
                      obtain ⟨l87, hv, h0⟩ := bindS h0
                      refine call_is hO hX (fn_ref45_Part hO hv) (by kernel_rfl) [0, 1] rfl ⟨rfl, rfl, rfl, rfl, trivial⟩ rfl ?_
                      cbv
                      obtain ⟨b90, hv, h0⟩ := bindS h0
                      refine call_is hO hX (fn_ref45_Consistent hO hv) (by kernel_rfl) [4] rfl ⟨rfl, rfl, trivial⟩ rfl ?_
                      cbv
                      rcases condS h0 with ⟨hc19, h0⟩ | ⟨hc19, h0⟩
                      · rw [hc19]
                        cbv
                        cases h0
                        exact fin_ok hX rfl ⟨[], _, _, ⟨rfl, rfl⟩, rfl, rfl, rfl, rfl, by cbv; try simp⟩
                      · rw [hc19]
                        cbv
                        obtain ⟨e1, hi, h0⟩ := bindS h0
                        obtain ⟨I1, hI1, hi⟩ := loopS hi
                        refine loop1 tab_holds eqs_holds mixed [] hO hX I1 (fun y => [(21, .junk), (24, .junk), (25, .junk), (40, .junk), (45, .junk), (50, .junk), (51, .junk), (52, .junk), (54, .junk), (59, .junk), (60, .junk), (65, .junk), (66, .junk), (69, .junk), (77, .junk), (78, .junk), (80, .junk), (82, .c (.int .i64 y.2))]) (fun _ => []) (fun y => y.1) _ (by kernel_rfl) hi (by cbv; try simp) ?_
                        refine allp ?_
                        intro n1
                        intro x244 hi
                        cbv
                        rw [hI1] at hi
                        obtain ⟨n1, rfl, x1, h1, hi1⟩ := iterS hi
                        unfold m_law45_BoundsMinimal_L1 at h1
                        try dsimp only at h1
                        rcases condS h1 with ⟨hc20, h1⟩ | ⟨hc20, h1⟩
                        · rw [hc20]
                          cbv
                          obtain ⟨l88, hv, h1⟩ := bindS h1
                          refine call_is hO hX (fn_clone_i1 hO hv) (by kernel_rfl) [1] rfl ⟨rfl, rfl, trivial⟩ rfl ?_
                          cbv
                          obtain ⟨hg21, h1⟩ := grdS h1
                          refine ⟨inr_of hO hg21, ?_⟩
                          obtain ⟨l89, hv, h1⟩ := bindS h1
                          refine del_int hO hX (i := 5) rfl hv ?_
                          cbv
                          obtain ⟨l90, hv, h1⟩ := bindS h1
                          refine call_is hO hX (fn_ref45_Part hO hv) (by kernel_rfl) [0, 6] rfl ⟨rfl, rfl, rfl, rfl, trivial⟩ rfl ?_
                          cbv
                          obtain ⟨b91, hv, h1⟩ := bindS h1
                          refine call_is hO hX (fn_ref45_Consistent hO hv) (by kernel_rfl) [7] rfl ⟨rfl, rfl, trivial⟩ rfl ?_
                          cbv
                          rcases condS h1 with ⟨hc22, h1⟩ | ⟨hc22, h1⟩
                          · rw [hc22]
                            cbv
                            cases h1
                            cases exitI hi1
                            try dsimp only at h0
                            cases h0
                            exact fin_ok hX rfl ⟨[], _, _, ⟨rfl, rfl⟩, rfl, rfl, rfl, rfl, by cbv; try simp⟩
                          · rw [hc22]
                            cbv
                            refine ⟨inr_of hO hg21, ?_⟩
                            cases h1
                            exact ⟨_, [0, 1, 2, 3, 4], nextI hI1 hi1, by cbv; try simp, by first | exact Nat.lt_succ_self _ | omega⟩
                        · rw [hc20]
                          cbv
                          cases h1
                          cases exitI hi1
                          try dsimp only at h0
                          cases h0
                          exact fin_ok hX rfl ⟨[], _, _, ⟨rfl, rfl⟩, rfl, rfl, rfl, rfl, by cbv; try simp⟩
end Go.Proofs.Ytegmjohhgedakaa
