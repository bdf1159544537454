/-
  The code does what its models say (printed by lift.py).
-/
import Derived.Test.YtkdffpncpikdmaaRM
import Derived.Test.YtkdffpncpikdmaaSrtR
import Derived.Test.YtkdffpncpikdmaaSrtR
import Derived.Test.YtkdffpncpikdmaaRW1
import Derived.Test.YtkdffpncpikdmaaRW3
import Derived.Test.YtkdffpncpikdmaaRW13
import Derived.Test.YtkdffpncpikdmaaRW14
import Derived.Test.YtkdffpncpikdmaaRW23
namespace Go.Proofs.Ytkdffpncpikdmaa
open Go.RowKit
set_option maxRecDepth 100000

set_option maxHeartbeats 40000000 in
theorem fn_runs_Measure {O0 : Ops} (hO0 : O0 = std) {a_1 : List (Int × Int)} {r1 : Int} (h : m_runs_Measure O0 a_1 = some r1) :
    Fn Try.prog 62 [.c (.sl 0)] [.arr false .i2 a_1] (fun v c => v = .c (.int .i64 r1) ∧ c = []) := by
  refine fn_run tab_holds eqs_holds mixed [] Try.func62 (by kernel_rfl) (by kernel_rfl) (Nat.le_of_ble_eq_true rfl) ?_
  intro O X hO hX
  rw [hO0, ← hO] at h
  unfold m_runs_Measure at h
  have h0 := h; clear h
  cbv
  obtain ⟨b148, hv, h0⟩ := bindS h0
  refine call_is hO hX (fn_runs_Valid hO hv) (by kernel_rfl) [0] rfl ⟨rfl, rfl, trivial⟩ rfl ?_
  cbv
  rcases condS h0 with ⟨hc1, h0⟩ | ⟨hc1, h0⟩
  · rw [hc1]
    cbv
    cases h0
    exact fin_ok hX rfl ⟨[], _, _, ⟨rfl, rfl⟩, rfl, rfl, rfl, rfl, by cbv; try simp⟩
  · rw [hc1]
    cbv
    obtain ⟨n123, hi, h0⟩ := bindS h0
    obtain ⟨I1, hI1, hi⟩ := loopS hi
    refine loop1 tab_holds eqs_holds mixed [] hO hX I1 (fun y => [(3, .c (.int .i64 y.2.1)), (11, .c (.int .i64 y.2.2))]) (fun _ => []) (fun y => y.1) _ (by kernel_rfl) hi (by cbv; try simp) ?_
    refine allp ?_
    intro n1
    refine allp ?_
    intro n122
    intro x354 hi
    cbv
    rw [hI1] at hi
    obtain ⟨n1, rfl, x1, h1, hi1⟩ := iterS hi
    unfold m_runs_Measure_L1 at h1
    try dsimp only at h1
    rcases condS h1 with ⟨hc2, h1⟩ | ⟨hc2, h1⟩
    · rw [hc2]
      cbv
      obtain ⟨hg3, h1⟩ := grdS h1
      refine ⟨idx_of hO hg3, ?_⟩
      obtain ⟨hg4, h1⟩ := grdS h1
      refine ⟨kin_of hO hg4, ?_⟩
      obtain ⟨hg5, h1⟩ := grdS h1
      refine ⟨inr_of hO hg5, ?_⟩
      obtain ⟨hg6, h1⟩ := grdS h1
      refine ⟨inr_of hO hg6, ?_⟩
      obtain ⟨hg7, h1⟩ := grdS h1
      refine ⟨inr_of hO hg7, ?_⟩
      cases h1
      exact ⟨_, [0], nextI hI1 hi1, by cbv; try simp, by first | exact Nat.lt_succ_self _ | omega⟩
    · rw [hc2]
      cbv
      cases h1
      cases exitI hi1
      try dsimp only at h0
      cases h0
      exact fin_ok hX rfl ⟨[], _, _, ⟨rfl, rfl⟩, rfl, rfl, rfl, rfl, by cbv; try simp⟩
set_option maxHeartbeats 40000000 in
theorem fn_rectangle_Area {O0 : Ops} (hO0 : O0 = std) {l_1 : List (Int × Int × Int × Int)} {r1 : Int} (h : m_rectangle_Area O0 l_1 = some r1) :
    Fn Try.prog 37 [.c (.sl 0)] [.arr false .i4 l_1] (fun v c => v = .c (.int .i64 r1) ∧ c = []) := by
  refine fn_run tab_holds eqs_holds mixed [(14, (.seg 1 [0, 1, 2, 3, 4, 5, 6, 7, 8, 9, 10, 11, 12, 13, 14, 15] (.seg 2 [16] (.seg 2 [17] (.seg 1 [18] (.seg 2 [19] (.seg 1 [20, 21, 22, 23, 24] .fin)))))), [])] Try.func37 (by kernel_rfl) (by kernel_rfl) (Nat.le_of_ble_eq_true rfl) ?_
  intro O X hO hX
  rw [hO0, ← hO] at h
  unfold m_rectangle_Area at h
  have h0 := h; clear h
  cbv
  obtain ⟨n121, hv, h0⟩ := bindS h0
  refine call_is hO hX (fn_rectangle_check_2 hO hv) (by kernel_rfl) [1, 0] rfl ⟨rfl, rfl, rfl, rfl, trivial⟩ rfl ?_
  cbv
  rcases condS h0 with ⟨hc1, h0⟩ | ⟨hc1, h0⟩
  · rw [hc1]
    cbv
    cases h0
    exact fin_ok hX rfl ⟨[], _, _, ⟨rfl, rfl⟩, rfl, rfl, rfl, rfl, by cbv; try simp⟩
  · as_aux_lemma =>
    rw [hc1]
    cbv
    obtain ⟨l286, hi, h0⟩ := bindS h0
    obtain ⟨I1, hI1, hi⟩ := loopS hi
    refine loop1 tab_holds eqs_holds mixed [(14, (.seg 1 [0, 1, 2, 3, 4, 5, 6, 7, 8, 9, 10, 11, 12, 13, 14, 15] (.seg 2 [16] (.seg 2 [17] (.seg 1 [18] (.seg 2 [19] (.seg 1 [20, 21, 22, 23, 24] .fin)))))), [])] hO hX I1 (fun y => [(13, .junk), (3, .c (.sl 2)), (18, .c (.int .i64 y.2.1))]) (fun y => [(2, .own 3 .i1 y.2.2)]) (fun y => y.1) _ (by kernel_rfl) hi (by cbv; try simp) ?_
    refine allp ?_
    intro n1
    refine allp ?_
    intro x353
    intro l285 hi
    cbv
    rw [hI1] at hi
    obtain ⟨n1, rfl, x1, h1, hi1⟩ := iterS hi
    unfold m_rectangle_Area_L1 at h1
    try dsimp only at h1
    rcases condS h1 with ⟨hc2, h1⟩ | ⟨hc2, h1⟩
    · rw [hc2]
      cbv
      obtain ⟨hg3, h1⟩ := grdS h1
      refine ⟨idx_of hO hg3, ?_⟩
      obtain ⟨hg4, h1⟩ := grdS h1
      refine ⟨kin_of hO hg4, ?_⟩
      obtain ⟨hg5, h1⟩ := grdS h1
      refine ⟨room_of hO hg5, ?_⟩
      obtain ⟨hg6, h1⟩ := grdS h1
      refine ⟨room_of hO hg6, ?_⟩
      obtain ⟨hg7, h1⟩ := grdS h1
      refine ⟨inr_of hO hg7, ?_⟩
      cases h1
      exact ⟨_, [0, 1, 5], nextI hI1 hi1, by cbv; try simp, by first | exact Nat.lt_succ_self _ | omega⟩
    · as_aux_lemma =>
      rw [hc2]
      cbv
      cases h1
      cases exitI hi1
      try dsimp only at h0
      refine call_inline tab_holds eqs_holds mixed [] hO hX (by kernel_rfl) Try.func60 (by kernel_rfl) (by kernel_rfl) rfl ?_
      intro X1 hX1 hF1
      cbv
      obtain ⟨l287, hv, h0⟩ := bindS h0
      refine srt_int hO hX1 (i := 2) rfl hv ?_
      cbv
      obtain ⟨l288, hv, h0⟩ := bindS h0
      refine cpt_int hO hX1 (i := 2) rfl hv ?_
      cbv
      refine hF1 _ _ ?_
      cbv
      obtain ⟨e1, hi, h0⟩ := bindS h0
      obtain ⟨I2, hI2, hi⟩ := loopS hi
      refine loop1 tab_holds eqs_holds mixed [(14, (.seg 1 [0, 1, 2, 3, 4, 5, 6, 7, 8, 9, 10, 11, 12, 13, 14, 15] (.seg 2 [16] (.seg 2 [17] (.seg 1 [18] (.seg 2 [19] (.seg 1 [20, 21, 22, 23, 24] .fin)))))), [])] hO hX I2 (fun y => [(32, .junk), (33, .junk), (6, .c (.int .u64 y.2.1)), (7, .c (.int .i64 y.2.2))]) (fun _ => []) (fun y => y.1) _ (by kernel_rfl) hi (by cbv; try simp) ?_
      refine allp ?_
      intro n2
      refine allp ?_
      intro sum2
      intro i76 hi
      cbv
      rw [hI2] at hi
      obtain ⟨n2, rfl, x2, h1, hi2⟩ := iterS hi
      unfold m_rectangle_Area_L2 at h1
      try dsimp only at h1
      obtain ⟨hg8, h1⟩ := grdS h1
      refine ⟨inr_of hO hg8, ?_⟩
      rcases condS h1 with ⟨hc9, h1⟩ | ⟨hc9, h1⟩
      · as_aux_lemma =>
        rw [hc9]
        cbv
        refine ⟨inr_of hO hg8, ?_⟩
        obtain ⟨hg10, h1⟩ := grdS h1
        refine ⟨idx_of hO hg10, ?_⟩
        obtain ⟨hg11, h1⟩ := grdS h1
        refine ⟨kin_of hO hg11, ?_⟩
        obtain ⟨hg12, h1⟩ := grdS h1
        refine ⟨idx_of hO hg12, ?_⟩
        obtain ⟨hg13, h1⟩ := grdS h1
        refine ⟨kin_of hO hg13, ?_⟩
        obtain ⟨hg14, h1⟩ := grdS h1
        refine ⟨inr_of hO hg14, ?_⟩
        obtain ⟨hg15, h1⟩ := grdS h1
        refine ⟨inr_of hO hg15, ?_⟩
        refine ⟨idx_of hO hg12, ?_⟩
        refine ⟨kin_of hO hg13, ?_⟩
        obtain ⟨l290, hv, h1⟩ := bindS h1
        refine call_is hO hX (fn_rectangle_times hO hv) (by kernel_rfl) [0] rfl ⟨rfl, rfl, trivial⟩ rfl ?_
        cbv
        obtain ⟨n129, hv, h1⟩ := bindS h1
        refine call_is hO hX (fn_runs_Measure hO hv) (by kernel_rfl) [5] rfl ⟨rfl, rfl, trivial⟩ rfl ?_
        cbv
        obtain ⟨hg16, h1⟩ := grdS h1
        refine ⟨inr_of hO hg16, ?_⟩
        obtain ⟨⟨n130, n131⟩, hv, h1⟩ := bindS h1
        try dsimp only at h1
        refine call_is hO hX (fn_bits_Mul64 hO hv) (by kernel_rfl) [] rfl trivial rfl ?_
        cbv
        obtain ⟨⟨n132, n133⟩, hv, h1⟩ := bindS h1
        try dsimp only at h1
        refine ext_add64 hO hX hv ?_
        cbv
        obtain ⟨x358, h2, h1⟩ := bindS h1
        rcases condS h2 with ⟨hc17, h2⟩ | ⟨hc17, h2⟩
        · rw [hc17]
          cbv
          cases h2
          try dsimp only at h1
          replace h1 := condT h1 rfl
          cases h1
          cases exitI hi2
          try dsimp only at h0
          cases h0
          exact fin_ok hX rfl ⟨[], _, _, ⟨rfl, rfl⟩, rfl, rfl, rfl, rfl, by cbv; try simp⟩
        · rw [hc17]
          cbv
          rcases condS h2 with ⟨hc18, h2⟩ | ⟨hc18, h2⟩
          · rw [hc18]
            cbv
            cases h2
            try dsimp only at h1
            replace h1 := condT h1 rfl
            cases h1
            cases exitI hi2
            try dsimp only at h0
            cases h0
            exact fin_ok hX rfl ⟨[], _, _, ⟨rfl, rfl⟩, rfl, rfl, rfl, rfl, by cbv; try simp⟩
          · rw [hc18]
            cbv
            cases h2
            try dsimp only at h1
            rcases condS h1 with ⟨hc19, h1⟩ | ⟨hc19, h1⟩
            · rw [hc19]
              cbv
              cases h1
              cases exitI hi2
              try dsimp only at h0
              cases h0
              exact fin_ok hX rfl ⟨[], _, _, ⟨rfl, rfl⟩, rfl, rfl, rfl, rfl, by cbv; try simp⟩
            · rw [hc19]
              cbv
              refine ⟨inr_of hO hg8, ?_⟩
              cases h1
              exact ⟨_, [0, 1, 2, 3, 4], nextI hI2 hi2, by cbv; try simp, by first | exact Nat.lt_succ_self _ | omega⟩
      · rw [hc9]
        cbv
        cases h1
        cases exitI hi2
        try dsimp only at h0
        obtain ⟨hg20, h0⟩ := grdS h0
        refine ⟨inr_of hO hg20, ?_⟩
        cases h0
        exact fin_ok hX rfl ⟨[], _, _, ⟨rfl, rfl⟩, rfl, rfl, rfl, rfl, by cbv; try simp⟩
set_option maxHeartbeats 40000000 in
theorem fn_law35_RectangleAreas {O0 : Ops} (hO0 : O0 = std) {a_1 : List (Int × Int × Int × Int)} {b_1 : List (Int × Int × Int × Int)} {r1 : Bool} (h : m_law35_RectangleAreas O0 a_1 b_1 = some r1) :
    Fn Try.prog 10 [.c (.sl 0), .c (.sl 1)] [.arr false .i4 a_1, .arr false .i4 b_1] (fun v c => v = .c (.bool r1) ∧ c = []) := by
  refine fn_run tab_holds eqs_holds mixed [] Try.func10 (by kernel_rfl) (by kernel_rfl) (Nat.le_of_ble_eq_true rfl) ?_
  intro O X hO hX
  rw [hO0, ← hO] at h
  unfold m_law35_RectangleAreas at h
  have h0 := h; clear h
  cbv
  obtain ⟨b145, hv, h0⟩ := bindS h0
  refine call_is hO hX (fn_law35_awake hO hv) (by kernel_rfl) [] rfl trivial rfl ?_
  cbv
  rcases condS h0 with ⟨hc1, h0⟩ | ⟨hc1, h0⟩
  · rw [hc1]
    cbv
    cases h0
    exact fin_ok hX rfl ⟨[], _, _, ⟨rfl, rfl⟩, rfl, rfl, rfl, rfl, by cbv; try simp⟩
  · as_aux_lemma =>
    rw [hc1]
    cbv
    obtain ⟨x349, h1, h0⟩ := bindS h0
    rcases condS h1 with ⟨hc2, h1⟩ | ⟨hc2, h1⟩
    · rw [hc2]
      cbv
      cases h1
      try dsimp only at h0
      replace h0 := condT h0 rfl
      cases h0
      exact fin_ok hX rfl ⟨[], _, _, ⟨rfl, rfl⟩, rfl, rfl, rfl, rfl, by cbv; try simp⟩
    · as_aux_lemma =>
      rw [hc2]
      cbv
      rcases condS h1 with ⟨hc3, h1⟩ | ⟨hc3, h1⟩
      · rw [hc3]
        cbv
        cases h1
        try dsimp only at h0
        replace h0 := condT h0 rfl
        cases h0
        exact fin_ok hX rfl ⟨[], _, _, ⟨rfl, rfl⟩, rfl, rfl, rfl, rfl, by cbv; try simp⟩
      · as_aux_lemma =>
        rw [hc3]
        cbv
        obtain ⟨b146, hv, h1⟩ := bindS h1
        refine call_is hO hX (fn_ref35_List hO hv) (by kernel_rfl) [0] rfl ⟨rfl, rfl, trivial⟩ rfl ?_
        cbv
        rcases condS h1 with ⟨hc4, h1⟩ | ⟨hc4, h1⟩
        · rw [hc4]
          cbv
          cases h1
          try dsimp only at h0
          replace h0 := condT h0 rfl
          cases h0
          exact fin_ok hX rfl ⟨[], _, _, ⟨rfl, rfl⟩, rfl, rfl, rfl, rfl, by cbv; try simp⟩
        · as_aux_lemma =>
          rw [hc4]
          cbv
          obtain ⟨b147, hv, h1⟩ := bindS h1
          refine call_is hO hX (fn_ref35_List hO hv) (by kernel_rfl) [1] rfl ⟨rfl, rfl, trivial⟩ rfl ?_
          cbv
          cases h1
          try dsimp only at h0
          rcases condS h0 with ⟨hc5, h0⟩ | ⟨hc5, h0⟩
          · rw [hc5]
            cbv
            cases h0
            exact fin_ok hX rfl ⟨[], _, _, ⟨rfl, rfl⟩, rfl, rfl, rfl, rfl, by cbv; try simp⟩
          · as_aux_lemma =>
            rw [hc5]
            cbv
            obtain ⟨⟨l283, n119⟩, hv, h0⟩ := bindS h0
            try dsimp only at h0
            refine call_is hO hX (fn_rectangle_Union hO hv) (by kernel_rfl) [0, 1] rfl ⟨rfl, rfl, rfl, rfl, trivial⟩ rfl ?_
            cbv
            obtain ⟨⟨l284, n120⟩, hv, h0⟩ := bindS h0
            try dsimp only at h0
            refine call_is hO hX (fn_rectangle_Meet hO hv) (by kernel_rfl) [0, 1] rfl ⟨rfl, rfl, rfl, rfl, trivial⟩ rfl ?_
            cbv
            obtain ⟨x351, h1, h0⟩ := bindS h0
            rcases condS h1 with ⟨hc6, h1⟩ | ⟨hc6, h1⟩
            · rw [hc6]
              cbv
              cases h1
              try dsimp only at h0
              replace h0 := condT h0 rfl
              cases h0
              exact fin_ok hX rfl ⟨[], _, _, ⟨rfl, rfl⟩, rfl, rfl, rfl, rfl, by cbv; try simp⟩
            · as_aux_lemma =>
              rw [hc6]
              cbv
              cases h1
              try dsimp only at h0
              rcases condS h0 with ⟨hc7, h0⟩ | ⟨hc7, h0⟩
              · rw [hc7]
                cbv
                cases h0
                exact fin_ok hX rfl ⟨[], _, _, ⟨rfl, rfl⟩, rfl, rfl, rfl, rfl, by cbv; try simp⟩
              · as_aux_lemma =>
                rw [hc7]
                cbv
                obtain ⟨n134, hv, h0⟩ := bindS h0
                refine call_is hO hX (fn_rectangle_Area hO hv) (by kernel_rfl) [0] rfl ⟨rfl, rfl, trivial⟩ rfl ?_
                cbv
                obtain ⟨n135, hv, h0⟩ := bindS h0
                refine call_is hO hX (fn_rectangle_Area hO hv) (by kernel_rfl) [1] rfl ⟨rfl, rfl, trivial⟩ rfl ?_
                cbv
                obtain ⟨n136, hv, h0⟩ := bindS h0
                refine call_is hO hX (fn_rectangle_Area hO hv) (by kernel_rfl) [2] rfl ⟨rfl, rfl, trivial⟩ rfl ?_
                cbv
                obtain ⟨n137, hv, h0⟩ := bindS h0
                refine call_is hO hX (fn_rectangle_Area hO hv) (by kernel_rfl) [3] rfl ⟨rfl, rfl, trivial⟩ rfl ?_
                cbv
                obtain ⟨e1, hi, h0⟩ := bindS h0
                obtain ⟨I1, hI1, hi⟩ := loopS hi
                refine loop1 tab_holds eqs_holds mixed [] hO hX I1 (fun y => [(5, .junk), (7, .junk), (35, .junk), (38, .junk), (39, .junk), (41, .junk), (44, .junk), (45, .junk), (57, .junk), (59, .junk), (67, .c (.int .i64 y.2))]) (fun _ => []) (fun y => y.1) _ (by kernel_rfl) hi (by cbv; try simp) ?_
                refine allp ?_
                intro n1
                intro x362 hi
                cbv
                rw [hI1] at hi
                obtain ⟨n1, rfl, x1, h1, hi1⟩ := iterS hi
                unfold m_law35_RectangleAreas_L1 at h1
                try dsimp only at h1
                rcases condS h1 with ⟨hc8, h1⟩ | ⟨hc8, h1⟩
                · rw [hc8]
                  cbv
                  obtain ⟨hg9, h1⟩ := grdS h1
                  refine ⟨idx_of hO hg9, ?_⟩
                  obtain ⟨hg10, h1⟩ := grdS h1
                  refine ⟨kin_of hO hg10, ?_⟩
                  obtain ⟨x364, h2, h1⟩ := bindS h1
                  rcases condS h2 with ⟨hc11, h2⟩ | ⟨hc11, h2⟩
                  · rw [hc11]
                    cbv
                    cases h2
                    try dsimp only at h1
                    replace h1 := condT h1 rfl
                    cases h1
                    cases exitI hi1
                    try dsimp only at h0
                    cases h0
                    exact fin_ok hX rfl ⟨[], _, _, ⟨rfl, rfl⟩, rfl, rfl, rfl, rfl, by cbv; try simp⟩
                  · rw [hc11]
                    cbv
                    cases h2
                    try dsimp only at h1
                    rcases condS h1 with ⟨hc12, h1⟩ | ⟨hc12, h1⟩
                    · rw [hc12]
                      cbv
                      cases h1
                      cases exitI hi1
                      try dsimp only at h0
                      cases h0
                      exact fin_ok hX rfl ⟨[], _, _, ⟨rfl, rfl⟩, rfl, rfl, rfl, rfl, by cbv; try simp⟩
                    · rw [hc12]
                      cbv
                      obtain ⟨hg13, h1⟩ := grdS h1
                      refine ⟨inr_of hO hg13, ?_⟩
                      cases h1
                      exact ⟨_, [0, 1, 2, 3, 4], nextI hI1 hi1, by cbv; try simp, by first | exact Nat.lt_succ_self _ | omega⟩
                · rw [hc8]
                  cbv
                  cases h1
                  cases exitI hi1
                  try dsimp only at h0
                  obtain ⟨hg14, h0⟩ := grdS h0
                  refine ⟨inr_of hO hg14, ?_⟩
                  obtain ⟨hg15, h0⟩ := grdS h0
                  refine ⟨inr_of hO hg15, ?_⟩
                  cases h0
                  exact fin_ok hX rfl ⟨[], _, _, ⟨rfl, rfl⟩, rfl, rfl, rfl, rfl, by cbv; try simp⟩
end Go.Proofs.Ytkdffpncpikdmaa
