/-
  RectangleAreas: the code does what its model says, where sums wrap round.
-/
import Derived.Test.YtkdffpncpikdmaaAM
import Derived.Test.YtkdffpncpikdmaaTabW
import Derived.Test.YtkdffpncpikdmaaSrtR
import Derived.Test.YtkdffpncpikdmaaRW1
import Derived.Test.YtkdffpncpikdmaaRW3
import Derived.Test.YtkdffpncpikdmaaRW13
import Derived.Test.YtkdffpncpikdmaaRW14
import Derived.Test.YtkdffpncpikdmaaRW23
import Derived.Test.YtkdffpncpikdmaaRW29
namespace Go.Proofs.Ytkdffpncpikdmaa
open Go.RowKit
set_option maxRecDepth 100000
set_option maxHeartbeats 40000000 in
theorem fn_areas {O0 : Ops} (hO0 : O0 = std) {a_1 : List (Int × Int × Int × Int)} {b_1 : List (Int × Int × Int × Int)} {r1 : Bool} (h : m_areas O0 a_1 b_1 = some r1) :
    Fn Try.prog 10 [.c (.sl 0), .c (.sl 1)] [.arr false .i4 a_1, .arr false .i4 b_1] (fun v c => v = .c (.bool r1) ∧ c = []) := by
  refine fn_run tabw_holds eqsw_holds mixed [] Try.func10 (by kernel_rfl) (by kernel_rfl) (Nat.le_of_ble_eq_true rfl) ?_
  intro O X hO hX
  rw [hO0, ← hO] at h
  unfold m_areas at h
  have h0 := h; clear h
  cbv
  obtain ⟨b145, hv, h0⟩ := bindS h0
  refine call_is hO hX (fn_law35_awake hO hv) (by kernel_rfl) [] rfl trivial rfl ?_
  cbv
  rcases condS h0 with ⟨hc1, h0⟩ | ⟨hc1, h0⟩
  · rw [hc1]
    cbv
    cases h0
    exact fin_ok hX rfl ⟨[], _, _, ⟨rfl, rfl⟩, rfl, rfl, rfl, rfl, by cbv; try simp⟩
  · as_aux_lemma =>
    rw [hc1]
    cbv
    obtain ⟨x349, h1, h0⟩ := bindS h0
    rcases condS h1 with ⟨hc2, h1⟩ | ⟨hc2, h1⟩
    · rw [hc2]
      cbv
      cases h1
      try dsimp only at h0
      replace h0 := condT h0 rfl
      cases h0
      exact fin_ok hX rfl ⟨[], _, _, ⟨rfl, rfl⟩, rfl, rfl, rfl, rfl, by cbv; try simp⟩
    · as_aux_lemma =>
      rw [hc2]
      cbv
      rcases condS h1 with ⟨hc3, h1⟩ | ⟨hc3, h1⟩
      · rw [hc3]
        cbv
        cases h1
        try dsimp only at h0
        replace h0 := condT h0 rfl
        cases h0
        exact fin_ok hX rfl ⟨[], _, _, ⟨rfl, rfl⟩, rfl, rfl, rfl, rfl, by cbv; try simp⟩
      · as_aux_lemma =>
        rw [hc3]
        cbv
        obtain ⟨b146, hv, h1⟩ := bindS h1
        refine call_is hO hX (fn_ref35_List hO hv) (by kernel_rfl) [0] rfl ⟨rfl, rfl, trivial⟩ rfl ?_
        cbv
        rcases condS h1 with ⟨hc4, h1⟩ | ⟨hc4, h1⟩
        · rw [hc4]
          cbv
          cases h1
          try dsimp only at h0
          replace h0 := condT h0 rfl
          cases h0
          exact fin_ok hX rfl ⟨[], _, _, ⟨rfl, rfl⟩, rfl, rfl, rfl, rfl, by cbv; try simp⟩
        · as_aux_lemma =>
          rw [hc4]
          cbv
          obtain ⟨b147, hv, h1⟩ := bindS h1
          refine call_is hO hX (fn_ref35_List hO hv) (by kernel_rfl) [1] rfl ⟨rfl, rfl, trivial⟩ rfl ?_
          cbv
          cases h1
          try dsimp only at h0
          rcases condS h0 with ⟨hc5, h0⟩ | ⟨hc5, h0⟩
          · rw [hc5]
            cbv
            cases h0
            exact fin_ok hX rfl ⟨[], _, _, ⟨rfl, rfl⟩, rfl, rfl, rfl, rfl, by cbv; try simp⟩
          · as_aux_lemma =>
            rw [hc5]
            cbv
            obtain ⟨⟨l283, n119⟩, hv, h0⟩ := bindS h0
            try dsimp only at h0
            refine call_is hO hX (fn_rectangle_Union hO hv) (by kernel_rfl) [0, 1] rfl ⟨rfl, rfl, rfl, rfl, trivial⟩ rfl ?_
            cbv
            obtain ⟨⟨l284, n120⟩, hv, h0⟩ := bindS h0
            try dsimp only at h0
            refine call_is hO hX (fn_rectangle_Meet hO hv) (by kernel_rfl) [0, 1] rfl ⟨rfl, rfl, rfl, rfl, trivial⟩ rfl ?_
            cbv
            obtain ⟨x351, h1, h0⟩ := bindS h0
            rcases condS h1 with ⟨hc6, h1⟩ | ⟨hc6, h1⟩
            · rw [hc6]
              cbv
              cases h1
              try dsimp only at h0
              replace h0 := condT h0 rfl
              cases h0
              exact fin_ok hX rfl ⟨[], _, _, ⟨rfl, rfl⟩, rfl, rfl, rfl, rfl, by cbv; try simp⟩
            · as_aux_lemma =>
              rw [hc6]
              cbv
              cases h1
              try dsimp only at h0
              rcases condS h0 with ⟨hc7, h0⟩ | ⟨hc7, h0⟩
              · rw [hc7]
                cbv
                cases h0
                exact fin_ok hX rfl ⟨[], _, _, ⟨rfl, rfl⟩, rfl, rfl, rfl, rfl, by cbv; try simp⟩
              · as_aux_lemma =>
                rw [hc7]
                cbv
                obtain ⟨n134, hv, h0⟩ := bindS h0
                refine call_is hO hX (fn_rectangle_Area hO hv) (by kernel_rfl) [0] rfl ⟨rfl, rfl, trivial⟩ rfl ?_
                cbv
                obtain ⟨n135, hv, h0⟩ := bindS h0
                refine call_is hO hX (fn_rectangle_Area hO hv) (by kernel_rfl) [1] rfl ⟨rfl, rfl, trivial⟩ rfl ?_
                cbv
                obtain ⟨n136, hv, h0⟩ := bindS h0
                refine call_is hO hX (fn_rectangle_Area hO hv) (by kernel_rfl) [2] rfl ⟨rfl, rfl, trivial⟩ rfl ?_
                cbv
                obtain ⟨n137, hv, h0⟩ := bindS h0
                refine call_is hO hX (fn_rectangle_Area hO hv) (by kernel_rfl) [3] rfl ⟨rfl, rfl, trivial⟩ rfl ?_
                cbv
                obtain ⟨e1, hi, h0⟩ := bindS h0
                obtain ⟨I1, hI1, hi⟩ := loopS hi
                refine loop1 tabw_holds eqsw_holds mixed [] hO hX I1 (fun y => [(5, .junk), (7, .junk), (35, .junk), (38, .junk), (39, .junk), (41, .junk), (44, .junk), (45, .junk), (57, .junk), (59, .junk), (67, .c (.int .i64 y.2))]) (fun _ => []) (fun y => y.1) _ (by kernel_rfl) hi (by cbv; try simp) ?_
                refine allp ?_
                intro n1
                intro x362 hi
                cbv
                rw [hI1] at hi
                obtain ⟨n1, rfl, x1, h1, hi1⟩ := iterS hi
                unfold m_areas_L1 at h1
                try dsimp only at h1
                rcases condS h1 with ⟨hc8, h1⟩ | ⟨hc8, h1⟩
                · rw [hc8]
                  cbv
                  obtain ⟨hg9, h1⟩ := grdS h1
                  refine ⟨idx_of hO hg9, ?_⟩
                  obtain ⟨hg10, h1⟩ := grdS h1
                  refine ⟨kin_of hO hg10, ?_⟩
                  obtain ⟨x364, h2, h1⟩ := bindS h1
                  rcases condS h2 with ⟨hc11, h2⟩ | ⟨hc11, h2⟩
                  · rw [hc11]
                    cbv
                    cases h2
                    try dsimp only at h1
                    replace h1 := condT h1 rfl
                    cases h1
                    cases exitI hi1
                    try dsimp only at h0
                    cases h0
                    exact fin_ok hX rfl ⟨[], _, _, ⟨rfl, rfl⟩, rfl, rfl, rfl, rfl, by cbv; try simp⟩
                  · rw [hc11]
                    cbv
                    cases h2
                    try dsimp only at h1
                    rcases condS h1 with ⟨hc12, h1⟩ | ⟨hc12, h1⟩
                    · rw [hc12]
                      cbv
                      cases h1
                      cases exitI hi1
                      try dsimp only at h0
                      cases h0
                      exact fin_ok hX rfl ⟨[], _, _, ⟨rfl, rfl⟩, rfl, rfl, rfl, rfl, by cbv; try simp⟩
                    · rw [hc12]
                      cbv
                      cases h1
                      exact ⟨_, [0, 1, 2, 3, 4], nextI hI1 hi1, by cbv; try simp, by first | exact Nat.lt_succ_self _ | omega⟩
                · rw [hc8]
                  cbv
                  cases h1
                  cases exitI hi1
                  try dsimp only at h0
                  cases h0
                  exact fin_ok hX rfl ⟨[], _, _, ⟨rfl, rfl⟩, rfl, rfl, rfl, rfl, by cbv; try simp⟩
end Go.Proofs.Ytkdffpncpikdmaa
