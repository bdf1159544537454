/-
  The code does what its models say (printed by lift.py).
-/
import Derived.Test.YtoklfjkanipjkaaGM
import Derived.Test.YtoklfjkanipjkaaManW
import Derived.Test.YtoklfjkanipjkaaGW0
import Derived.Test.YtoklfjkanipjkaaGW1
import Derived.Test.YtoklfjkanipjkaaGW2
import Derived.Test.YtoklfjkanipjkaaGW3
namespace Go.Proofs.Ytoklfjkanipjkaa
open Go.RowKit
set_option maxRecDepth 100000

set_option maxHeartbeats 4000000 in
theorem fn_law16_GroupCustoms {O0 : Ops} (hO0 : O0 = std) {c_1 : Int} {c_2 : Int} {origin_1 : Int} {c_3 : List (Int × Int)} {lengths_1 : List Int} {pattern_1 : List Int} {r1 : Bool} (h : m_law16_GroupCustoms O0 c_1 c_2 origin_1 c_3 lengths_1 pattern_1 = some r1) :
    Fn Try.prog 6 [.agg [.int .i64 c_1, .int .i64 c_2, .sl 0], .c (.int .i64 origin_1), .c (.sl 1), .c (.sl 2)] [.arr false .i2 c_3, .arr false .i1 lengths_1, .arr false .i1 pattern_1] (fun v c => v = .c (.bool r1) ∧ c = []) := by
  refine fn_run tab_holds eqs_holds mixed [] Try.func6 (by kernel_rfl) (by kernel_rfl) (Nat.le_of_ble_eq_true rfl) ?_
  intro O X hO hX
  rw [hO0, ← hO] at h
  unfold m_law16_GroupCustoms at h
  have h0 := h; clear h
  cbv
  obtain ⟨b49, hv, h0⟩ := bindS h0
  refine call_go hO hX (fn_law16_awake hO hv) (by kernel_rfl) [] rfl trivial rfl ?_
  rintro _ _ ⟨rfl, rfl⟩
  cbv
  rcases condS h0 with ⟨hc0, h0⟩ | ⟨hc0, h0⟩
  · rw [hc0]
    cbv
    cases h0
    exact fin_ok hX rfl ⟨[], _, _, ⟨rfl, rfl⟩, rfl, rfl, rfl, rfl, by cbv; try simp⟩
  · as_aux_lemma =>
    rw [hc0]
    cbv
    obtain ⟨x130, h1, h0⟩ := bindS h0
    obtain ⟨b50, hv, h1⟩ := bindS h1
    refine call_go hO hX (fn_law16_great hO hv) (by kernel_rfl) [4, 0] rfl ⟨rfl, rfl, rfl, rfl, trivial⟩ rfl ?_
    rintro _ _ ⟨rfl, rfl⟩
    cbv
    rcases condS h1 with ⟨hc1, h1⟩ | ⟨hc1, h1⟩
    · rw [hc1]
      cbv
      cases h1
      try dsimp only at h0
      replace h0 := condT h0 rfl
      cases h0
      exact fin_ok hX rfl ⟨[], _, _, ⟨rfl, rfl⟩, rfl, rfl, rfl, rfl, by cbv; try simp⟩
    · as_aux_lemma =>
      rw [hc1]
      cbv
      rcases condS h1 with ⟨hc2, h1⟩ | ⟨hc2, h1⟩
      · rw [hc2]
        cbv
        cases h1
        try dsimp only at h0
        replace h0 := condT h0 rfl
        cases h0
        exact fin_ok hX rfl ⟨[], _, _, ⟨rfl, rfl⟩, rfl, rfl, rfl, rfl, by cbv; try simp⟩
      · as_aux_lemma =>
        rw [hc2]
        cbv
        cases h1
        try dsimp only at h0
        rcases condS h0 with ⟨hc3, h0⟩ | ⟨hc3, h0⟩
        · rw [hc3]
          cbv
          cases h0
          exact fin_ok hX rfl ⟨[], _, _, ⟨rfl, rfl⟩, rfl, rfl, rfl, rfl, by cbv; try simp⟩
        · as_aux_lemma =>
          rw [hc3]
          cbv
          obtain ⟨⟨n136, n137, l64, n138⟩, hv, h0⟩ := bindS h0
          try dsimp only at h0
          refine call_go hO hX (fn_group_Custom hO hv) (by kernel_rfl) [1] rfl ⟨rfl, rfl, trivial⟩ rfl ?_
          rintro _ _ ⟨rfl, rfl⟩
          cbv
          obtain ⟨⟨n142, n143, l68, n144⟩, hv, h0⟩ := bindS h0
          try dsimp only at h0
          refine call_go hO hX (fn_ref16_Custom hO hv) (by kernel_rfl) [1] rfl ⟨rfl, rfl, trivial⟩ rfl ?_
          rintro _ _ ⟨rfl, rfl⟩
          cbv
          obtain ⟨⟨n145, n146, l69, n147⟩, hv, h0⟩ := bindS h0
          try dsimp only at h0
          refine call_go hO hX (fn_group_Fiscal hO hv) (by kernel_rfl) [2] rfl ⟨rfl, rfl, trivial⟩ rfl ?_
          rintro _ _ ⟨rfl, rfl⟩
          cbv
          obtain ⟨⟨n151, n152, l73, n153⟩, hv, h0⟩ := bindS h0
          try dsimp only at h0
          refine call_go hO hX (fn_ref16_Fiscal hO hv) (by kernel_rfl) [2] rfl ⟨rfl, rfl, trivial⟩ rfl ?_
          rintro _ _ ⟨rfl, rfl⟩
          cbv
          obtain ⟨⟨n168, n169, l82, n170⟩, hv, h0⟩ := bindS h0
          try dsimp only at h0
          refine call_go hO hX (fn_group_Fill hO hv) (by kernel_rfl) [0] rfl ⟨rfl, rfl, trivial⟩ rfl ?_
          rintro _ _ ⟨rfl, rfl⟩
          cbv
          obtain ⟨x142, h1, h0⟩ := bindS h0
          obtain ⟨b54, hv, h1⟩ := bindS h1
          refine call_go hO hX (fn_law16_is hO hv) (by kernel_rfl) [5, 7] rfl ⟨rfl, rfl, rfl, rfl, trivial⟩ rfl ?_
          rintro _ _ ⟨rfl, rfl⟩
          cbv
          rcases condS h1 with ⟨hc4, h1⟩ | ⟨hc4, h1⟩
          · rw [hc4]
            cbv
            cases h1
            try dsimp only at h0
            replace h0 := condT h0 rfl
            cases h0
            exact fin_ok hX rfl ⟨[], _, _, ⟨rfl, rfl⟩, rfl, rfl, rfl, rfl, by cbv; try simp⟩
          · as_aux_lemma =>
            rw [hc4]
            cbv
            obtain ⟨b55, hv, h1⟩ := bindS h1
            refine call_go hO hX (fn_law16_is hO hv) (by kernel_rfl) [9, 11] rfl ⟨rfl, rfl, rfl, rfl, trivial⟩ rfl ?_
            rintro _ _ ⟨rfl, rfl⟩
            cbv
            cases h1
            try dsimp only at h0
            rcases condS h0 with ⟨hc5, h0⟩ | ⟨hc5, h0⟩
            · rw [hc5]
              cbv
              cases h0
              exact fin_ok hX rfl ⟨[], _, _, ⟨rfl, rfl⟩, rfl, rfl, rfl, rfl, by cbv; try simp⟩
            · as_aux_lemma =>
              rw [hc5]
              cbv
              obtain ⟨b56, hv, h0⟩ := bindS h0
              refine call_go hO hX (fn_ref16_Valid hO hv) (by kernel_rfl) [0] rfl ⟨rfl, rfl, trivial⟩ rfl ?_
              rintro _ _ ⟨rfl, rfl⟩
              cbv
              rcases condS h0 with ⟨hc6, h0⟩ | ⟨hc6, h0⟩
              · rw [hc6]
                cbv
                refine call_nil hO hX .i2 15 rfl ?_
                cbv
                obtain ⟨b57, hv, h0⟩ := bindS h0
                refine call_go hO hX (fn_law16_is hO hv) (by kernel_rfl) [13, 15] rfl ⟨rfl, rfl, rfl, rfl, trivial⟩ rfl ?_
                rintro _ _ ⟨rfl, rfl⟩
                cbv
                cases h0
                exact fin_ok hX rfl ⟨[], _, _, ⟨rfl, rfl⟩, rfl, rfl, rfl, rfl, by cbv; try simp⟩
              · rw [hc6]
                cbv
                obtain ⟨⟨n182, n183, l86, n184⟩, hv, h0⟩ := bindS h0
                try dsimp only at h0
                refine call_go hO hX (fn_ref16_Fill hO hv) (by kernel_rfl) [0] rfl ⟨rfl, rfl, trivial⟩ rfl ?_
                rintro _ _ ⟨rfl, rfl⟩
                cbv
                obtain ⟨x146, h1, h0⟩ := bindS h0
                obtain ⟨b58, hv, h1⟩ := bindS h1
                refine call_go hO hX (fn_law16_is hO hv) (by kernel_rfl) [13, 15] rfl ⟨rfl, rfl, rfl, rfl, trivial⟩ rfl ?_
                rintro _ _ ⟨rfl, rfl⟩
                cbv
                rcases condS h1 with ⟨hc7, h1⟩ | ⟨hc7, h1⟩
                · rw [hc7]
                  cbv
                  rcases condS h1 with ⟨hc8, h1⟩ | ⟨hc8, h1⟩
                  · rw [hc8]
                    cbv
                    obtain ⟨b60, hv, h1⟩ := bindS h1
                    refine call_go hO hX (fn_granule_Gapless hO hv) (by kernel_rfl) [13] rfl ⟨rfl, rfl, trivial⟩ rfl ?_
                    rintro _ _ ⟨rfl, rfl⟩
                    cbv
                    cases h1
                    try dsimp only at h0
                    cases h0
                    exact fin_ok hX rfl ⟨[], _, _, ⟨rfl, rfl⟩, rfl, rfl, rfl, rfl, by cbv; try simp⟩
                  · rw [hc8]
                    cbv
                    cases h1
                    try dsimp only at h0
                    cases h0
                    exact fin_ok hX rfl ⟨[], _, _, ⟨rfl, rfl⟩, rfl, rfl, rfl, rfl, by cbv; try simp⟩
                · rw [hc7]
                  cbv
                  cases h1
                  try dsimp only at h0
                  cases h0
                  exact fin_ok hX rfl ⟨[], _, _, ⟨rfl, rfl⟩, rfl, rfl, rfl, rfl, by cbv; try simp⟩
set_option maxHeartbeats 4000000 in
theorem fn_law16_GroupUndone {O0 : Ops} (hO0 : O0 = std) {c_1 : Int} {c_2 : Int} {m_1 : Int} {n_1 : Int} {c_3 : List (Int × Int)} {r1 : Bool} (h : m_law16_GroupUndone O0 c_1 c_2 m_1 n_1 c_3 = some r1) :
    Fn Try.prog 7 [.agg [.int .i64 c_1, .int .i64 c_2, .sl 0], .c (.int .i64 m_1), .c (.int .i64 n_1)] [.arr false .i2 c_3] (fun v c => v = .c (.bool r1) ∧ c = []) := by
  refine fn_run tab_holds eqs_holds mixed [] Try.func7 (by kernel_rfl) (by kernel_rfl) (Nat.le_of_ble_eq_true rfl) ?_
  intro O X hO hX
  rw [hO0, ← hO] at h
  unfold m_law16_GroupUndone at h
  have h0 := h; clear h
  cbv
  obtain ⟨b61, hv, h0⟩ := bindS h0
  refine call_go hO hX (fn_law16_awake hO hv) (by kernel_rfl) [] rfl trivial rfl ?_
  rintro _ _ ⟨rfl, rfl⟩
  cbv
  rcases condS h0 with ⟨hc0, h0⟩ | ⟨hc0, h0⟩
  · rw [hc0]
    cbv
    cases h0
    exact fin_ok hX rfl ⟨[], _, _, ⟨rfl, rfl⟩, rfl, rfl, rfl, rfl, by cbv; try simp⟩
  · as_aux_lemma =>
    rw [hc0]
    cbv
    obtain ⟨x148, h1, h0⟩ := bindS h0
    obtain ⟨b62, hv, h1⟩ := bindS h1
    refine call_go hO hX (fn_law16_great hO hv) (by kernel_rfl) [2, 0] rfl ⟨rfl, rfl, rfl, rfl, trivial⟩ rfl ?_
    rintro _ _ ⟨rfl, rfl⟩
    cbv
    rcases condS h1 with ⟨hc1, h1⟩ | ⟨hc1, h1⟩
    · rw [hc1]
      cbv
      cases h1
      try dsimp only at h0
      replace h0 := condT h0 rfl
      cases h0
      exact fin_ok hX rfl ⟨[], _, _, ⟨rfl, rfl⟩, rfl, rfl, rfl, rfl, by cbv; try simp⟩
    · as_aux_lemma =>
      rw [hc1]
      cbv
      obtain ⟨b63, hv, h1⟩ := bindS h1
      refine call_go hO hX (fn_granule_Valid hO hv) (by kernel_rfl) [0] rfl ⟨rfl, rfl, trivial⟩ rfl ?_
      rintro _ _ ⟨rfl, rfl⟩
      cbv
      rcases condS h1 with ⟨hc2, h1⟩ | ⟨hc2, h1⟩
      · rw [hc2]
        cbv
        cases h1
        try dsimp only at h0
        replace h0 := condT h0 rfl
        cases h0
        exact fin_ok hX rfl ⟨[], _, _, ⟨rfl, rfl⟩, rfl, rfl, rfl, rfl, by cbv; try simp⟩
      · as_aux_lemma =>
        rw [hc2]
        cbv
        rcases condS h1 with ⟨hc3, h1⟩ | ⟨hc3, h1⟩
        · rw [hc3]
          cbv
          cases h1
          try dsimp only at h0
          replace h0 := condT h0 rfl
          cases h0
          exact fin_ok hX rfl ⟨[], _, _, ⟨rfl, rfl⟩, rfl, rfl, rfl, rfl, by cbv; try simp⟩
        · as_aux_lemma =>
          rw [hc3]
          cbv
          rcases condS h1 with ⟨hc4, h1⟩ | ⟨hc4, h1⟩
          · rw [hc4]
            cbv
            cases h1
            try dsimp only at h0
            replace h0 := condT h0 rfl
            cases h0
            exact fin_ok hX rfl ⟨[], _, _, ⟨rfl, rfl⟩, rfl, rfl, rfl, rfl, by cbv; try simp⟩
          · as_aux_lemma =>
            rw [hc4]
            cbv
            rcases condS h1 with ⟨hc5, h1⟩ | ⟨hc5, h1⟩
            · rw [hc5]
              cbv
              cases h1
              try dsimp only at h0
              replace h0 := condT h0 rfl
              cases h0
              exact fin_ok hX rfl ⟨[], _, _, ⟨rfl, rfl⟩, rfl, rfl, rfl, rfl, by cbv; try simp⟩
            · as_aux_lemma =>
              rw [hc5]
              cbv
              cases h1
              try dsimp only at h0
              rcases condS h0 with ⟨hc6, h0⟩ | ⟨hc6, h0⟩
              · rw [hc6]
                cbv
                cases h0
                exact fin_ok hX rfl ⟨[], _, _, ⟨rfl, rfl⟩, rfl, rfl, rfl, rfl, by cbv; try simp⟩
              · as_aux_lemma =>
                rw [hc6]
                cbv
                obtain ⟨⟨n185, n186, l87, n187⟩, hv, h0⟩ := bindS h0
                try dsimp only at h0
                refine call_go hO hX (fn_group_Groups hO hv) (by kernel_rfl) [0] rfl ⟨rfl, rfl, trivial⟩ rfl ?_
                rintro _ _ ⟨rfl, rfl⟩
                cbv
                obtain ⟨x150, h1, h0⟩ := bindS h0
                rcases condS h1 with ⟨hc7, h1⟩ | ⟨hc7, h1⟩
                · rw [hc7]
                  cbv
                  cases h1
                  try dsimp only at h0
                  replace h0 := condT h0 rfl
                  cases h0
                  exact fin_ok hX rfl ⟨[], _, _, ⟨rfl, rfl⟩, rfl, rfl, rfl, rfl, by cbv; try simp⟩
                · as_aux_lemma =>
                  rw [hc7]
                  cbv
                  obtain ⟨b64, hv, h1⟩ := bindS h1
                  refine call_go hO hX (fn_ref16_Same hO hv) (by kernel_rfl) [3, 0] rfl ⟨rfl, rfl, rfl, rfl, trivial⟩ rfl ?_
                  rintro _ _ ⟨rfl, rfl⟩
                  cbv
                  cases h1
                  try dsimp only at h0
                  rcases condS h0 with ⟨hc8, h0⟩ | ⟨hc8, h0⟩
                  · rw [hc8]
                    cbv
                    cases h0
                    exact fin_ok hX rfl ⟨[], _, _, ⟨rfl, rfl⟩, rfl, rfl, rfl, rfl, by cbv; try simp⟩
                  · as_aux_lemma =>
                    rw [hc8]
                    cbv
                    obtain ⟨l89, hi, h0⟩ := bindS h0
                    obtain ⟨I1, hI1, hi⟩ := loopS hi
                    refine loop1 tab_holds eqs_holds mixed [] hO hX I1 (fun y => [(7, .junk), (26, .junk), (49, .junk), (51, .junk), (52, .junk), (57, .junk), (9, .c (.sl 5)), (63, .c (.int .i64 y.2.1))]) (fun y => [(5, .own 3 .i1 y.2.2)]) (fun y => y.1) _ (by kernel_rfl) hi (by cbv; try simp) ?_
                    rintro ⟨n1, x152, l88⟩ hi
                    cbv
                    rw [hI1] at hi
                    obtain ⟨n1, rfl, x1, h1, hi1⟩ := iterS hi
                    unfold m_law16_GroupUndone_L1 at h1
                    try dsimp only at h1
                    rcases condS h1 with ⟨hc9, h1⟩ | ⟨hc9, h1⟩
                    · rw [hc9]
                      cbv
                      obtain ⟨hg10, h1⟩ := grdS h1
                      refine ⟨room_of hO hg10, ?_⟩
                      obtain ⟨hg11, h1⟩ := grdS h1
                      refine ⟨room_of hO hg11, ?_⟩
                      obtain ⟨hg12, h1⟩ := grdS h1
                      refine ⟨inr_of hO hg12, ?_⟩
                      cases h1
                      exact ⟨_, [0, 1, 2, 3, 4, 7], nextI hI1 hi1, by cbv; try simp, by first | exact Nat.lt_succ_self _ | omega⟩
                    · as_aux_lemma =>
                      rw [hc9]
                      cbv
                      cases h1
                      cases exitI hi1
                      try dsimp only at h0
                      obtain ⟨⟨n188, n189, l90, n190⟩, hv, h0⟩ := bindS h0
                      try dsimp only at h0
                      refine call_go hO hX (fn_group_Pick hO hv) (by kernel_rfl) [0, 5] rfl ⟨rfl, rfl, rfl, rfl, trivial⟩ rfl ?_
                      rintro _ _ ⟨rfl, rfl⟩
                      cbv
                      obtain ⟨x154, h1, h0⟩ := bindS h0
                      rcases condS h1 with ⟨hc10, h1⟩ | ⟨hc10, h1⟩
                      · as_aux_lemma =>
                        rw [hc10]
                        cbv
                        obtain ⟨b65, hv, h1⟩ := bindS h1
                        refine call_go hO hX (fn_ref16_Same hO hv) (by kernel_rfl) [6, 0] rfl ⟨rfl, rfl, rfl, rfl, trivial⟩ rfl ?_
                        rintro _ _ ⟨rfl, rfl⟩
                        cbv
                        cases h1
                        try dsimp only at h0
                        rcases condS h0 with ⟨hc11, h0⟩ | ⟨hc11, h0⟩
                        · rw [hc11]
                          cbv
                          cases h0
                          exact fin_ok hX rfl ⟨[], _, _, ⟨rfl, rfl⟩, rfl, rfl, rfl, rfl, by cbv; try simp⟩
                        · as_aux_lemma =>
                          rw [hc11]
                          cbv
                          obtain ⟨⟨n191, n192, l91, n193⟩, hv, h0⟩ := bindS h0
                          try dsimp only at h0
                          refine call_go hO hX (fn_group_Split hO hv) (by kernel_rfl) [0] rfl ⟨rfl, rfl, trivial⟩ rfl ?_
                          rintro _ _ ⟨rfl, rfl⟩
                          cbv
                          obtain ⟨e1, h1, h0⟩ := bindS h0
                          rcases condS h1 with ⟨hc12, h1⟩ | ⟨hc12, h1⟩
                          · as_aux_lemma =>
                            rw [hc12]
                            cbv
                            obtain ⟨⟨n194, n195, l92, n196⟩, hv, h1⟩ := bindS h1
                            try dsimp only at h1
                            refine call_go hO hX (fn_group_Groups hO hv) (by kernel_rfl) [8] rfl ⟨rfl, rfl, trivial⟩ rfl ?_
                            rintro _ _ ⟨rfl, rfl⟩
                            cbv
                            obtain ⟨x156, h2, h1⟩ := bindS h1
                            rcases condS h2 with ⟨hc13, h2⟩ | ⟨hc13, h2⟩
                            · rw [hc13]
                              cbv
                              cases h2
                              try dsimp only at h1
                              replace h1 := condT h1 rfl
                              cases h1
                              try dsimp only at h0
                              cases h0
                              exact fin_ok hX rfl ⟨[], _, _, ⟨rfl, rfl⟩, rfl, rfl, rfl, rfl, by cbv; try simp⟩
                            · as_aux_lemma =>
                              rw [hc13]
                              cbv
                              obtain ⟨b66, hv, h2⟩ := bindS h2
                              refine call_go hO hX (fn_ref16_Same hO hv) (by kernel_rfl) [10, 0] rfl ⟨rfl, rfl, rfl, rfl, trivial⟩ rfl ?_
                              rintro _ _ ⟨rfl, rfl⟩
                              cbv
                              cases h2
                              try dsimp only at h1
                              rcases condS h1 with ⟨hc14, h1⟩ | ⟨hc14, h1⟩
                              · rw [hc14]
                                cbv
                                cases h1
                                try dsimp only at h0
                                cases h0
                                exact fin_ok hX rfl ⟨[], _, _, ⟨rfl, rfl⟩, rfl, rfl, rfl, rfl, by cbv; try simp⟩
                              · as_aux_lemma =>
                                rw [hc14]
                                cbv
                                cases h1
                                try dsimp only at h0
                                obtain ⟨⟨n197, n198, l93, n199⟩, hv, h0⟩ := bindS h0
                                try dsimp only at h0
                                refine call_go hO hX (fn_group_Groups hO hv) (by kernel_rfl) [0] rfl ⟨rfl, rfl, trivial⟩ rfl ?_
                                rintro _ _ ⟨rfl, rfl⟩
                                cbv
                                obtain ⟨⟨n200, n201, l94, n202⟩, hv, h0⟩ := bindS h0
                                try dsimp only at h0
                                refine call_go hO hX (fn_group_Groups hO hv) (by kernel_rfl) [12] rfl ⟨rfl, rfl, trivial⟩ rfl ?_
                                rintro _ _ ⟨rfl, rfl⟩
                                cbv
                                obtain ⟨hg15, h0⟩ := grdS h0
                                refine ⟨inr_of hO hg15, ?_⟩
                                obtain ⟨⟨n203, n204, l95, n205⟩, hv, h0⟩ := bindS h0
                                try dsimp only at h0
                                refine call_go hO hX (fn_group_Groups hO hv) (by kernel_rfl) [0] rfl ⟨rfl, rfl, trivial⟩ rfl ?_
                                rintro _ _ ⟨rfl, rfl⟩
                                cbv
                                obtain ⟨x158, h1, h0⟩ := bindS h0
                                rcases condS h1 with ⟨hc16, h1⟩ | ⟨hc16, h1⟩
                                · rw [hc16]
                                  cbv
                                  cases h1
                                  try dsimp only at h0
                                  cases h0
                                  exact fin_ok hX rfl ⟨[], _, _, ⟨rfl, rfl⟩, rfl, rfl, rfl, rfl, by cbv; try simp⟩
                                · rw [hc16]
                                  cbv
                                  rcases condS h1 with ⟨hc17, h1⟩ | ⟨hc17, h1⟩
                                  · rw [hc17]
                                    cbv
                                    cases h1
                                    try dsimp only at h0
                                    cases h0
                                    exact fin_ok hX rfl ⟨[], _, _, ⟨rfl, rfl⟩, rfl, rfl, rfl, rfl, by cbv; try simp⟩
                                  · rw [hc17]
                                    cbv
                                    rcases condS h1 with ⟨hc18, h1⟩ | ⟨hc18, h1⟩
                                    · rw [hc18]
                                      cbv
                                      cases h1
                                      try dsimp only at h0
                                      cases h0
                                      exact fin_ok hX rfl ⟨[], _, _, ⟨rfl, rfl⟩, rfl, rfl, rfl, rfl, by cbv; try simp⟩
                                    · rw [hc18]
                                      cbv
                                      obtain ⟨b67, hv, h1⟩ := bindS h1
                                      refine call_go hO hX (fn_ref16_Same hO hv) (by kernel_rfl) [14, 16] rfl ⟨rfl, rfl, rfl, rfl, trivial⟩ rfl ?_
                                      rintro _ _ ⟨rfl, rfl⟩
                                      cbv
                                      cases h1
                                      try dsimp only at h0
                                      cases h0
                                      exact fin_ok hX rfl ⟨[], _, _, ⟨rfl, rfl⟩, rfl, rfl, rfl, rfl, by cbv; try simp⟩
                          · as_aux_lemma =>
                            rw [hc12]
                            cbv
                            cases h1
                            try dsimp only at h0
                            obtain ⟨⟨n197, n198, l93, n199⟩, hv, h0⟩ := bindS h0
                            try dsimp only at h0
                            refine call_go hO hX (fn_group_Groups hO hv) (by kernel_rfl) [0] rfl ⟨rfl, rfl, trivial⟩ rfl ?_
                            rintro _ _ ⟨rfl, rfl⟩
                            cbv
                            obtain ⟨⟨n200, n201, l94, n202⟩, hv, h0⟩ := bindS h0
                            try dsimp only at h0
                            refine call_go hO hX (fn_group_Groups hO hv) (by kernel_rfl) [10] rfl ⟨rfl, rfl, trivial⟩ rfl ?_
                            rintro _ _ ⟨rfl, rfl⟩
                            cbv
                            obtain ⟨hg13, h0⟩ := grdS h0
                            refine ⟨inr_of hO hg13, ?_⟩
                            obtain ⟨⟨n203, n204, l95, n205⟩, hv, h0⟩ := bindS h0
                            try dsimp only at h0
                            refine call_go hO hX (fn_group_Groups hO hv) (by kernel_rfl) [0] rfl ⟨rfl, rfl, trivial⟩ rfl ?_
                            rintro _ _ ⟨rfl, rfl⟩
                            cbv
                            obtain ⟨x158, h1, h0⟩ := bindS h0
                            rcases condS h1 with ⟨hc14, h1⟩ | ⟨hc14, h1⟩
                            · rw [hc14]
                              cbv
                              cases h1
                              try dsimp only at h0
                              cases h0
                              exact fin_ok hX rfl ⟨[], _, _, ⟨rfl, rfl⟩, rfl, rfl, rfl, rfl, by cbv; try simp⟩
                            · rw [hc14]
                              cbv
                              rcases condS h1 with ⟨hc15, h1⟩ | ⟨hc15, h1⟩
                              · rw [hc15]
                                cbv
                                cases h1
                                try dsimp only at h0
                                cases h0
                                exact fin_ok hX rfl ⟨[], _, _, ⟨rfl, rfl⟩, rfl, rfl, rfl, rfl, by cbv; try simp⟩
                              · rw [hc15]
                                cbv
                                rcases condS h1 with ⟨hc16, h1⟩ | ⟨hc16, h1⟩
                                · rw [hc16]
                                  cbv
                                  cases h1
                                  try dsimp only at h0
                                  cases h0
                                  exact fin_ok hX rfl ⟨[], _, _, ⟨rfl, rfl⟩, rfl, rfl, rfl, rfl, by cbv; try simp⟩
                                · rw [hc16]
                                  cbv
                                  obtain ⟨b67, hv, h1⟩ := bindS h1
                                  refine call_go hO hX (fn_ref16_Same hO hv) (by kernel_rfl) [12, 14] rfl ⟨rfl, rfl, rfl, rfl, trivial⟩ rfl ?_
                                  rintro _ _ ⟨rfl, rfl⟩
                                  cbv
                                  cases h1
                                  try dsimp only at h0
                                  cases h0
                                  exact fin_ok hX rfl ⟨[], _, _, ⟨rfl, rfl⟩, rfl, rfl, rfl, rfl, by cbv; try simp⟩
                      · as_aux_lemma =>
                        rw [hc10]
                        cbv
                        cases h1
                        try dsimp only at h0
                        replace h0 := condF h0 rfl
                        obtain ⟨⟨n191, n192, l91, n193⟩, hv, h0⟩ := bindS h0
                        try dsimp only at h0
                        refine call_go hO hX (fn_group_Split hO hv) (by kernel_rfl) [0] rfl ⟨rfl, rfl, trivial⟩ rfl ?_
                        rintro _ _ ⟨rfl, rfl⟩
                        cbv
                        obtain ⟨e1, h1, h0⟩ := bindS h0
                        rcases condS h1 with ⟨hc11, h1⟩ | ⟨hc11, h1⟩
                        · as_aux_lemma =>
                          rw [hc11]
                          cbv
                          obtain ⟨⟨n194, n195, l92, n196⟩, hv, h1⟩ := bindS h1
                          try dsimp only at h1
                          refine call_go hO hX (fn_group_Groups hO hv) (by kernel_rfl) [8] rfl ⟨rfl, rfl, trivial⟩ rfl ?_
                          rintro _ _ ⟨rfl, rfl⟩
                          cbv
                          obtain ⟨x156, h2, h1⟩ := bindS h1
                          rcases condS h2 with ⟨hc12, h2⟩ | ⟨hc12, h2⟩
                          · rw [hc12]
                            cbv
                            cases h2
                            try dsimp only at h1
                            replace h1 := condT h1 rfl
                            cases h1
                            try dsimp only at h0
                            cases h0
                            exact fin_ok hX rfl ⟨[], _, _, ⟨rfl, rfl⟩, rfl, rfl, rfl, rfl, by cbv; try simp⟩
                          · as_aux_lemma =>
                            rw [hc12]
                            cbv
                            obtain ⟨b66, hv, h2⟩ := bindS h2
                            refine call_go hO hX (fn_ref16_Same hO hv) (by kernel_rfl) [10, 0] rfl ⟨rfl, rfl, rfl, rfl, trivial⟩ rfl ?_
                            rintro _ _ ⟨rfl, rfl⟩
                            cbv
                            cases h2
                            try dsimp only at h1
                            rcases condS h1 with ⟨hc13, h1⟩ | ⟨hc13, h1⟩
                            · rw [hc13]
                              cbv
                              cases h1
                              try dsimp only at h0
                              cases h0
                              exact fin_ok hX rfl ⟨[], _, _, ⟨rfl, rfl⟩, rfl, rfl, rfl, rfl, by cbv; try simp⟩
                            · as_aux_lemma =>
                              rw [hc13]
                              cbv
                              cases h1
                              try dsimp only at h0
                              obtain ⟨⟨n197, n198, l93, n199⟩, hv, h0⟩ := bindS h0
                              try dsimp only at h0
                              refine call_go hO hX (fn_group_Groups hO hv) (by kernel_rfl) [0] rfl ⟨rfl, rfl, trivial⟩ rfl ?_
                              rintro _ _ ⟨rfl, rfl⟩
                              cbv
                              obtain ⟨⟨n200, n201, l94, n202⟩, hv, h0⟩ := bindS h0
                              try dsimp only at h0
                              refine call_go hO hX (fn_group_Groups hO hv) (by kernel_rfl) [12] rfl ⟨rfl, rfl, trivial⟩ rfl ?_
                              rintro _ _ ⟨rfl, rfl⟩
                              cbv
                              obtain ⟨hg14, h0⟩ := grdS h0
                              refine ⟨inr_of hO hg14, ?_⟩
                              obtain ⟨⟨n203, n204, l95, n205⟩, hv, h0⟩ := bindS h0
                              try dsimp only at h0
                              refine call_go hO hX (fn_group_Groups hO hv) (by kernel_rfl) [0] rfl ⟨rfl, rfl, trivial⟩ rfl ?_
                              rintro _ _ ⟨rfl, rfl⟩
                              cbv
                              obtain ⟨x158, h1, h0⟩ := bindS h0
                              rcases condS h1 with ⟨hc15, h1⟩ | ⟨hc15, h1⟩
                              · rw [hc15]
                                cbv
                                cases h1
                                try dsimp only at h0
                                cases h0
                                exact fin_ok hX rfl ⟨[], _, _, ⟨rfl, rfl⟩, rfl, rfl, rfl, rfl, by cbv; try simp⟩
                              · rw [hc15]
                                cbv
                                rcases condS h1 with ⟨hc16, h1⟩ | ⟨hc16, h1⟩
                                · rw [hc16]
                                  cbv
                                  cases h1
                                  try dsimp only at h0
                                  cases h0
                                  exact fin_ok hX rfl ⟨[], _, _, ⟨rfl, rfl⟩, rfl, rfl, rfl, rfl, by cbv; try simp⟩
                                · rw [hc16]
                                  cbv
                                  rcases condS h1 with ⟨hc17, h1⟩ | ⟨hc17, h1⟩
                                  · rw [hc17]
                                    cbv
                                    cases h1
                                    try dsimp only at h0
                                    cases h0
                                    exact fin_ok hX rfl ⟨[], _, _, ⟨rfl, rfl⟩, rfl, rfl, rfl, rfl, by cbv; try simp⟩
                                  · rw [hc17]
                                    cbv
                                    obtain ⟨b67, hv, h1⟩ := bindS h1
                                    refine call_go hO hX (fn_ref16_Same hO hv) (by kernel_rfl) [14, 16] rfl ⟨rfl, rfl, rfl, rfl, trivial⟩ rfl ?_
                                    rintro _ _ ⟨rfl, rfl⟩
                                    cbv
                                    cases h1
                                    try dsimp only at h0
                                    cases h0
                                    exact fin_ok hX rfl ⟨[], _, _, ⟨rfl, rfl⟩, rfl, rfl, rfl, rfl, by cbv; try simp⟩
                        · as_aux_lemma =>
                          rw [hc11]
                          cbv
                          cases h1
                          try dsimp only at h0
                          obtain ⟨⟨n197, n198, l93, n199⟩, hv, h0⟩ := bindS h0
                          try dsimp only at h0
                          refine call_go hO hX (fn_group_Groups hO hv) (by kernel_rfl) [0] rfl ⟨rfl, rfl, trivial⟩ rfl ?_
                          rintro _ _ ⟨rfl, rfl⟩
                          cbv
                          obtain ⟨⟨n200, n201, l94, n202⟩, hv, h0⟩ := bindS h0
                          try dsimp only at h0
                          refine call_go hO hX (fn_group_Groups hO hv) (by kernel_rfl) [10] rfl ⟨rfl, rfl, trivial⟩ rfl ?_
                          rintro _ _ ⟨rfl, rfl⟩
                          cbv
                          obtain ⟨hg12, h0⟩ := grdS h0
                          refine ⟨inr_of hO hg12, ?_⟩
                          obtain ⟨⟨n203, n204, l95, n205⟩, hv, h0⟩ := bindS h0
                          try dsimp only at h0
                          refine call_go hO hX (fn_group_Groups hO hv) (by kernel_rfl) [0] rfl ⟨rfl, rfl, trivial⟩ rfl ?_
                          rintro _ _ ⟨rfl, rfl⟩
                          cbv
                          obtain ⟨x158, h1, h0⟩ := bindS h0
                          rcases condS h1 with ⟨hc13, h1⟩ | ⟨hc13, h1⟩
                          · rw [hc13]
                            cbv
                            cases h1
                            try dsimp only at h0
                            cases h0
                            exact fin_ok hX rfl ⟨[], _, _, ⟨rfl, rfl⟩, rfl, rfl, rfl, rfl, by cbv; try simp⟩
                          · rw [hc13]
                            cbv
                            rcases condS h1 with ⟨hc14, h1⟩ | ⟨hc14, h1⟩
                            · rw [hc14]
                              cbv
                              cases h1
                              try dsimp only at h0
                              cases h0
                              exact fin_ok hX rfl ⟨[], _, _, ⟨rfl, rfl⟩, rfl, rfl, rfl, rfl, by cbv; try simp⟩
                            · rw [hc14]
                              cbv
                              rcases condS h1 with ⟨hc15, h1⟩ | ⟨hc15, h1⟩
                              · rw [hc15]
                                cbv
                                cases h1
                                try dsimp only at h0
                                cases h0
                                exact fin_ok hX rfl ⟨[], _, _, ⟨rfl, rfl⟩, rfl, rfl, rfl, rfl, by cbv; try simp⟩
                              · rw [hc15]
                                cbv
                                obtain ⟨b67, hv, h1⟩ := bindS h1
                                refine call_go hO hX (fn_ref16_Same hO hv) (by kernel_rfl) [12, 14] rfl ⟨rfl, rfl, rfl, rfl, trivial⟩ rfl ?_
                                rintro _ _ ⟨rfl, rfl⟩
                                cbv
                                cases h1
                                try dsimp only at h0
                                cases h0
                                exact fin_ok hX rfl ⟨[], _, _, ⟨rfl, rfl⟩, rfl, rfl, rfl, rfl, by cbv; try simp⟩
set_option maxHeartbeats 4000000 in
theorem fn_granule_at {O0 : Ops} (hO0 : O0 = std) {c_1 : Int} {c_2 : Int} {k_1 : Int} {c_3 : List (Int × Int)} {r1 : Int} {r2 : Int} (h : m_granule_at O0 c_1 c_2 k_1 c_3 = some (r1, r2)) :
    Fn Try.prog 68 [.agg [.int .i64 c_1, .int .i64 c_2, .sl 0], .c (.int .i64 k_1)] [.arr false .i2 c_3] (fun v c => v = .agg [.int .i64 r1, .int .i64 r2] ∧ c = []) := by
  refine fn_run tab_holds eqs_holds mixed [] Try.func68 (by kernel_rfl) (by kernel_rfl) (Nat.le_of_ble_eq_true rfl) ?_
  intro O X hO hX
  rw [hO0, ← hO] at h
  unfold m_granule_at at h
  have h0 := h; clear h
  cbv
  obtain ⟨n210, hv, h0⟩ := bindS h0
  refine call_go hO hX (fn_integer_Floor hO hv) (by kernel_rfl) [] rfl trivial rfl ?_
  rintro _ _ ⟨rfl, rfl⟩
  cbv
  obtain ⟨hg0, h0⟩ := grdS h0
  refine ⟨inr_of hO hg0, ?_⟩
  obtain ⟨hg1, h0⟩ := grdS h0
  refine ⟨inr_of hO hg1, ?_⟩
  obtain ⟨hg2, h0⟩ := grdS h0
  refine ⟨inr_of hO hg2, ?_⟩
  obtain ⟨hg3, h0⟩ := grdS h0
  refine ⟨inr_of hO hg3, ?_⟩
  obtain ⟨hg4, h0⟩ := grdS h0
  refine ⟨idx_of hO hg4, ?_⟩
  obtain ⟨hg5, h0⟩ := grdS h0
  refine ⟨kin_of hO hg5, ?_⟩
  obtain ⟨hg6, h0⟩ := grdS h0
  refine ⟨inr_of hO hg6, ?_⟩
  obtain ⟨hg7, h0⟩ := grdS h0
  refine ⟨inr_of hO hg7, ?_⟩
  cases h0
  exact fin_ok hX rfl ⟨[], _, _, ⟨rfl, rfl⟩, rfl, rfl, rfl, rfl, by cbv; try simp⟩
set_option maxHeartbeats 4000000 in
theorem fn_granule_Span {O0 : Ops} (hO0 : O0 = std) {c_1 : Int} {c_2 : Int} {k_1 : Int} {c_3 : List (Int × Int)} {r1 : Int} {r2 : Int} {r3 : Int} (h : m_granule_Span O0 c_1 c_2 k_1 c_3 = some (r1, r2, r3)) :
    Fn Try.prog 32 [.agg [.int .i64 c_1, .int .i64 c_2, .sl 0], .c (.int .i64 k_1)] [.arr false .i2 c_3] (fun v c => v = .tup [.many [.int .i64 r1, .int .i64 r2], .one (.int .i64 r3)] ∧ c = []) := by
  refine fn_run tab_holds eqs_holds mixed [] Try.func32 (by kernel_rfl) (by kernel_rfl) (Nat.le_of_ble_eq_true rfl) ?_
  intro O X hO hX
  rw [hO0, ← hO] at h
  unfold m_granule_Span at h
  have h0 := h; clear h
  cbv
  obtain ⟨b70, hv, h0⟩ := bindS h0
  refine call_go hO hX (fn_granule_Valid hO hv) (by kernel_rfl) [0] rfl ⟨rfl, rfl, trivial⟩ rfl ?_
  rintro _ _ ⟨rfl, rfl⟩
  cbv
  rcases condS h0 with ⟨hc0, h0⟩ | ⟨hc0, h0⟩
  · rw [hc0]
    cbv
    cases h0
    exact fin_ok hX rfl ⟨[], _, _, ⟨rfl, rfl⟩, rfl, rfl, rfl, rfl, by cbv; try simp⟩
  · as_aux_lemma =>
    rw [hc0]
    cbv
    obtain ⟨n209, hv, h0⟩ := bindS h0
    refine call_go hO hX (fn_integer_Floor hO hv) (by kernel_rfl) [] rfl trivial rfl ?_
    rintro _ _ ⟨rfl, rfl⟩
    cbv
    obtain ⟨x162, h1, h0⟩ := bindS h0
    rcases condS h1 with ⟨hc1, h1⟩ | ⟨hc1, h1⟩
    · rw [hc1]
      cbv
      obtain ⟨hg2, h1⟩ := grdS h1
      refine ⟨nz_of hO hg2, ?_⟩
      obtain ⟨hg3, h1⟩ := grdS h1
      refine ⟨inr_of hO hg3, ?_⟩
      cases h1
      try dsimp only at h0
      replace h0 := condT h0 rfl
      cases h0
      exact fin_ok hX rfl ⟨[], _, _, ⟨rfl, rfl⟩, rfl, rfl, rfl, rfl, by cbv; try simp⟩
    · as_aux_lemma =>
      rw [hc1]
      cbv
      obtain ⟨hg2, h1⟩ := grdS h1
      refine ⟨nz_of hO hg2, ?_⟩
      obtain ⟨hg3, h1⟩ := grdS h1
      refine ⟨inr_of hO hg3, ?_⟩
      refine ⟨nz_of hO hg2, ?_⟩
      obtain ⟨hg4, h1⟩ := grdS h1
      refine ⟨inr_of hO hg4, ?_⟩
      obtain ⟨hg5, h1⟩ := grdS h1
      refine ⟨inr_of hO hg5, ?_⟩
      cases h1
      try dsimp only at h0
      rcases condS h0 with ⟨hc6, h0⟩ | ⟨hc6, h0⟩
      · rw [hc6]
        cbv
        cases h0
        exact fin_ok hX rfl ⟨[], _, _, ⟨rfl, rfl⟩, rfl, rfl, rfl, rfl, by cbv; try simp⟩
      · rw [hc6]
        cbv
        obtain ⟨⟨n211, n212⟩, hv, h0⟩ := bindS h0
        try dsimp only at h0
        refine call_go hO hX (fn_granule_at hO hv) (by kernel_rfl) [0] rfl ⟨rfl, rfl, trivial⟩ rfl ?_
        rintro _ _ ⟨rfl, rfl⟩
        cbv
        obtain ⟨x164, h1, h0⟩ := bindS h0
        obtain ⟨b71, hv, h1⟩ := bindS h1
        refine call_go hO hX (fn_granule_line hO hv) (by kernel_rfl) [] rfl trivial rfl ?_
        rintro _ _ ⟨rfl, rfl⟩
        cbv
        rcases condS h1 with ⟨hc7, h1⟩ | ⟨hc7, h1⟩
        · rw [hc7]
          cbv
          cases h1
          try dsimp only at h0
          replace h0 := condT h0 rfl
          cases h0
          exact fin_ok hX rfl ⟨[], _, _, ⟨rfl, rfl⟩, rfl, rfl, rfl, rfl, by cbv; try simp⟩
        · rw [hc7]
          cbv
          obtain ⟨b72, hv, h1⟩ := bindS h1
          refine call_go hO hX (fn_granule_line hO hv) (by kernel_rfl) [] rfl trivial rfl ?_
          rintro _ _ ⟨rfl, rfl⟩
          cbv
          cases h1
          try dsimp only at h0
          rcases condS h0 with ⟨hc8, h0⟩ | ⟨hc8, h0⟩
          · rw [hc8]
            cbv
            cases h0
            exact fin_ok hX rfl ⟨[], _, _, ⟨rfl, rfl⟩, rfl, rfl, rfl, rfl, by cbv; try simp⟩
          · rw [hc8]
            cbv
            cases h0
            exact fin_ok hX rfl ⟨[], _, _, ⟨rfl, rfl⟩, rfl, rfl, rfl, rfl, by cbv; try simp⟩
end Go.Proofs.Ytoklfjkanipjkaa
