/-
  The code does what its models say (printed by lift.py).
-/
import Derived.Test.YtoklfjkanipjkaaGM
import Derived.Test.YtoklfjkanipjkaaManW
import Derived.Test.YtoklfjkanipjkaaGW0
import Derived.Test.YtoklfjkanipjkaaGW1
import Derived.Test.YtoklfjkanipjkaaGW3
import Derived.Test.YtoklfjkanipjkaaGW4
namespace Go.Proofs.Ytoklfjkanipjkaa
open Go.RowKit
set_option maxRecDepth 100000

set_option maxHeartbeats 4000000 in
theorem fn_law16_GroupHulls {O0 : Ops} (hO0 : O0 = std) {c_1 : Int} {c_2 : Int} {first_1 : Int} {m_1 : Int} {j_1 : Int} {c_3 : List (Int × Int)} {r1 : Bool} (h : m_law16_GroupHulls O0 c_1 c_2 first_1 m_1 j_1 c_3 = some r1) :
    Fn Try.prog 8 [.agg [.int .i64 c_1, .int .i64 c_2, .sl 0], .c (.int .i64 first_1), .c (.int .i64 m_1), .c (.int .i64 j_1)] [.arr false .i2 c_3] (fun v c => v = .c (.bool r1) ∧ c = []) := by
  refine fn_run tab_holds eqs_holds mixed [] Try.func8 (by kernel_rfl) (by kernel_rfl) (Nat.le_of_ble_eq_true rfl) ?_
  intro O X hO hX
  rw [hO0, ← hO] at h
  unfold m_law16_GroupHulls at h
  have h0 := h; clear h
  cbv
  obtain ⟨b68, hv, h0⟩ := bindS h0
  refine call_go hO hX (fn_law16_awake hO hv) (by kernel_rfl) [] rfl trivial rfl ?_
  rintro _ _ ⟨rfl, rfl⟩
  cbv
  rcases condS h0 with ⟨hc0, h0⟩ | ⟨hc0, h0⟩
  · rw [hc0]
    cbv
    cases h0
    exact fin_ok hX rfl ⟨[], _, _, ⟨rfl, rfl⟩, rfl, rfl, rfl, rfl, by cbv; try simp⟩
  · as_aux_lemma =>
    rw [hc0]
    cbv
    obtain ⟨x160, h1, h0⟩ := bindS h0
    obtain ⟨b69, hv, h1⟩ := bindS h1
    refine call_go hO hX (fn_law16_great hO hv) (by kernel_rfl) [2, 0] rfl ⟨rfl, rfl, rfl, rfl, trivial⟩ rfl ?_
    rintro _ _ ⟨rfl, rfl⟩
    cbv
    rcases condS h1 with ⟨hc1, h1⟩ | ⟨hc1, h1⟩
    · rw [hc1]
      cbv
      cases h1
      try dsimp only at h0
      replace h0 := condT h0 rfl
      cases h0
      exact fin_ok hX rfl ⟨[], _, _, ⟨rfl, rfl⟩, rfl, rfl, rfl, rfl, by cbv; try simp⟩
    · as_aux_lemma =>
      rw [hc1]
      cbv
      rcases condS h1 with ⟨hc2, h1⟩ | ⟨hc2, h1⟩
      · rw [hc2]
        cbv
        cases h1
        try dsimp only at h0
        replace h0 := condT h0 rfl
        cases h0
        exact fin_ok hX rfl ⟨[], _, _, ⟨rfl, rfl⟩, rfl, rfl, rfl, rfl, by cbv; try simp⟩
      · as_aux_lemma =>
        rw [hc2]
        cbv
        rcases condS h1 with ⟨hc3, h1⟩ | ⟨hc3, h1⟩
        · rw [hc3]
          cbv
          cases h1
          try dsimp only at h0
          replace h0 := condT h0 rfl
          cases h0
          exact fin_ok hX rfl ⟨[], _, _, ⟨rfl, rfl⟩, rfl, rfl, rfl, rfl, by cbv; try simp⟩
        · as_aux_lemma =>
          rw [hc3]
          cbv
          rcases condS h1 with ⟨hc4, h1⟩ | ⟨hc4, h1⟩
          · rw [hc4]
            cbv
            cases h1
            try dsimp only at h0
            replace h0 := condT h0 rfl
            cases h0
            exact fin_ok hX rfl ⟨[], _, _, ⟨rfl, rfl⟩, rfl, rfl, rfl, rfl, by cbv; try simp⟩
          · as_aux_lemma =>
            rw [hc4]
            cbv
            rcases condS h1 with ⟨hc5, h1⟩ | ⟨hc5, h1⟩
            · rw [hc5]
              cbv
              cases h1
              try dsimp only at h0
              replace h0 := condT h0 rfl
              cases h0
              exact fin_ok hX rfl ⟨[], _, _, ⟨rfl, rfl⟩, rfl, rfl, rfl, rfl, by cbv; try simp⟩
            · as_aux_lemma =>
              rw [hc5]
              cbv
              rcases condS h1 with ⟨hc6, h1⟩ | ⟨hc6, h1⟩
              · rw [hc6]
                cbv
                cases h1
                try dsimp only at h0
                replace h0 := condT h0 rfl
                cases h0
                exact fin_ok hX rfl ⟨[], _, _, ⟨rfl, rfl⟩, rfl, rfl, rfl, rfl, by cbv; try simp⟩
              · as_aux_lemma =>
                rw [hc6]
                cbv
                cases h1
                try dsimp only at h0
                rcases condS h0 with ⟨hc7, h0⟩ | ⟨hc7, h0⟩
                · rw [hc7]
                  cbv
                  cases h0
                  exact fin_ok hX rfl ⟨[], _, _, ⟨rfl, rfl⟩, rfl, rfl, rfl, rfl, by cbv; try simp⟩
                · as_aux_lemma =>
                  rw [hc7]
                  cbv
                  obtain ⟨⟨n206, n207, l96, n208⟩, hv, h0⟩ := bindS h0
                  try dsimp only at h0
                  refine call_go hO hX (fn_group_Groups hO hv) (by kernel_rfl) [0] rfl ⟨rfl, rfl, trivial⟩ rfl ?_
                  rintro _ _ ⟨rfl, rfl⟩
                  cbv
                  rcases condS h0 with ⟨hc8, h0⟩ | ⟨hc8, h0⟩
                  · rw [hc8]
                    cbv
                    cases h0
                    exact fin_ok hX rfl ⟨[], _, _, ⟨rfl, rfl⟩, rfl, rfl, rfl, rfl, by cbv; try simp⟩
                  · as_aux_lemma =>
                    rw [hc8]
                    cbv
                    obtain ⟨⟨n213, n214, n215⟩, hv, h0⟩ := bindS h0
                    try dsimp only at h0
                    refine call_go hO hX (fn_granule_Span hO hv) (by kernel_rfl) [3] rfl ⟨rfl, rfl, trivial⟩ rfl ?_
                    rintro _ _ ⟨rfl, rfl⟩
                    cbv
                    obtain ⟨hg9, h0⟩ := grdS h0
                    refine ⟨inr_of hO hg9, ?_⟩
                    obtain ⟨hg10, h0⟩ := grdS h0
                    refine ⟨inr_of hO hg10, ?_⟩
                    obtain ⟨⟨n216, n217, n218⟩, hv, h0⟩ := bindS h0
                    try dsimp only at h0
                    refine call_go hO hX (fn_granule_Span hO hv) (by kernel_rfl) [0] rfl ⟨rfl, rfl, trivial⟩ rfl ?_
                    rintro _ _ ⟨rfl, rfl⟩
                    cbv
                    obtain ⟨hg11, h0⟩ := grdS h0
                    refine ⟨inr_of hO hg11, ?_⟩
                    obtain ⟨hg12, h0⟩ := grdS h0
                    refine ⟨inr_of hO hg12, ?_⟩
                    obtain ⟨hg13, h0⟩ := grdS h0
                    refine ⟨inr_of hO hg13, ?_⟩
                    obtain ⟨hg14, h0⟩ := grdS h0
                    refine ⟨inr_of hO hg14, ?_⟩
                    obtain ⟨⟨n219, n220, n221⟩, hv, h0⟩ := bindS h0
                    try dsimp only at h0
                    refine call_go hO hX (fn_granule_Span hO hv) (by kernel_rfl) [0] rfl ⟨rfl, rfl, trivial⟩ rfl ?_
                    rintro _ _ ⟨rfl, rfl⟩
                    cbv
                    obtain ⟨x166, h1, h0⟩ := bindS h0
                    rcases condS h1 with ⟨hc15, h1⟩ | ⟨hc15, h1⟩
                    · as_aux_lemma =>
                      rw [hc15]
                      cbv
                      cases h1
                      try dsimp only at h0
                      rcases condS h0 with ⟨hc16, h0⟩ | ⟨hc16, h0⟩
                      · rw [hc16]
                        cbv
                        cases h0
                        exact fin_ok hX rfl ⟨[], _, _, ⟨rfl, rfl⟩, rfl, rfl, rfl, rfl, by cbv; try simp⟩
                      · as_aux_lemma =>
                        rw [hc16]
                        cbv
                        obtain ⟨x169, h1, h0⟩ := bindS h0
                        rcases condS h1 with ⟨hc17, h1⟩ | ⟨hc17, h1⟩
                        · as_aux_lemma =>
                          rw [hc17]
                          cbv
                          rcases condS h1 with ⟨hc18, h1⟩ | ⟨hc18, h1⟩
                          · rw [hc18]
                            cbv
                            cases h1
                            try dsimp only at h0
                            replace h0 := condT h0 rfl
                            cases h0
                            exact fin_ok hX rfl ⟨[], _, _, ⟨rfl, rfl⟩, rfl, rfl, rfl, rfl, by cbv; try simp⟩
                          · as_aux_lemma =>
                            rw [hc18]
                            cbv
                            cases h1
                            try dsimp only at h0
                            rcases condS h0 with ⟨hc19, h0⟩ | ⟨hc19, h0⟩
                            · rw [hc19]
                              cbv
                              cases h0
                              exact fin_ok hX rfl ⟨[], _, _, ⟨rfl, rfl⟩, rfl, rfl, rfl, rfl, by cbv; try simp⟩
                            · as_aux_lemma =>
                              rw [hc19]
                              cbv
                              obtain ⟨hg20, h0⟩ := grdS h0
                              refine ⟨inr_of hO hg20, ?_⟩
                              obtain ⟨⟨n222, n223, l97, n224⟩, hv, h0⟩ := bindS h0
                              try dsimp only at h0
                              refine call_go hO hX (fn_group_Pick hO hv) (by kernel_rfl) [0, 8] rfl ⟨rfl, rfl, rfl, rfl, trivial⟩ rfl ?_
                              rintro _ _ ⟨rfl, rfl⟩
                              cbv
                              rcases condS h0 with ⟨hc21, h0⟩ | ⟨hc21, h0⟩
                              · rw [hc21]
                                cbv
                                cases h0
                                exact fin_ok hX rfl ⟨[], _, _, ⟨rfl, rfl⟩, rfl, rfl, rfl, rfl, by cbv; try simp⟩
                              · rw [hc21]
                                cbv
                                obtain ⟨⟨n225, n226, n227⟩, hv, h0⟩ := bindS h0
                                try dsimp only at h0
                                refine call_go hO hX (fn_granule_Span hO hv) (by kernel_rfl) [9] rfl ⟨rfl, rfl, trivial⟩ rfl ?_
                                rintro _ _ ⟨rfl, rfl⟩
                                cbv
                                refine ⟨inr_of hO hg11, ?_⟩
                                refine ⟨inr_of hO hg12, ?_⟩
                                obtain ⟨hg22, h0⟩ := grdS h0
                                refine ⟨inr_of hO hg22, ?_⟩
                                obtain ⟨⟨n228, n229, n230⟩, hv, h0⟩ := bindS h0
                                try dsimp only at h0
                                refine call_go hO hX (fn_granule_Span hO hv) (by kernel_rfl) [0] rfl ⟨rfl, rfl, trivial⟩ rfl ?_
                                rintro _ _ ⟨rfl, rfl⟩
                                cbv
                                obtain ⟨x171, h1, h0⟩ := bindS h0
                                rcases condS h1 with ⟨hc23, h1⟩ | ⟨hc23, h1⟩
                                · rw [hc23]
                                  cbv
                                  cases h1
                                  try dsimp only at h0
                                  cases h0
                                  exact fin_ok hX rfl ⟨[], _, _, ⟨rfl, rfl⟩, rfl, rfl, rfl, rfl, by cbv; try simp⟩
                                · rw [hc23]
                                  cbv
                                  cases h1
                                  try dsimp only at h0
                                  cases h0
                                  exact fin_ok hX rfl ⟨[], _, _, ⟨rfl, rfl⟩, rfl, rfl, rfl, rfl, by cbv; try simp⟩
                        · as_aux_lemma =>
                          rw [hc17]
                          cbv
                          cases h1
                          try dsimp only at h0
                          replace h0 := condF h0 rfl
                          obtain ⟨hg18, h0⟩ := grdS h0
                          refine ⟨inr_of hO hg18, ?_⟩
                          obtain ⟨⟨n222, n223, l97, n224⟩, hv, h0⟩ := bindS h0
                          try dsimp only at h0
                          refine call_go hO hX (fn_group_Pick hO hv) (by kernel_rfl) [0, 8] rfl ⟨rfl, rfl, rfl, rfl, trivial⟩ rfl ?_
                          rintro _ _ ⟨rfl, rfl⟩
                          cbv
                          rcases condS h0 with ⟨hc19, h0⟩ | ⟨hc19, h0⟩
                          · rw [hc19]
                            cbv
                            cases h0
                            exact fin_ok hX rfl ⟨[], _, _, ⟨rfl, rfl⟩, rfl, rfl, rfl, rfl, by cbv; try simp⟩
                          · rw [hc19]
                            cbv
                            obtain ⟨⟨n225, n226, n227⟩, hv, h0⟩ := bindS h0
                            try dsimp only at h0
                            refine call_go hO hX (fn_granule_Span hO hv) (by kernel_rfl) [9] rfl ⟨rfl, rfl, trivial⟩ rfl ?_
                            rintro _ _ ⟨rfl, rfl⟩
                            cbv
                            refine ⟨inr_of hO hg11, ?_⟩
                            refine ⟨inr_of hO hg12, ?_⟩
                            obtain ⟨hg20, h0⟩ := grdS h0
                            refine ⟨inr_of hO hg20, ?_⟩
                            obtain ⟨⟨n228, n229, n230⟩, hv, h0⟩ := bindS h0
                            try dsimp only at h0
                            refine call_go hO hX (fn_granule_Span hO hv) (by kernel_rfl) [0] rfl ⟨rfl, rfl, trivial⟩ rfl ?_
                            rintro _ _ ⟨rfl, rfl⟩
                            cbv
                            obtain ⟨x171, h1, h0⟩ := bindS h0
                            rcases condS h1 with ⟨hc21, h1⟩ | ⟨hc21, h1⟩
                            · rw [hc21]
                              cbv
                              cases h1
                              try dsimp only at h0
                              cases h0
                              exact fin_ok hX rfl ⟨[], _, _, ⟨rfl, rfl⟩, rfl, rfl, rfl, rfl, by cbv; try simp⟩
                            · rw [hc21]
                              cbv
                              cases h1
                              try dsimp only at h0
                              cases h0
                              exact fin_ok hX rfl ⟨[], _, _, ⟨rfl, rfl⟩, rfl, rfl, rfl, rfl, by cbv; try simp⟩
                    · as_aux_lemma =>
                      rw [hc15]
                      cbv
                      cases h1
                      try dsimp only at h0
                      rcases condS h0 with ⟨hc16, h0⟩ | ⟨hc16, h0⟩
                      · rw [hc16]
                        cbv
                        cases h0
                        exact fin_ok hX rfl ⟨[], _, _, ⟨rfl, rfl⟩, rfl, rfl, rfl, rfl, by cbv; try simp⟩
                      · as_aux_lemma =>
                        rw [hc16]
                        cbv
                        obtain ⟨x169, h1, h0⟩ := bindS h0
                        rcases condS h1 with ⟨hc17, h1⟩ | ⟨hc17, h1⟩
                        · as_aux_lemma =>
                          rw [hc17]
                          cbv
                          rcases condS h1 with ⟨hc18, h1⟩ | ⟨hc18, h1⟩
                          · rw [hc18]
                            cbv
                            cases h1
                            try dsimp only at h0
                            replace h0 := condT h0 rfl
                            cases h0
                            exact fin_ok hX rfl ⟨[], _, _, ⟨rfl, rfl⟩, rfl, rfl, rfl, rfl, by cbv; try simp⟩
                          · as_aux_lemma =>
                            rw [hc18]
                            cbv
                            cases h1
                            try dsimp only at h0
                            rcases condS h0 with ⟨hc19, h0⟩ | ⟨hc19, h0⟩
                            · rw [hc19]
                              cbv
                              cases h0
                              exact fin_ok hX rfl ⟨[], _, _, ⟨rfl, rfl⟩, rfl, rfl, rfl, rfl, by cbv; try simp⟩
                            · as_aux_lemma =>
                              rw [hc19]
                              cbv
                              obtain ⟨hg20, h0⟩ := grdS h0
                              refine ⟨inr_of hO hg20, ?_⟩
                              obtain ⟨⟨n222, n223, l97, n224⟩, hv, h0⟩ := bindS h0
                              try dsimp only at h0
                              refine call_go hO hX (fn_group_Pick hO hv) (by kernel_rfl) [0, 8] rfl ⟨rfl, rfl, rfl, rfl, trivial⟩ rfl ?_
                              rintro _ _ ⟨rfl, rfl⟩
                              cbv
                              rcases condS h0 with ⟨hc21, h0⟩ | ⟨hc21, h0⟩
                              · rw [hc21]
                                cbv
                                cases h0
                                exact fin_ok hX rfl ⟨[], _, _, ⟨rfl, rfl⟩, rfl, rfl, rfl, rfl, by cbv; try simp⟩
                              · rw [hc21]
                                cbv
                                obtain ⟨⟨n225, n226, n227⟩, hv, h0⟩ := bindS h0
                                try dsimp only at h0
                                refine call_go hO hX (fn_granule_Span hO hv) (by kernel_rfl) [9] rfl ⟨rfl, rfl, trivial⟩ rfl ?_
                                rintro _ _ ⟨rfl, rfl⟩
                                cbv
                                refine ⟨inr_of hO hg11, ?_⟩
                                refine ⟨inr_of hO hg12, ?_⟩
                                obtain ⟨hg22, h0⟩ := grdS h0
                                refine ⟨inr_of hO hg22, ?_⟩
                                obtain ⟨⟨n228, n229, n230⟩, hv, h0⟩ := bindS h0
                                try dsimp only at h0
                                refine call_go hO hX (fn_granule_Span hO hv) (by kernel_rfl) [0] rfl ⟨rfl, rfl, trivial⟩ rfl ?_
                                rintro _ _ ⟨rfl, rfl⟩
                                cbv
                                obtain ⟨x171, h1, h0⟩ := bindS h0
                                rcases condS h1 with ⟨hc23, h1⟩ | ⟨hc23, h1⟩
                                · rw [hc23]
                                  cbv
                                  cases h1
                                  try dsimp only at h0
                                  cases h0
                                  exact fin_ok hX rfl ⟨[], _, _, ⟨rfl, rfl⟩, rfl, rfl, rfl, rfl, by cbv; try simp⟩
                                · rw [hc23]
                                  cbv
                                  cases h1
                                  try dsimp only at h0
                                  cases h0
                                  exact fin_ok hX rfl ⟨[], _, _, ⟨rfl, rfl⟩, rfl, rfl, rfl, rfl, by cbv; try simp⟩
                        · as_aux_lemma =>
                          rw [hc17]
                          cbv
                          cases h1
                          try dsimp only at h0
                          replace h0 := condF h0 rfl
                          obtain ⟨hg18, h0⟩ := grdS h0
                          refine ⟨inr_of hO hg18, ?_⟩
                          obtain ⟨⟨n222, n223, l97, n224⟩, hv, h0⟩ := bindS h0
                          try dsimp only at h0
                          refine call_go hO hX (fn_group_Pick hO hv) (by kernel_rfl) [0, 8] rfl ⟨rfl, rfl, rfl, rfl, trivial⟩ rfl ?_
                          rintro _ _ ⟨rfl, rfl⟩
                          cbv
                          rcases condS h0 with ⟨hc19, h0⟩ | ⟨hc19, h0⟩
                          · rw [hc19]
                            cbv
                            cases h0
                            exact fin_ok hX rfl ⟨[], _, _, ⟨rfl, rfl⟩, rfl, rfl, rfl, rfl, by cbv; try simp⟩
                          · rw [hc19]
                            cbv
                            obtain ⟨⟨n225, n226, n227⟩, hv, h0⟩ := bindS h0
                            try dsimp only at h0
                            refine call_go hO hX (fn_granule_Span hO hv) (by kernel_rfl) [9] rfl ⟨rfl, rfl, trivial⟩ rfl ?_
                            rintro _ _ ⟨rfl, rfl⟩
                            cbv
                            refine ⟨inr_of hO hg11, ?_⟩
                            refine ⟨inr_of hO hg12, ?_⟩
                            obtain ⟨hg20, h0⟩ := grdS h0
                            refine ⟨inr_of hO hg20, ?_⟩
                            obtain ⟨⟨n228, n229, n230⟩, hv, h0⟩ := bindS h0
                            try dsimp only at h0
                            refine call_go hO hX (fn_granule_Span hO hv) (by kernel_rfl) [0] rfl ⟨rfl, rfl, trivial⟩ rfl ?_
                            rintro _ _ ⟨rfl, rfl⟩
                            cbv
                            obtain ⟨x171, h1, h0⟩ := bindS h0
                            rcases condS h1 with ⟨hc21, h1⟩ | ⟨hc21, h1⟩
                            · rw [hc21]
                              cbv
                              cases h1
                              try dsimp only at h0
                              cases h0
                              exact fin_ok hX rfl ⟨[], _, _, ⟨rfl, rfl⟩, rfl, rfl, rfl, rfl, by cbv; try simp⟩
                            · rw [hc21]
                              cbv
                              cases h1
                              try dsimp only at h0
                              cases h0
                              exact fin_ok hX rfl ⟨[], _, _, ⟨rfl, rfl⟩, rfl, rfl, rfl, rfl, by cbv; try simp⟩
set_option maxHeartbeats 4000000 in
theorem fn_slices_IndexFunc_4 {O0 : Ops} (hO0 : O0 = std) {s_1 : Int} {s_2 : Int} {s_3 : Int} {s_4 : Int} {s_5 : List (Int × Int)} {s_6 : List (Int × Int)} {r1 : Int} (h : m_slices_IndexFunc_4 O0 s_1 s_2 s_3 s_4 s_5 s_6 = some r1) :
    Fn Try.prog 86 [.c (.asl 0 2), .c (.fn 46 [])] [.ro 24 [.int .i64 s_1, .int .i64 s_2, .sl 1, .int .i64 s_3, .int .i64 s_4, .sl 2], .arr false .i2 s_5, .arr false .i2 s_6] (fun v c => v = .c (.int .i64 r1) ∧ c = []) := by
  refine fn_run tab_holds eqs_holds mixed [] Try.func86 (by kernel_rfl) (by kernel_rfl) (Nat.le_of_ble_eq_true rfl) ?_
  intro O X hO hX
  rw [hO0, ← hO] at h
  unfold m_slices_IndexFunc_4 at h
  have h0 := h; clear h
  cbv
  refine loop_unroll tab_holds eqs_holds mixed [] hO hX 3 (by kernel_rfl) ?_
  cbv
  rw [show (O .lt 0 (Int.ofNat 2)) = true from by subst hO; rfl]
  cbv
  obtain ⟨b74, hv, h0⟩ := bindS h0
  refine call_go hO hX (fn_law16_great_1 hO hv) (by kernel_rfl) [1] rfl ⟨rfl, rfl, trivial⟩ rfl ?_
  rintro _ _ ⟨rfl, rfl⟩
  cbv
  rcases condS h0 with ⟨hc0, h0⟩ | ⟨hc0, h0⟩
  · rw [hc0]
    cbv
    cases h0
    exact fin_ok hX rfl ⟨[], _, _, ⟨rfl, rfl⟩, rfl, rfl, rfl, rfl, by cbv; try simp⟩
  · rw [hc0]
    cbv
    obtain ⟨hg1, h0⟩ := grdS h0
    refine ⟨inr_of hO hg1, ?_⟩
    try (rw [show (O .add 0 1) = 1 from by subst hO; rfl]; try cbv)
    try (rw [show (O .add 0 1) = 1 from by subst hO; rfl]; try cbv)
    rw [show (O .lt 1 (Int.ofNat 2)) = true from by subst hO; rfl]
    cbv
    obtain ⟨b75, hv, h0⟩ := bindS h0
    refine call_go hO hX (fn_law16_great_1 hO hv) (by kernel_rfl) [2] rfl ⟨rfl, rfl, trivial⟩ rfl ?_
    rintro _ _ ⟨rfl, rfl⟩
    cbv
    rcases condS h0 with ⟨hc2, h0⟩ | ⟨hc2, h0⟩
    · rw [hc2]
      cbv
      cases h0
      exact fin_ok hX rfl ⟨[], _, _, ⟨rfl, rfl⟩, rfl, rfl, rfl, rfl, by cbv; try simp⟩
    · rw [hc2]
      cbv
      obtain ⟨hg3, h0⟩ := grdS h0
      refine ⟨inr_of hO hg3, ?_⟩
      try (rw [show (O .add 1 1) = 2 from by subst hO; rfl]; try cbv)
      try (rw [show (O .add 1 1) = 2 from by subst hO; rfl]; try cbv)
      rw [show (O .lt 2 (Int.ofNat 2)) = false from by subst hO; rfl]
      cbv
      cases h0
      exact fin_ok hX rfl ⟨[], _, _, ⟨rfl, rfl⟩, rfl, rfl, rfl, rfl, by cbv; try simp⟩
set_option maxHeartbeats 4000000 in
theorem fn_slices_ContainsFunc_4 {O0 : Ops} (hO0 : O0 = std) {s_1 : Int} {s_2 : Int} {s_3 : Int} {s_4 : Int} {s_5 : List (Int × Int)} {s_6 : List (Int × Int)} {r1 : Bool} (h : m_slices_ContainsFunc_4 O0 s_1 s_2 s_3 s_4 s_5 s_6 = some r1) :
    Fn Try.prog 45 [.c (.asl 0 2), .c (.fn 46 [])] [.ro 24 [.int .i64 s_1, .int .i64 s_2, .sl 1, .int .i64 s_3, .int .i64 s_4, .sl 2], .arr false .i2 s_5, .arr false .i2 s_6] (fun v c => v = .c (.bool r1) ∧ c = []) := by
  refine fn_run tab_holds eqs_holds mixed [] Try.func45 (by kernel_rfl) (by kernel_rfl) (Nat.le_of_ble_eq_true rfl) ?_
  intro O X hO hX
  rw [hO0, ← hO] at h
  unfold m_slices_ContainsFunc_4 at h
  have h0 := h; clear h
  cbv
  obtain ⟨n231, hv, h0⟩ := bindS h0
  refine call_go hO hX (fn_slices_IndexFunc_4 hO hv) (by kernel_rfl) [0, 1, 2] rfl ⟨rfl, rfl, rfl, rfl, rfl, rfl, trivial⟩ rfl ?_
  rintro _ _ ⟨rfl, rfl⟩
  cbv
  cases h0
  exact fin_ok hX rfl ⟨[], _, _, ⟨rfl, rfl⟩, rfl, rfl, rfl, rfl, by cbv; try simp⟩
set_option maxHeartbeats 4000000 in
theorem fn_law16_great_2 {O0 : Ops} (hO0 : O0 = std) {l_1 : Int} {l_2 : Int} {l_3 : Int} {l_4 : Int} {l_5 : List (Int × Int)} {l_6 : List (Int × Int)} {r1 : Bool} (h : m_law16_great_2 O0 l_1 l_2 l_3 l_4 l_5 l_6 = some r1) :
    Fn Try.prog 14 [.c (.asl 0 2)] [.ro 24 [.int .i64 l_1, .int .i64 l_2, .sl 1, .int .i64 l_3, .int .i64 l_4, .sl 2], .arr false .i2 l_5, .arr false .i2 l_6] (fun v c => v = .c (.bool r1) ∧ c = []) := by
  refine fn_run tab_holds eqs_holds mixed [] Try.func14 (by kernel_rfl) (by kernel_rfl) (Nat.le_of_ble_eq_true rfl) ?_
  intro O X hO hX
  rw [hO0, ← hO] at h
  unfold m_law16_great_2 at h
  have h0 := h; clear h
  cbv
  obtain ⟨b76, hv, h0⟩ := bindS h0
  refine call_go hO hX (fn_slices_ContainsFunc_4 hO hv) (by kernel_rfl) [0, 1, 2] rfl ⟨rfl, rfl, rfl, rfl, rfl, rfl, trivial⟩ rfl ?_
  rintro _ _ ⟨rfl, rfl⟩
  cbv
  cases h0
  exact fin_ok hX rfl ⟨[], _, _, ⟨rfl, rfl⟩, rfl, rfl, rfl, rfl, by cbv; try simp⟩
set_option maxHeartbeats 4000000 in
theorem fn_integer_Lcm {O0 : Ops} (hO0 : O0 = std) {a_1 : Int} {b_1 : Int} {r1 : Int} {r2 : Int} (h : m_integer_Lcm O0 a_1 b_1 = some (r1, r2)) :
    Fn Try.prog 95 [.c (.int .i64 a_1), .c (.int .i64 b_1)] [] (fun v c => v = .tup [.one (.int .i64 r1), .one (.int .i64 r2)] ∧ c = []) := by
  refine fn_run tab_holds eqs_holds mixed [] Try.func95 (by kernel_rfl) (by kernel_rfl) (Nat.le_of_ble_eq_true rfl) ?_
  intro O X hO hX
  rw [hO0, ← hO] at h
  unfold m_integer_Lcm at h
  have h0 := h; clear h
  cbv
  obtain ⟨x177, h1, h0⟩ := bindS h0
  rcases condS h1 with ⟨hc0, h1⟩ | ⟨hc0, h1⟩
  · rw [hc0]
    cbv
    cases h1
    try dsimp only at h0
    replace h0 := condT h0 rfl
    cases h0
    exact fin_ok hX rfl ⟨[], _, _, ⟨rfl, rfl⟩, rfl, rfl, rfl, rfl, by cbv; try simp⟩
  · rw [hc0]
    cbv
    cases h1
    try dsimp only at h0
    rcases condS h0 with ⟨hc1, h0⟩ | ⟨hc1, h0⟩
    · rw [hc1]
      cbv
      cases h0
      exact fin_ok hX rfl ⟨[], _, _, ⟨rfl, rfl⟩, rfl, rfl, rfl, rfl, by cbv; try simp⟩
    · rw [hc1]
      cbv
      obtain ⟨n232, hv, h0⟩ := bindS h0
      refine call_go hO hX (fn_integer_Gcd hO hv) (by kernel_rfl) [] rfl trivial rfl ?_
      rintro _ _ ⟨rfl, rfl⟩
      cbv
      obtain ⟨hg2, h0⟩ := grdS h0
      refine ⟨nz_of hO hg2, ?_⟩
      obtain ⟨hg3, h0⟩ := grdS h0
      refine ⟨inr_of hO hg3, ?_⟩
      obtain ⟨⟨n233, n234⟩, hv, h0⟩ := bindS h0
      try dsimp only at h0
      refine call_go hO hX (fn_integer_Mul hO hv) (by kernel_rfl) [] rfl trivial rfl ?_
      rintro _ _ ⟨rfl, rfl⟩
      cbv
      cases h0
      exact fin_ok hX rfl ⟨[], _, _, ⟨rfl, rfl⟩, rfl, rfl, rfl, rfl, by cbv; try simp⟩
set_option maxHeartbeats 4000000 in
theorem fn_group_common {O0 : Ops} (hO0 : O0 = std) {a_1 : Int} {b_1 : Int} {r1 : Int} {r2 : Int} (h : m_group_common O0 a_1 b_1 = some (r1, r2)) :
    Fn Try.prog 70 [.c (.int .i64 a_1), .c (.int .i64 b_1)] [] (fun v c => v = .tup [.one (.int .i64 r1), .one (.int .i64 r2)] ∧ c = []) := by
  refine fn_run tab_holds eqs_holds mixed [] Try.func70 (by kernel_rfl) (by kernel_rfl) (Nat.le_of_ble_eq_true rfl) ?_
  intro O X hO hX
  rw [hO0, ← hO] at h
  unfold m_group_common at h
  have h0 := h; clear h
  cbv
  obtain ⟨⟨n235, n236⟩, hv, h0⟩ := bindS h0
  try dsimp only at h0
  refine call_go hO hX (fn_integer_Lcm hO hv) (by kernel_rfl) [] rfl trivial rfl ?_
  rintro _ _ ⟨rfl, rfl⟩
  cbv
  obtain ⟨x179, h1, h0⟩ := bindS h0
  rcases condS h1 with ⟨hc0, h1⟩ | ⟨hc0, h1⟩
  · rw [hc0]
    cbv
    cases h1
    try dsimp only at h0
    replace h0 := condT h0 rfl
    cases h0
    exact fin_ok hX rfl ⟨[], _, _, ⟨rfl, rfl⟩, rfl, rfl, rfl, rfl, by cbv; try simp⟩
  · rw [hc0]
    cbv
    cases h1
    try dsimp only at h0
    rcases condS h0 with ⟨hc1, h0⟩ | ⟨hc1, h0⟩
    · rw [hc1]
      cbv
      cases h0
      exact fin_ok hX rfl ⟨[], _, _, ⟨rfl, rfl⟩, rfl, rfl, rfl, rfl, by cbv; try simp⟩
    · rw [hc1]
      cbv
      cases h0
      exact fin_ok hX rfl ⟨[], _, _, ⟨rfl, rfl⟩, rfl, rfl, rfl, rfl, by cbv; try simp⟩
set_option maxHeartbeats 4000000 in
theorem fn_granule_Near_1 {O0 : Ops} (hO0 : O0 = std) {i_1 : Int} {x_1 : Int} {x_2 : Int} {x_3 : Int} {x_4 : List (Int × Int)} {r1 : Bool} (h : m_granule_Near_1 O0 i_1 x_1 x_2 x_3 x_4 = some r1) :
    Fn Try.prog 97 [.c (.int .i64 i_1), .c (.ptr 0 0), .c (.ptr 1 0)] [.ro 24 [.int .i64 x_1, .int .i64 x_2, .sl 2], .ro 3 [.int .i64 x_3], .arr false .i2 x_4] (fun v c => v = .c (.bool r1) ∧ c = []) := by
  refine fn_run tab_holds eqs_holds mixed [(1, (.seg 1 [0, 1, 2, 3, 4, 5, 6, 7, 8] .fin), [])] Try.func97 (by kernel_rfl) (by kernel_rfl) (Nat.le_of_ble_eq_true rfl) ?_
  intro O X hO hX
  rw [hO0, ← hO] at h
  unfold m_granule_Near_1 at h
  have h0 := h; clear h
  cbv
  obtain ⟨hg0, h0⟩ := grdS h0
  refine ⟨idx_of hO hg0, ?_⟩
  obtain ⟨hg1, h0⟩ := grdS h0
  refine ⟨kin_of hO hg1, ?_⟩
  cases h0
  exact fin_ok hX rfl ⟨[], _, _, ⟨rfl, rfl⟩, rfl, rfl, rfl, rfl, by cbv; try simp⟩
set_option maxHeartbeats 4000000 in
theorem fn_sort_Search {O0 : Ops} (hO0 : O0 = std) {n_1 : Int} {c_1 : Int} {c_2 : Int} {c_3 : Int} {c_4 : List (Int × Int)} {r1 : Int} (h : m_sort_Search O0 n_1 c_1 c_2 c_3 c_4 = some r1) :
    Fn Try.prog 96 [.c (.int .i64 n_1), .c (.fn 97 [0, 1])] [.ro 24 [.int .i64 c_1, .int .i64 c_2, .sl 2], .ro 3 [.int .i64 c_3], .arr false .i2 c_4] (fun v c => v = .c (.int .i64 r1) ∧ c = []) := by
  refine fn_run tab_holds eqs_holds mixed [] Try.func96 (by kernel_rfl) (by kernel_rfl) (Nat.le_of_ble_eq_true rfl) ?_
  intro O X hO hX
  rw [hO0, ← hO] at h
  unfold m_sort_Search at h
  have h0 := h; clear h
  cbv
  obtain ⟨i25, hi, h0⟩ := bindS h0
  obtain ⟨I1, hI1, hi⟩ := loopS hi
  refine loop1 tab_holds eqs_holds mixed [] hO hX I1 (fun y => [(5, .c (.int .i64 y.2.1)), (6, .c (.int .i64 y.2.2))]) (fun _ => []) (fun y => y.1) _ (by kernel_rfl) hi (by cbv; try simp) ?_
  rintro ⟨n1, i22, j3⟩ hi
  cbv
  rw [hI1] at hi
  obtain ⟨n1, rfl, x1, h1, hi1⟩ := iterS hi
  unfold m_sort_Search_L1 at h1
  try dsimp only at h1
  rcases condS h1 with ⟨hc0, h1⟩ | ⟨hc0, h1⟩
  · rw [hc0]
    cbv
    obtain ⟨hg1, h1⟩ := grdS h1
    refine ⟨inr_of hO hg1, ?_⟩
    obtain ⟨hg2, h1⟩ := grdS h1
    refine ⟨inr_of hO hg2, ?_⟩
    obtain ⟨hg3, h1⟩ := grdS h1
    refine ⟨idx_of hO hg3, ?_⟩
    obtain ⟨hg4, h1⟩ := grdS h1
    refine ⟨inr_of hO hg4, ?_⟩
    obtain ⟨b84, hv, h1⟩ := bindS h1
    refine call_go hO hX (fn_granule_Near_1 hO hv) (by kernel_rfl) [0, 1, 2] rfl ⟨rfl, rfl, rfl, rfl, rfl, rfl, trivial⟩ rfl ?_
    rintro _ _ ⟨rfl, rfl⟩
    cbv
    obtain ⟨⟨i24, j5⟩, h2, h1⟩ := bindS h1
    rcases condS h2 with ⟨hc5, h2⟩ | ⟨hc5, h2⟩
    · rw [hc5]
      cbv
      obtain ⟨hg6, h2⟩ := grdS h2
      refine ⟨inr_of hO hg6, ?_⟩
      cases h2
      try dsimp only at h1
      cases h1
      exact ⟨_, [0, 1, 2], nextI hI1 hi1, by cbv; try simp, by first | exact Nat.lt_succ_self _ | omega⟩
    · rw [hc5]
      cbv
      cases h2
      try dsimp only at h1
      cases h1
      exact ⟨_, [0, 1, 2], nextI hI1 hi1, by cbv; try simp, by first | exact Nat.lt_succ_self _ | omega⟩
  · rw [hc0]
    cbv
    cases h1
    cases exitI hi1
    try dsimp only at h0
    cases h0
    exact fin_ok hX rfl ⟨[], _, _, ⟨rfl, rfl⟩, rfl, rfl, rfl, rfl, by cbv; try simp⟩
set_option maxHeartbeats 4000000 in
theorem fn_granule_Near {O0 : Ops} (hO0 : O0 = std) {c_1 : Int} {c_2 : Int} {x_1 : Int} {c_3 : List (Int × Int)} {r1 : Int} (h : m_granule_Near O0 c_1 c_2 x_1 c_3 = some r1) :
    Fn Try.prog 72 [.agg [.int .i64 c_1, .int .i64 c_2, .sl 0], .c (.int .i64 x_1)] [.arr false .i2 c_3] (fun v c => v = .c (.int .i64 r1) ∧ c = []) := by
  refine fn_run tab_holds eqs_holds mixed [] Try.func72 (by kernel_rfl) (by kernel_rfl) (Nat.le_of_ble_eq_true rfl) ?_
  intro O X hO hX
  rw [hO0, ← hO] at h
  unfold m_granule_Near at h
  have h0 := h; clear h
  cbv
  obtain ⟨x184, h1, h0⟩ := bindS h0
  obtain ⟨b82, hv, h1⟩ := bindS h1
  refine call_go hO hX (fn_granule_Valid hO hv) (by kernel_rfl) [0] rfl ⟨rfl, rfl, trivial⟩ rfl ?_
  rintro _ _ ⟨rfl, rfl⟩
  cbv
  rcases condS h1 with ⟨hc0, h1⟩ | ⟨hc0, h1⟩
  · rw [hc0]
    cbv
    cases h1
    try dsimp only at h0
    replace h0 := condT h0 rfl
    cases h0
    exact fin_ok hX rfl ⟨[], _, _, ⟨rfl, rfl⟩, rfl, rfl, rfl, rfl, by cbv; try simp⟩
  · rw [hc0]
    cbv
    obtain ⟨b83, hv, h1⟩ := bindS h1
    refine call_go hO hX (fn_granule_line hO hv) (by kernel_rfl) [] rfl trivial rfl ?_
    rintro _ _ ⟨rfl, rfl⟩
    cbv
    cases h1
    try dsimp only at h0
    rcases condS h0 with ⟨hc1, h0⟩ | ⟨hc1, h0⟩
    · rw [hc1]
      cbv
      cases h0
      exact fin_ok hX rfl ⟨[], _, _, ⟨rfl, rfl⟩, rfl, rfl, rfl, rfl, by cbv; try simp⟩
    · rw [hc1]
      cbv
      obtain ⟨hg2, h0⟩ := grdS h0
      refine ⟨inr_of hO hg2, ?_⟩
      obtain ⟨n241, hv, h0⟩ := bindS h0
      refine call_go hO hX (fn_integer_Floor hO hv) (by kernel_rfl) [] rfl trivial rfl ?_
      rintro _ _ ⟨rfl, rfl⟩
      cbv
      refine ⟨inr_of hO hg2, ?_⟩
      obtain ⟨hg3, h0⟩ := grdS h0
      refine ⟨inr_of hO hg3, ?_⟩
      obtain ⟨hg4, h0⟩ := grdS h0
      refine ⟨inr_of hO hg4, ?_⟩
      obtain ⟨n242, hv, h0⟩ := bindS h0
      refine call_go hO hX (fn_sort_Search hO hv) (by kernel_rfl) [1, 2, 0] rfl ⟨rfl, rfl, rfl, rfl, rfl, rfl, trivial⟩ rfl ?_
      rintro _ _ ⟨rfl, rfl⟩
      cbv
      obtain ⟨hg5, h0⟩ := grdS h0
      refine ⟨inr_of hO hg5, ?_⟩
      obtain ⟨hg6, h0⟩ := grdS h0
      refine ⟨inr_of hO hg6, ?_⟩
      obtain ⟨hg7, h0⟩ := grdS h0
      refine ⟨inr_of hO hg7, ?_⟩
      cases h0
      exact fin_ok hX rfl ⟨[], _, _, ⟨rfl, rfl⟩, rfl, rfl, rfl, rfl, by cbv; try simp⟩
set_option maxHeartbeats 4000000 in
theorem fn_group_Inside_1 {O0 : Ops} (hO0 : O0 = std) {l_1 : Int} {x_1 : Int} {x_2 : Int} {x_3 : Int} {x_4 : Int} {x_5 : Int} {x_6 : List (Int × Int)} {x_7 : List (Int × Int)} {r1 : Int} {r2 : Int} {r3 : Bool} (h : m_group_Inside_1 O0 l_1 x_1 x_2 x_3 x_4 x_5 x_6 x_7 = some (r1, r2, r3)) :
    Fn Try.prog 71 [.c (.int .i64 l_1), .c (.ptr 0 0), .c (.ptr 1 0), .c (.ptr 2 0)] [.ro 24 [.int .i64 x_1, .int .i64 x_2, .sl 3], .ro 24 [.int .i64 x_3, .int .i64 x_4, .sl 4], .ro 3 [.int .i64 x_5], .arr false .i2 x_6, .arr false .i2 x_7] (fun v c => v = .tup [.many [.int .i64 r1, .int .i64 r2], .one (.bool r3)] ∧ c = []) := by
  refine fn_run tab_holds eqs_holds mixed [(2, (.seg 1 [0, 1, 2, 3, 6, 7, 8, 9] (.seg 2 [4] (.seg 1 [5] (.seg 2 [10] (.seg 1 [11, 12] .fin))))), []), (3, (.seg 1 [0, 1, 4, 5] (.seg 2 [2] (.seg 1 [3, 6] .fin))), [])] Try.func71 (by kernel_rfl) (by kernel_rfl) (Nat.le_of_ble_eq_true rfl) ?_
  intro O X hO hX
  rw [hO0, ← hO] at h
  unfold m_group_Inside_1 at h
  have h0 := h; clear h
  cbv
  obtain ⟨⟨n239, n240⟩, hv, h0⟩ := bindS h0
  try dsimp only at h0
  refine call_go hO hX (fn_group_at hO hv) (by kernel_rfl) [3] rfl ⟨rfl, rfl, trivial⟩ rfl ?_
  rintro _ _ ⟨rfl, rfl⟩
  cbv
  obtain ⟨hg0, h0⟩ := grdS h0
  refine ⟨inr_of hO hg0, ?_⟩
  obtain ⟨hg1, h0⟩ := grdS h0
  refine ⟨inr_of hO hg1, ?_⟩
  obtain ⟨n243, hv, h0⟩ := bindS h0
  refine call_go hO hX (fn_granule_Near hO hv) (by kernel_rfl) [4] rfl ⟨rfl, rfl, trivial⟩ rfl ?_
  rintro _ _ ⟨rfl, rfl⟩
  cbv
  obtain ⟨hg2, h0⟩ := grdS h0
  refine ⟨inr_of hO hg2, ?_⟩
  obtain ⟨n244, hv, h0⟩ := bindS h0
  refine call_go hO hX (fn_granule_Near hO hv) (by kernel_rfl) [4] rfl ⟨rfl, rfl, trivial⟩ rfl ?_
  rintro _ _ ⟨rfl, rfl⟩
  cbv
  obtain ⟨⟨n245, n246⟩, hv, h0⟩ := bindS h0
  try dsimp only at h0
  refine call_go hO hX (fn_group_at hO hv) (by kernel_rfl) [4] rfl ⟨rfl, rfl, trivial⟩ rfl ?_
  rintro _ _ ⟨rfl, rfl⟩
  cbv
  obtain ⟨last2, h1, h0⟩ := bindS h0
  rcases condS h1 with ⟨hc3, h1⟩ | ⟨hc3, h1⟩
  · as_aux_lemma =>
    rw [hc3]
    cbv
    obtain ⟨hg4, h1⟩ := grdS h1
    refine ⟨inr_of hO hg4, ?_⟩
    cases h1
    try dsimp only at h0
    obtain ⟨hg5, h0⟩ := grdS h0
    refine ⟨inr_of hO hg5, ?_⟩
    obtain ⟨hg6, h0⟩ := grdS h0
    refine ⟨inr_of hO hg6, ?_⟩
    obtain ⟨x186, h1, h0⟩ := bindS h0
    rcases condS h1 with ⟨hc7, h1⟩ | ⟨hc7, h1⟩
    · as_aux_lemma =>
      rw [hc7]
      cbv
      cases h1
      try dsimp only at h0
      obtain ⟨e1, h1, h0⟩ := bindS h0
      rcases condS h1 with ⟨hc8, h1⟩ | ⟨hc8, h1⟩
      · rw [hc8]
        cbv
        obtain ⟨hg9, h1⟩ := grdS h1
        refine ⟨inr_of hO hg9, ?_⟩
        obtain ⟨hg10, h1⟩ := grdS h1
        refine ⟨inr_of hO hg10, ?_⟩
        obtain ⟨⟨n247, n248⟩, hv, h1⟩ := bindS h1
        try dsimp only at h1
        refine call_go hO hX (fn_group_at hO hv) (by kernel_rfl) [4] rfl ⟨rfl, rfl, trivial⟩ rfl ?_
        rintro _ _ ⟨rfl, rfl⟩
        cbv
        cases h1
        try dsimp only at h0
        cases h0
        exact fin_ok hX rfl ⟨[], _, _, ⟨rfl, rfl⟩, rfl, rfl, rfl, rfl, by cbv; try simp⟩
      · as_aux_lemma =>
        rw [hc8]
        cbv
        obtain ⟨x188, h2, h1⟩ := bindS h1
        rcases condS h2 with ⟨hc9, h2⟩ | ⟨hc9, h2⟩
        · rw [hc9]
          cbv
          obtain ⟨hg10, h2⟩ := grdS h2
          refine ⟨inr_of hO hg10, ?_⟩
          cases h2
          try dsimp only at h1
          rcases condS h1 with ⟨hc11, h1⟩ | ⟨hc11, h1⟩
          · rw [hc11]
            cbv
            obtain ⟨hg12, h1⟩ := grdS h1
            refine ⟨inr_of hO hg12, ?_⟩
            obtain ⟨hg13, h1⟩ := grdS h1
            refine ⟨inr_of hO hg13, ?_⟩
            obtain ⟨⟨n249, n250⟩, hv, h1⟩ := bindS h1
            try dsimp only at h1
            refine call_go hO hX (fn_group_at hO hv) (by kernel_rfl) [4] rfl ⟨rfl, rfl, trivial⟩ rfl ?_
            rintro _ _ ⟨rfl, rfl⟩
            cbv
            cases h1
            try dsimp only at h0
            cases h0
            exact fin_ok hX rfl ⟨[], _, _, ⟨rfl, rfl⟩, rfl, rfl, rfl, rfl, by cbv; try simp⟩
          · rw [hc11]
            cbv
            cases h1
            try dsimp only at h0
            cases h0
            exact fin_ok hX rfl ⟨[], _, _, ⟨rfl, rfl⟩, rfl, rfl, rfl, rfl, by cbv; try simp⟩
        · rw [hc9]
          cbv
          cases h2
          try dsimp only at h1
          replace h1 := condF h1 rfl
          cases h1
          try dsimp only at h0
          cases h0
          exact fin_ok hX rfl ⟨[], _, _, ⟨rfl, rfl⟩, rfl, rfl, rfl, rfl, by cbv; try simp⟩
    · as_aux_lemma =>
      rw [hc7]
      cbv
      cases h1
      try dsimp only at h0
      obtain ⟨e1, h1, h0⟩ := bindS h0
      replace h1 := condF h1 rfl
      obtain ⟨x188, h2, h1⟩ := bindS h1
      rcases condS h2 with ⟨hc8, h2⟩ | ⟨hc8, h2⟩
      · rw [hc8]
        cbv
        obtain ⟨hg9, h2⟩ := grdS h2
        refine ⟨inr_of hO hg9, ?_⟩
        cases h2
        try dsimp only at h1
        rcases condS h1 with ⟨hc10, h1⟩ | ⟨hc10, h1⟩
        · rw [hc10]
          cbv
          obtain ⟨hg11, h1⟩ := grdS h1
          refine ⟨inr_of hO hg11, ?_⟩
          obtain ⟨hg12, h1⟩ := grdS h1
          refine ⟨inr_of hO hg12, ?_⟩
          obtain ⟨⟨n249, n250⟩, hv, h1⟩ := bindS h1
          try dsimp only at h1
          refine call_go hO hX (fn_group_at hO hv) (by kernel_rfl) [4] rfl ⟨rfl, rfl, trivial⟩ rfl ?_
          rintro _ _ ⟨rfl, rfl⟩
          cbv
          cases h1
          try dsimp only at h0
          cases h0
          exact fin_ok hX rfl ⟨[], _, _, ⟨rfl, rfl⟩, rfl, rfl, rfl, rfl, by cbv; try simp⟩
        · rw [hc10]
          cbv
          cases h1
          try dsimp only at h0
          cases h0
          exact fin_ok hX rfl ⟨[], _, _, ⟨rfl, rfl⟩, rfl, rfl, rfl, rfl, by cbv; try simp⟩
      · rw [hc8]
        cbv
        cases h2
        try dsimp only at h1
        replace h1 := condF h1 rfl
        cases h1
        try dsimp only at h0
        cases h0
        exact fin_ok hX rfl ⟨[], _, _, ⟨rfl, rfl⟩, rfl, rfl, rfl, rfl, by cbv; try simp⟩
  · as_aux_lemma =>
    rw [hc3]
    cbv
    cases h1
    try dsimp only at h0
    obtain ⟨hg4, h0⟩ := grdS h0
    refine ⟨inr_of hO hg4, ?_⟩
    obtain ⟨hg5, h0⟩ := grdS h0
    refine ⟨inr_of hO hg5, ?_⟩
    obtain ⟨x186, h1, h0⟩ := bindS h0
    rcases condS h1 with ⟨hc6, h1⟩ | ⟨hc6, h1⟩
    · as_aux_lemma =>
      rw [hc6]
      cbv
      cases h1
      try dsimp only at h0
      obtain ⟨e1, h1, h0⟩ := bindS h0
      rcases condS h1 with ⟨hc7, h1⟩ | ⟨hc7, h1⟩
      · rw [hc7]
        cbv
        obtain ⟨hg8, h1⟩ := grdS h1
        refine ⟨inr_of hO hg8, ?_⟩
        obtain ⟨hg9, h1⟩ := grdS h1
        refine ⟨inr_of hO hg9, ?_⟩
        obtain ⟨⟨n247, n248⟩, hv, h1⟩ := bindS h1
        try dsimp only at h1
        refine call_go hO hX (fn_group_at hO hv) (by kernel_rfl) [4] rfl ⟨rfl, rfl, trivial⟩ rfl ?_
        rintro _ _ ⟨rfl, rfl⟩
        cbv
        cases h1
        try dsimp only at h0
        cases h0
        exact fin_ok hX rfl ⟨[], _, _, ⟨rfl, rfl⟩, rfl, rfl, rfl, rfl, by cbv; try simp⟩
      · as_aux_lemma =>
        rw [hc7]
        cbv
        obtain ⟨x188, h2, h1⟩ := bindS h1
        rcases condS h2 with ⟨hc8, h2⟩ | ⟨hc8, h2⟩
        · rw [hc8]
          cbv
          obtain ⟨hg9, h2⟩ := grdS h2
          refine ⟨inr_of hO hg9, ?_⟩
          cases h2
          try dsimp only at h1
          rcases condS h1 with ⟨hc10, h1⟩ | ⟨hc10, h1⟩
          · rw [hc10]
            cbv
            obtain ⟨hg11, h1⟩ := grdS h1
            refine ⟨inr_of hO hg11, ?_⟩
            obtain ⟨hg12, h1⟩ := grdS h1
            refine ⟨inr_of hO hg12, ?_⟩
            obtain ⟨⟨n249, n250⟩, hv, h1⟩ := bindS h1
            try dsimp only at h1
            refine call_go hO hX (fn_group_at hO hv) (by kernel_rfl) [4] rfl ⟨rfl, rfl, trivial⟩ rfl ?_
            rintro _ _ ⟨rfl, rfl⟩
            cbv
            cases h1
            try dsimp only at h0
            cases h0
            exact fin_ok hX rfl ⟨[], _, _, ⟨rfl, rfl⟩, rfl, rfl, rfl, rfl, by cbv; try simp⟩
          · rw [hc10]
            cbv
            cases h1
            try dsimp only at h0
            cases h0
            exact fin_ok hX rfl ⟨[], _, _, ⟨rfl, rfl⟩, rfl, rfl, rfl, rfl, by cbv; try simp⟩
        · rw [hc8]
          cbv
          cases h2
          try dsimp only at h1
          replace h1 := condF h1 rfl
          cases h1
          try dsimp only at h0
          cases h0
          exact fin_ok hX rfl ⟨[], _, _, ⟨rfl, rfl⟩, rfl, rfl, rfl, rfl, by cbv; try simp⟩
    · as_aux_lemma =>
      rw [hc6]
      cbv
      cases h1
      try dsimp only at h0
      obtain ⟨e1, h1, h0⟩ := bindS h0
      replace h1 := condF h1 rfl
      obtain ⟨x188, h2, h1⟩ := bindS h1
      rcases condS h2 with ⟨hc7, h2⟩ | ⟨hc7, h2⟩
      · rw [hc7]
        cbv
        obtain ⟨hg8, h2⟩ := grdS h2
        refine ⟨inr_of hO hg8, ?_⟩
        cases h2
        try dsimp only at h1
        rcases condS h1 with ⟨hc9, h1⟩ | ⟨hc9, h1⟩
        · rw [hc9]
          cbv
          obtain ⟨hg10, h1⟩ := grdS h1
          refine ⟨inr_of hO hg10, ?_⟩
          obtain ⟨hg11, h1⟩ := grdS h1
          refine ⟨inr_of hO hg11, ?_⟩
          obtain ⟨⟨n249, n250⟩, hv, h1⟩ := bindS h1
          try dsimp only at h1
          refine call_go hO hX (fn_group_at hO hv) (by kernel_rfl) [4] rfl ⟨rfl, rfl, trivial⟩ rfl ?_
          rintro _ _ ⟨rfl, rfl⟩
          cbv
          cases h1
          try dsimp only at h0
          cases h0
          exact fin_ok hX rfl ⟨[], _, _, ⟨rfl, rfl⟩, rfl, rfl, rfl, rfl, by cbv; try simp⟩
        · rw [hc9]
          cbv
          cases h1
          try dsimp only at h0
          cases h0
          exact fin_ok hX rfl ⟨[], _, _, ⟨rfl, rfl⟩, rfl, rfl, rfl, rfl, by cbv; try simp⟩
      · rw [hc7]
        cbv
        cases h2
        try dsimp only at h1
        replace h1 := condF h1 rfl
        cases h1
        try dsimp only at h0
        cases h0
        exact fin_ok hX rfl ⟨[], _, _, ⟨rfl, rfl⟩, rfl, rfl, rfl, rfl, by cbv; try simp⟩
set_option maxHeartbeats 4000000 in
theorem fn_group_collect_5 {O0 : Ops} (hO0 : O0 = std) {period_1 : Int} {n_1 : Int} {c_1 : Int} {c_2 : Int} {c_3 : Int} {c_4 : Int} {c_5 : Int} {c_6 : List (Int × Int)} {c_7 : List (Int × Int)} {r1 : Int} {r2 : Int} {r3 : List (Int × Int)} {r4 : Int} (h : m_group_collect_5 O0 period_1 n_1 c_1 c_2 c_3 c_4 c_5 c_6 c_7 = some (r1, r2, r3, r4)) :
    Fn Try.prog 48 [.c (.int .i64 period_1), .c (.int .i64 n_1), .c (.fn 71 [0, 1, 2])] [.ro 24 [.int .i64 c_1, .int .i64 c_2, .sl 3], .ro 24 [.int .i64 c_3, .int .i64 c_4, .sl 4], .ro 3 [.int .i64 c_5], .arr false .i2 c_6, .arr false .i2 c_7] (fun v c => v = .tup [.many [.int .i64 r1, .int .i64 r2, .sl 5], .one (.int .i64 r4)] ∧ c = [.arr true .i2 r3]) := by
  refine fn_run tab_holds eqs_holds mixed [] Try.func48 (by kernel_rfl) (by kernel_rfl) (Nat.le_of_ble_eq_true rfl) ?_
  intro O X hO hX
  rw [hO0, ← hO] at h
  unfold m_group_collect_5 at h
  have h0 := h; clear h
  cbv
  obtain ⟨l103, hi, h0⟩ := bindS h0
  obtain ⟨I1, hI1, hi⟩ := loopS hi
  refine loop1 tab_holds eqs_holds mixed [] hO hX I1 (fun y => [(8, .c (.sl 6)), (13, .c (.int .i64 y.2.1))]) (fun y => [(6, .own 49 .i2 y.2.2)]) (fun y => y.1) _ (by kernel_rfl) hi (by cbv; try simp) ?_
  rintro ⟨n1, x193, l100⟩ hi
  cbv
  rw [hI1] at hi
  obtain ⟨n1, rfl, x1, h1, hi1⟩ := iterS hi
  unfold m_group_collect_5_L1 at h1
  try dsimp only at h1
  rcases condS h1 with ⟨hc0, h1⟩ | ⟨hc0, h1⟩
  · rw [hc0]
    cbv
    obtain ⟨⟨n253, n254, b86⟩, hv, h1⟩ := bindS h1
    try dsimp only at h1
    refine call_go hO hX (fn_group_Inside_1 hO hv) (by kernel_rfl) [0, 1, 2, 3, 4] rfl ⟨rfl, rfl, rfl, rfl, rfl, rfl, rfl, rfl, rfl, rfl, trivial⟩ rfl ?_
    rintro _ _ ⟨rfl, rfl⟩
    cbv
    obtain ⟨l102, h2, h1⟩ := bindS h1
    rcases condS h2 with ⟨hc1, h2⟩ | ⟨hc1, h2⟩
    · rw [hc1]
      cbv
      obtain ⟨hg2, h2⟩ := grdS h2
      refine ⟨room_of hO hg2, ?_⟩
      obtain ⟨hg3, h2⟩ := grdS h2
      refine ⟨room_of hO hg3, ?_⟩
      cases h2
      try dsimp only at h1
      obtain ⟨hg4, h1⟩ := grdS h1
      refine ⟨inr_of hO hg4, ?_⟩
      cases h1
      exact ⟨_, [0, 1, 2, 3, 4, 5, 9], nextI hI1 hi1, by cbv; try simp, by first | exact Nat.lt_succ_self _ | omega⟩
    · rw [hc1]
      cbv
      cases h2
      try dsimp only at h1
      obtain ⟨hg2, h1⟩ := grdS h1
      refine ⟨inr_of hO hg2, ?_⟩
      cases h1
      exact ⟨_, [0, 1, 2, 3, 4, 5, 6], nextI hI1 hi1, by cbv; try simp, by first | exact Nat.lt_succ_self _ | omega⟩
  · rw [hc0]
    cbv
    cases h1
    cases exitI hi1
    try dsimp only at h0
    rcases condS h0 with ⟨hc1, h0⟩ | ⟨hc1, h0⟩
    · rw [hc1]
      cbv
      cases h0
      refine fin_nil hX .i2 7 rfl ?_
      cbv
      exact fin_ok hX rfl ⟨[7], _, _, ⟨rfl, rfl⟩, rfl, rfl, rfl, rfl, by cbv; try simp⟩
    · rw [hc1]
      cbv
      obtain ⟨⟨n255, n256, l104, n257⟩, hv, h0⟩ := bindS h0
      try dsimp only at h0
      refine call_go hO hX (fn_group_made hO hv) (by kernel_rfl) [6] rfl ⟨rfl, rfl, trivial⟩ rfl ?_
      rintro _ _ ⟨rfl, rfl⟩
      cbv
      cases h0
      exact fin_ok hX rfl ⟨[7], _, _, ⟨rfl, rfl⟩, rfl, rfl, rfl, rfl, by cbv; try simp⟩
end Go.Proofs.Ytoklfjkanipjkaa
