/-
  The code does what its models say (printed by lift.py).
-/
import Derived.Test.YtoklfjkanipjkaaGM
import Derived.Test.YtoklfjkanipjkaaManW
import Derived.Test.YtoklfjkanipjkaaGW4
import Derived.Test.YtoklfjkanipjkaaGW5
import Derived.Test.YtoklfjkanipjkaaGW6
import Derived.Test.YtoklfjkanipjkaaGW12
import Derived.Test.YtoklfjkanipjkaaGW18
namespace Go.Proofs.Ytoklfjkanipjkaa
open Go.RowKit
set_option maxRecDepth 100000

set_option maxHeartbeats 4000000 in
theorem fn_law16_GroupHulls {O0 : Ops} (hO0 : O0 = std) {c_1 : Int} {c_2 : Int} {first_1 : Int} {m_1 : Int} {j_1 : Int} {c_3 : List (Int × Int)} {r1 : Bool} (h : m_law16_GroupHulls O0 c_1 c_2 first_1 m_1 j_1 c_3 = some r1) :
    Fn Try.prog 8 [.agg [.int .i64 c_1, .int .i64 c_2, .sl 0], .c (.int .i64 first_1), .c (.int .i64 m_1), .c (.int .i64 j_1)] [.arr false .i2 c_3] (fun v c => v = .c (.bool r1) ∧ c = []) := by
  refine fn_run tab_holds eqs_holds mixed [] Try.func8 (by kernel_rfl) (by kernel_rfl) (Nat.le_of_ble_eq_true rfl) ?_
  intro O X hO hX
  rw [hO0, ← hO] at h
  unfold m_law16_GroupHulls at h
  have h0 := h; clear h
  cbv
  obtain ⟨b68, hv, h0⟩ := bindS h0
  refine call_go hO hX (fn_law16_awake hO hv) (by kernel_rfl) [] rfl trivial rfl ?_
  rintro _ _ ⟨rfl, rfl⟩
  cbv
  rcases condS h0 with ⟨hc0, h0⟩ | ⟨hc0, h0⟩
  · rw [hc0]
    cbv
    cases h0
    exact fin_ok hX rfl ⟨[], _, _, ⟨rfl, rfl⟩, rfl, rfl, rfl, rfl, by cbv; try simp⟩
  · rw [hc0]
    cbv
    obtain ⟨x160, h1, h0⟩ := bindS h0
    obtain ⟨b69, hv, h1⟩ := bindS h1
    refine call_go hO hX (fn_law16_great hO hv) (by kernel_rfl) [2, 0] rfl ⟨rfl, rfl, rfl, rfl, trivial⟩ rfl ?_
    rintro _ _ ⟨rfl, rfl⟩
    cbv
    rcases condS h1 with ⟨hc1, h1⟩ | ⟨hc1, h1⟩
    · rw [hc1]
      cbv
      cases h1
      try dsimp only at h0
      replace h0 := condT h0 rfl
      cases h0
      exact fin_ok hX rfl ⟨[], _, _, ⟨rfl, rfl⟩, rfl, rfl, rfl, rfl, by cbv; try simp⟩
    · rw [hc1]
      cbv
      rcases condS h1 with ⟨hc2, h1⟩ | ⟨hc2, h1⟩
      · rw [hc2]
        cbv
        cases h1
        try dsimp only at h0
        replace h0 := condT h0 rfl
        cases h0
        exact fin_ok hX rfl ⟨[], _, _, ⟨rfl, rfl⟩, rfl, rfl, rfl, rfl, by cbv; try simp⟩
      · rw [hc2]
        cbv
        rcases condS h1 with ⟨hc3, h1⟩ | ⟨hc3, h1⟩
        · rw [hc3]
          cbv
          cases h1
          try dsimp only at h0
          replace h0 := condT h0 rfl
          cases h0
          exact fin_ok hX rfl ⟨[], _, _, ⟨rfl, rfl⟩, rfl, rfl, rfl, rfl, by cbv; try simp⟩
        · rw [hc3]
          cbv
          rcases condS h1 with ⟨hc4, h1⟩ | ⟨hc4, h1⟩
          · rw [hc4]
            cbv
            cases h1
            try dsimp only at h0
            replace h0 := condT h0 rfl
            cases h0
            exact fin_ok hX rfl ⟨[], _, _, ⟨rfl, rfl⟩, rfl, rfl, rfl, rfl, by cbv; try simp⟩
          · rw [hc4]
            cbv
            rcases condS h1 with ⟨hc5, h1⟩ | ⟨hc5, h1⟩
            · rw [hc5]
              cbv
              cases h1
              try dsimp only at h0
              replace h0 := condT h0 rfl
              cases h0
              exact fin_ok hX rfl ⟨[], _, _, ⟨rfl, rfl⟩, rfl, rfl, rfl, rfl, by cbv; try simp⟩
            · rw [hc5]
              cbv
              rcases condS h1 with ⟨hc6, h1⟩ | ⟨hc6, h1⟩
              · rw [hc6]
                cbv
                cases h1
                try dsimp only at h0
                replace h0 := condT h0 rfl
                cases h0
                exact fin_ok hX rfl ⟨[], _, _, ⟨rfl, rfl⟩, rfl, rfl, rfl, rfl, by cbv; try simp⟩
              · rw [hc6]
                cbv
                cases h1
                try dsimp only at h0
                rcases condS h0 with ⟨hc7, h0⟩ | ⟨hc7, h0⟩
                · rw [hc7]
                  cbv
                  cases h0
                  exact fin_ok hX rfl ⟨[], _, _, ⟨rfl, rfl⟩, rfl, rfl, rfl, rfl, by cbv; try simp⟩
                · rw [hc7]
                  cbv
                  obtain ⟨⟨n206, n207, l96, n208⟩, hv, h0⟩ := bindS h0
                  try dsimp only at h0
                  refine call_go hO hX (fn_group_Groups hO hv) (by kernel_rfl) [0] rfl ⟨rfl, rfl, trivial⟩ rfl ?_
                  rintro _ _ ⟨rfl, rfl⟩
                  cbv
                  rcases condS h0 with ⟨hc8, h0⟩ | ⟨hc8, h0⟩
                  · rw [hc8]
                    cbv
                    cases h0
                    exact fin_ok hX rfl ⟨[], _, _, ⟨rfl, rfl⟩, rfl, rfl, rfl, rfl, by cbv; try simp⟩
                  · rw [hc8]
                    cbv
                    obtain ⟨⟨n213, n214, n215⟩, hv, h0⟩ := bindS h0
                    try dsimp only at h0
                    refine call_go hO hX (fn_granule_Span hO hv) (by kernel_rfl) [3] rfl ⟨rfl, rfl, trivial⟩ rfl ?_
                    rintro _ _ ⟨rfl, rfl⟩
                    cbv
                    obtain ⟨hg9, h0⟩ := grdS h0
                    refine ⟨inr_of hO hg9, ?_⟩
                    obtain ⟨hg10, h0⟩ := grdS h0
                    refine ⟨inr_of hO hg10, ?_⟩
                    obtain ⟨⟨n216, n217, n218⟩, hv, h0⟩ := bindS h0
                    try dsimp only at h0
                    refine call_go hO hX (fn_granule_Span hO hv) (by kernel_rfl) [0] rfl ⟨rfl, rfl, trivial⟩ rfl ?_
                    rintro _ _ ⟨rfl, rfl⟩
                    cbv
                    obtain ⟨hg11, h0⟩ := grdS h0
                    refine ⟨inr_of hO hg11, ?_⟩
                    obtain ⟨hg12, h0⟩ := grdS h0
                    refine ⟨inr_of hO hg12, ?_⟩
                    obtain ⟨hg13, h0⟩ := grdS h0
                    refine ⟨inr_of hO hg13, ?_⟩
                    obtain ⟨hg14, h0⟩ := grdS h0
                    refine ⟨inr_of hO hg14, ?_⟩
                    obtain ⟨⟨n219, n220, n221⟩, hv, h0⟩ := bindS h0
                    try dsimp only at h0
                    refine call_go hO hX (fn_granule_Span hO hv) (by kernel_rfl) [0] rfl ⟨rfl, rfl, trivial⟩ rfl ?_
                    rintro _ _ ⟨rfl, rfl⟩
                    cbv
                    obtain ⟨x166, h1, h0⟩ := bindS h0
                    rcases condS h1 with ⟨hc15, h1⟩ | ⟨hc15, h1⟩
                    · rw [hc15]
                      cbv
                      cases h1
                      try dsimp only at h0
                      rcases condS h0 with ⟨hc16, h0⟩ | ⟨hc16, h0⟩
                      · rw [hc16]
                        cbv
                        cases h0
                        exact fin_ok hX rfl ⟨[], _, _, ⟨rfl, rfl⟩, rfl, rfl, rfl, rfl, by cbv; try simp⟩
                      · rw [hc16]
                        cbv
                        obtain ⟨x169, h1, h0⟩ := bindS h0
                        rcases condS h1 with ⟨hc17, h1⟩ | ⟨hc17, h1⟩
                        · rw [hc17]
                          cbv
                          rcases condS h1 with ⟨hc18, h1⟩ | ⟨hc18, h1⟩
                          · rw [hc18]
                            cbv
                            cases h1
                            try dsimp only at h0
                            replace h0 := condT h0 rfl
                            cases h0
                            exact fin_ok hX rfl ⟨[], _, _, ⟨rfl, rfl⟩, rfl, rfl, rfl, rfl, by cbv; try simp⟩
                          · rw [hc18]
                            cbv
                            cases h1
                            try dsimp only at h0
                            rcases condS h0 with ⟨hc19, h0⟩ | ⟨hc19, h0⟩
                            · rw [hc19]
                              cbv
                              cases h0
                              exact fin_ok hX rfl ⟨[], _, _, ⟨rfl, rfl⟩, rfl, rfl, rfl, rfl, by cbv; try simp⟩
                            · rw [hc19]
                              cbv
                              obtain ⟨hg20, h0⟩ := grdS h0
                              refine ⟨inr_of hO hg20, ?_⟩
                              obtain ⟨⟨n222, n223, l97, n224⟩, hv, h0⟩ := bindS h0
                              try dsimp only at h0
                              refine call_go hO hX (fn_group_Pick hO hv) (by kernel_rfl) [0, 8] rfl ⟨rfl, rfl, rfl, rfl, trivial⟩ rfl ?_
                              rintro _ _ ⟨rfl, rfl⟩
                              cbv
                              rcases condS h0 with ⟨hc21, h0⟩ | ⟨hc21, h0⟩
                              · rw [hc21]
                                cbv
                                cases h0
                                exact fin_ok hX rfl ⟨[], _, _, ⟨rfl, rfl⟩, rfl, rfl, rfl, rfl, by cbv; try simp⟩
                              · rw [hc21]
                                cbv
                                obtain ⟨⟨n225, n226, n227⟩, hv, h0⟩ := bindS h0
                                try dsimp only at h0
                                refine call_go hO hX (fn_granule_Span hO hv) (by kernel_rfl) [9] rfl ⟨rfl, rfl, trivial⟩ rfl ?_
                                rintro _ _ ⟨rfl, rfl⟩
                                cbv
                                refine ⟨inr_of hO hg11, ?_⟩
                                refine ⟨inr_of hO hg12, ?_⟩
                                obtain ⟨hg22, h0⟩ := grdS h0
                                refine ⟨inr_of hO hg22, ?_⟩
                                obtain ⟨⟨n228, n229, n230⟩, hv, h0⟩ := bindS h0
                                try dsimp only at h0
                                refine call_go hO hX (fn_granule_Span hO hv) (by kernel_rfl) [0] rfl ⟨rfl, rfl, trivial⟩ rfl ?_
                                rintro _ _ ⟨rfl, rfl⟩
                                cbv
                                obtain ⟨x171, h1, h0⟩ := bindS h0
                                rcases condS h1 with ⟨hc23, h1⟩ | ⟨hc23, h1⟩
                                · rw [hc23]
                                  cbv
                                  cases h1
                                  try dsimp only at h0
                                  cases h0
                                  exact fin_ok hX rfl ⟨[], _, _, ⟨rfl, rfl⟩, rfl, rfl, rfl, rfl, by cbv; try simp⟩
                                · rw [hc23]
                                  cbv
                                  cases h1
                                  try dsimp only at h0
                                  cases h0
                                  exact fin_ok hX rfl ⟨[], _, _, ⟨rfl, rfl⟩, rfl, rfl, rfl, rfl, by cbv; try simp⟩
                        · rw [hc17]
                          cbv
                          cases h1
                          try dsimp only at h0
                          replace h0 := condF h0 rfl
                          obtain ⟨hg18, h0⟩ := grdS h0
                          refine ⟨inr_of hO hg18, ?_⟩
                          obtain ⟨⟨n222, n223, l97, n224⟩, hv, h0⟩ := bindS h0
                          try dsimp only at h0
                          refine call_go hO hX (fn_group_Pick hO hv) (by kernel_rfl) [0, 8] rfl ⟨rfl, rfl, rfl, rfl, trivial⟩ rfl ?_
                          rintro _ _ ⟨rfl, rfl⟩
                          cbv
                          rcases condS h0 with ⟨hc19, h0⟩ | ⟨hc19, h0⟩
                          · rw [hc19]
                            cbv
                            cases h0
                            exact fin_ok hX rfl ⟨[], _, _, ⟨rfl, rfl⟩, rfl, rfl, rfl, rfl, by cbv; try simp⟩
                          · rw [hc19]
                            cbv
                            obtain ⟨⟨n225, n226, n227⟩, hv, h0⟩ := bindS h0
                            try dsimp only at h0
                            refine call_go hO hX (fn_granule_Span hO hv) (by kernel_rfl) [9] rfl ⟨rfl, rfl, trivial⟩ rfl ?_
                            rintro _ _ ⟨rfl, rfl⟩
                            cbv
                            refine ⟨inr_of hO hg11, ?_⟩
                            refine ⟨inr_of hO hg12, ?_⟩
                            obtain ⟨hg20, h0⟩ := grdS h0
                            refine ⟨inr_of hO hg20, ?_⟩
                            obtain ⟨⟨n228, n229, n230⟩, hv, h0⟩ := bindS h0
                            try dsimp only at h0
                            refine call_go hO hX (fn_granule_Span hO hv) (by kernel_rfl) [0] rfl ⟨rfl, rfl, trivial⟩ rfl ?_
                            rintro _ _ ⟨rfl, rfl⟩
                            cbv
                            obtain ⟨x171, h1, h0⟩ := bindS h0
                            rcases condS h1 with ⟨hc21, h1⟩ | ⟨hc21, h1⟩
                            · rw [hc21]
                              cbv
                              cases h1
                              try dsimp only at h0
                              cases h0
                              exact fin_ok hX rfl ⟨[], _, _, ⟨rfl, rfl⟩, rfl, rfl, rfl, rfl, by cbv; try simp⟩
                            · rw [hc21]
                              cbv
                              cases h1
                              try dsimp only at h0
                              cases h0
                              exact fin_ok hX rfl ⟨[], _, _, ⟨rfl, rfl⟩, rfl, rfl, rfl, rfl, by cbv; try simp⟩
                    · rw [hc15]
                      cbv
                      cases h1
                      try dsimp only at h0
                      rcases condS h0 with ⟨hc16, h0⟩ | ⟨hc16, h0⟩
                      · rw [hc16]
                        cbv
                        cases h0
                        exact fin_ok hX rfl ⟨[], _, _, ⟨rfl, rfl⟩, rfl, rfl, rfl, rfl, by cbv; try simp⟩
                      · rw [hc16]
                        cbv
                        obtain ⟨x169, h1, h0⟩ := bindS h0
                        rcases condS h1 with ⟨hc17, h1⟩ | ⟨hc17, h1⟩
                        · rw [hc17]
                          cbv
                          rcases condS h1 with ⟨hc18, h1⟩ | ⟨hc18, h1⟩
                          · rw [hc18]
                            cbv
                            cases h1
                            try dsimp only at h0
                            replace h0 := condT h0 rfl
                            cases h0
                            exact fin_ok hX rfl ⟨[], _, _, ⟨rfl, rfl⟩, rfl, rfl, rfl, rfl, by cbv; try simp⟩
                          · rw [hc18]
                            cbv
                            cases h1
                            try dsimp only at h0
                            rcases condS h0 with ⟨hc19, h0⟩ | ⟨hc19, h0⟩
                            · rw [hc19]
                              cbv
                              cases h0
                              exact fin_ok hX rfl ⟨[], _, _, ⟨rfl, rfl⟩, rfl, rfl, rfl, rfl, by cbv; try simp⟩
                            · rw [hc19]
                              cbv
                              obtain ⟨hg20, h0⟩ := grdS h0
                              refine ⟨inr_of hO hg20, ?_⟩
                              obtain ⟨⟨n222, n223, l97, n224⟩, hv, h0⟩ := bindS h0
                              try dsimp only at h0
                              refine call_go hO hX (fn_group_Pick hO hv) (by kernel_rfl) [0, 8] rfl ⟨rfl, rfl, rfl, rfl, trivial⟩ rfl ?_
                              rintro _ _ ⟨rfl, rfl⟩
                              cbv
                              rcases condS h0 with ⟨hc21, h0⟩ | ⟨hc21, h0⟩
                              · rw [hc21]
                                cbv
                                cases h0
                                exact fin_ok hX rfl ⟨[], _, _, ⟨rfl, rfl⟩, rfl, rfl, rfl, rfl, by cbv; try simp⟩
                              · rw [hc21]
                                cbv
                                obtain ⟨⟨n225, n226, n227⟩, hv, h0⟩ := bindS h0
                                try dsimp only at h0
                                refine call_go hO hX (fn_granule_Span hO hv) (by kernel_rfl) [9] rfl ⟨rfl, rfl, trivial⟩ rfl ?_
                                rintro _ _ ⟨rfl, rfl⟩
                                cbv
                                refine ⟨inr_of hO hg11, ?_⟩
                                refine ⟨inr_of hO hg12, ?_⟩
                                obtain ⟨hg22, h0⟩ := grdS h0
                                refine ⟨inr_of hO hg22, ?_⟩
                                obtain ⟨⟨n228, n229, n230⟩, hv, h0⟩ := bindS h0
                                try dsimp only at h0
                                refine call_go hO hX (fn_granule_Span hO hv) (by kernel_rfl) [0] rfl ⟨rfl, rfl, trivial⟩ rfl ?_
                                rintro _ _ ⟨rfl, rfl⟩
                                cbv
                                obtain ⟨x171, h1, h0⟩ := bindS h0
                                rcases condS h1 with ⟨hc23, h1⟩ | ⟨hc23, h1⟩
                                · rw [hc23]
                                  cbv
                                  cases h1
                                  try dsimp only at h0
                                  cases h0
                                  exact fin_ok hX rfl ⟨[], _, _, ⟨rfl, rfl⟩, rfl, rfl, rfl, rfl, by cbv; try simp⟩
                                · rw [hc23]
                                  cbv
                                  cases h1
                                  try dsimp only at h0
                                  cases h0
                                  exact fin_ok hX rfl ⟨[], _, _, ⟨rfl, rfl⟩, rfl, rfl, rfl, rfl, by cbv; try simp⟩
                        · rw [hc17]
                          cbv
                          cases h1
                          try dsimp only at h0
                          replace h0 := condF h0 rfl
                          obtain ⟨hg18, h0⟩ := grdS h0
                          refine ⟨inr_of hO hg18, ?_⟩
                          obtain ⟨⟨n222, n223, l97, n224⟩, hv, h0⟩ := bindS h0
                          try dsimp only at h0
                          refine call_go hO hX (fn_group_Pick hO hv) (by kernel_rfl) [0, 8] rfl ⟨rfl, rfl, rfl, rfl, trivial⟩ rfl ?_
                          rintro _ _ ⟨rfl, rfl⟩
                          cbv
                          rcases condS h0 with ⟨hc19, h0⟩ | ⟨hc19, h0⟩
                          · rw [hc19]
                            cbv
                            cases h0
                            exact fin_ok hX rfl ⟨[], _, _, ⟨rfl, rfl⟩, rfl, rfl, rfl, rfl, by cbv; try simp⟩
                          · rw [hc19]
                            cbv
                            obtain ⟨⟨n225, n226, n227⟩, hv, h0⟩ := bindS h0
                            try dsimp only at h0
                            refine call_go hO hX (fn_granule_Span hO hv) (by kernel_rfl) [9] rfl ⟨rfl, rfl, trivial⟩ rfl ?_
                            rintro _ _ ⟨rfl, rfl⟩
                            cbv
                            refine ⟨inr_of hO hg11, ?_⟩
                            refine ⟨inr_of hO hg12, ?_⟩
                            obtain ⟨hg20, h0⟩ := grdS h0
                            refine ⟨inr_of hO hg20, ?_⟩
                            obtain ⟨⟨n228, n229, n230⟩, hv, h0⟩ := bindS h0
                            try dsimp only at h0
                            refine call_go hO hX (fn_granule_Span hO hv) (by kernel_rfl) [0] rfl ⟨rfl, rfl, trivial⟩ rfl ?_
                            rintro _ _ ⟨rfl, rfl⟩
                            cbv
                            obtain ⟨x171, h1, h0⟩ := bindS h0
                            rcases condS h1 with ⟨hc21, h1⟩ | ⟨hc21, h1⟩
                            · rw [hc21]
                              cbv
                              cases h1
                              try dsimp only at h0
                              cases h0
                              exact fin_ok hX rfl ⟨[], _, _, ⟨rfl, rfl⟩, rfl, rfl, rfl, rfl, by cbv; try simp⟩
                            · rw [hc21]
                              cbv
                              cases h1
                              try dsimp only at h0
                              cases h0
                              exact fin_ok hX rfl ⟨[], _, _, ⟨rfl, rfl⟩, rfl, rfl, rfl, rfl, by cbv; try simp⟩
end Go.Proofs.Ytoklfjkanipjkaa
