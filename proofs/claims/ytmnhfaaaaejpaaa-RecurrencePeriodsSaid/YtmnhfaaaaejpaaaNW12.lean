/-
  The code does what its models say (printed by lift.py).
-/
import Derived.Test.YtmnhfaaaaejpaaaNM
import Derived.Test.YtmnhfaaaaejpaaaNNoW
import Derived.Test.YtmnhfaaaaejpaaaNW9
import Derived.Test.YtmnhfaaaaejpaaaNW11
namespace Go.Proofs.Ytmnhfaaaaejpaaa
open Go.RowKit
set_option maxRecDepth 100000

set_option maxHeartbeats 40000000 in
theorem fn_ref29_Valid {O0 : Ops} (hO0 : O0 = std) {r_1 : Int} {r_2 : Int} {r_3 : Int} {r_4 : Int} {r_5 : Int} {r_6 : List Int} {r_7 : List Int} {r_8 : List Int} {r_9 : List Int} {r_10 : List (Int × Int)} {r_11 : List Int} {r_12 : List Int} {r_13 : List Int} {r_14 : List Int} {r1 : Bool} (h : m_ref29_Valid O0 r_1 r_2 r_3 r_4 r_5 r_6 r_7 r_8 r_9 r_10 r_11 r_12 r_13 r_14 = some r1) :
    Fn Try.prog 25 [.agg [.int .i64 r_1, .int .i64 r_2, .int .i64 r_3, .int .i64 r_4, .sl 0, .sl 1, .sl 2, .sl 3, .sl 4, .sl 5, .sl 6, .sl 7, .sl 8, .int .i64 r_5]] [.arr false .i1 r_6, .arr false .i1 r_7, .arr false .i1 r_8, .arr false .i1 r_9, .arr false .i2 r_10, .arr false .i1 r_11, .arr false .i1 r_12, .arr false .i1 r_13, .arr false .i1 r_14] (fun v c => v = .c (.bool r1) ∧ c = []) := by
  refine fn_run tab_holds eqs_holds mixed [(8, (.seg 1 [0, 1, 2, 4, 5, 8, 9] (.seg 2 [3] (.seg 2 [6] (.seg 1 [7] (.seg 2 [10] (.seg 1 [11, 12, 13] .fin)))))), [])] Try.func25 (by kernel_rfl) (by kernel_rfl) (Nat.le_of_ble_eq_true rfl) ?_
  intro O X hO hX
  rw [hO0, ← hO] at h
  unfold m_ref29_Valid at h
  have h0 := h; clear h
  cbv
  obtain ⟨x177, h1, h0⟩ := bindS h0
  rcases condS h1 with ⟨hc1, h1⟩ | ⟨hc1, h1⟩
  · rw [hc1]
    cbv
    cases h1
    try dsimp only at h0
    replace h0 := condT h0 rfl
    cases h0
    exact fin_ok hX rfl ⟨[], _, _, ⟨rfl, rfl⟩, rfl, rfl, rfl, rfl, by cbv; try simp⟩
  · as_aux_lemma =>
    rw [hc1]
    cbv
    rcases condS h1 with ⟨hc2, h1⟩ | ⟨hc2, h1⟩
    · rw [hc2]
      cbv
      cases h1
      try dsimp only at h0
      replace h0 := condT h0 rfl
      cases h0
      exact fin_ok hX rfl ⟨[], _, _, ⟨rfl, rfl⟩, rfl, rfl, rfl, rfl, by cbv; try simp⟩
    · as_aux_lemma =>
      rw [hc2]
      cbv
      rcases condS h1 with ⟨hc3, h1⟩ | ⟨hc3, h1⟩
      · rw [hc3]
        cbv
        cases h1
        try dsimp only at h0
        replace h0 := condT h0 rfl
        cases h0
        exact fin_ok hX rfl ⟨[], _, _, ⟨rfl, rfl⟩, rfl, rfl, rfl, rfl, by cbv; try simp⟩
      · as_aux_lemma =>
        rw [hc3]
        cbv
        rcases condS h1 with ⟨hc4, h1⟩ | ⟨hc4, h1⟩
        · rw [hc4]
          cbv
          cases h1
          try dsimp only at h0
          replace h0 := condT h0 rfl
          cases h0
          exact fin_ok hX rfl ⟨[], _, _, ⟨rfl, rfl⟩, rfl, rfl, rfl, rfl, by cbv; try simp⟩
        · as_aux_lemma =>
          rw [hc4]
          cbv
          rcases condS h1 with ⟨hc5, h1⟩ | ⟨hc5, h1⟩
          · rw [hc5]
            cbv
            cases h1
            try dsimp only at h0
            replace h0 := condT h0 rfl
            cases h0
            exact fin_ok hX rfl ⟨[], _, _, ⟨rfl, rfl⟩, rfl, rfl, rfl, rfl, by cbv; try simp⟩
          · as_aux_lemma =>
            rw [hc5]
            cbv
            rcases condS h1 with ⟨hc6, h1⟩ | ⟨hc6, h1⟩
            · rw [hc6]
              cbv
              cases h1
              try dsimp only at h0
              replace h0 := condT h0 rfl
              cases h0
              exact fin_ok hX rfl ⟨[], _, _, ⟨rfl, rfl⟩, rfl, rfl, rfl, rfl, by cbv; try simp⟩
            · as_aux_lemma =>
              rw [hc6]
              cbv
              rcases condS h1 with ⟨hc7, h1⟩ | ⟨hc7, h1⟩
              · as_aux_lemma =>
                rw [hc7]
                cbv
                obtain ⟨b51, hv, h1⟩ := bindS h1
                refine call_is hO hX (fn_ref29_Local hO hv) (by kernel_rfl) [] rfl trivial rfl ?_
                cbv
                rcases condS h1 with ⟨hc8, h1⟩ | ⟨hc8, h1⟩
                · rw [hc8]
                  cbv
                  cases h1
                  try dsimp only at h0
                  replace h0 := condT h0 rfl
                  cases h0
                  exact fin_ok hX rfl ⟨[], _, _, ⟨rfl, rfl⟩, rfl, rfl, rfl, rfl, by cbv; try simp⟩
                · as_aux_lemma =>
                  rw [hc8]
                  cbv
                  rcases condS h1 with ⟨hc9, h1⟩ | ⟨hc9, h1⟩
                  · rw [hc9]
                    cbv
                    cases h1
                    try dsimp only at h0
                    replace h0 := condT h0 rfl
                    cases h0
                    exact fin_ok hX rfl ⟨[], _, _, ⟨rfl, rfl⟩, rfl, rfl, rfl, rfl, by cbv; try simp⟩
                  · as_aux_lemma =>
                    rw [hc9]
                    cbv
                    rcases condS h1 with ⟨hc10, h1⟩ | ⟨hc10, h1⟩
                    · rw [hc10]
                      cbv
                      cases h1
                      try dsimp only at h0
                      replace h0 := condT h0 rfl
                      cases h0
                      exact fin_ok hX rfl ⟨[], _, _, ⟨rfl, rfl⟩, rfl, rfl, rfl, rfl, by cbv; try simp⟩
                    · as_aux_lemma =>
                      rw [hc10]
                      cbv
                      cases h1
                      try dsimp only at h0
                      rcases condS h0 with ⟨hc11, h0⟩ | ⟨hc11, h0⟩
                      · rw [hc11]
                        cbv
                        cases h0
                        exact fin_ok hX rfl ⟨[], _, _, ⟨rfl, rfl⟩, rfl, rfl, rfl, rfl, by cbv; try simp⟩
                      · as_aux_lemma =>
                        rw [hc11]
                        cbv
                        obtain ⟨x189, h1, h0⟩ := bindS h0
                        obtain ⟨b52, hv, h1⟩ := bindS h1
                        refine call_is hO hX (fn_ref29_within hO hv) (by kernel_rfl) [0] rfl ⟨rfl, rfl, trivial⟩ rfl ?_
                        cbv
                        rcases condS h1 with ⟨hc12, h1⟩ | ⟨hc12, h1⟩
                        · rw [hc12]
                          cbv
                          cases h1
                          try dsimp only at h0
                          replace h0 := condT h0 rfl
                          cases h0
                          exact fin_ok hX rfl ⟨[], _, _, ⟨rfl, rfl⟩, rfl, rfl, rfl, rfl, by cbv; try simp⟩
                        · as_aux_lemma =>
                          rw [hc12]
                          cbv
                          obtain ⟨b53, hv, h1⟩ := bindS h1
                          refine call_is hO hX (fn_ref29_within hO hv) (by kernel_rfl) [1] rfl ⟨rfl, rfl, trivial⟩ rfl ?_
                          cbv
                          rcases condS h1 with ⟨hc13, h1⟩ | ⟨hc13, h1⟩
                          · rw [hc13]
                            cbv
                            cases h1
                            try dsimp only at h0
                            replace h0 := condT h0 rfl
                            cases h0
                            exact fin_ok hX rfl ⟨[], _, _, ⟨rfl, rfl⟩, rfl, rfl, rfl, rfl, by cbv; try simp⟩
                          · as_aux_lemma =>
                            rw [hc13]
                            cbv
                            obtain ⟨b54, hv, h1⟩ := bindS h1
                            refine call_is hO hX (fn_ref29_within hO hv) (by kernel_rfl) [2] rfl ⟨rfl, rfl, trivial⟩ rfl ?_
                            cbv
                            rcases condS h1 with ⟨hc14, h1⟩ | ⟨hc14, h1⟩
                            · rw [hc14]
                              cbv
                              cases h1
                              try dsimp only at h0
                              replace h0 := condT h0 rfl
                              cases h0
                              exact fin_ok hX rfl ⟨[], _, _, ⟨rfl, rfl⟩, rfl, rfl, rfl, rfl, by cbv; try simp⟩
                            · as_aux_lemma =>
                              rw [hc14]
                              cbv
                              obtain ⟨b55, hv, h1⟩ := bindS h1
                              refine call_is hO hX (fn_ref29_within hO hv) (by kernel_rfl) [3] rfl ⟨rfl, rfl, trivial⟩ rfl ?_
                              cbv
                              rcases condS h1 with ⟨hc15, h1⟩ | ⟨hc15, h1⟩
                              · rw [hc15]
                                cbv
                                cases h1
                                try dsimp only at h0
                                replace h0 := condT h0 rfl
                                cases h0
                                exact fin_ok hX rfl ⟨[], _, _, ⟨rfl, rfl⟩, rfl, rfl, rfl, rfl, by cbv; try simp⟩
                              · as_aux_lemma =>
                                rw [hc15]
                                cbv
                                obtain ⟨b56, hv, h1⟩ := bindS h1
                                refine call_is hO hX (fn_ref29_within hO hv) (by kernel_rfl) [5] rfl ⟨rfl, rfl, trivial⟩ rfl ?_
                                cbv
                                rcases condS h1 with ⟨hc16, h1⟩ | ⟨hc16, h1⟩
                                · rw [hc16]
                                  cbv
                                  cases h1
                                  try dsimp only at h0
                                  replace h0 := condT h0 rfl
                                  cases h0
                                  exact fin_ok hX rfl ⟨[], _, _, ⟨rfl, rfl⟩, rfl, rfl, rfl, rfl, by cbv; try simp⟩
                                · as_aux_lemma =>
                                  rw [hc16]
                                  cbv
                                  obtain ⟨b57, hv, h1⟩ := bindS h1
                                  refine call_is hO hX (fn_ref29_within hO hv) (by kernel_rfl) [6] rfl ⟨rfl, rfl, trivial⟩ rfl ?_
                                  cbv
                                  rcases condS h1 with ⟨hc17, h1⟩ | ⟨hc17, h1⟩
                                  · rw [hc17]
                                    cbv
                                    cases h1
                                    try dsimp only at h0
                                    replace h0 := condT h0 rfl
                                    cases h0
                                    exact fin_ok hX rfl ⟨[], _, _, ⟨rfl, rfl⟩, rfl, rfl, rfl, rfl, by cbv; try simp⟩
                                  · as_aux_lemma =>
                                    rw [hc17]
                                    cbv
                                    obtain ⟨b58, hv, h1⟩ := bindS h1
                                    refine call_is hO hX (fn_ref29_within hO hv) (by kernel_rfl) [7] rfl ⟨rfl, rfl, trivial⟩ rfl ?_
                                    cbv
                                    rcases condS h1 with ⟨hc18, h1⟩ | ⟨hc18, h1⟩
                                    · rw [hc18]
                                      cbv
                                      cases h1
                                      try dsimp only at h0
                                      replace h0 := condT h0 rfl
                                      cases h0
                                      exact fin_ok hX rfl ⟨[], _, _, ⟨rfl, rfl⟩, rfl, rfl, rfl, rfl, by cbv; try simp⟩
                                    · as_aux_lemma =>
                                      rw [hc18]
                                      cbv
                                      obtain ⟨b59, hv, h1⟩ := bindS h1
                                      refine call_is hO hX (fn_ref29_within hO hv) (by kernel_rfl) [8] rfl ⟨rfl, rfl, trivial⟩ rfl ?_
                                      cbv
                                      rcases condS h1 with ⟨hc19, h1⟩ | ⟨hc19, h1⟩
                                      · rw [hc19]
                                        cbv
                                        cases h1
                                        try dsimp only at h0
                                        replace h0 := condT h0 rfl
                                        cases h0
                                        exact fin_ok hX rfl ⟨[], _, _, ⟨rfl, rfl⟩, rfl, rfl, rfl, rfl, by cbv; try simp⟩
                                      · as_aux_lemma =>
                                        rw [hc19]
                                        cbv
                                        obtain ⟨b60, hv, h1⟩ := bindS h1
                                        refine call_is hO hX (fn_ref29_days hO hv) (by kernel_rfl) [0, 1, 2, 3, 4, 5, 6, 7, 8] rfl ⟨rfl, rfl, rfl, rfl, rfl, rfl, rfl, rfl, rfl, rfl, rfl, rfl, rfl, rfl, rfl, rfl, rfl, rfl, trivial⟩ rfl ?_
                                        cbv
                                        rcases condS h1 with ⟨hc20, h1⟩ | ⟨hc20, h1⟩
                                        · rw [hc20]
                                          cbv
                                          cases h1
                                          try dsimp only at h0
                                          replace h0 := condT h0 rfl
                                          cases h0
                                          exact fin_ok hX rfl ⟨[], _, _, ⟨rfl, rfl⟩, rfl, rfl, rfl, rfl, by cbv; try simp⟩
                                        · as_aux_lemma =>
                                          rw [hc20]
                                          cbv
                                          rcases condS h1 with ⟨hc21, h1⟩ | ⟨hc21, h1⟩
                                          · as_aux_lemma =>
                                            rw [hc21]
                                            cbv
                                            cases h1
                                            try dsimp only at h0
                                            rcases condS h0 with ⟨hc22, h0⟩ | ⟨hc22, h0⟩
                                            · rw [hc22]
                                              cbv
                                              cases h0
                                              exact fin_ok hX rfl ⟨[], _, _, ⟨rfl, rfl⟩, rfl, rfl, rfl, rfl, by cbv; try simp⟩
                                            · as_aux_lemma =>
                                              rw [hc22]
                                              cbv
                                              obtain ⟨hours2, h1, h0⟩ := bindS h0
                                              rcases condS h1 with ⟨hc23, h1⟩ | ⟨hc23, h1⟩
                                              · rw [hc23]
                                                cbv
                                                cases h1
                                                try dsimp only at h0
                                                obtain ⟨n104, hv, h0⟩ := bindS h0
                                                refine call_is hO hX (fn_ref29_number hO hv) (by kernel_rfl) [5] rfl ⟨rfl, rfl, trivial⟩ rfl ?_
                                                cbv
                                                obtain ⟨n105, hv, h0⟩ := bindS h0
                                                refine call_is hO hX (fn_ref29_number hO hv) (by kernel_rfl) [6] rfl ⟨rfl, rfl, trivial⟩ rfl ?_
                                                cbv
                                                obtain ⟨hg24, h0⟩ := grdS h0
                                                refine ⟨inr_of hO hg24, ?_⟩
                                                obtain ⟨n106, hv, h0⟩ := bindS h0
                                                refine call_is hO hX (fn_ref29_number hO hv) (by kernel_rfl) [7] rfl ⟨rfl, rfl, trivial⟩ rfl ?_
                                                cbv
                                                obtain ⟨hg25, h0⟩ := grdS h0
                                                refine ⟨inr_of hO hg25, ?_⟩
                                                cases h0
                                                exact fin_ok hX rfl ⟨[], _, _, ⟨rfl, rfl⟩, rfl, rfl, rfl, rfl, by cbv; try simp⟩
                                              · rw [hc23]
                                                cbv
                                                cases h1
                                                try dsimp only at h0
                                                obtain ⟨n104, hv, h0⟩ := bindS h0
                                                refine call_is hO hX (fn_ref29_number hO hv) (by kernel_rfl) [5] rfl ⟨rfl, rfl, trivial⟩ rfl ?_
                                                cbv
                                                obtain ⟨n105, hv, h0⟩ := bindS h0
                                                refine call_is hO hX (fn_ref29_number hO hv) (by kernel_rfl) [6] rfl ⟨rfl, rfl, trivial⟩ rfl ?_
                                                cbv
                                                obtain ⟨hg26, h0⟩ := grdS h0
                                                refine ⟨inr_of hO hg26, ?_⟩
                                                obtain ⟨n106, hv, h0⟩ := bindS h0
                                                refine call_is hO hX (fn_ref29_number hO hv) (by kernel_rfl) [7] rfl ⟨rfl, rfl, trivial⟩ rfl ?_
                                                cbv
                                                obtain ⟨hg27, h0⟩ := grdS h0
                                                refine ⟨inr_of hO hg27, ?_⟩
                                                cases h0
                                                exact fin_ok hX rfl ⟨[], _, _, ⟨rfl, rfl⟩, rfl, rfl, rfl, rfl, by cbv; try simp⟩
                                          · as_aux_lemma =>
                                            rw [hc21]
                                            cbv
                                            cases h1
                                            try dsimp only at h0
                                            replace h0 := condF h0 rfl
                                            obtain ⟨hours2, h1, h0⟩ := bindS h0
                                            rcases condS h1 with ⟨hc28, h1⟩ | ⟨hc28, h1⟩
                                            · rw [hc28]
                                              cbv
                                              cases h1
                                              try dsimp only at h0
                                              obtain ⟨n104, hv, h0⟩ := bindS h0
                                              refine call_is hO hX (fn_ref29_number hO hv) (by kernel_rfl) [5] rfl ⟨rfl, rfl, trivial⟩ rfl ?_
                                              cbv
                                              obtain ⟨n105, hv, h0⟩ := bindS h0
                                              refine call_is hO hX (fn_ref29_number hO hv) (by kernel_rfl) [6] rfl ⟨rfl, rfl, trivial⟩ rfl ?_
                                              cbv
                                              obtain ⟨hg29, h0⟩ := grdS h0
                                              refine ⟨inr_of hO hg29, ?_⟩
                                              obtain ⟨n106, hv, h0⟩ := bindS h0
                                              refine call_is hO hX (fn_ref29_number hO hv) (by kernel_rfl) [7] rfl ⟨rfl, rfl, trivial⟩ rfl ?_
                                              cbv
                                              obtain ⟨hg30, h0⟩ := grdS h0
                                              refine ⟨inr_of hO hg30, ?_⟩
                                              cases h0
                                              exact fin_ok hX rfl ⟨[], _, _, ⟨rfl, rfl⟩, rfl, rfl, rfl, rfl, by cbv; try simp⟩
                                            · rw [hc28]
                                              cbv
                                              cases h1
                                              try dsimp only at h0
                                              obtain ⟨n104, hv, h0⟩ := bindS h0
                                              refine call_is hO hX (fn_ref29_number hO hv) (by kernel_rfl) [5] rfl ⟨rfl, rfl, trivial⟩ rfl ?_
                                              cbv
                                              obtain ⟨n105, hv, h0⟩ := bindS h0
                                              refine call_is hO hX (fn_ref29_number hO hv) (by kernel_rfl) [6] rfl ⟨rfl, rfl, trivial⟩ rfl ?_
                                              cbv
                                              obtain ⟨hg31, h0⟩ := grdS h0
                                              refine ⟨inr_of hO hg31, ?_⟩
                                              obtain ⟨n106, hv, h0⟩ := bindS h0
                                              refine call_is hO hX (fn_ref29_number hO hv) (by kernel_rfl) [7] rfl ⟨rfl, rfl, trivial⟩ rfl ?_
                                              cbv
                                              obtain ⟨hg32, h0⟩ := grdS h0
                                              refine ⟨inr_of hO hg32, ?_⟩
                                              cases h0
                                              exact fin_ok hX rfl ⟨[], _, _, ⟨rfl, rfl⟩, rfl, rfl, rfl, rfl, by cbv; try simp⟩
              · as_aux_lemma =>
                rw [hc7]
                cbv
                rcases condS h1 with ⟨hc33, h1⟩ | ⟨hc33, h1⟩
                · rw [hc33]
                  cbv
                  cases h1
                  try dsimp only at h0
                  replace h0 := condT h0 rfl
                  cases h0
                  exact fin_ok hX rfl ⟨[], _, _, ⟨rfl, rfl⟩, rfl, rfl, rfl, rfl, by cbv; try simp⟩
                · as_aux_lemma =>
                  rw [hc33]
                  cbv
                  cases h1
                  try dsimp only at h0
                  rcases condS h0 with ⟨hc34, h0⟩ | ⟨hc34, h0⟩
                  · rw [hc34]
                    cbv
                    cases h0
                    exact fin_ok hX rfl ⟨[], _, _, ⟨rfl, rfl⟩, rfl, rfl, rfl, rfl, by cbv; try simp⟩
                  · as_aux_lemma =>
                    rw [hc34]
                    cbv
                    obtain ⟨x189, h1, h0⟩ := bindS h0
                    obtain ⟨b52, hv, h1⟩ := bindS h1
                    refine call_is hO hX (fn_ref29_within hO hv) (by kernel_rfl) [0] rfl ⟨rfl, rfl, trivial⟩ rfl ?_
                    cbv
                    rcases condS h1 with ⟨hc35, h1⟩ | ⟨hc35, h1⟩
                    · rw [hc35]
                      cbv
                      cases h1
                      try dsimp only at h0
                      replace h0 := condT h0 rfl
                      cases h0
                      exact fin_ok hX rfl ⟨[], _, _, ⟨rfl, rfl⟩, rfl, rfl, rfl, rfl, by cbv; try simp⟩
                    · as_aux_lemma =>
                      rw [hc35]
                      cbv
                      obtain ⟨b53, hv, h1⟩ := bindS h1
                      refine call_is hO hX (fn_ref29_within hO hv) (by kernel_rfl) [1] rfl ⟨rfl, rfl, trivial⟩ rfl ?_
                      cbv
                      rcases condS h1 with ⟨hc36, h1⟩ | ⟨hc36, h1⟩
                      · rw [hc36]
                        cbv
                        cases h1
                        try dsimp only at h0
                        replace h0 := condT h0 rfl
                        cases h0
                        exact fin_ok hX rfl ⟨[], _, _, ⟨rfl, rfl⟩, rfl, rfl, rfl, rfl, by cbv; try simp⟩
                      · as_aux_lemma =>
                        rw [hc36]
                        cbv
                        obtain ⟨b54, hv, h1⟩ := bindS h1
                        refine call_is hO hX (fn_ref29_within hO hv) (by kernel_rfl) [2] rfl ⟨rfl, rfl, trivial⟩ rfl ?_
                        cbv
                        rcases condS h1 with ⟨hc37, h1⟩ | ⟨hc37, h1⟩
                        · rw [hc37]
                          cbv
                          cases h1
                          try dsimp only at h0
                          replace h0 := condT h0 rfl
                          cases h0
                          exact fin_ok hX rfl ⟨[], _, _, ⟨rfl, rfl⟩, rfl, rfl, rfl, rfl, by cbv; try simp⟩
                        · as_aux_lemma =>
                          rw [hc37]
                          cbv
                          obtain ⟨b55, hv, h1⟩ := bindS h1
                          refine call_is hO hX (fn_ref29_within hO hv) (by kernel_rfl) [3] rfl ⟨rfl, rfl, trivial⟩ rfl ?_
                          cbv
                          rcases condS h1 with ⟨hc38, h1⟩ | ⟨hc38, h1⟩
                          · rw [hc38]
                            cbv
                            cases h1
                            try dsimp only at h0
                            replace h0 := condT h0 rfl
                            cases h0
                            exact fin_ok hX rfl ⟨[], _, _, ⟨rfl, rfl⟩, rfl, rfl, rfl, rfl, by cbv; try simp⟩
                          · as_aux_lemma =>
                            rw [hc38]
                            cbv
                            obtain ⟨b56, hv, h1⟩ := bindS h1
                            refine call_is hO hX (fn_ref29_within hO hv) (by kernel_rfl) [5] rfl ⟨rfl, rfl, trivial⟩ rfl ?_
                            cbv
                            rcases condS h1 with ⟨hc39, h1⟩ | ⟨hc39, h1⟩
                            · rw [hc39]
                              cbv
                              cases h1
                              try dsimp only at h0
                              replace h0 := condT h0 rfl
                              cases h0
                              exact fin_ok hX rfl ⟨[], _, _, ⟨rfl, rfl⟩, rfl, rfl, rfl, rfl, by cbv; try simp⟩
                            · as_aux_lemma =>
                              rw [hc39]
                              cbv
                              obtain ⟨b57, hv, h1⟩ := bindS h1
                              refine call_is hO hX (fn_ref29_within hO hv) (by kernel_rfl) [6] rfl ⟨rfl, rfl, trivial⟩ rfl ?_
                              cbv
                              rcases condS h1 with ⟨hc40, h1⟩ | ⟨hc40, h1⟩
                              · rw [hc40]
                                cbv
                                cases h1
                                try dsimp only at h0
                                replace h0 := condT h0 rfl
                                cases h0
                                exact fin_ok hX rfl ⟨[], _, _, ⟨rfl, rfl⟩, rfl, rfl, rfl, rfl, by cbv; try simp⟩
                              · as_aux_lemma =>
                                rw [hc40]
                                cbv
                                obtain ⟨b58, hv, h1⟩ := bindS h1
                                refine call_is hO hX (fn_ref29_within hO hv) (by kernel_rfl) [7] rfl ⟨rfl, rfl, trivial⟩ rfl ?_
                                cbv
                                rcases condS h1 with ⟨hc41, h1⟩ | ⟨hc41, h1⟩
                                · rw [hc41]
                                  cbv
                                  cases h1
                                  try dsimp only at h0
                                  replace h0 := condT h0 rfl
                                  cases h0
                                  exact fin_ok hX rfl ⟨[], _, _, ⟨rfl, rfl⟩, rfl, rfl, rfl, rfl, by cbv; try simp⟩
                                · as_aux_lemma =>
                                  rw [hc41]
                                  cbv
                                  obtain ⟨b59, hv, h1⟩ := bindS h1
                                  refine call_is hO hX (fn_ref29_within hO hv) (by kernel_rfl) [8] rfl ⟨rfl, rfl, trivial⟩ rfl ?_
                                  cbv
                                  rcases condS h1 with ⟨hc42, h1⟩ | ⟨hc42, h1⟩
                                  · rw [hc42]
                                    cbv
                                    cases h1
                                    try dsimp only at h0
                                    replace h0 := condT h0 rfl
                                    cases h0
                                    exact fin_ok hX rfl ⟨[], _, _, ⟨rfl, rfl⟩, rfl, rfl, rfl, rfl, by cbv; try simp⟩
                                  · as_aux_lemma =>
                                    rw [hc42]
                                    cbv
                                    obtain ⟨b60, hv, h1⟩ := bindS h1
                                    refine call_is hO hX (fn_ref29_days hO hv) (by kernel_rfl) [0, 1, 2, 3, 4, 5, 6, 7, 8] rfl ⟨rfl, rfl, rfl, rfl, rfl, rfl, rfl, rfl, rfl, rfl, rfl, rfl, rfl, rfl, rfl, rfl, rfl, rfl, trivial⟩ rfl ?_
                                    cbv
                                    rcases condS h1 with ⟨hc43, h1⟩ | ⟨hc43, h1⟩
                                    · rw [hc43]
                                      cbv
                                      cases h1
                                      try dsimp only at h0
                                      replace h0 := condT h0 rfl
                                      cases h0
                                      exact fin_ok hX rfl ⟨[], _, _, ⟨rfl, rfl⟩, rfl, rfl, rfl, rfl, by cbv; try simp⟩
                                    · as_aux_lemma =>
                                      rw [hc43]
                                      cbv
                                      rcases condS h1 with ⟨hc44, h1⟩ | ⟨hc44, h1⟩
                                      · as_aux_lemma =>
                                        rw [hc44]
                                        cbv
                                        cases h1
                                        try dsimp only at h0
                                        rcases condS h0 with ⟨hc45, h0⟩ | ⟨hc45, h0⟩
                                        · rw [hc45]
                                          cbv
                                          cases h0
                                          exact fin_ok hX rfl ⟨[], _, _, ⟨rfl, rfl⟩, rfl, rfl, rfl, rfl, by cbv; try simp⟩
                                        · as_aux_lemma =>
                                          rw [hc45]
                                          cbv
                                          obtain ⟨hours2, h1, h0⟩ := bindS h0
                                          rcases condS h1 with ⟨hc46, h1⟩ | ⟨hc46, h1⟩
                                          · rw [hc46]
                                            cbv
                                            cases h1
                                            try dsimp only at h0
                                            obtain ⟨n104, hv, h0⟩ := bindS h0
                                            refine call_is hO hX (fn_ref29_number hO hv) (by kernel_rfl) [5] rfl ⟨rfl, rfl, trivial⟩ rfl ?_
                                            cbv
                                            obtain ⟨n105, hv, h0⟩ := bindS h0
                                            refine call_is hO hX (fn_ref29_number hO hv) (by kernel_rfl) [6] rfl ⟨rfl, rfl, trivial⟩ rfl ?_
                                            cbv
                                            obtain ⟨hg47, h0⟩ := grdS h0
                                            refine ⟨inr_of hO hg47, ?_⟩
                                            obtain ⟨n106, hv, h0⟩ := bindS h0
                                            refine call_is hO hX (fn_ref29_number hO hv) (by kernel_rfl) [7] rfl ⟨rfl, rfl, trivial⟩ rfl ?_
                                            cbv
                                            obtain ⟨hg48, h0⟩ := grdS h0
                                            refine ⟨inr_of hO hg48, ?_⟩
                                            cases h0
                                            exact fin_ok hX rfl ⟨[], _, _, ⟨rfl, rfl⟩, rfl, rfl, rfl, rfl, by cbv; try simp⟩
                                          · rw [hc46]
                                            cbv
                                            cases h1
                                            try dsimp only at h0
                                            obtain ⟨n104, hv, h0⟩ := bindS h0
                                            refine call_is hO hX (fn_ref29_number hO hv) (by kernel_rfl) [5] rfl ⟨rfl, rfl, trivial⟩ rfl ?_
                                            cbv
                                            obtain ⟨n105, hv, h0⟩ := bindS h0
                                            refine call_is hO hX (fn_ref29_number hO hv) (by kernel_rfl) [6] rfl ⟨rfl, rfl, trivial⟩ rfl ?_
                                            cbv
                                            obtain ⟨hg49, h0⟩ := grdS h0
                                            refine ⟨inr_of hO hg49, ?_⟩
                                            obtain ⟨n106, hv, h0⟩ := bindS h0
                                            refine call_is hO hX (fn_ref29_number hO hv) (by kernel_rfl) [7] rfl ⟨rfl, rfl, trivial⟩ rfl ?_
                                            cbv
                                            obtain ⟨hg50, h0⟩ := grdS h0
                                            refine ⟨inr_of hO hg50, ?_⟩
                                            cases h0
                                            exact fin_ok hX rfl ⟨[], _, _, ⟨rfl, rfl⟩, rfl, rfl, rfl, rfl, by cbv; try simp⟩
                                      · as_aux_lemma =>
                                        rw [hc44]
                                        cbv
                                        cases h1
                                        try dsimp only at h0
                                        replace h0 := condF h0 rfl
                                        obtain ⟨hours2, h1, h0⟩ := bindS h0
                                        rcases condS h1 with ⟨hc51, h1⟩ | ⟨hc51, h1⟩
                                        · rw [hc51]
                                          cbv
                                          cases h1
                                          try dsimp only at h0
                                          obtain ⟨n104, hv, h0⟩ := bindS h0
                                          refine call_is hO hX (fn_ref29_number hO hv) (by kernel_rfl) [5] rfl ⟨rfl, rfl, trivial⟩ rfl ?_
                                          cbv
                                          obtain ⟨n105, hv, h0⟩ := bindS h0
                                          refine call_is hO hX (fn_ref29_number hO hv) (by kernel_rfl) [6] rfl ⟨rfl, rfl, trivial⟩ rfl ?_
                                          cbv
                                          obtain ⟨hg52, h0⟩ := grdS h0
                                          refine ⟨inr_of hO hg52, ?_⟩
                                          obtain ⟨n106, hv, h0⟩ := bindS h0
                                          refine call_is hO hX (fn_ref29_number hO hv) (by kernel_rfl) [7] rfl ⟨rfl, rfl, trivial⟩ rfl ?_
                                          cbv
                                          obtain ⟨hg53, h0⟩ := grdS h0
                                          refine ⟨inr_of hO hg53, ?_⟩
                                          cases h0
                                          exact fin_ok hX rfl ⟨[], _, _, ⟨rfl, rfl⟩, rfl, rfl, rfl, rfl, by cbv; try simp⟩
                                        · rw [hc51]
                                          cbv
                                          cases h1
                                          try dsimp only at h0
                                          obtain ⟨n104, hv, h0⟩ := bindS h0
                                          refine call_is hO hX (fn_ref29_number hO hv) (by kernel_rfl) [5] rfl ⟨rfl, rfl, trivial⟩ rfl ?_
                                          cbv
                                          obtain ⟨n105, hv, h0⟩ := bindS h0
                                          refine call_is hO hX (fn_ref29_number hO hv) (by kernel_rfl) [6] rfl ⟨rfl, rfl, trivial⟩ rfl ?_
                                          cbv
                                          obtain ⟨hg54, h0⟩ := grdS h0
                                          refine ⟨inr_of hO hg54, ?_⟩
                                          obtain ⟨n106, hv, h0⟩ := bindS h0
                                          refine call_is hO hX (fn_ref29_number hO hv) (by kernel_rfl) [7] rfl ⟨rfl, rfl, trivial⟩ rfl ?_
                                          cbv
                                          obtain ⟨hg55, h0⟩ := grdS h0
                                          refine ⟨inr_of hO hg55, ?_⟩
                                          cases h0
                                          exact fin_ok hX rfl ⟨[], _, _, ⟨rfl, rfl⟩, rfl, rfl, rfl, rfl, by cbv; try simp⟩
end Go.Proofs.Ytmnhfaaaaejpaaa
