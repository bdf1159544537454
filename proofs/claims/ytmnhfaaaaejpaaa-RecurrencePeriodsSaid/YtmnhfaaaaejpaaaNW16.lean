/-
  The code does what its models say (printed by lift.py).
-/
import Derived.Test.YtmnhfaaaaejpaaaNM
import Derived.Test.YtmnhfaaaaejpaaaNNoW
import Derived.Test.YtmnhfaaaaejpaaaNW6
import Derived.Test.YtmnhfaaaaejpaaaNW9
import Derived.Test.YtmnhfaaaaejpaaaNW11
import Derived.Test.YtmnhfaaaaejpaaaNW12
import Derived.Test.YtmnhfaaaaejpaaaNW15
namespace Go.Proofs.Ytmnhfaaaaejpaaa
open Go.RowKit
set_option maxRecDepth 100000

set_option maxHeartbeats 40000000 in
theorem fn_law29_RecurrencePeriods {O0 : Ops} (hO0 : O0 = std) {r_1 : Int} {r_2 : Int} {r_3 : Int} {r_4 : Int} {r_5 : Int} {start_1 : Int} {a_1 : Int} {b_1 : Int} {r_6 : List Int} {r_7 : List Int} {r_8 : List Int} {r_9 : List Int} {r_10 : List (Int × Int)} {r_11 : List Int} {r_12 : List Int} {r_13 : List Int} {r_14 : List Int} {r1 : Bool} (h : m_law29_RecurrencePeriods O0 r_1 r_2 r_3 r_4 r_5 start_1 a_1 b_1 r_6 r_7 r_8 r_9 r_10 r_11 r_12 r_13 r_14 = some r1) :
    Fn Try.prog 6 [.agg [.int .i64 r_1, .int .i64 r_2, .int .i64 r_3, .int .i64 r_4, .sl 0, .sl 1, .sl 2, .sl 3, .sl 4, .sl 5, .sl 6, .sl 7, .sl 8, .int .i64 r_5], .c (.int .i64 start_1), .c (.int .i64 a_1), .c (.int .i64 b_1)] [.arr false .i1 r_6, .arr false .i1 r_7, .arr false .i1 r_8, .arr false .i1 r_9, .arr false .i2 r_10, .arr false .i1 r_11, .arr false .i1 r_12, .arr false .i1 r_13, .arr false .i1 r_14] (fun v c => v = .c (.bool r1) ∧ c = []) := by
  refine fn_run tab_holds eqs_holds mixed [(10, (.seg 1 [0, 1, 2, 3, 4, 5, 6, 7, 8, 9, 10, 11, 12, 13, 15, 16] (.seg 2 [14] (.seg 2 [17] (.seg 1 [18, 19, 20] .fin)))), [])] Try.func6 (by kernel_rfl) (by kernel_rfl) (Nat.le_of_ble_eq_true rfl) ?_
  intro O X hO hX
  rw [hO0, ← hO] at h
  unfold m_law29_RecurrencePeriods at h
  have h0 := h; clear h
  cbv
  obtain ⟨x173, h1, h0⟩ := bindS h0
  obtain ⟨b47, hv, h1⟩ := bindS h1
  refine call_is hO hX (fn_law29_awake hO hv) (by kernel_rfl) [] rfl trivial rfl ?_
  cbv
  rcases condS h1 with ⟨hc1, h1⟩ | ⟨hc1, h1⟩
  · rw [hc1]
    cbv
    cases h1
    try dsimp only at h0
    replace h0 := condT h0 rfl
    obtain ⟨b49, hv, h0⟩ := bindS h0
    refine call_is hO hX (fn_law29_awake hO hv) (by kernel_rfl) [] rfl trivial rfl ?_
    cbv
    cases h0
    exact fin_ok hX rfl ⟨[], _, _, ⟨rfl, rfl⟩, rfl, rfl, rfl, rfl, by cbv; try simp⟩
  · as_aux_lemma =>
    rw [hc1]
    cbv
    obtain ⟨b48, hv, h1⟩ := bindS h1
    refine call_is hO hX (fn_law29_long hO hv) (by kernel_rfl) [0, 1, 2, 3, 4, 5, 6, 7, 8] rfl ⟨rfl, rfl, rfl, rfl, rfl, rfl, rfl, rfl, rfl, rfl, rfl, rfl, rfl, rfl, rfl, rfl, rfl, rfl, trivial⟩ rfl ?_
    cbv
    cases h1
    try dsimp only at h0
    rcases condS h0 with ⟨hc2, h0⟩ | ⟨hc2, h0⟩
    · rw [hc2]
      cbv
      obtain ⟨b49, hv, h0⟩ := bindS h0
      refine call_is hO hX (fn_law29_awake hO hv) (by kernel_rfl) [] rfl trivial rfl ?_
      cbv
      cases h0
      exact fin_ok hX rfl ⟨[], _, _, ⟨rfl, rfl⟩, rfl, rfl, rfl, rfl, by cbv; try simp⟩
    · as_aux_lemma =>
      rw [hc2]
      cbv
      obtain ⟨⟨n98, n99⟩, hv, h0⟩ := bindS h0
      try dsimp only at h0
      refine call_is hO hX (fn_recurrence_Period hO hv) (by kernel_rfl) [0, 1, 2, 3, 4, 5, 6, 7, 8] rfl ⟨rfl, rfl, rfl, rfl, rfl, rfl, rfl, rfl, rfl, rfl, rfl, rfl, rfl, rfl, rfl, rfl, rfl, rfl, trivial⟩ rfl ?_
      cbv
      obtain ⟨⟨n100, n101⟩, hv, h0⟩ := bindS h0
      try dsimp only at h0
      refine call_is hO hX (fn_recurrence_Period hO hv) (by kernel_rfl) [0, 1, 2, 3, 4, 5, 6, 7, 8] rfl ⟨rfl, rfl, rfl, rfl, rfl, rfl, rfl, rfl, rfl, rfl, rfl, rfl, rfl, rfl, rfl, rfl, rfl, rfl, trivial⟩ rfl ?_
      cbv
      obtain ⟨x199, h1, h0⟩ := bindS h0
      obtain ⟨b61, hv, h1⟩ := bindS h1
      refine call_is hO hX (fn_ref29_Valid hO hv) (by kernel_rfl) [0, 1, 2, 3, 4, 5, 6, 7, 8] rfl ⟨rfl, rfl, rfl, rfl, rfl, rfl, rfl, rfl, rfl, rfl, rfl, rfl, rfl, rfl, rfl, rfl, rfl, rfl, trivial⟩ rfl ?_
      cbv
      rcases condS h1 with ⟨hc3, h1⟩ | ⟨hc3, h1⟩
      · rw [hc3]
        cbv
        cases h1
        try dsimp only at h0
        replace h0 := condT h0 rfl
        obtain ⟨x203, h1, h0⟩ := bindS h0
        rcases condS h1 with ⟨hc4, h1⟩ | ⟨hc4, h1⟩
        · rw [hc4]
          cbv
          rcases condS h1 with ⟨hc5, h1⟩ | ⟨hc5, h1⟩
          · rw [hc5]
            cbv
            rcases condS h1 with ⟨hc6, h1⟩ | ⟨hc6, h1⟩
            · rw [hc6]
              cbv
              cases h1
              try dsimp only at h0
              cases h0
              exact fin_ok hX rfl ⟨[], _, _, ⟨rfl, rfl⟩, rfl, rfl, rfl, rfl, by cbv; try simp⟩
            · rw [hc6]
              cbv
              cases h1
              try dsimp only at h0
              cases h0
              exact fin_ok hX rfl ⟨[], _, _, ⟨rfl, rfl⟩, rfl, rfl, rfl, rfl, by cbv; try simp⟩
          · rw [hc5]
            cbv
            cases h1
            try dsimp only at h0
            cases h0
            exact fin_ok hX rfl ⟨[], _, _, ⟨rfl, rfl⟩, rfl, rfl, rfl, rfl, by cbv; try simp⟩
        · rw [hc4]
          cbv
          cases h1
          try dsimp only at h0
          cases h0
          exact fin_ok hX rfl ⟨[], _, _, ⟨rfl, rfl⟩, rfl, rfl, rfl, rfl, by cbv; try simp⟩
      · as_aux_lemma =>
        rw [hc3]
        cbv
        obtain ⟨b62, hv, h1⟩ := bindS h1
        refine call_is hO hX (fn_ref29_Local hO hv) (by kernel_rfl) [] rfl trivial rfl ?_
        cbv
        cases h1
        try dsimp only at h0
        rcases condS h0 with ⟨hc7, h0⟩ | ⟨hc7, h0⟩
        · rw [hc7]
          cbv
          obtain ⟨x203, h1, h0⟩ := bindS h0
          rcases condS h1 with ⟨hc8, h1⟩ | ⟨hc8, h1⟩
          · rw [hc8]
            cbv
            rcases condS h1 with ⟨hc9, h1⟩ | ⟨hc9, h1⟩
            · rw [hc9]
              cbv
              rcases condS h1 with ⟨hc10, h1⟩ | ⟨hc10, h1⟩
              · rw [hc10]
                cbv
                cases h1
                try dsimp only at h0
                cases h0
                exact fin_ok hX rfl ⟨[], _, _, ⟨rfl, rfl⟩, rfl, rfl, rfl, rfl, by cbv; try simp⟩
              · rw [hc10]
                cbv
                cases h1
                try dsimp only at h0
                cases h0
                exact fin_ok hX rfl ⟨[], _, _, ⟨rfl, rfl⟩, rfl, rfl, rfl, rfl, by cbv; try simp⟩
            · rw [hc9]
              cbv
              cases h1
              try dsimp only at h0
              cases h0
              exact fin_ok hX rfl ⟨[], _, _, ⟨rfl, rfl⟩, rfl, rfl, rfl, rfl, by cbv; try simp⟩
          · rw [hc8]
            cbv
            cases h1
            try dsimp only at h0
            cases h0
            exact fin_ok hX rfl ⟨[], _, _, ⟨rfl, rfl⟩, rfl, rfl, rfl, rfl, by cbv; try simp⟩
        · as_aux_lemma =>
          rw [hc7]
          cbv
          obtain ⟨b63, hv, h0⟩ := bindS h0
          refine call_is hO hX (fn_ref29_Local hO hv) (by kernel_rfl) [] rfl trivial rfl ?_
          cbv
          rcases condS h0 with ⟨hc11, h0⟩ | ⟨hc11, h0⟩
          · rw [hc11]
            cbv
            obtain ⟨x205, h1, h0⟩ := bindS h0
            rcases condS h1 with ⟨hc12, h1⟩ | ⟨hc12, h1⟩
            · rw [hc12]
              cbv
              cases h1
              try dsimp only at h0
              cases h0
              exact fin_ok hX rfl ⟨[], _, _, ⟨rfl, rfl⟩, rfl, rfl, rfl, rfl, by cbv; try simp⟩
            · rw [hc12]
              cbv
              cases h1
              try dsimp only at h0
              cases h0
              exact fin_ok hX rfl ⟨[], _, _, ⟨rfl, rfl⟩, rfl, rfl, rfl, rfl, by cbv; try simp⟩
          · as_aux_lemma =>
            rw [hc11]
            cbv
            obtain ⟨⟨n107, n108⟩, hv, h0⟩ := bindS h0
            try dsimp only at h0
            refine call_is hO hX (fn_recurrence_Period hO hv) (by kernel_rfl) [0, 1, 2, 3, 4, 5, 6, 7, 8] rfl ⟨rfl, rfl, rfl, rfl, rfl, rfl, rfl, rfl, rfl, rfl, rfl, rfl, rfl, rfl, rfl, rfl, rfl, rfl, trivial⟩ rfl ?_
            cbv
            obtain ⟨x248, h1, h0⟩ := bindS h0
            rcases condS h1 with ⟨hc13, h1⟩ | ⟨hc13, h1⟩
            · rw [hc13]
              cbv
              cases h1
              try dsimp only at h0
              replace h0 := condT h0 rfl
              cases h0
              exact fin_ok hX rfl ⟨[], _, _, ⟨rfl, rfl⟩, rfl, rfl, rfl, rfl, by cbv; try simp⟩
            · as_aux_lemma =>
              rw [hc13]
              cbv
              rcases condS h1 with ⟨hc14, h1⟩ | ⟨hc14, h1⟩
              · rw [hc14]
                cbv
                cases h1
                try dsimp only at h0
                replace h0 := condT h0 rfl
                cases h0
                exact fin_ok hX rfl ⟨[], _, _, ⟨rfl, rfl⟩, rfl, rfl, rfl, rfl, by cbv; try simp⟩
              · as_aux_lemma =>
                rw [hc14]
                cbv
                rcases condS h1 with ⟨hc15, h1⟩ | ⟨hc15, h1⟩
                · rw [hc15]
                  cbv
                  cases h1
                  try dsimp only at h0
                  replace h0 := condT h0 rfl
                  cases h0
                  exact fin_ok hX rfl ⟨[], _, _, ⟨rfl, rfl⟩, rfl, rfl, rfl, rfl, by cbv; try simp⟩
                · as_aux_lemma =>
                  rw [hc15]
                  cbv
                  obtain ⟨n157, hv, h1⟩ := bindS h1
                  refine call_is hO hX (fn_ref29_Number hO hv) (by kernel_rfl) [0, 1, 2, 3, 4, 5, 6, 7, 8] rfl ⟨rfl, rfl, rfl, rfl, rfl, rfl, rfl, rfl, rfl, rfl, rfl, rfl, rfl, rfl, rfl, rfl, rfl, rfl, trivial⟩ rfl ?_
                  cbv
                  obtain ⟨n158, hv, h1⟩ := bindS h1
                  refine call_is hO hX (fn_ref29_Number hO hv) (by kernel_rfl) [0, 1, 2, 3, 4, 5, 6, 7, 8] rfl ⟨rfl, rfl, rfl, rfl, rfl, rfl, rfl, rfl, rfl, rfl, rfl, rfl, rfl, rfl, rfl, rfl, rfl, rfl, trivial⟩ rfl ?_
                  cbv
                  obtain ⟨hg16, h1⟩ := grdS h1
                  refine ⟨inr_of hO hg16, ?_⟩
                  cases h1
                  try dsimp only at h0
                  rcases condS h0 with ⟨hc17, h0⟩ | ⟨hc17, h0⟩
                  · rw [hc17]
                    cbv
                    cases h0
                    exact fin_ok hX rfl ⟨[], _, _, ⟨rfl, rfl⟩, rfl, rfl, rfl, rfl, by cbv; try simp⟩
                  · rw [hc17]
                    cbv
                    obtain ⟨x250, h1, h0⟩ := bindS h0
                    rcases condS h1 with ⟨hc18, h1⟩ | ⟨hc18, h1⟩
                    · rw [hc18]
                      cbv
                      cases h1
                      try dsimp only at h0
                      cases h0
                      exact fin_ok hX rfl ⟨[], _, _, ⟨rfl, rfl⟩, rfl, rfl, rfl, rfl, by cbv; try simp⟩
                    · rw [hc18]
                      cbv
                      rcases condS h1 with ⟨hc19, h1⟩ | ⟨hc19, h1⟩
                      · rw [hc19]
                        cbv
                        cases h1
                        try dsimp only at h0
                        cases h0
                        exact fin_ok hX rfl ⟨[], _, _, ⟨rfl, rfl⟩, rfl, rfl, rfl, rfl, by cbv; try simp⟩
                      · rw [hc19]
                        cbv
                        cases h1
                        try dsimp only at h0
                        cases h0
                        exact fin_ok hX rfl ⟨[], _, _, ⟨rfl, rfl⟩, rfl, rfl, rfl, rfl, by cbv; try simp⟩
end Go.Proofs.Ytmnhfaaaaejpaaa
