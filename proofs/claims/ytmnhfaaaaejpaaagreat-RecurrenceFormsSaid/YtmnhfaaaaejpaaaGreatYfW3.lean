/-
  The code does what its models say (printed by lift.py).
-/
import Derived.Test.YtmnhfaaaaejpaaaGreatYfM
import Derived.Test.YtmnhfaaaaejpaaaGreatYPlU
import Derived.Test.YtmnhfaaaaejpaaaGreatYPlU
import Derived.Test.YtmnhfaaaaejpaaaGreatYfW0
import Derived.Test.YtmnhfaaaaejpaaaGreatYfW1
import Derived.Test.YtmnhfaaaaejpaaaGreatYfW2
namespace Go.Proofs.YtmnhfaaaaejpaaaGreat.R
open Go.RowKit Go.Proofs.YtmnhfaaaaejpaaaGreat
set_option maxRecDepth 100000

set_option maxHeartbeats 40000000 in
theorem fn_law29_RecurrenceForms {O0 : Ops} (hO0 : O0 = std) {a_1 : Int} {a_2 : Int} {a_3 : Int} {a_4 : Int} {a_5 : Int} {b_1 : Int} {b_2 : Int} {b_3 : Int} {b_4 : Int} {b_5 : Int} {a_6 : List Int} {a_7 : List Int} {a_8 : List Int} {a_9 : List Int} {a_10 : List (Int × Int)} {a_11 : List Int} {a_12 : List Int} {a_13 : List Int} {a_14 : List Int} {b_6 : List Int} {b_7 : List Int} {b_8 : List Int} {b_9 : List Int} {b_10 : List (Int × Int)} {b_11 : List Int} {b_12 : List Int} {b_13 : List Int} {b_14 : List Int} {r1 : Bool} (h : m_law29_RecurrenceForms O0 a_1 a_2 a_3 a_4 a_5 b_1 b_2 b_3 b_4 b_5 a_6 a_7 a_8 a_9 a_10 a_11 a_12 a_13 a_14 b_6 b_7 b_8 b_9 b_10 b_11 b_12 b_13 b_14 = some r1) :
    Fn Tryz.prog 3 [.agg [.int .i64 a_1, .int .i64 a_2, .int .i64 a_3, .int .i64 a_4, .sl 0, .sl 1, .sl 2, .sl 3, .sl 4, .sl 5, .sl 6, .sl 7, .sl 8, .int .i64 a_5], .agg [.int .i64 b_1, .int .i64 b_2, .int .i64 b_3, .int .i64 b_4, .sl 9, .sl 10, .sl 11, .sl 12, .sl 13, .sl 14, .sl 15, .sl 16, .sl 17, .int .i64 b_5]] [.arr false .i1 a_6, .arr false .i1 a_7, .arr false .i1 a_8, .arr false .i1 a_9, .arr false .i2 a_10, .arr false .i1 a_11, .arr false .i1 a_12, .arr false .i1 a_13, .arr false .i1 a_14, .arr false .i1 b_6, .arr false .i1 b_7, .arr false .i1 b_8, .arr false .i1 b_9, .arr false .i2 b_10, .arr false .i1 b_11, .arr false .i1 b_12, .arr false .i1 b_13, .arr false .i1 b_14] (fun v c => v = .c (.bool r1) ∧ c = []) := by
  refine fn_run tab_holds eqs_holds mixed [(6, (.seg 1 [0] (.seg 2 [1] (.seg 1 [2, 3, 4, 5, 6, 7, 8, 9] (.seg 2 [10] (.seg 2 [11] (.seg 1 [12, 13, 14, 15, 16] (.seg 2 [17] (.seg 1 [18, 19, 20, 21, 23, 24, 25] (.seg 2 [22] (.seg 1 [26, 27, 28, 29, 30, 31, 32] .fin)))))))))), []), (8, (.seg 1 [0, 1, 3] (.seg 2 [2] (.seg 2 [4] (.seg 1 [5, 6, 8] (.seg 2 [7] (.seg 2 [9] (.seg 2 [10] (.seg 1 [11, 12, 13] .fin)))))))), [])] Tryz.func3 (by kernel_rfl) (by kernel_rfl) (Nat.le_of_ble_eq_true rfl) ?_
  intro O X hO hX
  rw [hO0, ← hO] at h
  unfold m_law29_RecurrenceForms at h
  have h0 := h; clear h
  cbv
  obtain ⟨x158, h1, h0⟩ := bindS h0
  obtain ⟨b47, hv, h1⟩ := bindS h1
  refine call_is hO hX (fn_law29_awake hO hv) (by kernel_rfl) [] rfl trivial rfl ?_
  cbv
  rcases condS h1 with ⟨hc1, h1⟩ | ⟨hc1, h1⟩
  · rw [hc1]
    cbv
    cases h1
    try dsimp only at h0
    replace h0 := condT h0 rfl
    obtain ⟨b50, hv, h0⟩ := bindS h0
    refine call_is hO hX (fn_law29_awake hO hv) (by kernel_rfl) [] rfl trivial rfl ?_
    cbv
    cases h0
    exact fin_ok hX rfl ⟨[], _, _, ⟨rfl, rfl⟩, rfl, rfl, rfl, rfl, by cbv; try simp⟩
  · rw [hc1]
    cbv
    obtain ⟨b48, hv, h1⟩ := bindS h1
    refine call_is hO hX (fn_law29_long hO hv) (by kernel_rfl) [0, 1, 2, 3, 4, 5, 6, 7, 8] rfl ⟨rfl, rfl, rfl, rfl, rfl, rfl, rfl, rfl, rfl, rfl, rfl, rfl, rfl, rfl, rfl, rfl, rfl, rfl, trivial⟩ rfl ?_
    cbv
    rcases condS h1 with ⟨hc2, h1⟩ | ⟨hc2, h1⟩
    · rw [hc2]
      cbv
      cases h1
      try dsimp only at h0
      replace h0 := condT h0 rfl
      obtain ⟨b50, hv, h0⟩ := bindS h0
      refine call_is hO hX (fn_law29_awake hO hv) (by kernel_rfl) [] rfl trivial rfl ?_
      cbv
      cases h0
      exact fin_ok hX rfl ⟨[], _, _, ⟨rfl, rfl⟩, rfl, rfl, rfl, rfl, by cbv; try simp⟩
    · rw [hc2]
      cbv
      obtain ⟨b49, hv, h1⟩ := bindS h1
      refine call_is hO hX (fn_law29_long hO hv) (by kernel_rfl) [9, 10, 11, 12, 13, 14, 15, 16, 17] rfl ⟨rfl, rfl, rfl, rfl, rfl, rfl, rfl, rfl, rfl, rfl, rfl, rfl, rfl, rfl, rfl, rfl, rfl, rfl, trivial⟩ rfl ?_
      cbv
      cases h1
      try dsimp only at h0
      rcases condS h0 with ⟨hc3, h0⟩ | ⟨hc3, h0⟩
      · rw [hc3]
        cbv
        obtain ⟨b50, hv, h0⟩ := bindS h0
        refine call_is hO hX (fn_law29_awake hO hv) (by kernel_rfl) [] rfl trivial rfl ?_
        cbv
        cases h0
        exact fin_ok hX rfl ⟨[], _, _, ⟨rfl, rfl⟩, rfl, rfl, rfl, rfl, by cbv; try simp⟩
      · rw [hc3]
        cbv
        obtain ⟨⟨n85, n86, n87, n88, l42, l43, l44, l45, l46, l47, l48, l49, l50, n89, n90⟩, hv, h0⟩ := bindS h0
        try dsimp only at h0
        refine call_is hO hX (fn_recurrence_Canonical hO hv) (by kernel_rfl) [0, 1, 2, 3, 4, 5, 6, 7, 8] rfl ⟨rfl, rfl, rfl, rfl, rfl, rfl, rfl, rfl, rfl, rfl, rfl, rfl, rfl, rfl, rfl, rfl, rfl, rfl, trivial⟩ rfl ?_
        cbv
        obtain ⟨b52, hv, h0⟩ := bindS h0
        refine call_is hO hX (fn_ref29_Valid hO hv) (by kernel_rfl) [0, 1, 2, 3, 4, 5, 6, 7, 8] rfl ⟨rfl, rfl, rfl, rfl, rfl, rfl, rfl, rfl, rfl, rfl, rfl, rfl, rfl, rfl, rfl, rfl, rfl, rfl, trivial⟩ rfl ?_
        cbv
        rcases condS h0 with ⟨hc4, h0⟩ | ⟨hc4, h0⟩
        · rw [hc4]
          cbv
          obtain ⟨x180, h1, h0⟩ := bindS h0
          obtain ⟨b53, hv, h1⟩ := bindS h1
          refine call_is hO hX (fn_recurrence_Valid hO hv) (by kernel_rfl) [0, 1, 2, 3, 4, 5, 6, 7, 8] rfl ⟨rfl, rfl, rfl, rfl, rfl, rfl, rfl, rfl, rfl, rfl, rfl, rfl, rfl, rfl, rfl, rfl, rfl, rfl, trivial⟩ rfl ?_
          cbv
          rcases condS h1 with ⟨hc5, h1⟩ | ⟨hc5, h1⟩
          · rw [hc5]
            cbv
            rcases condS h1 with ⟨hc6, h1⟩ | ⟨hc6, h1⟩
            · rw [hc6]
              cbv
              refine call_nil hO hX .i1 30 rfl ?_
              cbv
              refine call_nil hO hX .i1 31 rfl ?_
              cbv
              refine call_nil hO hX .i1 32 rfl ?_
              cbv
              refine call_nil hO hX .i1 33 rfl ?_
              cbv
              refine call_nil hO hX .i2 34 rfl ?_
              cbv
              refine call_nil hO hX .i1 35 rfl ?_
              cbv
              refine call_nil hO hX .i1 36 rfl ?_
              cbv
              refine call_nil hO hX .i1 37 rfl ?_
              cbv
              refine call_nil hO hX .i1 38 rfl ?_
              cbv
              obtain ⟨b62, hv, h1⟩ := bindS h1
              refine call_is hO hX (fn_ref29_Same hO hv) (by kernel_rfl) [20, 21, 22, 23, 24, 25, 26, 27, 28, 30, 31, 32, 33, 34, 35, 36, 37, 38] rfl ⟨rfl, rfl, rfl, rfl, rfl, rfl, rfl, rfl, rfl, rfl, rfl, rfl, rfl, rfl, rfl, rfl, rfl, rfl, rfl, rfl, rfl, rfl, rfl, rfl, rfl, rfl, rfl, rfl, rfl, rfl, rfl, rfl, rfl, rfl, rfl, rfl, trivial⟩ rfl ?_
              cbv
              rcases condS h1 with ⟨hc7, h1⟩ | ⟨hc7, h1⟩
              · rw [hc7]
                cbv
                obtain ⟨b74, hv, h1⟩ := bindS h1
                refine call_is hO hX (fn_recurrence_Equal hO hv) (by kernel_rfl) [0, 1, 2, 3, 4, 5, 6, 7, 8, 9, 10, 11, 12, 13, 14, 15, 16, 17] rfl ⟨rfl, rfl, rfl, rfl, rfl, rfl, rfl, rfl, rfl, rfl, rfl, rfl, rfl, rfl, rfl, rfl, rfl, rfl, rfl, rfl, rfl, rfl, rfl, rfl, rfl, rfl, rfl, rfl, rfl, rfl, rfl, rfl, rfl, rfl, rfl, rfl, trivial⟩ rfl ?_
                cbv
                rcases condS h1 with ⟨hc8, h1⟩ | ⟨hc8, h1⟩
                · rw [hc8]
                  cbv
                  obtain ⟨b76, hv, h1⟩ := bindS h1
                  refine call_is hO hX (fn_recurrence_Endless hO hv) (by kernel_rfl) [0, 1, 2, 3, 4, 5, 6, 7, 8] rfl ⟨rfl, rfl, rfl, rfl, rfl, rfl, rfl, rfl, rfl, rfl, rfl, rfl, rfl, rfl, rfl, rfl, rfl, rfl, trivial⟩ rfl ?_
                  cbv
                  cases h1
                  try dsimp only at h0
                  cases h0
                  exact fin_ok hX rfl ⟨[], _, _, ⟨rfl, rfl⟩, rfl, rfl, rfl, rfl, by cbv; try simp⟩
                · rw [hc8]
                  cbv
                  cases h1
                  try dsimp only at h0
                  cases h0
                  exact fin_ok hX rfl ⟨[], _, _, ⟨rfl, rfl⟩, rfl, rfl, rfl, rfl, by cbv; try simp⟩
              · rw [hc7]
                cbv
                cases h1
                try dsimp only at h0
                cases h0
                exact fin_ok hX rfl ⟨[], _, _, ⟨rfl, rfl⟩, rfl, rfl, rfl, rfl, by cbv; try simp⟩
            · rw [hc6]
              cbv
              cases h1
              try dsimp only at h0
              cases h0
              exact fin_ok hX rfl ⟨[], _, _, ⟨rfl, rfl⟩, rfl, rfl, rfl, rfl, by cbv; try simp⟩
          · rw [hc5]
            cbv
            cases h1
            try dsimp only at h0
            cases h0
            exact fin_ok hX rfl ⟨[], _, _, ⟨rfl, rfl⟩, rfl, rfl, rfl, rfl, by cbv; try simp⟩
        · rw [hc4]
          cbv
          obtain ⟨x183, h1, h0⟩ := bindS h0
          obtain ⟨b77, hv, h1⟩ := bindS h1
          refine call_is hO hX (fn_recurrence_Valid hO hv) (by kernel_rfl) [0, 1, 2, 3, 4, 5, 6, 7, 8] rfl ⟨rfl, rfl, rfl, rfl, rfl, rfl, rfl, rfl, rfl, rfl, rfl, rfl, rfl, rfl, rfl, rfl, rfl, rfl, trivial⟩ rfl ?_
          cbv
          rcases condS h1 with ⟨hc9, h1⟩ | ⟨hc9, h1⟩
          · rw [hc9]
            cbv
            cases h1
            try dsimp only at h0
            replace h0 := condT h0 rfl
            cases h0
            exact fin_ok hX rfl ⟨[], _, _, ⟨rfl, rfl⟩, rfl, rfl, rfl, rfl, by cbv; try simp⟩
          · rw [hc9]
            cbv
            rcases condS h1 with ⟨hc10, h1⟩ | ⟨hc10, h1⟩
            · rw [hc10]
              cbv
              cases h1
              try dsimp only at h0
              replace h0 := condT h0 rfl
              cases h0
              exact fin_ok hX rfl ⟨[], _, _, ⟨rfl, rfl⟩, rfl, rfl, rfl, rfl, by cbv; try simp⟩
            · rw [hc10]
              cbv
              obtain ⟨⟨n103, n104, n105, n106, l83, l84, l85, l86, l87, l88, l89, l90, l91, n107⟩, hv, h1⟩ := bindS h1
              try dsimp only at h1
              refine call_is hO hX (fn_ref29_Canonical hO hv) (by kernel_rfl) [0, 1, 2, 3, 4, 5, 6, 7, 8] rfl ⟨rfl, rfl, rfl, rfl, rfl, rfl, rfl, rfl, rfl, rfl, rfl, rfl, rfl, rfl, rfl, rfl, rfl, rfl, trivial⟩ rfl ?_
              cbv
              obtain ⟨b78, hv, h1⟩ := bindS h1
              refine call_is hO hX (fn_ref29_Same hO hv) (by kernel_rfl) [20, 21, 22, 23, 24, 25, 26, 27, 28, 30, 31, 32, 33, 34, 35, 36, 37, 38] rfl ⟨rfl, rfl, rfl, rfl, rfl, rfl, rfl, rfl, rfl, rfl, rfl, rfl, rfl, rfl, rfl, rfl, rfl, rfl, rfl, rfl, rfl, rfl, rfl, rfl, rfl, rfl, rfl, rfl, rfl, rfl, rfl, rfl, rfl, rfl, rfl, rfl, trivial⟩ rfl ?_
              cbv
              rcases condS h1 with ⟨hc11, h1⟩ | ⟨hc11, h1⟩
              · rw [hc11]
                cbv
                cases h1
                try dsimp only at h0
                replace h0 := condT h0 rfl
                cases h0
                exact fin_ok hX rfl ⟨[], _, _, ⟨rfl, rfl⟩, rfl, rfl, rfl, rfl, by cbv; try simp⟩
              · rw [hc11]
                cbv
                obtain ⟨b79, hv, h1⟩ := bindS h1
                refine call_is hO hX (fn_recurrence_Equal hO hv) (by kernel_rfl) [0, 1, 2, 3, 4, 5, 6, 7, 8, 20, 21, 22, 23, 24, 25, 26, 27, 28] rfl ⟨rfl, rfl, rfl, rfl, rfl, rfl, rfl, rfl, rfl, rfl, rfl, rfl, rfl, rfl, rfl, rfl, rfl, rfl, rfl, rfl, rfl, rfl, rfl, rfl, rfl, rfl, rfl, rfl, rfl, rfl, rfl, rfl, rfl, rfl, rfl, rfl, trivial⟩ rfl ?_
                cbv
                rcases condS h1 with ⟨hc12, h1⟩ | ⟨hc12, h1⟩
                · rw [hc12]
                  cbv
                  cases h1
                  try dsimp only at h0
                  replace h0 := condT h0 rfl
                  cases h0
                  exact fin_ok hX rfl ⟨[], _, _, ⟨rfl, rfl⟩, rfl, rfl, rfl, rfl, by cbv; try simp⟩
                · rw [hc12]
                  cbv
                  obtain ⟨b80, hv, h1⟩ := bindS h1
                  refine call_is hO hX (fn_recurrence_Endless hO hv) (by kernel_rfl) [0, 1, 2, 3, 4, 5, 6, 7, 8] rfl ⟨rfl, rfl, rfl, rfl, rfl, rfl, rfl, rfl, rfl, rfl, rfl, rfl, rfl, rfl, rfl, rfl, rfl, rfl, trivial⟩ rfl ?_
                  cbv
                  rcases condS h1 with ⟨hc13, h1⟩ | ⟨hc13, h1⟩
                  · rw [hc13]
                    cbv
                    cases h1
                    try dsimp only at h0
                    rcases condS h0 with ⟨hc14, h0⟩ | ⟨hc14, h0⟩
                    · rw [hc14]
                      cbv
                      cases h0
                      exact fin_ok hX rfl ⟨[], _, _, ⟨rfl, rfl⟩, rfl, rfl, rfl, rfl, by cbv; try simp⟩
                    · rw [hc14]
                      cbv
                      obtain ⟨x185, h1, h0⟩ := bindS h0
                      obtain ⟨b81, hv, h1⟩ := bindS h1
                      refine call_is hO hX (fn_recurrence_Equal hO hv) (by kernel_rfl) [0, 1, 2, 3, 4, 5, 6, 7, 8, 9, 10, 11, 12, 13, 14, 15, 16, 17] rfl ⟨rfl, rfl, rfl, rfl, rfl, rfl, rfl, rfl, rfl, rfl, rfl, rfl, rfl, rfl, rfl, rfl, rfl, rfl, rfl, rfl, rfl, rfl, rfl, rfl, rfl, rfl, rfl, rfl, rfl, rfl, rfl, rfl, rfl, rfl, rfl, rfl, trivial⟩ rfl ?_
                      cbv
                      obtain ⟨b82, hv, h1⟩ := bindS h1
                      refine call_is hO hX (fn_ref29_Valid hO hv) (by kernel_rfl) [9, 10, 11, 12, 13, 14, 15, 16, 17] rfl ⟨rfl, rfl, rfl, rfl, rfl, rfl, rfl, rfl, rfl, rfl, rfl, rfl, rfl, rfl, rfl, rfl, rfl, rfl, trivial⟩ rfl ?_
                      cbv
                      rcases condS h1 with ⟨hc15, h1⟩ | ⟨hc15, h1⟩
                      · rw [hc15]
                        cbv
                        obtain ⟨⟨n108, n109, n110, n111, l92, l93, l94, l95, l96, l97, l98, l99, l100, n112⟩, hv, h1⟩ := bindS h1
                        try dsimp only at h1
                        refine call_is hO hX (fn_ref29_Canonical hO hv) (by kernel_rfl) [0, 1, 2, 3, 4, 5, 6, 7, 8] rfl ⟨rfl, rfl, rfl, rfl, rfl, rfl, rfl, rfl, rfl, rfl, rfl, rfl, rfl, rfl, rfl, rfl, rfl, rfl, trivial⟩ rfl ?_
                        cbv
                        obtain ⟨⟨n113, n114, n115, n116, l101, l102, l103, l104, l105, l106, l107, l108, l109, n117⟩, hv, h1⟩ := bindS h1
                        try dsimp only at h1
                        refine call_is hO hX (fn_ref29_Canonical hO hv) (by kernel_rfl) [9, 10, 11, 12, 13, 14, 15, 16, 17] rfl ⟨rfl, rfl, rfl, rfl, rfl, rfl, rfl, rfl, rfl, rfl, rfl, rfl, rfl, rfl, rfl, rfl, rfl, rfl, trivial⟩ rfl ?_
                        cbv
                        obtain ⟨b83, hv, h1⟩ := bindS h1
                        refine call_is hO hX (fn_ref29_Same hO hv) (by kernel_rfl) [39, 40, 41, 42, 43, 44, 45, 46, 47, 48, 49, 50, 51, 52, 53, 54, 55, 56] rfl ⟨rfl, rfl, rfl, rfl, rfl, rfl, rfl, rfl, rfl, rfl, rfl, rfl, rfl, rfl, rfl, rfl, rfl, rfl, rfl, rfl, rfl, rfl, rfl, rfl, rfl, rfl, rfl, rfl, rfl, rfl, rfl, rfl, rfl, rfl, rfl, rfl, trivial⟩ rfl ?_
                        cbv
                        cases h1
                        try dsimp only at h0
                        cases h0
                        exact fin_ok hX rfl ⟨[], _, _, ⟨rfl, rfl⟩, rfl, rfl, rfl, rfl, by cbv; try simp⟩
                      · rw [hc15]
                        cbv
                        cases h1
                        try dsimp only at h0
                        cases h0
                        exact fin_ok hX rfl ⟨[], _, _, ⟨rfl, rfl⟩, rfl, rfl, rfl, rfl, by cbv; try simp⟩
                  · rw [hc13]
                    cbv
                    cases h1
                    try dsimp only at h0
                    rcases condS h0 with ⟨hc16, h0⟩ | ⟨hc16, h0⟩
                    · rw [hc16]
                      cbv
                      cases h0
                      exact fin_ok hX rfl ⟨[], _, _, ⟨rfl, rfl⟩, rfl, rfl, rfl, rfl, by cbv; try simp⟩
                    · rw [hc16]
                      cbv
                      obtain ⟨x185, h1, h0⟩ := bindS h0
                      obtain ⟨b81, hv, h1⟩ := bindS h1
                      refine call_is hO hX (fn_recurrence_Equal hO hv) (by kernel_rfl) [0, 1, 2, 3, 4, 5, 6, 7, 8, 9, 10, 11, 12, 13, 14, 15, 16, 17] rfl ⟨rfl, rfl, rfl, rfl, rfl, rfl, rfl, rfl, rfl, rfl, rfl, rfl, rfl, rfl, rfl, rfl, rfl, rfl, rfl, rfl, rfl, rfl, rfl, rfl, rfl, rfl, rfl, rfl, rfl, rfl, rfl, rfl, rfl, rfl, rfl, rfl, trivial⟩ rfl ?_
                      cbv
                      obtain ⟨b82, hv, h1⟩ := bindS h1
                      refine call_is hO hX (fn_ref29_Valid hO hv) (by kernel_rfl) [9, 10, 11, 12, 13, 14, 15, 16, 17] rfl ⟨rfl, rfl, rfl, rfl, rfl, rfl, rfl, rfl, rfl, rfl, rfl, rfl, rfl, rfl, rfl, rfl, rfl, rfl, trivial⟩ rfl ?_
                      cbv
                      rcases condS h1 with ⟨hc17, h1⟩ | ⟨hc17, h1⟩
                      · rw [hc17]
                        cbv
                        obtain ⟨⟨n108, n109, n110, n111, l92, l93, l94, l95, l96, l97, l98, l99, l100, n112⟩, hv, h1⟩ := bindS h1
                        try dsimp only at h1
                        refine call_is hO hX (fn_ref29_Canonical hO hv) (by kernel_rfl) [0, 1, 2, 3, 4, 5, 6, 7, 8] rfl ⟨rfl, rfl, rfl, rfl, rfl, rfl, rfl, rfl, rfl, rfl, rfl, rfl, rfl, rfl, rfl, rfl, rfl, rfl, trivial⟩ rfl ?_
                        cbv
                        obtain ⟨⟨n113, n114, n115, n116, l101, l102, l103, l104, l105, l106, l107, l108, l109, n117⟩, hv, h1⟩ := bindS h1
                        try dsimp only at h1
                        refine call_is hO hX (fn_ref29_Canonical hO hv) (by kernel_rfl) [9, 10, 11, 12, 13, 14, 15, 16, 17] rfl ⟨rfl, rfl, rfl, rfl, rfl, rfl, rfl, rfl, rfl, rfl, rfl, rfl, rfl, rfl, rfl, rfl, rfl, rfl, trivial⟩ rfl ?_
                        cbv
                        obtain ⟨b83, hv, h1⟩ := bindS h1
                        refine call_is hO hX (fn_ref29_Same hO hv) (by kernel_rfl) [39, 40, 41, 42, 43, 44, 45, 46, 47, 48, 49, 50, 51, 52, 53, 54, 55, 56] rfl ⟨rfl, rfl, rfl, rfl, rfl, rfl, rfl, rfl, rfl, rfl, rfl, rfl, rfl, rfl, rfl, rfl, rfl, rfl, rfl, rfl, rfl, rfl, rfl, rfl, rfl, rfl, rfl, rfl, rfl, rfl, rfl, rfl, rfl, rfl, rfl, rfl, trivial⟩ rfl ?_
                        cbv
                        cases h1
                        try dsimp only at h0
                        cases h0
                        exact fin_ok hX rfl ⟨[], _, _, ⟨rfl, rfl⟩, rfl, rfl, rfl, rfl, by cbv; try simp⟩
                      · rw [hc17]
                        cbv
                        cases h1
                        try dsimp only at h0
                        cases h0
                        exact fin_ok hX rfl ⟨[], _, _, ⟨rfl, rfl⟩, rfl, rfl, rfl, rfl, by cbv; try simp⟩
end Go.Proofs.YtmnhfaaaaejpaaaGreat.R
