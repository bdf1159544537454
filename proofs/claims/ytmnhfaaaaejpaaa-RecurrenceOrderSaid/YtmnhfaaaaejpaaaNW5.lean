/-
  The code does what its models say (printed by lift.py).
-/
import Derived.Test.YtmnhfaaaaejpaaaNM
import Derived.Test.YtmnhfaaaaejpaaaNNoW
import Derived.Test.YtmnhfaaaaejpaaaNW0
import Derived.Test.YtmnhfaaaaejpaaaNW1
import Derived.Test.YtmnhfaaaaejpaaaNW3
import Derived.Test.YtmnhfaaaaejpaaaNW4
namespace Go.Proofs.Ytmnhfaaaaejpaaa
open Go.RowKit
set_option maxRecDepth 100000

set_option maxHeartbeats 40000000 in
theorem fn_recurrence_filters_6 {O0 : Ops} (hO0 : O0 = std) {r_1 : Int} {r_2 : Int} {r_3 : Int} {r_4 : Int} {r_5 : Int} {x_1 : Int} {x_2 : Int} {x_3 : Int} {x_4 : Int} {x_5 : Int} {x_6 : Int} {x_7 : Int} {x_8 : Int} {start_1 : Int} {start_2 : Int} {start_3 : Int} {start_4 : Int} {start_5 : Int} {start_6 : Int} {start_7 : Int} {start_8 : Int} {r_6 : List Int} {r_7 : List Int} {r_8 : List Int} {r_9 : List Int} {r_10 : List (Int × Int)} {r_11 : List Int} {r_12 : List Int} {r_13 : List Int} {r_14 : List Int} {r1 : Bool} (h : m_recurrence_filters_6 O0 r_1 r_2 r_3 r_4 r_5 x_1 x_2 x_3 x_4 x_5 x_6 x_7 x_8 start_1 start_2 start_3 start_4 start_5 start_6 start_7 start_8 r_6 r_7 r_8 r_9 r_10 r_11 r_12 r_13 r_14 = some r1) :
    Fn Try.prog 91 [.agg [.int .i64 r_1, .int .i64 r_2, .int .i64 r_3, .int .i64 r_4, .sl 0, .sl 1, .sl 2, .sl 3, .sl 4, .sl 5, .sl 6, .sl 7, .sl 8, .int .i64 r_5], .agg [.int .i64 x_1, .int .i64 x_2, .int .i64 x_3, .int .i64 x_4, .int .i64 x_5, .int .i64 x_6, .int .i64 x_7, .int .i64 x_8], .agg [.int .i64 start_1, .int .i64 start_2, .int .i64 start_3, .int .i64 start_4, .int .i64 start_5, .int .i64 start_6, .int .i64 start_7, .int .i64 start_8]] [.arr false .i1 r_6, .arr false .i1 r_7, .arr false .i1 r_8, .arr false .i1 r_9, .arr false .i2 r_10, .arr false .i1 r_11, .arr false .i1 r_12, .arr false .i1 r_13, .arr false .i1 r_14] (fun v c => v = .c (.bool r1) ∧ c = []) := by
  refine fn_run tab_holds eqs_holds mixed [(3, (.seg 1 [0, 1, 3, 4] (.seg 2 [2] (.seg 2 [5] (.seg 1 [6, 7] .fin)))), [])] Try.func91 (by kernel_rfl) (by kernel_rfl) (Nat.le_of_ble_eq_true rfl) ?_
  intro O X hO hX
  rw [hO0, ← hO] at h
  unfold m_recurrence_filters_6 at h
  have h0 := h; clear h
  cbv
  obtain ⟨x111, h1, h0⟩ := bindS h0
  rcases condS h1 with ⟨hc1, h1⟩ | ⟨hc1, h1⟩
  · rw [hc1]
    cbv
    cases h1
    try dsimp only at h0
    replace h0 := condT h0 rfl
    cases h0
    exact fin_ok hX rfl ⟨[], _, _, ⟨rfl, rfl⟩, rfl, rfl, rfl, rfl, by cbv; try simp⟩
  · rw [hc1]
    cbv
    rcases condS h1 with ⟨hc2, h1⟩ | ⟨hc2, h1⟩
    · rw [hc2]
      cbv
      cases h1
      try dsimp only at h0
      replace h0 := condT h0 rfl
      cases h0
      exact fin_ok hX rfl ⟨[], _, _, ⟨rfl, rfl⟩, rfl, rfl, rfl, rfl, by cbv; try simp⟩
    · rw [hc2]
      cbv
      cases h1
      try dsimp only at h0
      rcases condS h0 with ⟨hc3, h0⟩ | ⟨hc3, h0⟩
      · rw [hc3]
        cbv
        cases h0
        exact fin_ok hX rfl ⟨[], _, _, ⟨rfl, rfl⟩, rfl, rfl, rfl, rfl, by cbv; try simp⟩
      · rw [hc3]
        cbv
        obtain ⟨n74, hv, h0⟩ := bindS h0
        refine call_is hO hX (fn_recurrence_weekday hO hv) (by kernel_rfl) [] rfl trivial rfl ?_
        cbv
        obtain ⟨n75, hv, h0⟩ := bindS h0
        refine call_is hO hX (fn_recurrence_weekday hO hv) (by kernel_rfl) [] rfl trivial rfl ?_
        cbv
        obtain ⟨x113, h1, h0⟩ := bindS h0
        rcases condS h1 with ⟨hc4, h1⟩ | ⟨hc4, h1⟩
        · rw [hc4]
          cbv
          cases h1
          try dsimp only at h0
          obtain ⟨x115, h1, h0⟩ := bindS h0
          rcases condS h1 with ⟨hc5, h1⟩ | ⟨hc5, h1⟩
          · rw [hc5]
            cbv
            cases h1
            try dsimp only at h0
            obtain ⟨e1, h1, h0⟩ := bindS h0
            replace h1 := condT h1 rfl
            cases h1
            try dsimp only at h0
            cases h0
            exact fin_ok hX rfl ⟨[], _, _, ⟨rfl, rfl⟩, rfl, rfl, rfl, rfl, by cbv; try simp⟩
          · rw [hc5]
            cbv
            cases h1
            try dsimp only at h0
            obtain ⟨e1, h1, h0⟩ := bindS h0
            rcases condS h1 with ⟨hc6, h1⟩ | ⟨hc6, h1⟩
            · rw [hc6]
              cbv
              cases h1
              try dsimp only at h0
              cases h0
              exact fin_ok hX rfl ⟨[], _, _, ⟨rfl, rfl⟩, rfl, rfl, rfl, rfl, by cbv; try simp⟩
            · rw [hc6]
              cbv
              try (rw [hc4]; cbv)
              obtain ⟨e2, h2, h1⟩ := bindS h1
              replace h2 := condT h2 hc4
              obtain ⟨x118, h3, h2⟩ := bindS h2
              rcases condS h3 with ⟨hc7, h3⟩ | ⟨hc7, h3⟩
              · rw [hc7]
                cbv
                rcases condS h3 with ⟨hc8, h3⟩ | ⟨hc8, h3⟩
                · rw [hc8]
                  cbv
                  cases h3
                  try dsimp only at h2
                  cases h2
                  try dsimp only at h1
                  cases h1
                  try dsimp only at h0
                  cases h0
                  exact fin_ok hX rfl ⟨[], _, _, ⟨rfl, rfl⟩, rfl, rfl, rfl, rfl, by cbv; try simp⟩
                · rw [hc8]
                  cbv
                  cases h3
                  try dsimp only at h2
                  cases h2
                  try dsimp only at h1
                  cases h1
                  try dsimp only at h0
                  cases h0
                  exact fin_ok hX rfl ⟨[], _, _, ⟨rfl, rfl⟩, rfl, rfl, rfl, rfl, by cbv; try simp⟩
              · rw [hc7]
                cbv
                cases h3
                try dsimp only at h2
                cases h2
                try dsimp only at h1
                cases h1
                try dsimp only at h0
                cases h0
                exact fin_ok hX rfl ⟨[], _, _, ⟨rfl, rfl⟩, rfl, rfl, rfl, rfl, by cbv; try simp⟩
        · rw [hc4]
          cbv
          cases h1
          try dsimp only at h0
          obtain ⟨x115, h1, h0⟩ := bindS h0
          replace h1 := condF h1 rfl
          cases h1
          try dsimp only at h0
          obtain ⟨e1, h1, h0⟩ := bindS h0
          rcases condS h1 with ⟨hc9, h1⟩ | ⟨hc9, h1⟩
          · rw [hc9]
            cbv
            cases h1
            try dsimp only at h0
            cases h0
            exact fin_ok hX rfl ⟨[], _, _, ⟨rfl, rfl⟩, rfl, rfl, rfl, rfl, by cbv; try simp⟩
          · rw [hc9]
            cbv
            try (rw [hc4]; cbv)
            obtain ⟨e2, h2, h1⟩ := bindS h1
            replace h2 := condF h2 hc4
            rcases condS h2 with ⟨hc10, h2⟩ | ⟨hc10, h2⟩
            · rw [hc10]
              cbv
              cases h2
              try dsimp only at h1
              cases h1
              try dsimp only at h0
              cases h0
              exact fin_ok hX rfl ⟨[], _, _, ⟨rfl, rfl⟩, rfl, rfl, rfl, rfl, by cbv; try simp⟩
            · rw [hc10]
              cbv
              cases h2
              try dsimp only at h1
              cases h1
              try dsimp only at h0
              cases h0
              exact fin_ok hX rfl ⟨[], _, _, ⟨rfl, rfl⟩, rfl, rfl, rfl, rfl, by cbv; try simp⟩
set_option maxHeartbeats 40000000 in
theorem fn_recurrence_passes {O0 : Ops} (hO0 : O0 = std) {r_1 : Int} {r_2 : Int} {r_3 : Int} {r_4 : Int} {r_5 : Int} {start_1 : Int} {start_2 : Int} {start_3 : Int} {start_4 : Int} {start_5 : Int} {start_6 : Int} {start_7 : Int} {start_8 : Int} {day_1 : Int} {r_6 : List Int} {r_7 : List Int} {r_8 : List Int} {r_9 : List Int} {r_10 : List (Int × Int)} {r_11 : List Int} {r_12 : List Int} {r_13 : List Int} {r_14 : List Int} {r1 : Bool} (h : m_recurrence_passes O0 r_1 r_2 r_3 r_4 r_5 start_1 start_2 start_3 start_4 start_5 start_6 start_7 start_8 day_1 r_6 r_7 r_8 r_9 r_10 r_11 r_12 r_13 r_14 = some r1) :
    Fn Try.prog 35 [.agg [.int .i64 r_1, .int .i64 r_2, .int .i64 r_3, .int .i64 r_4, .sl 0, .sl 1, .sl 2, .sl 3, .sl 4, .sl 5, .sl 6, .sl 7, .sl 8, .int .i64 r_5], .agg [.int .i64 start_1, .int .i64 start_2, .int .i64 start_3, .int .i64 start_4, .int .i64 start_5, .int .i64 start_6, .int .i64 start_7, .int .i64 start_8], .c (.int .i64 day_1)] [.arr false .i1 r_6, .arr false .i1 r_7, .arr false .i1 r_8, .arr false .i1 r_9, .arr false .i2 r_10, .arr false .i1 r_11, .arr false .i1 r_12, .arr false .i1 r_13, .arr false .i1 r_14] (fun v c => v = .c (.bool r1) ∧ c = []) := by
  refine fn_run tab_holds eqs_holds mixed [] Try.func35 (by kernel_rfl) (by kernel_rfl) (Nat.le_of_ble_eq_true rfl) ?_
  intro O X hO hX
  rw [hO0, ← hO] at h
  unfold m_recurrence_passes at h
  have h0 := h; clear h
  cbv
  obtain ⟨⟨n58, n59, n60, n61, n62, n63, n64, n65⟩, hv, h0⟩ := bindS h0
  try dsimp only at h0
  refine call_is hO hX (fn_recurrence_dateOf hO hv) (by kernel_rfl) [] rfl trivial rfl ?_
  cbv
  refine call_inline tab_holds eqs_holds mixed [] hO hX (by kernel_rfl) Try.func61 (by kernel_rfl) (by kernel_rfl) rfl ?_
  intro X1 hX1 hF1
  cbv
  refine hF1 _ _ ?_
  cbv
  refine loop_unroll tab_holds eqs_holds mixed [] hO hX 7 (by kernel_rfl) ?_
  cbv
  rw [show (O .lt 0 (Int.ofNat 6)) = true from by subst hO; rfl]
  cbv
  obtain ⟨b18, hv, h0⟩ := bindS h0
  refine call_is hO hX (fn_recurrence_filters_1 hO hv) (by kernel_rfl) [0, 1, 2, 3, 4, 5, 6, 7, 8] rfl ⟨rfl, rfl, rfl, rfl, rfl, rfl, rfl, rfl, rfl, rfl, rfl, rfl, rfl, rfl, rfl, rfl, rfl, rfl, trivial⟩ rfl ?_
  cbv
  rcases condS h0 with ⟨hc1, h0⟩ | ⟨hc1, h0⟩
  · rw [hc1]
    cbv
    cases h0
    exact fin_ok hX rfl ⟨[], _, _, ⟨rfl, rfl⟩, rfl, rfl, rfl, rfl, by cbv; try simp⟩
  · rw [hc1]
    cbv
    obtain ⟨hg2, h0⟩ := grdS h0
    refine ⟨inr_of hO hg2, ?_⟩
    try (rw [show (O .add 0 1) = 1 from by subst hO; rfl]; try cbv)
    try (rw [show (O .add 0 1) = 1 from by subst hO; rfl]; try cbv)
    rw [show (O .lt 1 (Int.ofNat 6)) = true from by subst hO; rfl]
    cbv
    obtain ⟨b22, hv, h0⟩ := bindS h0
    refine call_is hO hX (fn_recurrence_filters_2 hO hv) (by kernel_rfl) [0, 1, 2, 3, 4, 5, 6, 7, 8] rfl ⟨rfl, rfl, rfl, rfl, rfl, rfl, rfl, rfl, rfl, rfl, rfl, rfl, rfl, rfl, rfl, rfl, rfl, rfl, trivial⟩ rfl ?_
    cbv
    rcases condS h0 with ⟨hc3, h0⟩ | ⟨hc3, h0⟩
    · rw [hc3]
      cbv
      cases h0
      exact fin_ok hX rfl ⟨[], _, _, ⟨rfl, rfl⟩, rfl, rfl, rfl, rfl, by cbv; try simp⟩
    · rw [hc3]
      cbv
      obtain ⟨hg4, h0⟩ := grdS h0
      refine ⟨inr_of hO hg4, ?_⟩
      try (rw [show (O .add 1 1) = 2 from by subst hO; rfl]; try cbv)
      try (rw [show (O .add 1 1) = 2 from by subst hO; rfl]; try cbv)
      rw [show (O .lt 2 (Int.ofNat 6)) = true from by subst hO; rfl]
      cbv
      obtain ⟨b24, hv, h0⟩ := bindS h0
      refine call_is hO hX (fn_recurrence_filters_3 hO hv) (by kernel_rfl) [0, 1, 2, 3, 4, 5, 6, 7, 8] rfl ⟨rfl, rfl, rfl, rfl, rfl, rfl, rfl, rfl, rfl, rfl, rfl, rfl, rfl, rfl, rfl, rfl, rfl, rfl, trivial⟩ rfl ?_
      cbv
      rcases condS h0 with ⟨hc5, h0⟩ | ⟨hc5, h0⟩
      · rw [hc5]
        cbv
        cases h0
        exact fin_ok hX rfl ⟨[], _, _, ⟨rfl, rfl⟩, rfl, rfl, rfl, rfl, by cbv; try simp⟩
      · rw [hc5]
        cbv
        obtain ⟨hg6, h0⟩ := grdS h0
        refine ⟨inr_of hO hg6, ?_⟩
        try (rw [show (O .add 2 1) = 3 from by subst hO; rfl]; try cbv)
        try (rw [show (O .add 2 1) = 3 from by subst hO; rfl]; try cbv)
        rw [show (O .lt 3 (Int.ofNat 6)) = true from by subst hO; rfl]
        cbv
        obtain ⟨b26, hv, h0⟩ := bindS h0
        refine call_is hO hX (fn_recurrence_filters_4 hO hv) (by kernel_rfl) [0, 1, 2, 3, 4, 5, 6, 7, 8] rfl ⟨rfl, rfl, rfl, rfl, rfl, rfl, rfl, rfl, rfl, rfl, rfl, rfl, rfl, rfl, rfl, rfl, rfl, rfl, trivial⟩ rfl ?_
        cbv
        rcases condS h0 with ⟨hc7, h0⟩ | ⟨hc7, h0⟩
        · rw [hc7]
          cbv
          cases h0
          exact fin_ok hX rfl ⟨[], _, _, ⟨rfl, rfl⟩, rfl, rfl, rfl, rfl, by cbv; try simp⟩
        · rw [hc7]
          cbv
          obtain ⟨hg8, h0⟩ := grdS h0
          refine ⟨inr_of hO hg8, ?_⟩
          try (rw [show (O .add 3 1) = 4 from by subst hO; rfl]; try cbv)
          try (rw [show (O .add 3 1) = 4 from by subst hO; rfl]; try cbv)
          rw [show (O .lt 4 (Int.ofNat 6)) = true from by subst hO; rfl]
          cbv
          obtain ⟨b31, hv, h0⟩ := bindS h0
          refine call_is hO hX (fn_recurrence_filters_5 hO hv) (by kernel_rfl) [0, 1, 2, 3, 4, 5, 6, 7, 8] rfl ⟨rfl, rfl, rfl, rfl, rfl, rfl, rfl, rfl, rfl, rfl, rfl, rfl, rfl, rfl, rfl, rfl, rfl, rfl, trivial⟩ rfl ?_
          cbv
          rcases condS h0 with ⟨hc9, h0⟩ | ⟨hc9, h0⟩
          · rw [hc9]
            cbv
            cases h0
            exact fin_ok hX rfl ⟨[], _, _, ⟨rfl, rfl⟩, rfl, rfl, rfl, rfl, by cbv; try simp⟩
          · rw [hc9]
            cbv
            obtain ⟨hg10, h0⟩ := grdS h0
            refine ⟨inr_of hO hg10, ?_⟩
            try (rw [show (O .add 4 1) = 5 from by subst hO; rfl]; try cbv)
            try (rw [show (O .add 4 1) = 5 from by subst hO; rfl]; try cbv)
            rw [show (O .lt 5 (Int.ofNat 6)) = true from by subst hO; rfl]
            cbv
            obtain ⟨b32, hv, h0⟩ := bindS h0
            refine call_is hO hX (fn_recurrence_filters_6 hO hv) (by kernel_rfl) [0, 1, 2, 3, 4, 5, 6, 7, 8] rfl ⟨rfl, rfl, rfl, rfl, rfl, rfl, rfl, rfl, rfl, rfl, rfl, rfl, rfl, rfl, rfl, rfl, rfl, rfl, trivial⟩ rfl ?_
            cbv
            rcases condS h0 with ⟨hc11, h0⟩ | ⟨hc11, h0⟩
            · rw [hc11]
              cbv
              cases h0
              exact fin_ok hX rfl ⟨[], _, _, ⟨rfl, rfl⟩, rfl, rfl, rfl, rfl, by cbv; try simp⟩
            · rw [hc11]
              cbv
              obtain ⟨hg12, h0⟩ := grdS h0
              refine ⟨inr_of hO hg12, ?_⟩
              try (rw [show (O .add 5 1) = 6 from by subst hO; rfl]; try cbv)
              try (rw [show (O .add 5 1) = 6 from by subst hO; rfl]; try cbv)
              rw [show (O .lt 6 (Int.ofNat 6)) = false from by subst hO; rfl]
              cbv
              cases h0
              exact fin_ok hX rfl ⟨[], _, _, ⟨rfl, rfl⟩, rfl, rfl, rfl, rfl, by cbv; try simp⟩
set_option maxHeartbeats 40000000 in
theorem fn_recurrence_Matches {O0 : Ops} (hO0 : O0 = std) {r_1 : Int} {r_2 : Int} {r_3 : Int} {r_4 : Int} {r_5 : Int} {start_1 : Int} {l_1 : Int} {r_6 : List Int} {r_7 : List Int} {r_8 : List Int} {r_9 : List Int} {r_10 : List (Int × Int)} {r_11 : List Int} {r_12 : List Int} {r_13 : List Int} {r_14 : List Int} {r1 : Bool} {r2 : Int} (h : m_recurrence_Matches O0 r_1 r_2 r_3 r_4 r_5 start_1 l_1 r_6 r_7 r_8 r_9 r_10 r_11 r_12 r_13 r_14 = some (r1, r2)) :
    Fn Try.prog 17 [.agg [.int .i64 r_1, .int .i64 r_2, .int .i64 r_3, .int .i64 r_4, .sl 0, .sl 1, .sl 2, .sl 3, .sl 4, .sl 5, .sl 6, .sl 7, .sl 8, .int .i64 r_5], .c (.int .i64 start_1), .c (.int .i64 l_1)] [.arr false .i1 r_6, .arr false .i1 r_7, .arr false .i1 r_8, .arr false .i1 r_9, .arr false .i2 r_10, .arr false .i1 r_11, .arr false .i1 r_12, .arr false .i1 r_13, .arr false .i1 r_14] (fun v c => v = .tup [.one (.bool r1), .one (.int .i64 r2)] ∧ c = []) := by
  refine fn_run tab_holds eqs_holds mixed [(7, (.seg 1 [0, 1, 2, 3, 4, 5, 6, 7, 8, 9, 10, 11, 12, 13, 14, 15, 16, 18, 19, 22, 23] (.seg 2 [17] (.seg 2 [20] (.seg 1 [21, 24, 25, 26] .fin)))), []), (9, (.seg 1 [0, 1, 3] (.seg 2 [2] (.seg 2 [4] (.seg 2 [5] (.seg 1 [6, 7, 8, 9, 12] (.seg 2 [10] (.seg 2 [11] (.seg 2 [13] (.seg 1 [14, 15] .fin))))))))), [])] Try.func17 (by kernel_rfl) (by kernel_rfl) (Nat.le_of_ble_eq_true rfl) ?_
  intro O X hO hX
  rw [hO0, ← hO] at h
  unfold m_recurrence_Matches at h
  have h0 := h; clear h
  cbv
  obtain ⟨n6, hv, h0⟩ := bindS h0
  refine call_is hO hX (fn_recurrence_given hO hv) (by kernel_rfl) [0, 1, 2, 3, 4, 5, 6, 7, 8] rfl ⟨rfl, rfl, rfl, rfl, rfl, rfl, rfl, rfl, rfl, rfl, rfl, rfl, rfl, rfl, rfl, rfl, rfl, rfl, trivial⟩ rfl ?_
  cbv
  rcases condS h0 with ⟨hc1, h0⟩ | ⟨hc1, h0⟩
  · rw [hc1]
    cbv
    cases h0
    exact fin_ok hX rfl ⟨[], _, _, ⟨rfl, rfl⟩, rfl, rfl, rfl, rfl, by cbv; try simp⟩
  · rw [hc1]
    cbv
    obtain ⟨b14, hv, h0⟩ := bindS h0
    refine call_is hO hX (fn_recurrence_local hO hv) (by kernel_rfl) [] rfl trivial rfl ?_
    cbv
    rcases condS h0 with ⟨hc2, h0⟩ | ⟨hc2, h0⟩
    · rw [hc2]
      cbv
      cases h0
      exact fin_ok hX rfl ⟨[], _, _, ⟨rfl, rfl⟩, rfl, rfl, rfl, rfl, by cbv; try simp⟩
    · rw [hc2]
      cbv
      obtain ⟨n10, hv, h0⟩ := bindS h0
      refine call_is hO hX (fn_integer_Floor hO hv) (by kernel_rfl) [] rfl trivial rfl ?_
      cbv
      obtain ⟨x94, h1, h0⟩ := bindS h0
      rcases condS h1 with ⟨hc3, h1⟩ | ⟨hc3, h1⟩
      · rw [hc3]
        cbv
        cases h1
        try dsimp only at h0
        replace h0 := condT h0 rfl
        cases h0
        exact fin_ok hX rfl ⟨[], _, _, ⟨rfl, rfl⟩, rfl, rfl, rfl, rfl, by cbv; try simp⟩
      · rw [hc3]
        cbv
        rcases condS h1 with ⟨hc4, h1⟩ | ⟨hc4, h1⟩
        · rw [hc4]
          cbv
          rcases condS h1 with ⟨hc5, h1⟩ | ⟨hc5, h1⟩
          · rw [hc5]
            cbv
            cases h1
            try dsimp only at h0
            replace h0 := condT h0 rfl
            cases h0
            exact fin_ok hX rfl ⟨[], _, _, ⟨rfl, rfl⟩, rfl, rfl, rfl, rfl, by cbv; try simp⟩
          · rw [hc5]
            cbv
            obtain ⟨n36, hv, h1⟩ := bindS h1
            refine call_is hO hX (fn_recurrence_number hO hv) (by kernel_rfl) [0, 1, 2, 3, 4, 5, 6, 7, 8] rfl ⟨rfl, rfl, rfl, rfl, rfl, rfl, rfl, rfl, rfl, rfl, rfl, rfl, rfl, rfl, rfl, rfl, rfl, rfl, trivial⟩ rfl ?_
            cbv
            obtain ⟨n37, hv, h1⟩ := bindS h1
            refine call_is hO hX (fn_recurrence_number hO hv) (by kernel_rfl) [0, 1, 2, 3, 4, 5, 6, 7, 8] rfl ⟨rfl, rfl, rfl, rfl, rfl, rfl, rfl, rfl, rfl, rfl, rfl, rfl, rfl, rfl, rfl, rfl, rfl, rfl, trivial⟩ rfl ?_
            cbv
            obtain ⟨hg6, h1⟩ := grdS h1
            refine ⟨inr_of hO hg6, ?_⟩
            obtain ⟨hg7, h1⟩ := grdS h1
            refine ⟨nz_of hO hg7, ?_⟩
            cases h1
            try dsimp only at h0
            rcases condS h0 with ⟨hc8, h0⟩ | ⟨hc8, h0⟩
            · rw [hc8]
              cbv
              cases h0
              exact fin_ok hX rfl ⟨[], _, _, ⟨rfl, rfl⟩, rfl, rfl, rfl, rfl, by cbv; try simp⟩
            · rw [hc8]
              cbv
              obtain ⟨x124, h1, h0⟩ := bindS h0
              obtain ⟨l27, hv, h1⟩ := bindS h1
              refine call_is hO hX (fn_recurrence_times hO hv) (by kernel_rfl) [0, 1, 2, 3, 4, 5, 6, 7, 8] rfl ⟨rfl, rfl, rfl, rfl, rfl, rfl, rfl, rfl, rfl, rfl, rfl, rfl, rfl, rfl, rfl, rfl, rfl, rfl, trivial⟩ rfl ?_
              cbv
              obtain ⟨n40, hv, h1⟩ := bindS h1
              refine call_is hO hX (fn_integer_Mod hO hv) (by kernel_rfl) [] rfl trivial rfl ?_
              cbv
              obtain ⟨b16, hv, h1⟩ := bindS h1
              refine call_is hO hX (fn_slices_Contains hO hv) (by kernel_rfl) [10] rfl ⟨rfl, rfl, trivial⟩ rfl ?_
              cbv
              rcases condS h1 with ⟨hc9, h1⟩ | ⟨hc9, h1⟩
              · rw [hc9]
                cbv
                cases h1
                try dsimp only at h0
                replace h0 := condT h0 rfl
                cases h0
                exact fin_ok hX rfl ⟨[], _, _, ⟨rfl, rfl⟩, rfl, rfl, rfl, rfl, by cbv; try simp⟩
              · rw [hc9]
                cbv
                obtain ⟨n42, hv, h1⟩ := bindS h1
                refine call_is hO hX (fn_integer_Floor hO hv) (by kernel_rfl) [] rfl trivial rfl ?_
                cbv
                obtain ⟨⟨n50, n51, n52, n53, n54, n55, n56, n57⟩, hv, h1⟩ := bindS h1
                try dsimp only at h1
                refine call_is hO hX (fn_recurrence_dateOf hO hv) (by kernel_rfl) [] rfl trivial rfl ?_
                cbv
                obtain ⟨b33, hv, h1⟩ := bindS h1
                refine call_is hO hX (fn_recurrence_passes hO hv) (by kernel_rfl) [0, 1, 2, 3, 4, 5, 6, 7, 8] rfl ⟨rfl, rfl, rfl, rfl, rfl, rfl, rfl, rfl, rfl, rfl, rfl, rfl, rfl, rfl, rfl, rfl, rfl, rfl, trivial⟩ rfl ?_
                cbv
                cases h1
                try dsimp only at h0
                rcases condS h0 with ⟨hc10, h0⟩ | ⟨hc10, h0⟩
                · rw [hc10]
                  cbv
                  cases h0
                  exact fin_ok hX rfl ⟨[], _, _, ⟨rfl, rfl⟩, rfl, rfl, rfl, rfl, by cbv; try simp⟩
                · rw [hc10]
                  cbv
                  rcases condS h0 with ⟨hc11, h0⟩ | ⟨hc11, h0⟩
                  · rw [hc11]
                    cbv
                    cases h0
                    exact fin_ok hX rfl ⟨[], _, _, ⟨rfl, rfl⟩, rfl, rfl, rfl, rfl, by cbv; try simp⟩
                  · rw [hc11]
                    cbv
                    obtain ⟨⟨n76, n77⟩, hv, h0⟩ := bindS h0
                    try dsimp only at h0
                    refine call_is hO hX (fn_recurrence_place hO hv) (by kernel_rfl) [0, 1, 2, 3, 4, 5, 6, 7, 8] rfl ⟨rfl, rfl, rfl, rfl, rfl, rfl, rfl, rfl, rfl, rfl, rfl, rfl, rfl, rfl, rfl, rfl, rfl, rfl, trivial⟩ rfl ?_
                    cbv
                    obtain ⟨b34, hv, h0⟩ := bindS h0
                    refine call_is hO hX (fn_recurrence_counted hO hv) (by kernel_rfl) [8] rfl ⟨rfl, rfl, trivial⟩ rfl ?_
                    cbv
                    cases h0
                    exact fin_ok hX rfl ⟨[], _, _, ⟨rfl, rfl⟩, rfl, rfl, rfl, rfl, by cbv; try simp⟩
        · rw [hc4]
          cbv
          obtain ⟨n38, hv, h1⟩ := bindS h1
          refine call_is hO hX (fn_recurrence_number hO hv) (by kernel_rfl) [0, 1, 2, 3, 4, 5, 6, 7, 8] rfl ⟨rfl, rfl, rfl, rfl, rfl, rfl, rfl, rfl, rfl, rfl, rfl, rfl, rfl, rfl, rfl, rfl, rfl, rfl, trivial⟩ rfl ?_
          cbv
          obtain ⟨n39, hv, h1⟩ := bindS h1
          refine call_is hO hX (fn_recurrence_number hO hv) (by kernel_rfl) [0, 1, 2, 3, 4, 5, 6, 7, 8] rfl ⟨rfl, rfl, rfl, rfl, rfl, rfl, rfl, rfl, rfl, rfl, rfl, rfl, rfl, rfl, rfl, rfl, rfl, rfl, trivial⟩ rfl ?_
          cbv
          obtain ⟨hg12, h1⟩ := grdS h1
          refine ⟨inr_of hO hg12, ?_⟩
          obtain ⟨hg13, h1⟩ := grdS h1
          refine ⟨nz_of hO hg13, ?_⟩
          cases h1
          try dsimp only at h0
          rcases condS h0 with ⟨hc14, h0⟩ | ⟨hc14, h0⟩
          · rw [hc14]
            cbv
            cases h0
            exact fin_ok hX rfl ⟨[], _, _, ⟨rfl, rfl⟩, rfl, rfl, rfl, rfl, by cbv; try simp⟩
          · rw [hc14]
            cbv
            obtain ⟨x124, h1, h0⟩ := bindS h0
            obtain ⟨l27, hv, h1⟩ := bindS h1
            refine call_is hO hX (fn_recurrence_times hO hv) (by kernel_rfl) [0, 1, 2, 3, 4, 5, 6, 7, 8] rfl ⟨rfl, rfl, rfl, rfl, rfl, rfl, rfl, rfl, rfl, rfl, rfl, rfl, rfl, rfl, rfl, rfl, rfl, rfl, trivial⟩ rfl ?_
            cbv
            obtain ⟨n40, hv, h1⟩ := bindS h1
            refine call_is hO hX (fn_integer_Mod hO hv) (by kernel_rfl) [] rfl trivial rfl ?_
            cbv
            obtain ⟨b16, hv, h1⟩ := bindS h1
            refine call_is hO hX (fn_slices_Contains hO hv) (by kernel_rfl) [10] rfl ⟨rfl, rfl, trivial⟩ rfl ?_
            cbv
            rcases condS h1 with ⟨hc15, h1⟩ | ⟨hc15, h1⟩
            · rw [hc15]
              cbv
              cases h1
              try dsimp only at h0
              replace h0 := condT h0 rfl
              cases h0
              exact fin_ok hX rfl ⟨[], _, _, ⟨rfl, rfl⟩, rfl, rfl, rfl, rfl, by cbv; try simp⟩
            · rw [hc15]
              cbv
              obtain ⟨n42, hv, h1⟩ := bindS h1
              refine call_is hO hX (fn_integer_Floor hO hv) (by kernel_rfl) [] rfl trivial rfl ?_
              cbv
              obtain ⟨⟨n50, n51, n52, n53, n54, n55, n56, n57⟩, hv, h1⟩ := bindS h1
              try dsimp only at h1
              refine call_is hO hX (fn_recurrence_dateOf hO hv) (by kernel_rfl) [] rfl trivial rfl ?_
              cbv
              obtain ⟨b33, hv, h1⟩ := bindS h1
              refine call_is hO hX (fn_recurrence_passes hO hv) (by kernel_rfl) [0, 1, 2, 3, 4, 5, 6, 7, 8] rfl ⟨rfl, rfl, rfl, rfl, rfl, rfl, rfl, rfl, rfl, rfl, rfl, rfl, rfl, rfl, rfl, rfl, rfl, rfl, trivial⟩ rfl ?_
              cbv
              cases h1
              try dsimp only at h0
              rcases condS h0 with ⟨hc16, h0⟩ | ⟨hc16, h0⟩
              · rw [hc16]
                cbv
                cases h0
                exact fin_ok hX rfl ⟨[], _, _, ⟨rfl, rfl⟩, rfl, rfl, rfl, rfl, by cbv; try simp⟩
              · rw [hc16]
                cbv
                rcases condS h0 with ⟨hc17, h0⟩ | ⟨hc17, h0⟩
                · rw [hc17]
                  cbv
                  cases h0
                  exact fin_ok hX rfl ⟨[], _, _, ⟨rfl, rfl⟩, rfl, rfl, rfl, rfl, by cbv; try simp⟩
                · rw [hc17]
                  cbv
                  obtain ⟨⟨n76, n77⟩, hv, h0⟩ := bindS h0
                  try dsimp only at h0
                  refine call_is hO hX (fn_recurrence_place hO hv) (by kernel_rfl) [0, 1, 2, 3, 4, 5, 6, 7, 8] rfl ⟨rfl, rfl, rfl, rfl, rfl, rfl, rfl, rfl, rfl, rfl, rfl, rfl, rfl, rfl, rfl, rfl, rfl, rfl, trivial⟩ rfl ?_
                  cbv
                  obtain ⟨b34, hv, h0⟩ := bindS h0
                  refine call_is hO hX (fn_recurrence_counted hO hv) (by kernel_rfl) [8] rfl ⟨rfl, rfl, trivial⟩ rfl ?_
                  cbv
                  cases h0
                  exact fin_ok hX rfl ⟨[], _, _, ⟨rfl, rfl⟩, rfl, rfl, rfl, rfl, by cbv; try simp⟩
end Go.Proofs.Ytmnhfaaaaejpaaa
