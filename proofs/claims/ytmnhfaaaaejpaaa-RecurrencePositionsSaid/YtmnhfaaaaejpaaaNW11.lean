/-
  The code does what its models say (printed by lift.py).
-/
import Derived.Test.YtmnhfaaaaejpaaaNM
import Derived.Test.YtmnhfaaaaejpaaaNNoW
import Derived.Test.YtmnhfaaaaejpaaaNW0
import Derived.Test.YtmnhfaaaaejpaaaNW3
namespace Go.Proofs.Ytmnhfaaaaejpaaa
open Go.RowKit
set_option maxRecDepth 100000

set_option maxHeartbeats 40000000 in
theorem fn_law29_long {O0 : Ops} (hO0 : O0 = std) {r_1 : Int} {r_2 : Int} {r_3 : Int} {r_4 : Int} {r_5 : Int} {r_6 : List Int} {r_7 : List Int} {r_8 : List Int} {r_9 : List Int} {r_10 : List (Int × Int)} {r_11 : List Int} {r_12 : List Int} {r_13 : List Int} {r_14 : List Int} {r1 : Bool} (h : m_law29_long O0 r_1 r_2 r_3 r_4 r_5 r_6 r_7 r_8 r_9 r_10 r_11 r_12 r_13 r_14 = some r1) :
    Fn Try.prog 14 [.agg [.int .i64 r_1, .int .i64 r_2, .int .i64 r_3, .int .i64 r_4, .sl 0, .sl 1, .sl 2, .sl 3, .sl 4, .sl 5, .sl 6, .sl 7, .sl 8, .int .i64 r_5]] [.arr false .i1 r_6, .arr false .i1 r_7, .arr false .i1 r_8, .arr false .i1 r_9, .arr false .i2 r_10, .arr false .i1 r_11, .arr false .i1 r_12, .arr false .i1 r_13, .arr false .i1 r_14] (fun v c => v = .c (.bool r1) ∧ c = []) := by
  refine fn_run tab_holds eqs_holds mixed [] Try.func14 (by kernel_rfl) (by kernel_rfl) (Nat.le_of_ble_eq_true rfl) ?_
  intro O X hO hX
  rw [hO0, ← hO] at h
  unfold m_law29_long at h
  have h0 := h; clear h
  cbv
  obtain ⟨x171, h1, h0⟩ := bindS h0
  rcases condS h1 with ⟨hc1, h1⟩ | ⟨hc1, h1⟩
  · rw [hc1]
    cbv
    cases h1
    try dsimp only at h0
    cases h0
    exact fin_ok hX rfl ⟨[], _, _, ⟨rfl, rfl⟩, rfl, rfl, rfl, rfl, by cbv; try simp⟩
  · rw [hc1]
    cbv
    rcases condS h1 with ⟨hc2, h1⟩ | ⟨hc2, h1⟩
    · rw [hc2]
      cbv
      cases h1
      try dsimp only at h0
      cases h0
      exact fin_ok hX rfl ⟨[], _, _, ⟨rfl, rfl⟩, rfl, rfl, rfl, rfl, by cbv; try simp⟩
    · rw [hc2]
      cbv
      rcases condS h1 with ⟨hc3, h1⟩ | ⟨hc3, h1⟩
      · rw [hc3]
        cbv
        cases h1
        try dsimp only at h0
        cases h0
        exact fin_ok hX rfl ⟨[], _, _, ⟨rfl, rfl⟩, rfl, rfl, rfl, rfl, by cbv; try simp⟩
      · rw [hc3]
        cbv
        rcases condS h1 with ⟨hc4, h1⟩ | ⟨hc4, h1⟩
        · rw [hc4]
          cbv
          cases h1
          try dsimp only at h0
          cases h0
          exact fin_ok hX rfl ⟨[], _, _, ⟨rfl, rfl⟩, rfl, rfl, rfl, rfl, by cbv; try simp⟩
        · rw [hc4]
          cbv
          rcases condS h1 with ⟨hc5, h1⟩ | ⟨hc5, h1⟩
          · rw [hc5]
            cbv
            cases h1
            try dsimp only at h0
            cases h0
            exact fin_ok hX rfl ⟨[], _, _, ⟨rfl, rfl⟩, rfl, rfl, rfl, rfl, by cbv; try simp⟩
          · rw [hc5]
            cbv
            rcases condS h1 with ⟨hc6, h1⟩ | ⟨hc6, h1⟩
            · rw [hc6]
              cbv
              cases h1
              try dsimp only at h0
              cases h0
              exact fin_ok hX rfl ⟨[], _, _, ⟨rfl, rfl⟩, rfl, rfl, rfl, rfl, by cbv; try simp⟩
            · rw [hc6]
              cbv
              rcases condS h1 with ⟨hc7, h1⟩ | ⟨hc7, h1⟩
              · rw [hc7]
                cbv
                cases h1
                try dsimp only at h0
                cases h0
                exact fin_ok hX rfl ⟨[], _, _, ⟨rfl, rfl⟩, rfl, rfl, rfl, rfl, by cbv; try simp⟩
              · rw [hc7]
                cbv
                rcases condS h1 with ⟨hc8, h1⟩ | ⟨hc8, h1⟩
                · rw [hc8]
                  cbv
                  cases h1
                  try dsimp only at h0
                  cases h0
                  exact fin_ok hX rfl ⟨[], _, _, ⟨rfl, rfl⟩, rfl, rfl, rfl, rfl, by cbv; try simp⟩
                · rw [hc8]
                  cbv
                  cases h1
                  try dsimp only at h0
                  cases h0
                  exact fin_ok hX rfl ⟨[], _, _, ⟨rfl, rfl⟩, rfl, rfl, rfl, rfl, by cbv; try simp⟩
set_option maxHeartbeats 40000000 in
theorem fn_recurrence_Period {O0 : Ops} (hO0 : O0 = std) {r_1 : Int} {r_2 : Int} {r_3 : Int} {r_4 : Int} {r_5 : Int} {start_1 : Int} {l_1 : Int} {r_6 : List Int} {r_7 : List Int} {r_8 : List Int} {r_9 : List Int} {r_10 : List (Int × Int)} {r_11 : List Int} {r_12 : List Int} {r_13 : List Int} {r_14 : List Int} {r1 : Int} {r2 : Int} (h : m_recurrence_Period O0 r_1 r_2 r_3 r_4 r_5 start_1 l_1 r_6 r_7 r_8 r_9 r_10 r_11 r_12 r_13 r_14 = some (r1, r2)) :
    Fn Try.prog 24 [.agg [.int .i64 r_1, .int .i64 r_2, .int .i64 r_3, .int .i64 r_4, .sl 0, .sl 1, .sl 2, .sl 3, .sl 4, .sl 5, .sl 6, .sl 7, .sl 8, .int .i64 r_5], .c (.int .i64 start_1), .c (.int .i64 l_1)] [.arr false .i1 r_6, .arr false .i1 r_7, .arr false .i1 r_8, .arr false .i1 r_9, .arr false .i2 r_10, .arr false .i1 r_11, .arr false .i1 r_12, .arr false .i1 r_13, .arr false .i1 r_14] (fun v c => v = .tup [.one (.int .i64 r1), .one (.int .i64 r2)] ∧ c = []) := by
  refine fn_run tab_holds eqs_holds mixed [(6, (.seg 1 [0, 1, 3, 4] (.seg 2 [2] (.seg 2 [5] (.seg 1 [6, 7, 8] .fin)))), [])] Try.func24 (by kernel_rfl) (by kernel_rfl) (Nat.le_of_ble_eq_true rfl) ?_
  intro O X hO hX
  rw [hO0, ← hO] at h
  unfold m_recurrence_Period at h
  have h0 := h; clear h
  cbv
  obtain ⟨n95, hv, h0⟩ := bindS h0
  refine call_is hO hX (fn_recurrence_given hO hv) (by kernel_rfl) [0, 1, 2, 3, 4, 5, 6, 7, 8] rfl ⟨rfl, rfl, rfl, rfl, rfl, rfl, rfl, rfl, rfl, rfl, rfl, rfl, rfl, rfl, rfl, rfl, rfl, rfl, trivial⟩ rfl ?_
  cbv
  rcases condS h0 with ⟨hc1, h0⟩ | ⟨hc1, h0⟩
  · rw [hc1]
    cbv
    cases h0
    exact fin_ok hX rfl ⟨[], _, _, ⟨rfl, rfl⟩, rfl, rfl, rfl, rfl, by cbv; try simp⟩
  · rw [hc1]
    cbv
    obtain ⟨b50, hv, h0⟩ := bindS h0
    refine call_is hO hX (fn_recurrence_local hO hv) (by kernel_rfl) [] rfl trivial rfl ?_
    cbv
    rcases condS h0 with ⟨hc2, h0⟩ | ⟨hc2, h0⟩
    · rw [hc2]
      cbv
      cases h0
      exact fin_ok hX rfl ⟨[], _, _, ⟨rfl, rfl⟩, rfl, rfl, rfl, rfl, by cbv; try simp⟩
    · rw [hc2]
      cbv
      obtain ⟨n96, hv, h0⟩ := bindS h0
      refine call_is hO hX (fn_recurrence_number hO hv) (by kernel_rfl) [0, 1, 2, 3, 4, 5, 6, 7, 8] rfl ⟨rfl, rfl, rfl, rfl, rfl, rfl, rfl, rfl, rfl, rfl, rfl, rfl, rfl, rfl, rfl, rfl, rfl, rfl, trivial⟩ rfl ?_
      cbv
      obtain ⟨n97, hv, h0⟩ := bindS h0
      refine call_is hO hX (fn_recurrence_number hO hv) (by kernel_rfl) [0, 1, 2, 3, 4, 5, 6, 7, 8] rfl ⟨rfl, rfl, rfl, rfl, rfl, rfl, rfl, rfl, rfl, rfl, rfl, rfl, rfl, rfl, rfl, rfl, rfl, rfl, trivial⟩ rfl ?_
      cbv
      obtain ⟨hg3, h0⟩ := grdS h0
      refine ⟨inr_of hO hg3, ?_⟩
      cases h0
      exact fin_ok hX rfl ⟨[], _, _, ⟨rfl, rfl⟩, rfl, rfl, rfl, rfl, by cbv; try simp⟩
set_option maxHeartbeats 40000000 in
theorem fn_ref29_within {O0 : Ops} (hO0 : O0 = std) {low_1 : Int} {high_1 : Int} {signed_1 : Bool} {l_1 : List Int} {r1 : Bool} (h : m_ref29_within O0 low_1 high_1 signed_1 l_1 = some r1) :
    Fn Try.prog 49 [.c (.sl 0), .c (.int .i64 low_1), .c (.int .i64 high_1), .c (.bool signed_1)] [.arr false .i1 l_1] (fun v c => v = .c (.bool r1) ∧ c = []) := by
  refine fn_run tab_holds eqs_holds mixed [] Try.func49 (by kernel_rfl) (by kernel_rfl) (Nat.le_of_ble_eq_true rfl) ?_
  intro O X hO hX
  rw [hO0, ← hO] at h
  unfold m_ref29_within at h
  have h0 := h; clear h
  cbv
  rcases condS h0 with ⟨hc1, h0⟩ | ⟨hc1, h0⟩
  · rw [hc1]
    cbv
    cases h0
    exact fin_ok hX rfl ⟨[], _, _, ⟨rfl, rfl⟩, rfl, rfl, rfl, rfl, by cbv; try simp⟩
  · rw [hc1]
    cbv
    obtain ⟨e1, hi, h0⟩ := bindS h0
    obtain ⟨I1, hI1, hi⟩ := loopS hi
    refine loop1 tab_holds eqs_holds mixed [] hO hX I1 (fun y => [(9, .c (.int .i64 y.2))]) (fun _ => []) (fun y => y.1) _ (by kernel_rfl) hi (by cbv; try simp) ?_
    refine allp ?_
    intro n1
    intro i1 hi
    cbv
    rw [hI1] at hi
    obtain ⟨n1, rfl, x1, h1, hi1⟩ := iterS hi
    unfold m_ref29_within_L1 at h1
    try dsimp only at h1
    rcases condS h1 with ⟨hc2, h1⟩ | ⟨hc2, h1⟩
    · rw [hc2]
      cbv
      obtain ⟨hg3, h1⟩ := grdS h1
      refine ⟨idx_of hO hg3, ?_⟩
      obtain ⟨hg4, h1⟩ := grdS h1
      refine ⟨kin_of hO hg4, ?_⟩
      obtain ⟨⟨signed2, x180⟩, h2, h1⟩ := bindS h1
      rcases condS h2 with ⟨hc5, h2⟩ | ⟨hc5, h2⟩
      · rw [hc5]
        cbv
        rcases condS h2 with ⟨hc6, h2⟩ | ⟨hc6, h2⟩
        · rw [hc6]
          cbv
          obtain ⟨hg7, h2⟩ := grdS h2
          refine ⟨inr_of hO hg7, ?_⟩
          cases h2
          try dsimp only at h1
          obtain ⟨n103, h2, h1⟩ := bindS h1
          rcases condS h2 with ⟨hc8, h2⟩ | ⟨hc8, h2⟩
          · rw [hc8]
            cbv
            obtain ⟨hg9, h2⟩ := grdS h2
            refine ⟨inr_of hO hg9, ?_⟩
            cases h2
            try dsimp only at h1
            obtain ⟨x182, h2, h1⟩ := bindS h1
            rcases condS h2 with ⟨hc10, h2⟩ | ⟨hc10, h2⟩
            · rw [hc10]
              cbv
              cases h2
              try dsimp only at h1
              replace h1 := condT h1 rfl
              cases h1
              cases exitI hi1
              try dsimp only at h0
              cases h0
              exact fin_ok hX rfl ⟨[], _, _, ⟨rfl, rfl⟩, rfl, rfl, rfl, rfl, by cbv; try simp⟩
            · rw [hc10]
              cbv
              cases h2
              try dsimp only at h1
              rcases condS h1 with ⟨hc11, h1⟩ | ⟨hc11, h1⟩
              · rw [hc11]
                cbv
                cases h1
                cases exitI hi1
                try dsimp only at h0
                cases h0
                exact fin_ok hX rfl ⟨[], _, _, ⟨rfl, rfl⟩, rfl, rfl, rfl, rfl, by cbv; try simp⟩
              · rw [hc11]
                cbv
                obtain ⟨hg12, h1⟩ := grdS h1
                refine ⟨inr_of hO hg12, ?_⟩
                cases h1
                exact ⟨_, [0], nextI hI1 hi1, by cbv; try simp, by first | exact Nat.lt_succ_self _ | omega⟩
          · rw [hc8]
            cbv
            cases h2
            try dsimp only at h1
            obtain ⟨x182, h2, h1⟩ := bindS h1
            rcases condS h2 with ⟨hc13, h2⟩ | ⟨hc13, h2⟩
            · rw [hc13]
              cbv
              cases h2
              try dsimp only at h1
              replace h1 := condT h1 rfl
              cases h1
              cases exitI hi1
              try dsimp only at h0
              cases h0
              exact fin_ok hX rfl ⟨[], _, _, ⟨rfl, rfl⟩, rfl, rfl, rfl, rfl, by cbv; try simp⟩
            · rw [hc13]
              cbv
              cases h2
              try dsimp only at h1
              rcases condS h1 with ⟨hc14, h1⟩ | ⟨hc14, h1⟩
              · rw [hc14]
                cbv
                cases h1
                cases exitI hi1
                try dsimp only at h0
                cases h0
                exact fin_ok hX rfl ⟨[], _, _, ⟨rfl, rfl⟩, rfl, rfl, rfl, rfl, by cbv; try simp⟩
              · rw [hc14]
                cbv
                obtain ⟨hg15, h1⟩ := grdS h1
                refine ⟨inr_of hO hg15, ?_⟩
                cases h1
                exact ⟨_, [0], nextI hI1 hi1, by cbv; try simp, by first | exact Nat.lt_succ_self _ | omega⟩
        · rw [hc6]
          cbv
          cases h2
          try dsimp only at h1
          obtain ⟨n103, h2, h1⟩ := bindS h1
          replace h2 := condF h2 rfl
          cases h2
          try dsimp only at h1
          obtain ⟨x182, h2, h1⟩ := bindS h1
          rcases condS h2 with ⟨hc16, h2⟩ | ⟨hc16, h2⟩
          · rw [hc16]
            cbv
            cases h2
            try dsimp only at h1
            replace h1 := condT h1 rfl
            cases h1
            cases exitI hi1
            try dsimp only at h0
            cases h0
            exact fin_ok hX rfl ⟨[], _, _, ⟨rfl, rfl⟩, rfl, rfl, rfl, rfl, by cbv; try simp⟩
          · rw [hc16]
            cbv
            cases h2
            try dsimp only at h1
            rcases condS h1 with ⟨hc17, h1⟩ | ⟨hc17, h1⟩
            · rw [hc17]
              cbv
              cases h1
              cases exitI hi1
              try dsimp only at h0
              cases h0
              exact fin_ok hX rfl ⟨[], _, _, ⟨rfl, rfl⟩, rfl, rfl, rfl, rfl, by cbv; try simp⟩
            · rw [hc17]
              cbv
              obtain ⟨hg18, h1⟩ := grdS h1
              refine ⟨inr_of hO hg18, ?_⟩
              cases h1
              exact ⟨_, [0], nextI hI1 hi1, by cbv; try simp, by first | exact Nat.lt_succ_self _ | omega⟩
      · rw [hc5]
        cbv
        cases h2
        try dsimp only at h1
        obtain ⟨n103, h2, h1⟩ := bindS h1
        replace h2 := condF h2 rfl
        cases h2
        try dsimp only at h1
        obtain ⟨x182, h2, h1⟩ := bindS h1
        rcases condS h2 with ⟨hc19, h2⟩ | ⟨hc19, h2⟩
        · rw [hc19]
          cbv
          cases h2
          try dsimp only at h1
          replace h1 := condT h1 rfl
          cases h1
          cases exitI hi1
          try dsimp only at h0
          cases h0
          exact fin_ok hX rfl ⟨[], _, _, ⟨rfl, rfl⟩, rfl, rfl, rfl, rfl, by cbv; try simp⟩
        · rw [hc19]
          cbv
          cases h2
          try dsimp only at h1
          rcases condS h1 with ⟨hc20, h1⟩ | ⟨hc20, h1⟩
          · rw [hc20]
            cbv
            cases h1
            cases exitI hi1
            try dsimp only at h0
            cases h0
            exact fin_ok hX rfl ⟨[], _, _, ⟨rfl, rfl⟩, rfl, rfl, rfl, rfl, by cbv; try simp⟩
          · rw [hc20]
            cbv
            obtain ⟨hg21, h1⟩ := grdS h1
            refine ⟨inr_of hO hg21, ?_⟩
            cases h1
            exact ⟨_, [0], nextI hI1 hi1, by cbv; try simp, by first | exact Nat.lt_succ_self _ | omega⟩
    · rw [hc2]
      cbv
      cases h1
      cases exitI hi1
      try dsimp only at h0
      cases h0
      exact fin_ok hX rfl ⟨[], _, _, ⟨rfl, rfl⟩, rfl, rfl, rfl, rfl, by cbv; try simp⟩
set_option maxHeartbeats 40000000 in
theorem fn_ref29_days {O0 : Ops} (hO0 : O0 = std) {r_1 : Int} {r_2 : Int} {r_3 : Int} {r_4 : Int} {r_5 : Int} {r_6 : List Int} {r_7 : List Int} {r_8 : List Int} {r_9 : List Int} {r_10 : List (Int × Int)} {r_11 : List Int} {r_12 : List Int} {r_13 : List Int} {r_14 : List Int} {r1 : Bool} (h : m_ref29_days O0 r_1 r_2 r_3 r_4 r_5 r_6 r_7 r_8 r_9 r_10 r_11 r_12 r_13 r_14 = some r1) :
    Fn Try.prog 50 [.agg [.int .i64 r_1, .int .i64 r_2, .int .i64 r_3, .int .i64 r_4, .sl 0, .sl 1, .sl 2, .sl 3, .sl 4, .sl 5, .sl 6, .sl 7, .sl 8, .int .i64 r_5]] [.arr false .i1 r_6, .arr false .i1 r_7, .arr false .i1 r_8, .arr false .i1 r_9, .arr false .i2 r_10, .arr false .i1 r_11, .arr false .i1 r_12, .arr false .i1 r_13, .arr false .i1 r_14] (fun v c => v = .c (.bool r1) ∧ c = []) := by
  refine fn_run tab_holds eqs_holds mixed [] Try.func50 (by kernel_rfl) (by kernel_rfl) (Nat.le_of_ble_eq_true rfl) ?_
  intro O X hO hX
  rw [hO0, ← hO] at h
  unfold m_ref29_days at h
  have h0 := h; clear h
  cbv
  rcases condS h0 with ⟨hc1, h0⟩ | ⟨hc1, h0⟩
  · rw [hc1]
    cbv
    cases h0
    exact fin_ok hX rfl ⟨[], _, _, ⟨rfl, rfl⟩, rfl, rfl, rfl, rfl, by cbv; try simp⟩
  · rw [hc1]
    cbv
    obtain ⟨e1, hi, h0⟩ := bindS h0
    obtain ⟨I1, hI1, hi⟩ := loopS hi
    refine loop1 tab_holds eqs_holds mixed [] hO hX I1 (fun y => [(5, .junk), (3, .c (.int .i64 y.2))]) (fun _ => []) (fun y => y.1) _ (by kernel_rfl) hi (by cbv; try simp) ?_
    refine allp ?_
    intro n1
    intro i2 hi
    cbv
    rw [hI1] at hi
    obtain ⟨n1, rfl, x1, h1, hi1⟩ := iterS hi
    unfold m_ref29_days_L1 at h1
    try dsimp only at h1
    rcases condS h1 with ⟨hc2, h1⟩ | ⟨hc2, h1⟩
    · rw [hc2]
      cbv
      obtain ⟨hg3, h1⟩ := grdS h1
      refine ⟨idx_of hO hg3, ?_⟩
      obtain ⟨hg4, h1⟩ := grdS h1
      refine ⟨kin_of hO hg4, ?_⟩
      obtain ⟨x186, h2, h1⟩ := bindS h1
      rcases condS h2 with ⟨hc5, h2⟩ | ⟨hc5, h2⟩
      · rw [hc5]
        cbv
        cases h2
        try dsimp only at h1
        replace h1 := condT h1 rfl
        cases h1
        cases exitI hi1
        try dsimp only at h0
        cases h0
        exact fin_ok hX rfl ⟨[], _, _, ⟨rfl, rfl⟩, rfl, rfl, rfl, rfl, by cbv; try simp⟩
      · rw [hc5]
        cbv
        rcases condS h2 with ⟨hc6, h2⟩ | ⟨hc6, h2⟩
        · rw [hc6]
          cbv
          cases h2
          try dsimp only at h1
          replace h1 := condT h1 rfl
          cases h1
          cases exitI hi1
          try dsimp only at h0
          cases h0
          exact fin_ok hX rfl ⟨[], _, _, ⟨rfl, rfl⟩, rfl, rfl, rfl, rfl, by cbv; try simp⟩
        · rw [hc6]
          cbv
          rcases condS h2 with ⟨hc7, h2⟩ | ⟨hc7, h2⟩
          · rw [hc7]
            cbv
            cases h2
            try dsimp only at h1
            replace h1 := condT h1 rfl
            cases h1
            cases exitI hi1
            try dsimp only at h0
            cases h0
            exact fin_ok hX rfl ⟨[], _, _, ⟨rfl, rfl⟩, rfl, rfl, rfl, rfl, by cbv; try simp⟩
          · rw [hc7]
            cbv
            rcases condS h2 with ⟨hc8, h2⟩ | ⟨hc8, h2⟩
            · rw [hc8]
              cbv
              cases h2
              try dsimp only at h1
              replace h1 := condT h1 rfl
              cases h1
              cases exitI hi1
              try dsimp only at h0
              cases h0
              exact fin_ok hX rfl ⟨[], _, _, ⟨rfl, rfl⟩, rfl, rfl, rfl, rfl, by cbv; try simp⟩
            · rw [hc8]
              cbv
              rcases condS h2 with ⟨hc9, h2⟩ | ⟨hc9, h2⟩
              · rw [hc9]
                cbv
                rcases condS h2 with ⟨hc10, h2⟩ | ⟨hc10, h2⟩
                · rw [hc10]
                  cbv
                  cases h2
                  try dsimp only at h1
                  rcases condS h1 with ⟨hc11, h1⟩ | ⟨hc11, h1⟩
                  · rw [hc11]
                    cbv
                    cases h1
                    cases exitI hi1
                    try dsimp only at h0
                    cases h0
                    exact fin_ok hX rfl ⟨[], _, _, ⟨rfl, rfl⟩, rfl, rfl, rfl, rfl, by cbv; try simp⟩
                  · rw [hc11]
                    cbv
                    obtain ⟨hg12, h1⟩ := grdS h1
                    refine ⟨inr_of hO hg12, ?_⟩
                    cases h1
                    exact ⟨_, [0, 1, 2, 3, 4, 5, 6, 7, 8, 9], nextI hI1 hi1, by cbv; try simp, by first | exact Nat.lt_succ_self _ | omega⟩
                · rw [hc10]
                  cbv
                  cases h2
                  try dsimp only at h1
                  replace h1 := condF h1 rfl
                  obtain ⟨hg13, h1⟩ := grdS h1
                  refine ⟨inr_of hO hg13, ?_⟩
                  cases h1
                  exact ⟨_, [0, 1, 2, 3, 4, 5, 6, 7, 8, 9], nextI hI1 hi1, by cbv; try simp, by first | exact Nat.lt_succ_self _ | omega⟩
              · rw [hc9]
                cbv
                cases h2
                try dsimp only at h1
                replace h1 := condF h1 rfl
                obtain ⟨hg14, h1⟩ := grdS h1
                refine ⟨inr_of hO hg14, ?_⟩
                cases h1
                exact ⟨_, [0, 1, 2, 3, 4, 5, 6, 7, 8, 9], nextI hI1 hi1, by cbv; try simp, by first | exact Nat.lt_succ_self _ | omega⟩
    · rw [hc2]
      cbv
      cases h1
      cases exitI hi1
      try dsimp only at h0
      cases h0
      exact fin_ok hX rfl ⟨[], _, _, ⟨rfl, rfl⟩, rfl, rfl, rfl, rfl, by cbv; try simp⟩
set_option maxHeartbeats 40000000 in
theorem fn_ref29_Set {O0 : Ops} (hO0 : O0 = std) {l_1 : List Int} {r1 : List Int} (h : m_ref29_Set O0 l_1 = some r1) :
    Fn Try.prog 72 [.c (.sl 0)] [.arr false .i1 l_1] (fun v c => v = .c (.sl 1) ∧ c = [.own 3 .i1 r1]) := by
  refine fn_run tab_holds eqs_holds mixed [(6, (.seg 1 [0, 1, 2, 3, 4, 5, 6, 7, 8, 9, 10, 11, 12, 13, 14] .fin), []), (8, (.seg 1 [0, 1, 2, 3, 4, 5, 6, 7, 8, 9, 10, 11, 12, 13, 14] .fin), [])] Try.func72 (by kernel_rfl) (by kernel_rfl) (Nat.le_of_ble_eq_true rfl) ?_
  intro O X hO hX
  rw [hO0, ← hO] at h
  unfold m_ref29_Set at h
  have h0 := h; clear h
  cbv
  obtain ⟨l29, hi, h0⟩ := bindS h0
  obtain ⟨I2, hI2, hi⟩ := loopS hi
  refine loop1 tab_holds eqs_holds mixed [(6, (.seg 1 [0, 1, 2, 3, 4, 5, 6, 7, 8, 9, 10, 11, 12, 13, 14] .fin), []), (8, (.seg 1 [0, 1, 2, 3, 4, 5, 6, 7, 8, 9, 10, 11, 12, 13, 14] .fin), [])] hO hX I2 (fun y => [(2, .junk), (3, .c (.sl 2)), (4, .c (.int .i64 y.2.1))]) (fun y => [(2, .own 3 .i1 y.2.2)]) (fun y => y.1) _ (by kernel_rfl) hi (by cbv; try simp) ?_
  refine allp ?_
  intro n2
  refine allp ?_
  intro i4
  intro l28 hi
  cbv
  rw [hI2] at hi
  obtain ⟨n2, rfl, x2, h1, hi2⟩ := iterS hi
  unfold m_ref29_Set_L2 at h1
  try dsimp only at h1
  rcases condS h1 with ⟨hc1, h1⟩ | ⟨hc1, h1⟩
  · rw [hc1]
    cbv
    obtain ⟨k4, hi, h1⟩ := bindS h1
    obtain ⟨I1, hI1, hi⟩ := loopS hi
    refine loop1 tab_holds eqs_holds mixed [(6, (.seg 1 [0, 1, 2, 3, 4, 5, 6, 7, 8, 9, 10, 11, 12, 13, 14] .fin), []), (8, (.seg 1 [0, 1, 2, 3, 4, 5, 6, 7, 8, 9, 10, 11, 12, 13, 14] .fin), [])] hO hX I1 (fun y => [(5, .c (.int .i64 y.2))]) (fun _ => []) (fun y => y.1) _ (by kernel_rfl) hi (by cbv; try simp) ?_
    refine allp ?_
    intro n1
    intro k3 hi
    cbv
    rw [hI1] at hi
    obtain ⟨n1, rfl, x1, h2, hi1⟩ := iterS hi
    unfold m_ref29_Set_L1 at h2
    try dsimp only at h2
    obtain ⟨x195, h3, h2⟩ := bindS h2
    rcases condS h3 with ⟨hc2, h3⟩ | ⟨hc2, h3⟩
    · rw [hc2]
      cbv
      obtain ⟨hg3, h3⟩ := grdS h3
      refine ⟨idx_of hO hg3, ?_⟩
      obtain ⟨hg4, h3⟩ := grdS h3
      refine ⟨kin_of hO hg4, ?_⟩
      obtain ⟨hg5, h3⟩ := grdS h3
      refine ⟨idx_of hO hg5, ?_⟩
      obtain ⟨hg6, h3⟩ := grdS h3
      refine ⟨kin_of hO hg6, ?_⟩
      cases h3
      try dsimp only at h2
      rcases condS h2 with ⟨hc7, h2⟩ | ⟨hc7, h2⟩
      · rw [hc7]
        cbv
        obtain ⟨hg8, h2⟩ := grdS h2
        refine ⟨inr_of hO hg8, ?_⟩
        cases h2
        exact ⟨_, [0, 1, 2], nextI hI1 hi1, by cbv; try simp, by first | exact Nat.lt_succ_self _ | omega⟩
      · rw [hc7]
        cbv
        cases h2
        cases exitI hi1
        try dsimp only at h1
        try (rw [hc2]; cbv)
        obtain ⟨x197, h2, h1⟩ := bindS h1
        replace h2 := condT h2 hc2
        obtain ⟨hg9, h2⟩ := grdS h2
        refine ⟨idx_of hO hg9, ?_⟩
        obtain ⟨hg10, h2⟩ := grdS h2
        refine ⟨kin_of hO hg10, ?_⟩
        obtain ⟨hg11, h2⟩ := grdS h2
        refine ⟨idx_of hO hg11, ?_⟩
        obtain ⟨hg12, h2⟩ := grdS h2
        refine ⟨kin_of hO hg12, ?_⟩
        cases h2
        try dsimp only at h1
        rcases condS h1 with ⟨hc13, h1⟩ | ⟨hc13, h1⟩
        · rw [hc13]
          cbv
          obtain ⟨hg14, h1⟩ := grdS h1
          refine ⟨inr_of hO hg14, ?_⟩
          cases h1
          exact ⟨_, [0, 1, 2], nextI hI2 hi2, by cbv; try simp, by first | exact Nat.lt_succ_self _ | omega⟩
        · rw [hc13]
          cbv
          obtain ⟨hg15, h1⟩ := grdS h1
          refine ⟨rng_of hO hg15, ?_⟩
          obtain ⟨hg16, h1⟩ := grdS h1
          refine ⟨room_of hO hg16, ?_⟩
          obtain ⟨hg17, h1⟩ := grdS h1
          refine ⟨room_of hO hg17, ?_⟩
          obtain ⟨hg18, h1⟩ := grdS h1
          refine ⟨idx_of hO hg18, ?_⟩
          obtain ⟨hg19, h1⟩ := grdS h1
          refine ⟨kin_of hO hg19, ?_⟩
          obtain ⟨hg20, h1⟩ := grdS h1
          refine ⟨room_of hO hg20, ?_⟩
          obtain ⟨hg21, h1⟩ := grdS h1
          refine ⟨room_of hO hg21, ?_⟩
          refine ⟨rng_of hO hg15, ?_⟩
          obtain ⟨hg22, h1⟩ := grdS h1
          refine ⟨room_of hO hg22, ?_⟩
          obtain ⟨hg23, h1⟩ := grdS h1
          refine ⟨room_of hO hg23, ?_⟩
          obtain ⟨hg24, h1⟩ := grdS h1
          refine ⟨inr_of hO hg24, ?_⟩
          cases h1
          exact ⟨_, [0, 1, 9], nextI hI2 hi2, by cbv; try simp, by first | exact Nat.lt_succ_self _ | omega⟩
    · rw [hc2]
      cbv
      cases h3
      try dsimp only at h2
      replace h2 := condF h2 rfl
      cases h2
      cases exitI hi1
      try dsimp only at h1
      try (rw [hc2]; cbv)
      obtain ⟨x197, h2, h1⟩ := bindS h1
      replace h2 := condF h2 hc2
      cases h2
      try dsimp only at h1
      replace h1 := condF h1 rfl
      obtain ⟨hg25, h1⟩ := grdS h1
      refine ⟨rng_of hO hg25, ?_⟩
      obtain ⟨hg26, h1⟩ := grdS h1
      refine ⟨room_of hO hg26, ?_⟩
      obtain ⟨hg27, h1⟩ := grdS h1
      refine ⟨room_of hO hg27, ?_⟩
      obtain ⟨hg28, h1⟩ := grdS h1
      refine ⟨idx_of hO hg28, ?_⟩
      obtain ⟨hg29, h1⟩ := grdS h1
      refine ⟨kin_of hO hg29, ?_⟩
      obtain ⟨hg30, h1⟩ := grdS h1
      refine ⟨room_of hO hg30, ?_⟩
      obtain ⟨hg31, h1⟩ := grdS h1
      refine ⟨room_of hO hg31, ?_⟩
      refine ⟨rng_of hO hg25, ?_⟩
      obtain ⟨hg32, h1⟩ := grdS h1
      refine ⟨room_of hO hg32, ?_⟩
      obtain ⟨hg33, h1⟩ := grdS h1
      refine ⟨room_of hO hg33, ?_⟩
      obtain ⟨hg34, h1⟩ := grdS h1
      refine ⟨inr_of hO hg34, ?_⟩
      cases h1
      exact ⟨_, [0, 1, 9], nextI hI2 hi2, by cbv; try simp, by first | exact Nat.lt_succ_self _ | omega⟩
  · rw [hc1]
    cbv
    cases h1
    cases exitI hi2
    try dsimp only at h0
    cases h0
    exact fin_ok hX rfl ⟨[2], _, _, ⟨rfl, rfl⟩, rfl, rfl, rfl, rfl, by cbv; try simp⟩
set_option maxHeartbeats 40000000 in
theorem fn_ref29_number {O0 : Ops} (hO0 : O0 = std) {other_1 : Int} {l_1 : List Int} {r1 : Int} (h : m_ref29_number O0 other_1 l_1 = some r1) :
    Fn Try.prog 51 [.c (.sl 0), .c (.int .i64 other_1)] [.arr false .i1 l_1] (fun v c => v = .c (.int .i64 r1) ∧ c = []) := by
  refine fn_run tab_holds eqs_holds mixed [] Try.func51 (by kernel_rfl) (by kernel_rfl) (Nat.le_of_ble_eq_true rfl) ?_
  intro O X hO hX
  rw [hO0, ← hO] at h
  unfold m_ref29_number at h
  have h0 := h; clear h
  cbv
  rcases condS h0 with ⟨hc1, h0⟩ | ⟨hc1, h0⟩
  · rw [hc1]
    cbv
    cases h0
    exact fin_ok hX rfl ⟨[], _, _, ⟨rfl, rfl⟩, rfl, rfl, rfl, rfl, by cbv; try simp⟩
  · rw [hc1]
    cbv
    obtain ⟨l30, hv, h0⟩ := bindS h0
    refine call_is hO hX (fn_ref29_Set hO hv) (by kernel_rfl) [0] rfl ⟨rfl, rfl, trivial⟩ rfl ?_
    cbv
    cases h0
    exact fin_ok hX rfl ⟨[], _, _, ⟨rfl, rfl⟩, rfl, rfl, rfl, rfl, by cbv; try simp⟩
end Go.Proofs.Ytmnhfaaaaejpaaa
