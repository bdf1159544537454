/-
  The code does what its models say (printed by lift.py).
  The code does what its models say (printed by lift.py).
  The code does what its models say (printed by lift.py).
-/
import Derived.Test.YtmnhfaaaaejpaaaGreatYM
import Derived.Test.YtmnhfaaaaejpaaaGreatManWL
namespace Go.Proofs.YtmnhfaaaaejpaaaGreat
open Go.RowKit
set_option maxRecDepth 100000

set_option maxHeartbeats 40000000 in
theorem fn_ref29_Local {O0 : Ops} (hO0 : O0 = std) {l_1 : Int} {r1 : Bool} (h : m_ref29_Local O0 l_1 = some r1) :
    Fn Tryz.prog 21 [.c (.int .i64 l_1)] [] (fun v c => v = .c (.bool r1) ∧ c = []) := by
  refine fn_run tab_holds eqs_holds mixed [] Tryz.func21 (by kernel_rfl) (by kernel_rfl) (Nat.le_of_ble_eq_true rfl) ?_
  intro O X hO hX
  rw [hO0, ← hO] at h
  unfold m_ref29_Local at h
  have h0 := h; clear h
  cbv
  obtain ⟨x121, h1, h0⟩ := bindS h0
  rcases condS h1 with ⟨hc1, h1⟩ | ⟨hc1, h1⟩
  · rw [hc1]
    cbv
    cases h1
    try dsimp only at h0
    cases h0
    exact fin_ok hX rfl ⟨[], _, _, ⟨rfl, rfl⟩, rfl, rfl, rfl, rfl, by cbv; try simp⟩
  · rw [hc1]
    cbv
    cases h1
    try dsimp only at h0
    cases h0
    exact fin_ok hX rfl ⟨[], _, _, ⟨rfl, rfl⟩, rfl, rfl, rfl, rfl, by cbv; try simp⟩
set_option maxHeartbeats 40000000 in
theorem fn_ref29_within {O0 : Ops} (hO0 : O0 = std) {low_1 : Int} {high_1 : Int} {signed_1 : Bool} {l_1 : List Int} {r1 : Bool} (h : m_ref29_within O0 low_1 high_1 signed_1 l_1 = some r1) :
    Fn Tryz.prog 22 [.c (.sl 0), .c (.int .i64 low_1), .c (.int .i64 high_1), .c (.bool signed_1)] [.arr false .i1 l_1] (fun v c => v = .c (.bool r1) ∧ c = []) := by
  refine fn_run tab_holds eqs_holds mixed [] Tryz.func22 (by kernel_rfl) (by kernel_rfl) (Nat.le_of_ble_eq_true rfl) ?_
  intro O X hO hX
  rw [hO0, ← hO] at h
  unfold m_ref29_within at h
  have h0 := h; clear h
  cbv
  rcases condS h0 with ⟨hc1, h0⟩ | ⟨hc1, h0⟩
  · rw [hc1]
    cbv
    cases h0
    exact fin_ok hX rfl ⟨[], _, _, ⟨rfl, rfl⟩, rfl, rfl, rfl, rfl, by cbv; try simp⟩
  · rw [hc1]
    cbv
    obtain ⟨e1, hi, h0⟩ := bindS h0
    obtain ⟨I1, hI1, hi⟩ := loopS hi
    refine loop1 tab_holds eqs_holds mixed [] hO hX I1 (fun y => [(9, .c (.int .i64 y.2))]) (fun _ => []) (fun y => y.1) _ (by kernel_rfl) hi (by cbv; try simp) ?_
    refine allp ?_
    intro n1
    intro i1 hi
    cbv
    rw [hI1] at hi
    obtain ⟨n1, rfl, x1, h1, hi1⟩ := iterS hi
    unfold m_ref29_within_L1 at h1
    try dsimp only at h1
    rcases condS h1 with ⟨hc2, h1⟩ | ⟨hc2, h1⟩
    · rw [hc2]
      cbv
      obtain ⟨hg3, h1⟩ := grdS h1
      refine ⟨idx_of hO hg3, ?_⟩
      obtain ⟨hg4, h1⟩ := grdS h1
      refine ⟨kin_of hO hg4, ?_⟩
      obtain ⟨⟨signed2, x128⟩, h2, h1⟩ := bindS h1
      rcases condS h2 with ⟨hc5, h2⟩ | ⟨hc5, h2⟩
      · rw [hc5]
        cbv
        rcases condS h2 with ⟨hc6, h2⟩ | ⟨hc6, h2⟩
        · rw [hc6]
          cbv
          obtain ⟨hg7, h2⟩ := grdS h2
          refine ⟨inr_of hO hg7, ?_⟩
          cases h2
          try dsimp only at h1
          obtain ⟨n61, h2, h1⟩ := bindS h1
          rcases condS h2 with ⟨hc8, h2⟩ | ⟨hc8, h2⟩
          · rw [hc8]
            cbv
            obtain ⟨hg9, h2⟩ := grdS h2
            refine ⟨inr_of hO hg9, ?_⟩
            cases h2
            try dsimp only at h1
            obtain ⟨x130, h2, h1⟩ := bindS h1
            rcases condS h2 with ⟨hc10, h2⟩ | ⟨hc10, h2⟩
            · rw [hc10]
              cbv
              cases h2
              try dsimp only at h1
              replace h1 := condT h1 rfl
              cases h1
              cases exitI hi1
              try dsimp only at h0
              cases h0
              exact fin_ok hX rfl ⟨[], _, _, ⟨rfl, rfl⟩, rfl, rfl, rfl, rfl, by cbv; try simp⟩
            · rw [hc10]
              cbv
              cases h2
              try dsimp only at h1
              rcases condS h1 with ⟨hc11, h1⟩ | ⟨hc11, h1⟩
              · rw [hc11]
                cbv
                cases h1
                cases exitI hi1
                try dsimp only at h0
                cases h0
                exact fin_ok hX rfl ⟨[], _, _, ⟨rfl, rfl⟩, rfl, rfl, rfl, rfl, by cbv; try simp⟩
              · rw [hc11]
                cbv
                obtain ⟨hg12, h1⟩ := grdS h1
                refine ⟨inr_of hO hg12, ?_⟩
                cases h1
                exact ⟨_, [0], nextI hI1 hi1, by cbv; try simp, by first | exact Nat.lt_succ_self _ | omega⟩
          · rw [hc8]
            cbv
            cases h2
            try dsimp only at h1
            obtain ⟨x130, h2, h1⟩ := bindS h1
            rcases condS h2 with ⟨hc13, h2⟩ | ⟨hc13, h2⟩
            · rw [hc13]
              cbv
              cases h2
              try dsimp only at h1
              replace h1 := condT h1 rfl
              cases h1
              cases exitI hi1
              try dsimp only at h0
              cases h0
              exact fin_ok hX rfl ⟨[], _, _, ⟨rfl, rfl⟩, rfl, rfl, rfl, rfl, by cbv; try simp⟩
            · rw [hc13]
              cbv
              cases h2
              try dsimp only at h1
              rcases condS h1 with ⟨hc14, h1⟩ | ⟨hc14, h1⟩
              · rw [hc14]
                cbv
                cases h1
                cases exitI hi1
                try dsimp only at h0
                cases h0
                exact fin_ok hX rfl ⟨[], _, _, ⟨rfl, rfl⟩, rfl, rfl, rfl, rfl, by cbv; try simp⟩
              · rw [hc14]
                cbv
                obtain ⟨hg15, h1⟩ := grdS h1
                refine ⟨inr_of hO hg15, ?_⟩
                cases h1
                exact ⟨_, [0], nextI hI1 hi1, by cbv; try simp, by first | exact Nat.lt_succ_self _ | omega⟩
        · rw [hc6]
          cbv
          cases h2
          try dsimp only at h1
          obtain ⟨n61, h2, h1⟩ := bindS h1
          replace h2 := condF h2 rfl
          cases h2
          try dsimp only at h1
          obtain ⟨x130, h2, h1⟩ := bindS h1
          rcases condS h2 with ⟨hc16, h2⟩ | ⟨hc16, h2⟩
          · rw [hc16]
            cbv
            cases h2
            try dsimp only at h1
            replace h1 := condT h1 rfl
            cases h1
            cases exitI hi1
            try dsimp only at h0
            cases h0
            exact fin_ok hX rfl ⟨[], _, _, ⟨rfl, rfl⟩, rfl, rfl, rfl, rfl, by cbv; try simp⟩
          · rw [hc16]
            cbv
            cases h2
            try dsimp only at h1
            rcases condS h1 with ⟨hc17, h1⟩ | ⟨hc17, h1⟩
            · rw [hc17]
              cbv
              cases h1
              cases exitI hi1
              try dsimp only at h0
              cases h0
              exact fin_ok hX rfl ⟨[], _, _, ⟨rfl, rfl⟩, rfl, rfl, rfl, rfl, by cbv; try simp⟩
            · rw [hc17]
              cbv
              obtain ⟨hg18, h1⟩ := grdS h1
              refine ⟨inr_of hO hg18, ?_⟩
              cases h1
              exact ⟨_, [0], nextI hI1 hi1, by cbv; try simp, by first | exact Nat.lt_succ_self _ | omega⟩
      · rw [hc5]
        cbv
        cases h2
        try dsimp only at h1
        obtain ⟨n61, h2, h1⟩ := bindS h1
        replace h2 := condF h2 rfl
        cases h2
        try dsimp only at h1
        obtain ⟨x130, h2, h1⟩ := bindS h1
        rcases condS h2 with ⟨hc19, h2⟩ | ⟨hc19, h2⟩
        · rw [hc19]
          cbv
          cases h2
          try dsimp only at h1
          replace h1 := condT h1 rfl
          cases h1
          cases exitI hi1
          try dsimp only at h0
          cases h0
          exact fin_ok hX rfl ⟨[], _, _, ⟨rfl, rfl⟩, rfl, rfl, rfl, rfl, by cbv; try simp⟩
        · rw [hc19]
          cbv
          cases h2
          try dsimp only at h1
          rcases condS h1 with ⟨hc20, h1⟩ | ⟨hc20, h1⟩
          · rw [hc20]
            cbv
            cases h1
            cases exitI hi1
            try dsimp only at h0
            cases h0
            exact fin_ok hX rfl ⟨[], _, _, ⟨rfl, rfl⟩, rfl, rfl, rfl, rfl, by cbv; try simp⟩
          · rw [hc20]
            cbv
            obtain ⟨hg21, h1⟩ := grdS h1
            refine ⟨inr_of hO hg21, ?_⟩
            cases h1
            exact ⟨_, [0], nextI hI1 hi1, by cbv; try simp, by first | exact Nat.lt_succ_self _ | omega⟩
    · rw [hc2]
      cbv
      cases h1
      cases exitI hi1
      try dsimp only at h0
      cases h0
      exact fin_ok hX rfl ⟨[], _, _, ⟨rfl, rfl⟩, rfl, rfl, rfl, rfl, by cbv; try simp⟩
set_option maxHeartbeats 40000000 in
theorem fn_ref29_days {O0 : Ops} (hO0 : O0 = std) {r_1 : Int} {r_2 : Int} {r_3 : Int} {r_4 : Int} {r_5 : Int} {r_6 : List Int} {r_7 : List Int} {r_8 : List Int} {r_9 : List Int} {r_10 : List (Int × Int)} {r_11 : List Int} {r_12 : List Int} {r_13 : List Int} {r_14 : List Int} {r1 : Bool} (h : m_ref29_days O0 r_1 r_2 r_3 r_4 r_5 r_6 r_7 r_8 r_9 r_10 r_11 r_12 r_13 r_14 = some r1) :
    Fn Tryz.prog 23 [.agg [.int .i64 r_1, .int .i64 r_2, .int .i64 r_3, .int .i64 r_4, .sl 0, .sl 1, .sl 2, .sl 3, .sl 4, .sl 5, .sl 6, .sl 7, .sl 8, .int .i64 r_5]] [.arr false .i1 r_6, .arr false .i1 r_7, .arr false .i1 r_8, .arr false .i1 r_9, .arr false .i2 r_10, .arr false .i1 r_11, .arr false .i1 r_12, .arr false .i1 r_13, .arr false .i1 r_14] (fun v c => v = .c (.bool r1) ∧ c = []) := by
  refine fn_run tab_holds eqs_holds mixed [] Tryz.func23 (by kernel_rfl) (by kernel_rfl) (Nat.le_of_ble_eq_true rfl) ?_
  intro O X hO hX
  rw [hO0, ← hO] at h
  unfold m_ref29_days at h
  have h0 := h; clear h
  cbv
  rcases condS h0 with ⟨hc1, h0⟩ | ⟨hc1, h0⟩
  · rw [hc1]
    cbv
    cases h0
    exact fin_ok hX rfl ⟨[], _, _, ⟨rfl, rfl⟩, rfl, rfl, rfl, rfl, by cbv; try simp⟩
  · rw [hc1]
    cbv
    obtain ⟨e1, hi, h0⟩ := bindS h0
    obtain ⟨I1, hI1, hi⟩ := loopS hi
    refine loop1 tab_holds eqs_holds mixed [] hO hX I1 (fun y => [(5, .junk), (3, .c (.int .i64 y.2))]) (fun _ => []) (fun y => y.1) _ (by kernel_rfl) hi (by cbv; try simp) ?_
    refine allp ?_
    intro n1
    intro i2 hi
    cbv
    rw [hI1] at hi
    obtain ⟨n1, rfl, x1, h1, hi1⟩ := iterS hi
    unfold m_ref29_days_L1 at h1
    try dsimp only at h1
    rcases condS h1 with ⟨hc2, h1⟩ | ⟨hc2, h1⟩
    · rw [hc2]
      cbv
      obtain ⟨hg3, h1⟩ := grdS h1
      refine ⟨idx_of hO hg3, ?_⟩
      obtain ⟨hg4, h1⟩ := grdS h1
      refine ⟨kin_of hO hg4, ?_⟩
      obtain ⟨x134, h2, h1⟩ := bindS h1
      rcases condS h2 with ⟨hc5, h2⟩ | ⟨hc5, h2⟩
      · rw [hc5]
        cbv
        cases h2
        try dsimp only at h1
        replace h1 := condT h1 rfl
        cases h1
        cases exitI hi1
        try dsimp only at h0
        cases h0
        exact fin_ok hX rfl ⟨[], _, _, ⟨rfl, rfl⟩, rfl, rfl, rfl, rfl, by cbv; try simp⟩
      · rw [hc5]
        cbv
        rcases condS h2 with ⟨hc6, h2⟩ | ⟨hc6, h2⟩
        · rw [hc6]
          cbv
          cases h2
          try dsimp only at h1
          replace h1 := condT h1 rfl
          cases h1
          cases exitI hi1
          try dsimp only at h0
          cases h0
          exact fin_ok hX rfl ⟨[], _, _, ⟨rfl, rfl⟩, rfl, rfl, rfl, rfl, by cbv; try simp⟩
        · rw [hc6]
          cbv
          rcases condS h2 with ⟨hc7, h2⟩ | ⟨hc7, h2⟩
          · rw [hc7]
            cbv
            cases h2
            try dsimp only at h1
            replace h1 := condT h1 rfl
            cases h1
            cases exitI hi1
            try dsimp only at h0
            cases h0
            exact fin_ok hX rfl ⟨[], _, _, ⟨rfl, rfl⟩, rfl, rfl, rfl, rfl, by cbv; try simp⟩
          · rw [hc7]
            cbv
            rcases condS h2 with ⟨hc8, h2⟩ | ⟨hc8, h2⟩
            · rw [hc8]
              cbv
              cases h2
              try dsimp only at h1
              replace h1 := condT h1 rfl
              cases h1
              cases exitI hi1
              try dsimp only at h0
              cases h0
              exact fin_ok hX rfl ⟨[], _, _, ⟨rfl, rfl⟩, rfl, rfl, rfl, rfl, by cbv; try simp⟩
            · rw [hc8]
              cbv
              rcases condS h2 with ⟨hc9, h2⟩ | ⟨hc9, h2⟩
              · rw [hc9]
                cbv
                rcases condS h2 with ⟨hc10, h2⟩ | ⟨hc10, h2⟩
                · rw [hc10]
                  cbv
                  cases h2
                  try dsimp only at h1
                  rcases condS h1 with ⟨hc11, h1⟩ | ⟨hc11, h1⟩
                  · rw [hc11]
                    cbv
                    cases h1
                    cases exitI hi1
                    try dsimp only at h0
                    cases h0
                    exact fin_ok hX rfl ⟨[], _, _, ⟨rfl, rfl⟩, rfl, rfl, rfl, rfl, by cbv; try simp⟩
                  · rw [hc11]
                    cbv
                    obtain ⟨hg12, h1⟩ := grdS h1
                    refine ⟨inr_of hO hg12, ?_⟩
                    cases h1
                    exact ⟨_, [0, 1, 2, 3, 4, 5, 6, 7, 8, 9], nextI hI1 hi1, by cbv; try simp, by first | exact Nat.lt_succ_self _ | omega⟩
                · rw [hc10]
                  cbv
                  cases h2
                  try dsimp only at h1
                  replace h1 := condF h1 rfl
                  obtain ⟨hg13, h1⟩ := grdS h1
                  refine ⟨inr_of hO hg13, ?_⟩
                  cases h1
                  exact ⟨_, [0, 1, 2, 3, 4, 5, 6, 7, 8, 9], nextI hI1 hi1, by cbv; try simp, by first | exact Nat.lt_succ_self _ | omega⟩
              · rw [hc9]
                cbv
                cases h2
                try dsimp only at h1
                replace h1 := condF h1 rfl
                obtain ⟨hg14, h1⟩ := grdS h1
                refine ⟨inr_of hO hg14, ?_⟩
                cases h1
                exact ⟨_, [0, 1, 2, 3, 4, 5, 6, 7, 8, 9], nextI hI1 hi1, by cbv; try simp, by first | exact Nat.lt_succ_self _ | omega⟩
    · rw [hc2]
      cbv
      cases h1
      cases exitI hi1
      try dsimp only at h0
      cases h0
      exact fin_ok hX rfl ⟨[], _, _, ⟨rfl, rfl⟩, rfl, rfl, rfl, rfl, by cbv; try simp⟩
set_option maxHeartbeats 40000000 in
theorem fn_ref29_Set {O0 : Ops} (hO0 : O0 = std) {l_1 : List Int} {r1 : List Int} (h : m_ref29_Set O0 l_1 = some r1) :
    Fn Tryz.prog 34 [.c (.sl 0)] [.arr false .i1 l_1] (fun v c => v = .c (.sl 1) ∧ c = [.own 3 .i1 r1]) := by
  refine fn_run tab_holds eqs_holds mixed [(6, (.seg 1 [0, 1, 2, 3, 4, 5, 6, 7, 8, 9, 10, 11, 12, 13, 14] .fin), []), (8, (.seg 1 [0, 1, 2, 3, 4, 5, 6, 7, 8, 9, 10, 11, 12, 13, 14] .fin), [])] Tryz.func34 (by kernel_rfl) (by kernel_rfl) (Nat.le_of_ble_eq_true rfl) ?_
  intro O X hO hX
  rw [hO0, ← hO] at h
  unfold m_ref29_Set at h
  have h0 := h; clear h
  cbv
  obtain ⟨l28, hi, h0⟩ := bindS h0
  obtain ⟨I2, hI2, hi⟩ := loopS hi
  refine loop1 tab_holds eqs_holds mixed [(6, (.seg 1 [0, 1, 2, 3, 4, 5, 6, 7, 8, 9, 10, 11, 12, 13, 14] .fin), []), (8, (.seg 1 [0, 1, 2, 3, 4, 5, 6, 7, 8, 9, 10, 11, 12, 13, 14] .fin), [])] hO hX I2 (fun y => [(2, .junk), (3, .c (.sl 2)), (4, .c (.int .i64 y.2.1))]) (fun y => [(2, .own 3 .i1 y.2.2)]) (fun y => y.1) _ (by kernel_rfl) hi (by cbv; try simp) ?_
  refine allp ?_
  intro n2
  refine allp ?_
  intro i4
  intro l27 hi
  cbv
  rw [hI2] at hi
  obtain ⟨n2, rfl, x2, h1, hi2⟩ := iterS hi
  unfold m_ref29_Set_L2 at h1
  try dsimp only at h1
  rcases condS h1 with ⟨hc1, h1⟩ | ⟨hc1, h1⟩
  · rw [hc1]
    cbv
    obtain ⟨k4, hi, h1⟩ := bindS h1
    obtain ⟨I1, hI1, hi⟩ := loopS hi
    refine loop1 tab_holds eqs_holds mixed [(6, (.seg 1 [0, 1, 2, 3, 4, 5, 6, 7, 8, 9, 10, 11, 12, 13, 14] .fin), []), (8, (.seg 1 [0, 1, 2, 3, 4, 5, 6, 7, 8, 9, 10, 11, 12, 13, 14] .fin), [])] hO hX I1 (fun y => [(5, .c (.int .i64 y.2))]) (fun _ => []) (fun y => y.1) _ (by kernel_rfl) hi (by cbv; try simp) ?_
    refine allp ?_
    intro n1
    intro k3 hi
    cbv
    rw [hI1] at hi
    obtain ⟨n1, rfl, x1, h2, hi1⟩ := iterS hi
    unfold m_ref29_Set_L1 at h2
    try dsimp only at h2
    obtain ⟨x143, h3, h2⟩ := bindS h2
    rcases condS h3 with ⟨hc2, h3⟩ | ⟨hc2, h3⟩
    · rw [hc2]
      cbv
      obtain ⟨hg3, h3⟩ := grdS h3
      refine ⟨idx_of hO hg3, ?_⟩
      obtain ⟨hg4, h3⟩ := grdS h3
      refine ⟨kin_of hO hg4, ?_⟩
      obtain ⟨hg5, h3⟩ := grdS h3
      refine ⟨idx_of hO hg5, ?_⟩
      obtain ⟨hg6, h3⟩ := grdS h3
      refine ⟨kin_of hO hg6, ?_⟩
      cases h3
      try dsimp only at h2
      rcases condS h2 with ⟨hc7, h2⟩ | ⟨hc7, h2⟩
      · rw [hc7]
        cbv
        obtain ⟨hg8, h2⟩ := grdS h2
        refine ⟨inr_of hO hg8, ?_⟩
        cases h2
        exact ⟨_, [0, 1, 2], nextI hI1 hi1, by cbv; try simp, by first | exact Nat.lt_succ_self _ | omega⟩
      · rw [hc7]
        cbv
        cases h2
        cases exitI hi1
        try dsimp only at h1
        try (rw [hc2]; cbv)
        obtain ⟨x145, h2, h1⟩ := bindS h1
        replace h2 := condT h2 hc2
        obtain ⟨hg9, h2⟩ := grdS h2
        refine ⟨idx_of hO hg9, ?_⟩
        obtain ⟨hg10, h2⟩ := grdS h2
        refine ⟨kin_of hO hg10, ?_⟩
        obtain ⟨hg11, h2⟩ := grdS h2
        refine ⟨idx_of hO hg11, ?_⟩
        obtain ⟨hg12, h2⟩ := grdS h2
        refine ⟨kin_of hO hg12, ?_⟩
        cases h2
        try dsimp only at h1
        rcases condS h1 with ⟨hc13, h1⟩ | ⟨hc13, h1⟩
        · rw [hc13]
          cbv
          obtain ⟨hg14, h1⟩ := grdS h1
          refine ⟨inr_of hO hg14, ?_⟩
          cases h1
          exact ⟨_, [0, 1, 2], nextI hI2 hi2, by cbv; try simp, by first | exact Nat.lt_succ_self _ | omega⟩
        · rw [hc13]
          cbv
          obtain ⟨hg15, h1⟩ := grdS h1
          refine ⟨rng_of hO hg15, ?_⟩
          obtain ⟨hg16, h1⟩ := grdS h1
          refine ⟨room_of hO hg16, ?_⟩
          obtain ⟨hg17, h1⟩ := grdS h1
          refine ⟨room_of hO hg17, ?_⟩
          obtain ⟨hg18, h1⟩ := grdS h1
          refine ⟨idx_of hO hg18, ?_⟩
          obtain ⟨hg19, h1⟩ := grdS h1
          refine ⟨kin_of hO hg19, ?_⟩
          obtain ⟨hg20, h1⟩ := grdS h1
          refine ⟨room_of hO hg20, ?_⟩
          obtain ⟨hg21, h1⟩ := grdS h1
          refine ⟨room_of hO hg21, ?_⟩
          refine ⟨rng_of hO hg15, ?_⟩
          obtain ⟨hg22, h1⟩ := grdS h1
          refine ⟨room_of hO hg22, ?_⟩
          obtain ⟨hg23, h1⟩ := grdS h1
          refine ⟨room_of hO hg23, ?_⟩
          obtain ⟨hg24, h1⟩ := grdS h1
          refine ⟨inr_of hO hg24, ?_⟩
          cases h1
          exact ⟨_, [0, 1, 9], nextI hI2 hi2, by cbv; try simp, by first | exact Nat.lt_succ_self _ | omega⟩
    · rw [hc2]
      cbv
      cases h3
      try dsimp only at h2
      replace h2 := condF h2 rfl
      cases h2
      cases exitI hi1
      try dsimp only at h1
      try (rw [hc2]; cbv)
      obtain ⟨x145, h2, h1⟩ := bindS h1
      replace h2 := condF h2 hc2
      cases h2
      try dsimp only at h1
      replace h1 := condF h1 rfl
      obtain ⟨hg25, h1⟩ := grdS h1
      refine ⟨rng_of hO hg25, ?_⟩
      obtain ⟨hg26, h1⟩ := grdS h1
      refine ⟨room_of hO hg26, ?_⟩
      obtain ⟨hg27, h1⟩ := grdS h1
      refine ⟨room_of hO hg27, ?_⟩
      obtain ⟨hg28, h1⟩ := grdS h1
      refine ⟨idx_of hO hg28, ?_⟩
      obtain ⟨hg29, h1⟩ := grdS h1
      refine ⟨kin_of hO hg29, ?_⟩
      obtain ⟨hg30, h1⟩ := grdS h1
      refine ⟨room_of hO hg30, ?_⟩
      obtain ⟨hg31, h1⟩ := grdS h1
      refine ⟨room_of hO hg31, ?_⟩
      refine ⟨rng_of hO hg25, ?_⟩
      obtain ⟨hg32, h1⟩ := grdS h1
      refine ⟨room_of hO hg32, ?_⟩
      obtain ⟨hg33, h1⟩ := grdS h1
      refine ⟨room_of hO hg33, ?_⟩
      obtain ⟨hg34, h1⟩ := grdS h1
      refine ⟨inr_of hO hg34, ?_⟩
      cases h1
      exact ⟨_, [0, 1, 9], nextI hI2 hi2, by cbv; try simp, by first | exact Nat.lt_succ_self _ | omega⟩
  · rw [hc1]
    cbv
    cases h1
    cases exitI hi2
    try dsimp only at h0
    cases h0
    exact fin_ok hX rfl ⟨[2], _, _, ⟨rfl, rfl⟩, rfl, rfl, rfl, rfl, by cbv; try simp⟩
set_option maxHeartbeats 40000000 in
theorem fn_ref29_number {O0 : Ops} (hO0 : O0 = std) {other_1 : Int} {l_1 : List Int} {r1 : Int} (h : m_ref29_number O0 other_1 l_1 = some r1) :
    Fn Tryz.prog 24 [.c (.sl 0), .c (.int .i64 other_1)] [.arr false .i1 l_1] (fun v c => v = .c (.int .i64 r1) ∧ c = []) := by
  refine fn_run tab_holds eqs_holds mixed [] Tryz.func24 (by kernel_rfl) (by kernel_rfl) (Nat.le_of_ble_eq_true rfl) ?_
  intro O X hO hX
  rw [hO0, ← hO] at h
  unfold m_ref29_number at h
  have h0 := h; clear h
  cbv
  rcases condS h0 with ⟨hc1, h0⟩ | ⟨hc1, h0⟩
  · rw [hc1]
    cbv
    cases h0
    exact fin_ok hX rfl ⟨[], _, _, ⟨rfl, rfl⟩, rfl, rfl, rfl, rfl, by cbv; try simp⟩
  · rw [hc1]
    cbv
    obtain ⟨l29, hv, h0⟩ := bindS h0
    refine call_is hO hX (fn_ref29_Set hO hv) (by kernel_rfl) [0] rfl ⟨rfl, rfl, trivial⟩ rfl ?_
    cbv
    cases h0
    exact fin_ok hX rfl ⟨[], _, _, ⟨rfl, rfl⟩, rfl, rfl, rfl, rfl, by cbv; try simp⟩
end Go.Proofs.YtmnhfaaaaejpaaaGreat
namespace Go.Proofs.YtmnhfaaaaejpaaaGreat
open Go.RowKit
set_option maxRecDepth 100000

set_option maxHeartbeats 40000000 in
theorem fn_ref29_Valid {O0 : Ops} (hO0 : O0 = std) {r_1 : Int} {r_2 : Int} {r_3 : Int} {r_4 : Int} {r_5 : Int} {r_6 : List Int} {r_7 : List Int} {r_8 : List Int} {r_9 : List Int} {r_10 : List (Int × Int)} {r_11 : List Int} {r_12 : List Int} {r_13 : List Int} {r_14 : List Int} {r1 : Bool} (h : m_ref29_Valid O0 r_1 r_2 r_3 r_4 r_5 r_6 r_7 r_8 r_9 r_10 r_11 r_12 r_13 r_14 = some r1) :
    Fn Tryz.prog 7 [.agg [.int .i64 r_1, .int .i64 r_2, .int .i64 r_3, .int .i64 r_4, .sl 0, .sl 1, .sl 2, .sl 3, .sl 4, .sl 5, .sl 6, .sl 7, .sl 8, .int .i64 r_5]] [.arr false .i1 r_6, .arr false .i1 r_7, .arr false .i1 r_8, .arr false .i1 r_9, .arr false .i2 r_10, .arr false .i1 r_11, .arr false .i1 r_12, .arr false .i1 r_13, .arr false .i1 r_14] (fun v c => v = .c (.bool r1) ∧ c = []) := by
  refine fn_run tab_holds eqs_holds mixed [(8, (.seg 1 [0, 1, 2, 4, 5, 8, 9] (.seg 2 [3] (.seg 2 [6] (.seg 1 [7] (.seg 2 [10] (.seg 1 [11, 12, 13] .fin)))))), [])] Tryz.func7 (by kernel_rfl) (by kernel_rfl) (Nat.le_of_ble_eq_true rfl) ?_
  intro O X hO hX
  rw [hO0, ← hO] at h
  unfold m_ref29_Valid at h
  have h0 := h; clear h
  cbv
  obtain ⟨x125, h1, h0⟩ := bindS h0
  rcases condS h1 with ⟨hc1, h1⟩ | ⟨hc1, h1⟩
  · rw [hc1]
    cbv
    cases h1
    try dsimp only at h0
    replace h0 := condT h0 rfl
    cases h0
    exact fin_ok hX rfl ⟨[], _, _, ⟨rfl, rfl⟩, rfl, rfl, rfl, rfl, by cbv; try simp⟩
  · as_aux_lemma =>
    rw [hc1]
    cbv
    rcases condS h1 with ⟨hc2, h1⟩ | ⟨hc2, h1⟩
    · rw [hc2]
      cbv
      cases h1
      try dsimp only at h0
      replace h0 := condT h0 rfl
      cases h0
      exact fin_ok hX rfl ⟨[], _, _, ⟨rfl, rfl⟩, rfl, rfl, rfl, rfl, by cbv; try simp⟩
    · as_aux_lemma =>
      rw [hc2]
      cbv
      rcases condS h1 with ⟨hc3, h1⟩ | ⟨hc3, h1⟩
      · rw [hc3]
        cbv
        cases h1
        try dsimp only at h0
        replace h0 := condT h0 rfl
        cases h0
        exact fin_ok hX rfl ⟨[], _, _, ⟨rfl, rfl⟩, rfl, rfl, rfl, rfl, by cbv; try simp⟩
      · as_aux_lemma =>
        rw [hc3]
        cbv
        rcases condS h1 with ⟨hc4, h1⟩ | ⟨hc4, h1⟩
        · rw [hc4]
          cbv
          cases h1
          try dsimp only at h0
          replace h0 := condT h0 rfl
          cases h0
          exact fin_ok hX rfl ⟨[], _, _, ⟨rfl, rfl⟩, rfl, rfl, rfl, rfl, by cbv; try simp⟩
        · as_aux_lemma =>
          rw [hc4]
          cbv
          rcases condS h1 with ⟨hc5, h1⟩ | ⟨hc5, h1⟩
          · rw [hc5]
            cbv
            cases h1
            try dsimp only at h0
            replace h0 := condT h0 rfl
            cases h0
            exact fin_ok hX rfl ⟨[], _, _, ⟨rfl, rfl⟩, rfl, rfl, rfl, rfl, by cbv; try simp⟩
          · as_aux_lemma =>
            rw [hc5]
            cbv
            rcases condS h1 with ⟨hc6, h1⟩ | ⟨hc6, h1⟩
            · rw [hc6]
              cbv
              cases h1
              try dsimp only at h0
              replace h0 := condT h0 rfl
              cases h0
              exact fin_ok hX rfl ⟨[], _, _, ⟨rfl, rfl⟩, rfl, rfl, rfl, rfl, by cbv; try simp⟩
            · as_aux_lemma =>
              rw [hc6]
              cbv
              rcases condS h1 with ⟨hc7, h1⟩ | ⟨hc7, h1⟩
              · rw [hc7]
                cbv
                obtain ⟨b31, hv, h1⟩ := bindS h1
                refine call_is hO hX (fn_ref29_Local hO hv) (by kernel_rfl) [] rfl trivial rfl ?_
                cbv
                rcases condS h1 with ⟨hc8, h1⟩ | ⟨hc8, h1⟩
                · rw [hc8]
                  cbv
                  cases h1
                  try dsimp only at h0
                  replace h0 := condT h0 rfl
                  cases h0
                  exact fin_ok hX rfl ⟨[], _, _, ⟨rfl, rfl⟩, rfl, rfl, rfl, rfl, by cbv; try simp⟩
                · rw [hc8]
                  cbv
                  rcases condS h1 with ⟨hc9, h1⟩ | ⟨hc9, h1⟩
                  · rw [hc9]
                    cbv
                    cases h1
                    try dsimp only at h0
                    replace h0 := condT h0 rfl
                    cases h0
                    exact fin_ok hX rfl ⟨[], _, _, ⟨rfl, rfl⟩, rfl, rfl, rfl, rfl, by cbv; try simp⟩
                  · rw [hc9]
                    cbv
                    rcases condS h1 with ⟨hc10, h1⟩ | ⟨hc10, h1⟩
                    · rw [hc10]
                      cbv
                      cases h1
                      try dsimp only at h0
                      replace h0 := condT h0 rfl
                      cases h0
                      exact fin_ok hX rfl ⟨[], _, _, ⟨rfl, rfl⟩, rfl, rfl, rfl, rfl, by cbv; try simp⟩
                    · rw [hc10]
                      cbv
                      cases h1
                      try dsimp only at h0
                      rcases condS h0 with ⟨hc11, h0⟩ | ⟨hc11, h0⟩
                      · rw [hc11]
                        cbv
                        cases h0
                        exact fin_ok hX rfl ⟨[], _, _, ⟨rfl, rfl⟩, rfl, rfl, rfl, rfl, by cbv; try simp⟩
                      · rw [hc11]
                        cbv
                        obtain ⟨x137, h1, h0⟩ := bindS h0
                        obtain ⟨b32, hv, h1⟩ := bindS h1
                        refine call_is hO hX (fn_ref29_within hO hv) (by kernel_rfl) [0] rfl ⟨rfl, rfl, trivial⟩ rfl ?_
                        cbv
                        rcases condS h1 with ⟨hc12, h1⟩ | ⟨hc12, h1⟩
                        · rw [hc12]
                          cbv
                          cases h1
                          try dsimp only at h0
                          replace h0 := condT h0 rfl
                          cases h0
                          exact fin_ok hX rfl ⟨[], _, _, ⟨rfl, rfl⟩, rfl, rfl, rfl, rfl, by cbv; try simp⟩
                        · rw [hc12]
                          cbv
                          obtain ⟨b33, hv, h1⟩ := bindS h1
                          refine call_is hO hX (fn_ref29_within hO hv) (by kernel_rfl) [1] rfl ⟨rfl, rfl, trivial⟩ rfl ?_
                          cbv
                          rcases condS h1 with ⟨hc13, h1⟩ | ⟨hc13, h1⟩
                          · rw [hc13]
                            cbv
                            cases h1
                            try dsimp only at h0
                            replace h0 := condT h0 rfl
                            cases h0
                            exact fin_ok hX rfl ⟨[], _, _, ⟨rfl, rfl⟩, rfl, rfl, rfl, rfl, by cbv; try simp⟩
                          · rw [hc13]
                            cbv
                            obtain ⟨b34, hv, h1⟩ := bindS h1
                            refine call_is hO hX (fn_ref29_within hO hv) (by kernel_rfl) [2] rfl ⟨rfl, rfl, trivial⟩ rfl ?_
                            cbv
                            rcases condS h1 with ⟨hc14, h1⟩ | ⟨hc14, h1⟩
                            · rw [hc14]
                              cbv
                              cases h1
                              try dsimp only at h0
                              replace h0 := condT h0 rfl
                              cases h0
                              exact fin_ok hX rfl ⟨[], _, _, ⟨rfl, rfl⟩, rfl, rfl, rfl, rfl, by cbv; try simp⟩
                            · rw [hc14]
                              cbv
                              obtain ⟨b35, hv, h1⟩ := bindS h1
                              refine call_is hO hX (fn_ref29_within hO hv) (by kernel_rfl) [3] rfl ⟨rfl, rfl, trivial⟩ rfl ?_
                              cbv
                              rcases condS h1 with ⟨hc15, h1⟩ | ⟨hc15, h1⟩
                              · rw [hc15]
                                cbv
                                cases h1
                                try dsimp only at h0
                                replace h0 := condT h0 rfl
                                cases h0
                                exact fin_ok hX rfl ⟨[], _, _, ⟨rfl, rfl⟩, rfl, rfl, rfl, rfl, by cbv; try simp⟩
                              · rw [hc15]
                                cbv
                                obtain ⟨b36, hv, h1⟩ := bindS h1
                                refine call_is hO hX (fn_ref29_within hO hv) (by kernel_rfl) [5] rfl ⟨rfl, rfl, trivial⟩ rfl ?_
                                cbv
                                rcases condS h1 with ⟨hc16, h1⟩ | ⟨hc16, h1⟩
                                · rw [hc16]
                                  cbv
                                  cases h1
                                  try dsimp only at h0
                                  replace h0 := condT h0 rfl
                                  cases h0
                                  exact fin_ok hX rfl ⟨[], _, _, ⟨rfl, rfl⟩, rfl, rfl, rfl, rfl, by cbv; try simp⟩
                                · rw [hc16]
                                  cbv
                                  obtain ⟨b37, hv, h1⟩ := bindS h1
                                  refine call_is hO hX (fn_ref29_within hO hv) (by kernel_rfl) [6] rfl ⟨rfl, rfl, trivial⟩ rfl ?_
                                  cbv
                                  rcases condS h1 with ⟨hc17, h1⟩ | ⟨hc17, h1⟩
                                  · rw [hc17]
                                    cbv
                                    cases h1
                                    try dsimp only at h0
                                    replace h0 := condT h0 rfl
                                    cases h0
                                    exact fin_ok hX rfl ⟨[], _, _, ⟨rfl, rfl⟩, rfl, rfl, rfl, rfl, by cbv; try simp⟩
                                  · rw [hc17]
                                    cbv
                                    obtain ⟨b38, hv, h1⟩ := bindS h1
                                    refine call_is hO hX (fn_ref29_within hO hv) (by kernel_rfl) [7] rfl ⟨rfl, rfl, trivial⟩ rfl ?_
                                    cbv
                                    rcases condS h1 with ⟨hc18, h1⟩ | ⟨hc18, h1⟩
                                    · rw [hc18]
                                      cbv
                                      cases h1
                                      try dsimp only at h0
                                      replace h0 := condT h0 rfl
                                      cases h0
                                      exact fin_ok hX rfl ⟨[], _, _, ⟨rfl, rfl⟩, rfl, rfl, rfl, rfl, by cbv; try simp⟩
                                    · rw [hc18]
                                      cbv
                                      obtain ⟨b39, hv, h1⟩ := bindS h1
                                      refine call_is hO hX (fn_ref29_within hO hv) (by kernel_rfl) [8] rfl ⟨rfl, rfl, trivial⟩ rfl ?_
                                      cbv
                                      rcases condS h1 with ⟨hc19, h1⟩ | ⟨hc19, h1⟩
                                      · rw [hc19]
                                        cbv
                                        cases h1
                                        try dsimp only at h0
                                        replace h0 := condT h0 rfl
                                        cases h0
                                        exact fin_ok hX rfl ⟨[], _, _, ⟨rfl, rfl⟩, rfl, rfl, rfl, rfl, by cbv; try simp⟩
                                      · rw [hc19]
                                        cbv
                                        obtain ⟨b40, hv, h1⟩ := bindS h1
                                        refine call_is hO hX (fn_ref29_days hO hv) (by kernel_rfl) [0, 1, 2, 3, 4, 5, 6, 7, 8] rfl ⟨rfl, rfl, rfl, rfl, rfl, rfl, rfl, rfl, rfl, rfl, rfl, rfl, rfl, rfl, rfl, rfl, rfl, rfl, trivial⟩ rfl ?_
                                        cbv
                                        rcases condS h1 with ⟨hc20, h1⟩ | ⟨hc20, h1⟩
                                        · rw [hc20]
                                          cbv
                                          cases h1
                                          try dsimp only at h0
                                          replace h0 := condT h0 rfl
                                          cases h0
                                          exact fin_ok hX rfl ⟨[], _, _, ⟨rfl, rfl⟩, rfl, rfl, rfl, rfl, by cbv; try simp⟩
                                        · rw [hc20]
                                          cbv
                                          rcases condS h1 with ⟨hc21, h1⟩ | ⟨hc21, h1⟩
                                          · rw [hc21]
                                            cbv
                                            cases h1
                                            try dsimp only at h0
                                            rcases condS h0 with ⟨hc22, h0⟩ | ⟨hc22, h0⟩
                                            · rw [hc22]
                                              cbv
                                              cases h0
                                              exact fin_ok hX rfl ⟨[], _, _, ⟨rfl, rfl⟩, rfl, rfl, rfl, rfl, by cbv; try simp⟩
                                            · rw [hc22]
                                              cbv
                                              obtain ⟨hours2, h1, h0⟩ := bindS h0
                                              rcases condS h1 with ⟨hc23, h1⟩ | ⟨hc23, h1⟩
                                              · rw [hc23]
                                                cbv
                                                cases h1
                                                try dsimp only at h0
                                                obtain ⟨n62, hv, h0⟩ := bindS h0
                                                refine call_is hO hX (fn_ref29_number hO hv) (by kernel_rfl) [5] rfl ⟨rfl, rfl, trivial⟩ rfl ?_
                                                cbv
                                                obtain ⟨n63, hv, h0⟩ := bindS h0
                                                refine call_is hO hX (fn_ref29_number hO hv) (by kernel_rfl) [6] rfl ⟨rfl, rfl, trivial⟩ rfl ?_
                                                cbv
                                                obtain ⟨hg24, h0⟩ := grdS h0
                                                refine ⟨inr_of hO hg24, ?_⟩
                                                obtain ⟨n64, hv, h0⟩ := bindS h0
                                                refine call_is hO hX (fn_ref29_number hO hv) (by kernel_rfl) [7] rfl ⟨rfl, rfl, trivial⟩ rfl ?_
                                                cbv
                                                obtain ⟨hg25, h0⟩ := grdS h0
                                                refine ⟨inr_of hO hg25, ?_⟩
                                                cases h0
                                                exact fin_ok hX rfl ⟨[], _, _, ⟨rfl, rfl⟩, rfl, rfl, rfl, rfl, by cbv; try simp⟩
                                              · rw [hc23]
                                                cbv
                                                cases h1
                                                try dsimp only at h0
                                                obtain ⟨n62, hv, h0⟩ := bindS h0
                                                refine call_is hO hX (fn_ref29_number hO hv) (by kernel_rfl) [5] rfl ⟨rfl, rfl, trivial⟩ rfl ?_
                                                cbv
                                                obtain ⟨n63, hv, h0⟩ := bindS h0
                                                refine call_is hO hX (fn_ref29_number hO hv) (by kernel_rfl) [6] rfl ⟨rfl, rfl, trivial⟩ rfl ?_
                                                cbv
                                                obtain ⟨hg26, h0⟩ := grdS h0
                                                refine ⟨inr_of hO hg26, ?_⟩
                                                obtain ⟨n64, hv, h0⟩ := bindS h0
                                                refine call_is hO hX (fn_ref29_number hO hv) (by kernel_rfl) [7] rfl ⟨rfl, rfl, trivial⟩ rfl ?_
                                                cbv
                                                obtain ⟨hg27, h0⟩ := grdS h0
                                                refine ⟨inr_of hO hg27, ?_⟩
                                                cases h0
                                                exact fin_ok hX rfl ⟨[], _, _, ⟨rfl, rfl⟩, rfl, rfl, rfl, rfl, by cbv; try simp⟩
                                          · rw [hc21]
                                            cbv
                                            cases h1
                                            try dsimp only at h0
                                            replace h0 := condF h0 rfl
                                            obtain ⟨hours2, h1, h0⟩ := bindS h0
                                            rcases condS h1 with ⟨hc28, h1⟩ | ⟨hc28, h1⟩
                                            · rw [hc28]
                                              cbv
                                              cases h1
                                              try dsimp only at h0
                                              obtain ⟨n62, hv, h0⟩ := bindS h0
                                              refine call_is hO hX (fn_ref29_number hO hv) (by kernel_rfl) [5] rfl ⟨rfl, rfl, trivial⟩ rfl ?_
                                              cbv
                                              obtain ⟨n63, hv, h0⟩ := bindS h0
                                              refine call_is hO hX (fn_ref29_number hO hv) (by kernel_rfl) [6] rfl ⟨rfl, rfl, trivial⟩ rfl ?_
                                              cbv
                                              obtain ⟨hg29, h0⟩ := grdS h0
                                              refine ⟨inr_of hO hg29, ?_⟩
                                              obtain ⟨n64, hv, h0⟩ := bindS h0
                                              refine call_is hO hX (fn_ref29_number hO hv) (by kernel_rfl) [7] rfl ⟨rfl, rfl, trivial⟩ rfl ?_
                                              cbv
                                              obtain ⟨hg30, h0⟩ := grdS h0
                                              refine ⟨inr_of hO hg30, ?_⟩
                                              cases h0
                                              exact fin_ok hX rfl ⟨[], _, _, ⟨rfl, rfl⟩, rfl, rfl, rfl, rfl, by cbv; try simp⟩
                                            · rw [hc28]
                                              cbv
                                              cases h1
                                              try dsimp only at h0
                                              obtain ⟨n62, hv, h0⟩ := bindS h0
                                              refine call_is hO hX (fn_ref29_number hO hv) (by kernel_rfl) [5] rfl ⟨rfl, rfl, trivial⟩ rfl ?_
                                              cbv
                                              obtain ⟨n63, hv, h0⟩ := bindS h0
                                              refine call_is hO hX (fn_ref29_number hO hv) (by kernel_rfl) [6] rfl ⟨rfl, rfl, trivial⟩ rfl ?_
                                              cbv
                                              obtain ⟨hg31, h0⟩ := grdS h0
                                              refine ⟨inr_of hO hg31, ?_⟩
                                              obtain ⟨n64, hv, h0⟩ := bindS h0
                                              refine call_is hO hX (fn_ref29_number hO hv) (by kernel_rfl) [7] rfl ⟨rfl, rfl, trivial⟩ rfl ?_
                                              cbv
                                              obtain ⟨hg32, h0⟩ := grdS h0
                                              refine ⟨inr_of hO hg32, ?_⟩
                                              cases h0
                                              exact fin_ok hX rfl ⟨[], _, _, ⟨rfl, rfl⟩, rfl, rfl, rfl, rfl, by cbv; try simp⟩
              · rw [hc7]
                cbv
                rcases condS h1 with ⟨hc33, h1⟩ | ⟨hc33, h1⟩
                · rw [hc33]
                  cbv
                  cases h1
                  try dsimp only at h0
                  replace h0 := condT h0 rfl
                  cases h0
                  exact fin_ok hX rfl ⟨[], _, _, ⟨rfl, rfl⟩, rfl, rfl, rfl, rfl, by cbv; try simp⟩
                · rw [hc33]
                  cbv
                  cases h1
                  try dsimp only at h0
                  rcases condS h0 with ⟨hc34, h0⟩ | ⟨hc34, h0⟩
                  · rw [hc34]
                    cbv
                    cases h0
                    exact fin_ok hX rfl ⟨[], _, _, ⟨rfl, rfl⟩, rfl, rfl, rfl, rfl, by cbv; try simp⟩
                  · rw [hc34]
                    cbv
                    obtain ⟨x137, h1, h0⟩ := bindS h0
                    obtain ⟨b32, hv, h1⟩ := bindS h1
                    refine call_is hO hX (fn_ref29_within hO hv) (by kernel_rfl) [0] rfl ⟨rfl, rfl, trivial⟩ rfl ?_
                    cbv
                    rcases condS h1 with ⟨hc35, h1⟩ | ⟨hc35, h1⟩
                    · rw [hc35]
                      cbv
                      cases h1
                      try dsimp only at h0
                      replace h0 := condT h0 rfl
                      cases h0
                      exact fin_ok hX rfl ⟨[], _, _, ⟨rfl, rfl⟩, rfl, rfl, rfl, rfl, by cbv; try simp⟩
                    · rw [hc35]
                      cbv
                      obtain ⟨b33, hv, h1⟩ := bindS h1
                      refine call_is hO hX (fn_ref29_within hO hv) (by kernel_rfl) [1] rfl ⟨rfl, rfl, trivial⟩ rfl ?_
                      cbv
                      rcases condS h1 with ⟨hc36, h1⟩ | ⟨hc36, h1⟩
                      · rw [hc36]
                        cbv
                        cases h1
                        try dsimp only at h0
                        replace h0 := condT h0 rfl
                        cases h0
                        exact fin_ok hX rfl ⟨[], _, _, ⟨rfl, rfl⟩, rfl, rfl, rfl, rfl, by cbv; try simp⟩
                      · rw [hc36]
                        cbv
                        obtain ⟨b34, hv, h1⟩ := bindS h1
                        refine call_is hO hX (fn_ref29_within hO hv) (by kernel_rfl) [2] rfl ⟨rfl, rfl, trivial⟩ rfl ?_
                        cbv
                        rcases condS h1 with ⟨hc37, h1⟩ | ⟨hc37, h1⟩
                        · rw [hc37]
                          cbv
                          cases h1
                          try dsimp only at h0
                          replace h0 := condT h0 rfl
                          cases h0
                          exact fin_ok hX rfl ⟨[], _, _, ⟨rfl, rfl⟩, rfl, rfl, rfl, rfl, by cbv; try simp⟩
                        · rw [hc37]
                          cbv
                          obtain ⟨b35, hv, h1⟩ := bindS h1
                          refine call_is hO hX (fn_ref29_within hO hv) (by kernel_rfl) [3] rfl ⟨rfl, rfl, trivial⟩ rfl ?_
                          cbv
                          rcases condS h1 with ⟨hc38, h1⟩ | ⟨hc38, h1⟩
                          · rw [hc38]
                            cbv
                            cases h1
                            try dsimp only at h0
                            replace h0 := condT h0 rfl
                            cases h0
                            exact fin_ok hX rfl ⟨[], _, _, ⟨rfl, rfl⟩, rfl, rfl, rfl, rfl, by cbv; try simp⟩
                          · rw [hc38]
                            cbv
                            obtain ⟨b36, hv, h1⟩ := bindS h1
                            refine call_is hO hX (fn_ref29_within hO hv) (by kernel_rfl) [5] rfl ⟨rfl, rfl, trivial⟩ rfl ?_
                            cbv
                            rcases condS h1 with ⟨hc39, h1⟩ | ⟨hc39, h1⟩
                            · rw [hc39]
                              cbv
                              cases h1
                              try dsimp only at h0
                              replace h0 := condT h0 rfl
                              cases h0
                              exact fin_ok hX rfl ⟨[], _, _, ⟨rfl, rfl⟩, rfl, rfl, rfl, rfl, by cbv; try simp⟩
                            · rw [hc39]
                              cbv
                              obtain ⟨b37, hv, h1⟩ := bindS h1
                              refine call_is hO hX (fn_ref29_within hO hv) (by kernel_rfl) [6] rfl ⟨rfl, rfl, trivial⟩ rfl ?_
                              cbv
                              rcases condS h1 with ⟨hc40, h1⟩ | ⟨hc40, h1⟩
                              · rw [hc40]
                                cbv
                                cases h1
                                try dsimp only at h0
                                replace h0 := condT h0 rfl
                                cases h0
                                exact fin_ok hX rfl ⟨[], _, _, ⟨rfl, rfl⟩, rfl, rfl, rfl, rfl, by cbv; try simp⟩
                              · rw [hc40]
                                cbv
                                obtain ⟨b38, hv, h1⟩ := bindS h1
                                refine call_is hO hX (fn_ref29_within hO hv) (by kernel_rfl) [7] rfl ⟨rfl, rfl, trivial⟩ rfl ?_
                                cbv
                                rcases condS h1 with ⟨hc41, h1⟩ | ⟨hc41, h1⟩
                                · rw [hc41]
                                  cbv
                                  cases h1
                                  try dsimp only at h0
                                  replace h0 := condT h0 rfl
                                  cases h0
                                  exact fin_ok hX rfl ⟨[], _, _, ⟨rfl, rfl⟩, rfl, rfl, rfl, rfl, by cbv; try simp⟩
                                · rw [hc41]
                                  cbv
                                  obtain ⟨b39, hv, h1⟩ := bindS h1
                                  refine call_is hO hX (fn_ref29_within hO hv) (by kernel_rfl) [8] rfl ⟨rfl, rfl, trivial⟩ rfl ?_
                                  cbv
                                  rcases condS h1 with ⟨hc42, h1⟩ | ⟨hc42, h1⟩
                                  · rw [hc42]
                                    cbv
                                    cases h1
                                    try dsimp only at h0
                                    replace h0 := condT h0 rfl
                                    cases h0
                                    exact fin_ok hX rfl ⟨[], _, _, ⟨rfl, rfl⟩, rfl, rfl, rfl, rfl, by cbv; try simp⟩
                                  · rw [hc42]
                                    cbv
                                    obtain ⟨b40, hv, h1⟩ := bindS h1
                                    refine call_is hO hX (fn_ref29_days hO hv) (by kernel_rfl) [0, 1, 2, 3, 4, 5, 6, 7, 8] rfl ⟨rfl, rfl, rfl, rfl, rfl, rfl, rfl, rfl, rfl, rfl, rfl, rfl, rfl, rfl, rfl, rfl, rfl, rfl, trivial⟩ rfl ?_
                                    cbv
                                    rcases condS h1 with ⟨hc43, h1⟩ | ⟨hc43, h1⟩
                                    · rw [hc43]
                                      cbv
                                      cases h1
                                      try dsimp only at h0
                                      replace h0 := condT h0 rfl
                                      cases h0
                                      exact fin_ok hX rfl ⟨[], _, _, ⟨rfl, rfl⟩, rfl, rfl, rfl, rfl, by cbv; try simp⟩
                                    · rw [hc43]
                                      cbv
                                      rcases condS h1 with ⟨hc44, h1⟩ | ⟨hc44, h1⟩
                                      · rw [hc44]
                                        cbv
                                        cases h1
                                        try dsimp only at h0
                                        rcases condS h0 with ⟨hc45, h0⟩ | ⟨hc45, h0⟩
                                        · rw [hc45]
                                          cbv
                                          cases h0
                                          exact fin_ok hX rfl ⟨[], _, _, ⟨rfl, rfl⟩, rfl, rfl, rfl, rfl, by cbv; try simp⟩
                                        · rw [hc45]
                                          cbv
                                          obtain ⟨hours2, h1, h0⟩ := bindS h0
                                          rcases condS h1 with ⟨hc46, h1⟩ | ⟨hc46, h1⟩
                                          · rw [hc46]
                                            cbv
                                            cases h1
                                            try dsimp only at h0
                                            obtain ⟨n62, hv, h0⟩ := bindS h0
                                            refine call_is hO hX (fn_ref29_number hO hv) (by kernel_rfl) [5] rfl ⟨rfl, rfl, trivial⟩ rfl ?_
                                            cbv
                                            obtain ⟨n63, hv, h0⟩ := bindS h0
                                            refine call_is hO hX (fn_ref29_number hO hv) (by kernel_rfl) [6] rfl ⟨rfl, rfl, trivial⟩ rfl ?_
                                            cbv
                                            obtain ⟨hg47, h0⟩ := grdS h0
                                            refine ⟨inr_of hO hg47, ?_⟩
                                            obtain ⟨n64, hv, h0⟩ := bindS h0
                                            refine call_is hO hX (fn_ref29_number hO hv) (by kernel_rfl) [7] rfl ⟨rfl, rfl, trivial⟩ rfl ?_
                                            cbv
                                            obtain ⟨hg48, h0⟩ := grdS h0
                                            refine ⟨inr_of hO hg48, ?_⟩
                                            cases h0
                                            exact fin_ok hX rfl ⟨[], _, _, ⟨rfl, rfl⟩, rfl, rfl, rfl, rfl, by cbv; try simp⟩
                                          · rw [hc46]
                                            cbv
                                            cases h1
                                            try dsimp only at h0
                                            obtain ⟨n62, hv, h0⟩ := bindS h0
                                            refine call_is hO hX (fn_ref29_number hO hv) (by kernel_rfl) [5] rfl ⟨rfl, rfl, trivial⟩ rfl ?_
                                            cbv
                                            obtain ⟨n63, hv, h0⟩ := bindS h0
                                            refine call_is hO hX (fn_ref29_number hO hv) (by kernel_rfl) [6] rfl ⟨rfl, rfl, trivial⟩ rfl ?_
                                            cbv
                                            obtain ⟨hg49, h0⟩ := grdS h0
                                            refine ⟨inr_of hO hg49, ?_⟩
                                            obtain ⟨n64, hv, h0⟩ := bindS h0
                                            refine call_is hO hX (fn_ref29_number hO hv) (by kernel_rfl) [7] rfl ⟨rfl, rfl, trivial⟩ rfl ?_
                                            cbv
                                            obtain ⟨hg50, h0⟩ := grdS h0
                                            refine ⟨inr_of hO hg50, ?_⟩
                                            cases h0
                                            exact fin_ok hX rfl ⟨[], _, _, ⟨rfl, rfl⟩, rfl, rfl, rfl, rfl, by cbv; try simp⟩
                                      · rw [hc44]
                                        cbv
                                        cases h1
                                        try dsimp only at h0
                                        replace h0 := condF h0 rfl
                                        obtain ⟨hours2, h1, h0⟩ := bindS h0
                                        rcases condS h1 with ⟨hc51, h1⟩ | ⟨hc51, h1⟩
                                        · rw [hc51]
                                          cbv
                                          cases h1
                                          try dsimp only at h0
                                          obtain ⟨n62, hv, h0⟩ := bindS h0
                                          refine call_is hO hX (fn_ref29_number hO hv) (by kernel_rfl) [5] rfl ⟨rfl, rfl, trivial⟩ rfl ?_
                                          cbv
                                          obtain ⟨n63, hv, h0⟩ := bindS h0
                                          refine call_is hO hX (fn_ref29_number hO hv) (by kernel_rfl) [6] rfl ⟨rfl, rfl, trivial⟩ rfl ?_
                                          cbv
                                          obtain ⟨hg52, h0⟩ := grdS h0
                                          refine ⟨inr_of hO hg52, ?_⟩
                                          obtain ⟨n64, hv, h0⟩ := bindS h0
                                          refine call_is hO hX (fn_ref29_number hO hv) (by kernel_rfl) [7] rfl ⟨rfl, rfl, trivial⟩ rfl ?_
                                          cbv
                                          obtain ⟨hg53, h0⟩ := grdS h0
                                          refine ⟨inr_of hO hg53, ?_⟩
                                          cases h0
                                          exact fin_ok hX rfl ⟨[], _, _, ⟨rfl, rfl⟩, rfl, rfl, rfl, rfl, by cbv; try simp⟩
                                        · rw [hc51]
                                          cbv
                                          cases h1
                                          try dsimp only at h0
                                          obtain ⟨n62, hv, h0⟩ := bindS h0
                                          refine call_is hO hX (fn_ref29_number hO hv) (by kernel_rfl) [5] rfl ⟨rfl, rfl, trivial⟩ rfl ?_
                                          cbv
                                          obtain ⟨n63, hv, h0⟩ := bindS h0
                                          refine call_is hO hX (fn_ref29_number hO hv) (by kernel_rfl) [6] rfl ⟨rfl, rfl, trivial⟩ rfl ?_
                                          cbv
                                          obtain ⟨hg54, h0⟩ := grdS h0
                                          refine ⟨inr_of hO hg54, ?_⟩
                                          obtain ⟨n64, hv, h0⟩ := bindS h0
                                          refine call_is hO hX (fn_ref29_number hO hv) (by kernel_rfl) [7] rfl ⟨rfl, rfl, trivial⟩ rfl ?_
                                          cbv
                                          obtain ⟨hg55, h0⟩ := grdS h0
                                          refine ⟨inr_of hO hg55, ?_⟩
                                          cases h0
                                          exact fin_ok hX rfl ⟨[], _, _, ⟨rfl, rfl⟩, rfl, rfl, rfl, rfl, by cbv; try simp⟩
end Go.Proofs.YtmnhfaaaaejpaaaGreat
namespace Go.Proofs.YtmnhfaaaaejpaaaGreat
open Go.RowKit
set_option maxRecDepth 100000

set_option maxHeartbeats 40000000 in
theorem fn_law29_long {O0 : Ops} (hO0 : O0 = std) {r_1 : Int} {r_2 : Int} {r_3 : Int} {r_4 : Int} {r_5 : Int} {r_6 : List Int} {r_7 : List Int} {r_8 : List Int} {r_9 : List Int} {r_10 : List (Int × Int)} {r_11 : List Int} {r_12 : List Int} {r_13 : List Int} {r_14 : List Int} {r1 : Bool} (h : m_law29_long O0 r_1 r_2 r_3 r_4 r_5 r_6 r_7 r_8 r_9 r_10 r_11 r_12 r_13 r_14 = some r1) :
    Fn Tryz.prog 5 [.agg [.int .i64 r_1, .int .i64 r_2, .int .i64 r_3, .int .i64 r_4, .sl 0, .sl 1, .sl 2, .sl 3, .sl 4, .sl 5, .sl 6, .sl 7, .sl 8, .int .i64 r_5]] [.arr false .i1 r_6, .arr false .i1 r_7, .arr false .i1 r_8, .arr false .i1 r_9, .arr false .i2 r_10, .arr false .i1 r_11, .arr false .i1 r_12, .arr false .i1 r_13, .arr false .i1 r_14] (fun v c => v = .c (.bool r1) ∧ c = []) := by
  refine fn_run tab_holds eqs_holds mixed [] Tryz.func5 (by kernel_rfl) (by kernel_rfl) (Nat.le_of_ble_eq_true rfl) ?_
  intro O X hO hX
  rw [hO0, ← hO] at h
  unfold m_law29_long at h
  have h0 := h; clear h
  cbv
  obtain ⟨x147, h1, h0⟩ := bindS h0
  rcases condS h1 with ⟨hc1, h1⟩ | ⟨hc1, h1⟩
  · rw [hc1]
    cbv
    cases h1
    try dsimp only at h0
    cases h0
    exact fin_ok hX rfl ⟨[], _, _, ⟨rfl, rfl⟩, rfl, rfl, rfl, rfl, by cbv; try simp⟩
  · rw [hc1]
    cbv
    rcases condS h1 with ⟨hc2, h1⟩ | ⟨hc2, h1⟩
    · rw [hc2]
      cbv
      cases h1
      try dsimp only at h0
      cases h0
      exact fin_ok hX rfl ⟨[], _, _, ⟨rfl, rfl⟩, rfl, rfl, rfl, rfl, by cbv; try simp⟩
    · rw [hc2]
      cbv
      rcases condS h1 with ⟨hc3, h1⟩ | ⟨hc3, h1⟩
      · rw [hc3]
        cbv
        cases h1
        try dsimp only at h0
        cases h0
        exact fin_ok hX rfl ⟨[], _, _, ⟨rfl, rfl⟩, rfl, rfl, rfl, rfl, by cbv; try simp⟩
      · rw [hc3]
        cbv
        rcases condS h1 with ⟨hc4, h1⟩ | ⟨hc4, h1⟩
        · rw [hc4]
          cbv
          cases h1
          try dsimp only at h0
          cases h0
          exact fin_ok hX rfl ⟨[], _, _, ⟨rfl, rfl⟩, rfl, rfl, rfl, rfl, by cbv; try simp⟩
        · rw [hc4]
          cbv
          rcases condS h1 with ⟨hc5, h1⟩ | ⟨hc5, h1⟩
          · rw [hc5]
            cbv
            cases h1
            try dsimp only at h0
            cases h0
            exact fin_ok hX rfl ⟨[], _, _, ⟨rfl, rfl⟩, rfl, rfl, rfl, rfl, by cbv; try simp⟩
          · rw [hc5]
            cbv
            rcases condS h1 with ⟨hc6, h1⟩ | ⟨hc6, h1⟩
            · rw [hc6]
              cbv
              cases h1
              try dsimp only at h0
              cases h0
              exact fin_ok hX rfl ⟨[], _, _, ⟨rfl, rfl⟩, rfl, rfl, rfl, rfl, by cbv; try simp⟩
            · rw [hc6]
              cbv
              rcases condS h1 with ⟨hc7, h1⟩ | ⟨hc7, h1⟩
              · rw [hc7]
                cbv
                cases h1
                try dsimp only at h0
                cases h0
                exact fin_ok hX rfl ⟨[], _, _, ⟨rfl, rfl⟩, rfl, rfl, rfl, rfl, by cbv; try simp⟩
              · rw [hc7]
                cbv
                rcases condS h1 with ⟨hc8, h1⟩ | ⟨hc8, h1⟩
                · rw [hc8]
                  cbv
                  cases h1
                  try dsimp only at h0
                  cases h0
                  exact fin_ok hX rfl ⟨[], _, _, ⟨rfl, rfl⟩, rfl, rfl, rfl, rfl, by cbv; try simp⟩
                · rw [hc8]
                  cbv
                  cases h1
                  try dsimp only at h0
                  cases h0
                  exact fin_ok hX rfl ⟨[], _, _, ⟨rfl, rfl⟩, rfl, rfl, rfl, rfl, by cbv; try simp⟩
end Go.Proofs.YtmnhfaaaaejpaaaGreat
