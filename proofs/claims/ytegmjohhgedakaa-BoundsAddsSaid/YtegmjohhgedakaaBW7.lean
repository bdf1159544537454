/-
  The code does what its models say (printed by lift.py).
-/
import Derived.Test.YtegmjohhgedakaaBM
import Derived.Test.YtegmjohhgedakaaSrtB
namespace Go.Proofs.Ytegmjohhgedakaa
open Go.RowKit
set_option maxRecDepth 100000

set_option maxHeartbeats 40000000 in
theorem fn_ref45_Closed {O0 : Ops} (hO0 : O0 = std) {m_1 : List (List Int)} {r1 : Bool} (h : m_ref45_Closed O0 m_1 = some r1) :
    Fn Try.prog 22 [.c (.sl 0)] [.mat false m_1] (fun v c => v = .c (.bool r1) ∧ c = []) := by
  refine fn_run tab_holds eqs_holds mixed [(25, (.seg 1 [0, 1, 2, 3, 4, 5, 6, 7, 8, 9, 10, 11, 12, 13, 14, 15, 16, 17, 18, 19, 20, 21, 22, 23, 24, 25, 26, 27, 28, 29, 30, 31, 32, 33, 34, 35, 36, 37, 38, 39, 40, 41, 42] .fin), [])] Try.func22 (by kernel_rfl) (by kernel_rfl) (Nat.le_of_ble_eq_true rfl) ?_
  intro O X hO hX
  rw [hO0, ← hO] at h
  unfold m_ref45_Closed at h
  have h0 := h; clear h
  cbv
  obtain ⟨x89, h1, h0⟩ := bindS h0
  rcases condS h1 with ⟨hc1, h1⟩ | ⟨hc1, h1⟩
  · rw [hc1]
    cbv
    cases h1
    try dsimp only at h0
    replace h0 := condT h0 rfl
    cases h0
    exact fin_ok hX rfl ⟨[], _, _, ⟨rfl, rfl⟩, rfl, rfl, rfl, rfl, by cbv; try simp⟩
  · rw [hc1]
    cbv
    cases h1
    try dsimp only at h0
    rcases condS h0 with ⟨hc2, h0⟩ | ⟨hc2, h0⟩
    · rw [hc2]
      cbv
      cases h0
      exact fin_ok hX rfl ⟨[], _, _, ⟨rfl, rfl⟩, rfl, rfl, rfl, rfl, by cbv; try simp⟩
    · rw [hc2]
      cbv
      obtain ⟨e1, hi, h0⟩ := bindS h0
      obtain ⟨I2, hI2, hi⟩ := loopS hi
      refine loop1 tab_holds eqs_holds mixed [(25, (.seg 1 [0, 1, 2, 3, 4, 5, 6, 7, 8, 9, 10, 11, 12, 13, 14, 15, 16, 17, 18, 19, 20, 21, 22, 23, 24, 25, 26, 27, 28, 29, 30, 31, 32, 33, 34, 35, 36, 37, 38, 39, 40, 41, 42] .fin), [])] hO hX I2 (fun y => [(4, .c (.int .i64 y.2))]) (fun _ => []) (fun y => y.1) _ (by kernel_rfl) hi (by cbv; try simp) ?_
      refine allp ?_
      intro n2
      intro i14 hi
      cbv
      rw [hI2] at hi
      obtain ⟨n2, rfl, x2, h1, hi2⟩ := iterS hi
      unfold m_ref45_Closed_L2 at h1
      try dsimp only at h1
      rcases condS h1 with ⟨hc3, h1⟩ | ⟨hc3, h1⟩
      · rw [hc3]
        cbv
        obtain ⟨hg4, h1⟩ := grdS h1
        refine ⟨idx_of hO hg4, ?_⟩
        obtain ⟨hg5, h1⟩ := grdS h1
        refine ⟨kin_of hO hg5, ?_⟩
        rcases condS h1 with ⟨hc6, h1⟩ | ⟨hc6, h1⟩
        · rw [hc6]
          cbv
          cases h1
          cases exitI hi2
          try dsimp only at h0
          cases h0
          exact fin_ok hX rfl ⟨[], _, _, ⟨rfl, rfl⟩, rfl, rfl, rfl, rfl, by cbv; try simp⟩
        · rw [hc6]
          cbv
          obtain ⟨e2, hi, h1⟩ := bindS h1
          obtain ⟨I1, hI1, hi⟩ := loopS hi
          refine loop1 tab_holds eqs_holds mixed [(25, (.seg 1 [0, 1, 2, 3, 4, 5, 6, 7, 8, 9, 10, 11, 12, 13, 14, 15, 16, 17, 18, 19, 20, 21, 22, 23, 24, 25, 26, 27, 28, 29, 30, 31, 32, 33, 34, 35, 36, 37, 38, 39, 40, 41, 42] .fin), [])] hO hX I1 (fun y => [(5, .c (.int .i64 y.2))]) (fun _ => []) (fun y => y.1) _ (by kernel_rfl) hi (by cbv; try simp) ?_
          refine allp ?_
          intro n1
          intro j16 hi
          cbv
          rw [hI1] at hi
          obtain ⟨n1, rfl, x1, h2, hi1⟩ := iterS hi
          unfold m_ref45_Closed_L1 at h2
          try dsimp only at h2
          rcases condS h2 with ⟨hc7, h2⟩ | ⟨hc7, h2⟩
          · rw [hc7]
            cbv
            obtain ⟨x92, h3, h2⟩ := bindS h2
            rcases condS h3 with ⟨hc8, h3⟩ | ⟨hc8, h3⟩
            · rw [hc8]
              cbv
              rcases condS h3 with ⟨hc9, h3⟩ | ⟨hc9, h3⟩
              · rw [hc9]
                cbv
                refine ⟨idx_of hO hg4, ?_⟩
                refine ⟨kin_of hO hg5, ?_⟩
                obtain ⟨hg10, h3⟩ := grdS h3
                refine ⟨idx_of hO hg10, ?_⟩
                obtain ⟨hg11, h3⟩ := grdS h3
                refine ⟨kin_of hO hg11, ?_⟩
                cases h3
                try dsimp only at h2
                replace h2 := condT h2 rfl
                refine ⟨idx_of hO hg4, ?_⟩
                refine ⟨kin_of hO hg5, ?_⟩
                refine ⟨idx_of hO hg10, ?_⟩
                refine ⟨kin_of hO hg11, ?_⟩
                cases h2
                cases exitI hi1
                try dsimp only at h1
                cases h1
                cases exitI hi2
                try dsimp only at h0
                cases h0
                exact fin_ok hX rfl ⟨[], _, _, ⟨rfl, rfl⟩, rfl, rfl, rfl, rfl, by cbv; try simp⟩
              · rw [hc9]
                cbv
                refine ⟨idx_of hO hg4, ?_⟩
                refine ⟨kin_of hO hg5, ?_⟩
                obtain ⟨hg12, h3⟩ := grdS h3
                refine ⟨idx_of hO hg12, ?_⟩
                obtain ⟨hg13, h3⟩ := grdS h3
                refine ⟨kin_of hO hg13, ?_⟩
                cases h3
                try dsimp only at h2
                refine ⟨idx_of hO hg4, ?_⟩
                refine ⟨kin_of hO hg5, ?_⟩
                refine ⟨idx_of hO hg12, ?_⟩
                refine ⟨kin_of hO hg13, ?_⟩
                refine ⟨idx_of hO hg4, ?_⟩
                refine ⟨kin_of hO hg5, ?_⟩
                refine ⟨idx_of hO hg12, ?_⟩
                refine ⟨kin_of hO hg13, ?_⟩
                rcases condS h2 with ⟨hc14, h2⟩ | ⟨hc14, h2⟩
                · rw [hc14]
                  cbv
                  cases h2
                  cases exitI hi1
                  try dsimp only at h1
                  cases h1
                  cases exitI hi2
                  try dsimp only at h0
                  cases h0
                  exact fin_ok hX rfl ⟨[], _, _, ⟨rfl, rfl⟩, rfl, rfl, rfl, rfl, by cbv; try simp⟩
                · rw [hc14]
                  cbv
                  obtain ⟨hg15, h2⟩ := grdS h2
                  refine ⟨inr_of hO hg15, ?_⟩
                  cases h2
                  exact ⟨_, [0], nextI hI1 hi1, by cbv; try simp, by first | exact Nat.lt_succ_self _ | omega⟩
            · rw [hc8]
              cbv
              refine ⟨idx_of hO hg4, ?_⟩
              refine ⟨kin_of hO hg5, ?_⟩
              obtain ⟨hg16, h3⟩ := grdS h3
              refine ⟨idx_of hO hg16, ?_⟩
              obtain ⟨hg17, h3⟩ := grdS h3
              refine ⟨kin_of hO hg17, ?_⟩
              cases h3
              try dsimp only at h2
              replace h2 := condF h2 rfl
              obtain ⟨hg18, h2⟩ := grdS h2
              refine ⟨inr_of hO hg18, ?_⟩
              cases h2
              exact ⟨_, [0], nextI hI1 hi1, by cbv; try simp, by first | exact Nat.lt_succ_self _ | omega⟩
          · rw [hc7]
            cbv
            cases h2
            cases exitI hi1
            try dsimp only at h1
            refine ⟨idx_of hO hg4, ?_⟩
            refine ⟨kin_of hO hg5, ?_⟩
            obtain ⟨hg19, h1⟩ := grdS h1
            refine ⟨idx_of hO hg19, ?_⟩
            obtain ⟨hg20, h1⟩ := grdS h1
            refine ⟨kin_of hO hg20, ?_⟩
            rcases condS h1 with ⟨hc21, h1⟩ | ⟨hc21, h1⟩
            · rw [hc21]
              cbv
              cases h1
              cases exitI hi2
              try dsimp only at h0
              cases h0
              exact fin_ok hX rfl ⟨[], _, _, ⟨rfl, rfl⟩, rfl, rfl, rfl, rfl, by cbv; try simp⟩
            · rw [hc21]
              cbv
              obtain ⟨hg22, h1⟩ := grdS h1
              refine ⟨inr_of hO hg22, ?_⟩
              cases h1
              exact ⟨_, [0], nextI hI2 hi2, by cbv; try simp, by first | exact Nat.lt_succ_self _ | omega⟩
      · rw [hc3]
        cbv
        cases h1
        cases exitI hi2
        try dsimp only at h0
        obtain ⟨e1, hi, h0⟩ := bindS h0
        obtain ⟨I5, hI5, hi⟩ := loopS hi
        refine loop1 tab_holds eqs_holds mixed [(25, (.seg 1 [0, 1, 2, 3, 4, 5, 6, 7, 8, 9, 10, 11, 12, 13, 14, 15, 16, 17, 18, 19, 20, 21, 22, 23, 24, 25, 26, 27, 28, 29, 30, 31, 32, 33, 34, 35, 36, 37, 38, 39, 40, 41, 42] .fin), [])] hO hX I5 (fun y => [(6, .c (.int .i64 y.2))]) (fun _ => []) (fun y => y.1) _ (by kernel_rfl) hi (by cbv; try simp) ?_
        refine allp ?_
        intro n5
        intro i15 hi
        cbv
        rw [hI5] at hi
        obtain ⟨n5, rfl, x5, h1, hi5⟩ := iterS hi
        unfold m_ref45_Closed_L5 at h1
        try dsimp only at h1
        rcases condS h1 with ⟨hc23, h1⟩ | ⟨hc23, h1⟩
        · rw [hc23]
          cbv
          obtain ⟨e2, hi, h1⟩ := bindS h1
          obtain ⟨I4, hI4, hi⟩ := loopS hi
          refine loop1 tab_holds eqs_holds mixed [(25, (.seg 1 [0, 1, 2, 3, 4, 5, 6, 7, 8, 9, 10, 11, 12, 13, 14, 15, 16, 17, 18, 19, 20, 21, 22, 23, 24, 25, 26, 27, 28, 29, 30, 31, 32, 33, 34, 35, 36, 37, 38, 39, 40, 41, 42] .fin), [])] hO hX I4 (fun y => [(7, .c (.int .i64 y.2))]) (fun _ => []) (fun y => y.1) _ (by kernel_rfl) hi (by cbv; try simp) ?_
          refine allp ?_
          intro n4
          intro j17 hi
          cbv
          rw [hI4] at hi
          obtain ⟨n4, rfl, x4, h2, hi4⟩ := iterS hi
          unfold m_ref45_Closed_L4 at h2
          try dsimp only at h2
          rcases condS h2 with ⟨hc24, h2⟩ | ⟨hc24, h2⟩
          · rw [hc24]
            cbv
            obtain ⟨e3, hi, h2⟩ := bindS h2
            obtain ⟨I3, hI3, hi⟩ := loopS hi
            refine loop1 tab_holds eqs_holds mixed [(25, (.seg 1 [0, 1, 2, 3, 4, 5, 6, 7, 8, 9, 10, 11, 12, 13, 14, 15, 16, 17, 18, 19, 20, 21, 22, 23, 24, 25, 26, 27, 28, 29, 30, 31, 32, 33, 34, 35, 36, 37, 38, 39, 40, 41, 42] .fin), [])] hO hX I3 (fun y => [(8, .c (.int .i64 y.2))]) (fun _ => []) (fun y => y.1) _ (by kernel_rfl) hi (by cbv; try simp) ?_
            refine allp ?_
            intro n3
            intro k3 hi
            cbv
            rw [hI3] at hi
            obtain ⟨n3, rfl, x3, h3, hi3⟩ := iterS hi
            unfold m_ref45_Closed_L3 at h3
            try dsimp only at h3
            rcases condS h3 with ⟨hc25, h3⟩ | ⟨hc25, h3⟩
            · rw [hc25]
              cbv
              obtain ⟨x95, h4, h3⟩ := bindS h3
              rcases condS h4 with ⟨hc26, h4⟩ | ⟨hc26, h4⟩
              · rw [hc26]
                cbv
                rcases condS h4 with ⟨hc27, h4⟩ | ⟨hc27, h4⟩
                · rw [hc27]
                  cbv
                  obtain ⟨hg28, h4⟩ := grdS h4
                  refine ⟨idx_of hO hg28, ?_⟩
                  obtain ⟨hg29, h4⟩ := grdS h4
                  refine ⟨kin_of hO hg29, ?_⟩
                  obtain ⟨hg30, h4⟩ := grdS h4
                  refine ⟨idx_of hO hg30, ?_⟩
                  obtain ⟨hg31, h4⟩ := grdS h4
                  refine ⟨kin_of hO hg31, ?_⟩
                  obtain ⟨hg32, h4⟩ := grdS h4
                  refine ⟨idx_of hO hg32, ?_⟩
                  obtain ⟨hg33, h4⟩ := grdS h4
                  refine ⟨kin_of hO hg33, ?_⟩
                  obtain ⟨hg34, h4⟩ := grdS h4
                  refine ⟨idx_of hO hg34, ?_⟩
                  obtain ⟨hg35, h4⟩ := grdS h4
                  refine ⟨kin_of hO hg35, ?_⟩
                  refine ⟨idx_of hO hg28, ?_⟩
                  refine ⟨kin_of hO hg29, ?_⟩
                  obtain ⟨hg36, h4⟩ := grdS h4
                  refine ⟨idx_of hO hg36, ?_⟩
                  obtain ⟨hg37, h4⟩ := grdS h4
                  refine ⟨kin_of hO hg37, ?_⟩
                  refine ⟨idx_of hO hg28, ?_⟩
                  refine ⟨kin_of hO hg29, ?_⟩
                  refine ⟨idx_of hO hg30, ?_⟩
                  refine ⟨kin_of hO hg31, ?_⟩
                  refine ⟨idx_of hO hg32, ?_⟩
                  refine ⟨kin_of hO hg33, ?_⟩
                  refine ⟨idx_of hO hg34, ?_⟩
                  refine ⟨kin_of hO hg35, ?_⟩
                  obtain ⟨hg38, h4⟩ := grdS h4
                  refine ⟨inr_of hO hg38, ?_⟩
                  cases h4
                  try dsimp only at h3
                  rcases condS h3 with ⟨hc39, h3⟩ | ⟨hc39, h3⟩
                  · rw [hc39]
                    cbv
                    cases h3
                    cases exitI hi3
                    try dsimp only at h2
                    cases h2
                    cases exitI hi4
                    try dsimp only at h1
                    cases h1
                    cases exitI hi5
                    try dsimp only at h0
                    cases h0
                    exact fin_ok hX rfl ⟨[], _, _, ⟨rfl, rfl⟩, rfl, rfl, rfl, rfl, by cbv; try simp⟩
                  · rw [hc39]
                    cbv
                    obtain ⟨hg40, h3⟩ := grdS h3
                    refine ⟨inr_of hO hg40, ?_⟩
                    cases h3
                    exact ⟨_, [0], nextI hI3 hi3, by cbv; try simp, by first | exact Nat.lt_succ_self _ | omega⟩
                · rw [hc27]
                  cbv
                  obtain ⟨hg41, h4⟩ := grdS h4
                  refine ⟨idx_of hO hg41, ?_⟩
                  obtain ⟨hg42, h4⟩ := grdS h4
                  refine ⟨kin_of hO hg42, ?_⟩
                  obtain ⟨hg43, h4⟩ := grdS h4
                  refine ⟨idx_of hO hg43, ?_⟩
                  obtain ⟨hg44, h4⟩ := grdS h4
                  refine ⟨kin_of hO hg44, ?_⟩
                  obtain ⟨hg45, h4⟩ := grdS h4
                  refine ⟨idx_of hO hg45, ?_⟩
                  obtain ⟨hg46, h4⟩ := grdS h4
                  refine ⟨kin_of hO hg46, ?_⟩
                  obtain ⟨hg47, h4⟩ := grdS h4
                  refine ⟨idx_of hO hg47, ?_⟩
                  obtain ⟨hg48, h4⟩ := grdS h4
                  refine ⟨kin_of hO hg48, ?_⟩
                  cases h4
                  try dsimp only at h3
                  replace h3 := condF h3 rfl
                  obtain ⟨hg49, h3⟩ := grdS h3
                  refine ⟨inr_of hO hg49, ?_⟩
                  cases h3
                  exact ⟨_, [0], nextI hI3 hi3, by cbv; try simp, by first | exact Nat.lt_succ_self _ | omega⟩
              · rw [hc26]
                cbv
                obtain ⟨hg50, h4⟩ := grdS h4
                refine ⟨idx_of hO hg50, ?_⟩
                obtain ⟨hg51, h4⟩ := grdS h4
                refine ⟨kin_of hO hg51, ?_⟩
                obtain ⟨hg52, h4⟩ := grdS h4
                refine ⟨idx_of hO hg52, ?_⟩
                obtain ⟨hg53, h4⟩ := grdS h4
                refine ⟨kin_of hO hg53, ?_⟩
                cases h4
                try dsimp only at h3
                replace h3 := condF h3 rfl
                obtain ⟨hg54, h3⟩ := grdS h3
                refine ⟨inr_of hO hg54, ?_⟩
                cases h3
                exact ⟨_, [0], nextI hI3 hi3, by cbv; try simp, by first | exact Nat.lt_succ_self _ | omega⟩
            · rw [hc25]
              cbv
              cases h3
              cases exitI hi3
              try dsimp only at h2
              obtain ⟨hg55, h2⟩ := grdS h2
              refine ⟨inr_of hO hg55, ?_⟩
              cases h2
              exact ⟨_, [0], nextI hI4 hi4, by cbv; try simp, by first | exact Nat.lt_succ_self _ | omega⟩
          · rw [hc24]
            cbv
            cases h2
            cases exitI hi4
            try dsimp only at h1
            obtain ⟨hg56, h1⟩ := grdS h1
            refine ⟨inr_of hO hg56, ?_⟩
            cases h1
            exact ⟨_, [0], nextI hI5 hi5, by cbv; try simp, by first | exact Nat.lt_succ_self _ | omega⟩
        · rw [hc23]
          cbv
          cases h1
          cases exitI hi5
          try dsimp only at h0
          cases h0
          exact fin_ok hX rfl ⟨[], _, _, ⟨rfl, rfl⟩, rfl, rfl, rfl, rfl, by cbv; try simp⟩
end Go.Proofs.Ytegmjohhgedakaa
