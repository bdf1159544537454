/-
  The code does what its models say (printed by lift.py).
-/
import Derived.Test.YtegmjohhgedakaaBM
import Derived.Test.YtegmjohhgedakaaSrtB
namespace Go.Proofs.Ytegmjohhgedakaa
open Go.RowKit
set_option maxRecDepth 100000

set_option maxHeartbeats 40000000 in
theorem fn_ref45_Valid {O0 : Ops} (hO0 : O0 = std) {n_1 : Int} {l_1 : List (Int × Int × Int)} {r1 : Bool} (h : m_ref45_Valid O0 n_1 l_1 = some r1) :
    Fn Try.prog 13 [.c (.int .i64 n_1), .c (.sl 0)] [.arr false .i3 l_1] (fun v c => v = .c (.bool r1) ∧ c = []) := by
  refine fn_run tab_holds eqs_holds mixed [] Try.func13 (by kernel_rfl) (by kernel_rfl) (Nat.le_of_ble_eq_true rfl) ?_
  intro O X hO hX
  rw [hO0, ← hO] at h
  unfold m_ref45_Valid at h
  have h0 := h; clear h
  cbv
  obtain ⟨x60, h1, h0⟩ := bindS h0
  rcases condS h1 with ⟨hc1, h1⟩ | ⟨hc1, h1⟩
  · rw [hc1]
    cbv
    cases h1
    try dsimp only at h0
    replace h0 := condT h0 rfl
    cases h0
    exact fin_ok hX rfl ⟨[], _, _, ⟨rfl, rfl⟩, rfl, rfl, rfl, rfl, by cbv; try simp⟩
  · rw [hc1]
    cbv
    rcases condS h1 with ⟨hc2, h1⟩ | ⟨hc2, h1⟩
    · rw [hc2]
      cbv
      cases h1
      try dsimp only at h0
      replace h0 := condT h0 rfl
      cases h0
      exact fin_ok hX rfl ⟨[], _, _, ⟨rfl, rfl⟩, rfl, rfl, rfl, rfl, by cbv; try simp⟩
    · rw [hc2]
      cbv
      cases h1
      try dsimp only at h0
      rcases condS h0 with ⟨hc3, h0⟩ | ⟨hc3, h0⟩
      · rw [hc3]
        cbv
        cases h0
        exact fin_ok hX rfl ⟨[], _, _, ⟨rfl, rfl⟩, rfl, rfl, rfl, rfl, by cbv; try simp⟩
      · rw [hc3]
        cbv
        obtain ⟨e1, hi, h0⟩ := bindS h0
        obtain ⟨I1, hI1, hi⟩ := loopS hi
        refine loop1 tab_holds eqs_holds mixed [] hO hX I1 (fun y => [(5, .c (.int .i64 y.2))]) (fun _ => []) (fun y => y.1) _ (by kernel_rfl) hi (by cbv; try simp) ?_
        refine allp ?_
        intro n1
        intro i4 hi
        cbv
        rw [hI1] at hi
        obtain ⟨n1, rfl, x1, h1, hi1⟩ := iterS hi
        unfold m_ref45_Valid_L1 at h1
        try dsimp only at h1
        rcases condS h1 with ⟨hc4, h1⟩ | ⟨hc4, h1⟩
        · rw [hc4]
          cbv
          obtain ⟨hg5, h1⟩ := grdS h1
          refine ⟨idx_of hO hg5, ?_⟩
          obtain ⟨hg6, h1⟩ := grdS h1
          refine ⟨kin_of hO hg6, ?_⟩
          obtain ⟨x62, h2, h1⟩ := bindS h1
          rcases condS h2 with ⟨hc7, h2⟩ | ⟨hc7, h2⟩
          · rw [hc7]
            cbv
            cases h2
            try dsimp only at h1
            replace h1 := condT h1 rfl
            cases h1
            cases exitI hi1
            try dsimp only at h0
            cases h0
            exact fin_ok hX rfl ⟨[], _, _, ⟨rfl, rfl⟩, rfl, rfl, rfl, rfl, by cbv; try simp⟩
          · rw [hc7]
            cbv
            rcases condS h2 with ⟨hc8, h2⟩ | ⟨hc8, h2⟩
            · rw [hc8]
              cbv
              cases h2
              try dsimp only at h1
              replace h1 := condT h1 rfl
              cases h1
              cases exitI hi1
              try dsimp only at h0
              cases h0
              exact fin_ok hX rfl ⟨[], _, _, ⟨rfl, rfl⟩, rfl, rfl, rfl, rfl, by cbv; try simp⟩
            · rw [hc8]
              cbv
              rcases condS h2 with ⟨hc9, h2⟩ | ⟨hc9, h2⟩
              · rw [hc9]
                cbv
                cases h2
                try dsimp only at h1
                replace h1 := condT h1 rfl
                cases h1
                cases exitI hi1
                try dsimp only at h0
                cases h0
                exact fin_ok hX rfl ⟨[], _, _, ⟨rfl, rfl⟩, rfl, rfl, rfl, rfl, by cbv; try simp⟩
              · rw [hc9]
                cbv
                rcases condS h2 with ⟨hc10, h2⟩ | ⟨hc10, h2⟩
                · rw [hc10]
                  cbv
                  cases h2
                  try dsimp only at h1
                  replace h1 := condT h1 rfl
                  cases h1
                  cases exitI hi1
                  try dsimp only at h0
                  cases h0
                  exact fin_ok hX rfl ⟨[], _, _, ⟨rfl, rfl⟩, rfl, rfl, rfl, rfl, by cbv; try simp⟩
                · rw [hc10]
                  cbv
                  rcases condS h2 with ⟨hc11, h2⟩ | ⟨hc11, h2⟩
                  · rw [hc11]
                    cbv
                    cases h2
                    try dsimp only at h1
                    replace h1 := condT h1 rfl
                    cases h1
                    cases exitI hi1
                    try dsimp only at h0
                    cases h0
                    exact fin_ok hX rfl ⟨[], _, _, ⟨rfl, rfl⟩, rfl, rfl, rfl, rfl, by cbv; try simp⟩
                  · rw [hc11]
                    cbv
                    cases h2
                    try dsimp only at h1
                    rcases condS h1 with ⟨hc12, h1⟩ | ⟨hc12, h1⟩
                    · rw [hc12]
                      cbv
                      cases h1
                      cases exitI hi1
                      try dsimp only at h0
                      cases h0
                      exact fin_ok hX rfl ⟨[], _, _, ⟨rfl, rfl⟩, rfl, rfl, rfl, rfl, by cbv; try simp⟩
                    · rw [hc12]
                      cbv
                      obtain ⟨hg13, h1⟩ := grdS h1
                      refine ⟨inr_of hO hg13, ?_⟩
                      cases h1
                      exact ⟨_, [0], nextI hI1 hi1, by cbv; try simp, by first | exact Nat.lt_succ_self _ | omega⟩
        · rw [hc4]
          cbv
          cases h1
          cases exitI hi1
          try dsimp only at h0
          cases h0
          exact fin_ok hX rfl ⟨[], _, _, ⟨rfl, rfl⟩, rfl, rfl, rfl, rfl, by cbv; try simp⟩
end Go.Proofs.Ytegmjohhgedakaa
