/-
  The code does what its models say (printed by lift.py).
-/
import Derived.Test.YtegmjohhgedakaaBM
import Derived.Test.YtegmjohhgedakaaSrtB
namespace Go.Proofs.Ytegmjohhgedakaa
open Go.RowKit
set_option maxRecDepth 100000

set_option maxHeartbeats 40000000 in
theorem fn_ref45_Same {O0 : Ops} (hO0 : O0 = std) {a_1 : List (List Int)} {b_1 : List (List Int)} {r1 : Bool} (h : m_ref45_Same O0 a_1 b_1 = some r1) :
    Fn Try.prog 21 [.c (.sl 0), .c (.sl 1)] [.mat false a_1, .mat false b_1] (fun v c => v = .c (.bool r1) ∧ c = []) := by
  refine fn_run tab_holds eqs_holds mixed [(6, (.seg 1 [0, 1, 2, 3, 4, 5, 6, 7, 8, 9, 10] .fin), []), (11, (.seg 1 [0, 1, 2, 3, 4, 5, 6, 7, 8, 9, 10, 11, 12, 13, 14] .fin), [])] Try.func21 (by kernel_rfl) (by kernel_rfl) (Nat.le_of_ble_eq_true rfl) ?_
  intro O X hO hX
  rw [hO0, ← hO] at h
  unfold m_ref45_Same at h
  have h0 := h; clear h
  cbv
  rcases condS h0 with ⟨hc1, h0⟩ | ⟨hc1, h0⟩
  · rw [hc1]
    cbv
    cases h0
    exact fin_ok hX rfl ⟨[], _, _, ⟨rfl, rfl⟩, rfl, rfl, rfl, rfl, by cbv; try simp⟩
  · rw [hc1]
    cbv
    obtain ⟨e1, hi, h0⟩ := bindS h0
    obtain ⟨I2, hI2, hi⟩ := loopS hi
    refine loop1 tab_holds eqs_holds mixed [(6, (.seg 1 [0, 1, 2, 3, 4, 5, 6, 7, 8, 9, 10] .fin), []), (11, (.seg 1 [0, 1, 2, 3, 4, 5, 6, 7, 8, 9, 10, 11, 12, 13, 14] .fin), [])] hO hX I2 (fun y => [(5, .c (.int .i64 y.2))]) (fun _ => []) (fun y => y.1) _ (by kernel_rfl) hi (by cbv; try simp) ?_
    refine allp ?_
    intro n2
    intro i13 hi
    cbv
    rw [hI2] at hi
    obtain ⟨n2, rfl, x2, h1, hi2⟩ := iterS hi
    unfold m_ref45_Same_L2 at h1
    try dsimp only at h1
    rcases condS h1 with ⟨hc2, h1⟩ | ⟨hc2, h1⟩
    · rw [hc2]
      cbv
      obtain ⟨hg3, h1⟩ := grdS h1
      refine ⟨idx_of hO hg3, ?_⟩
      obtain ⟨hg4, h1⟩ := grdS h1
      refine ⟨kin_of hO hg4, ?_⟩
      obtain ⟨hg5, h1⟩ := grdS h1
      refine ⟨idx_of hO hg5, ?_⟩
      obtain ⟨hg6, h1⟩ := grdS h1
      refine ⟨kin_of hO hg6, ?_⟩
      rcases condS h1 with ⟨hc7, h1⟩ | ⟨hc7, h1⟩
      · rw [hc7]
        cbv
        cases h1
        cases exitI hi2
        try dsimp only at h0
        cases h0
        exact fin_ok hX rfl ⟨[], _, _, ⟨rfl, rfl⟩, rfl, rfl, rfl, rfl, by cbv; try simp⟩
      · rw [hc7]
        cbv
        obtain ⟨e2, hi, h1⟩ := bindS h1
        obtain ⟨I1, hI1, hi⟩ := loopS hi
        refine loop1 tab_holds eqs_holds mixed [(6, (.seg 1 [0, 1, 2, 3, 4, 5, 6, 7, 8, 9, 10] .fin), []), (11, (.seg 1 [0, 1, 2, 3, 4, 5, 6, 7, 8, 9, 10, 11, 12, 13, 14] .fin), [])] hO hX I1 (fun y => [(6, .c (.int .i64 y.2))]) (fun _ => []) (fun y => y.1) _ (by kernel_rfl) hi (by cbv; try simp) ?_
        refine allp ?_
        intro n1
        intro j15 hi
        cbv
        rw [hI1] at hi
        obtain ⟨n1, rfl, x1, h2, hi1⟩ := iterS hi
        unfold m_ref45_Same_L1 at h2
        try dsimp only at h2
        refine ⟨idx_of hO hg3, ?_⟩
        refine ⟨kin_of hO hg4, ?_⟩
        rcases condS h2 with ⟨hc8, h2⟩ | ⟨hc8, h2⟩
        · rw [hc8]
          cbv
          refine ⟨idx_of hO hg3, ?_⟩
          refine ⟨kin_of hO hg4, ?_⟩
          obtain ⟨hg9, h2⟩ := grdS h2
          refine ⟨idx_of hO hg9, ?_⟩
          obtain ⟨hg10, h2⟩ := grdS h2
          refine ⟨kin_of hO hg10, ?_⟩
          refine ⟨idx_of hO hg5, ?_⟩
          refine ⟨kin_of hO hg6, ?_⟩
          obtain ⟨hg11, h2⟩ := grdS h2
          refine ⟨idx_of hO hg11, ?_⟩
          obtain ⟨hg12, h2⟩ := grdS h2
          refine ⟨kin_of hO hg12, ?_⟩
          rcases condS h2 with ⟨hc13, h2⟩ | ⟨hc13, h2⟩
          · rw [hc13]
            cbv
            cases h2
            cases exitI hi1
            try dsimp only at h1
            cases h1
            cases exitI hi2
            try dsimp only at h0
            cases h0
            exact fin_ok hX rfl ⟨[], _, _, ⟨rfl, rfl⟩, rfl, rfl, rfl, rfl, by cbv; try simp⟩
          · rw [hc13]
            cbv
            obtain ⟨hg14, h2⟩ := grdS h2
            refine ⟨inr_of hO hg14, ?_⟩
            cases h2
            exact ⟨_, [0, 1], nextI hI1 hi1, by cbv; try simp, by first | exact Nat.lt_succ_self _ | omega⟩
        · rw [hc8]
          cbv
          cases h2
          cases exitI hi1
          try dsimp only at h1
          obtain ⟨hg15, h1⟩ := grdS h1
          refine ⟨inr_of hO hg15, ?_⟩
          cases h1
          exact ⟨_, [0, 1], nextI hI2 hi2, by cbv; try simp, by first | exact Nat.lt_succ_self _ | omega⟩
    · rw [hc2]
      cbv
      cases h1
      cases exitI hi2
      try dsimp only at h0
      cases h0
      exact fin_ok hX rfl ⟨[], _, _, ⟨rfl, rfl⟩, rfl, rfl, rfl, rfl, by cbv; try simp⟩
end Go.Proofs.Ytegmjohhgedakaa
