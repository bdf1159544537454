/-
  The code does what its models say (printed by lift.py).
-/
import Derived.Test.YtegmjohhgedakaaBM
import Derived.Test.YtegmjohhgedakaaSrtB
import Derived.Test.YtegmjohhgedakaaBW0
import Derived.Test.YtegmjohhgedakaaBW4
namespace Go.Proofs.Ytegmjohhgedakaa
open Go.RowKit
set_option maxRecDepth 100000

set_option maxHeartbeats 40000000 in
theorem fn_bounds_Latest {O0 : Ops} (hO0 : O0 = std) {n_1 : Int} {end_1 : Int} {l_1 : List (Int × Int × Int)} {r1 : List Int} {r2 : Int} (h : m_bounds_Latest O0 n_1 end_1 l_1 = some (r1, r2)) :
    Fn Try.prog 27 [.c (.int .i64 n_1), .c (.sl 0), .c (.int .i64 end_1)] [.arr false .i3 l_1] (fun v c => v = .tup [.one (.sl 1), .one (.int .i64 r2)] ∧ c = [.own 3 .i1 r1]) := by
  refine fn_run tab_holds eqs_holds mixed [] Try.func27 (by kernel_rfl) (by kernel_rfl) (Nat.le_of_ble_eq_true rfl) ?_
  intro O X hO hX
  rw [hO0, ← hO] at h
  unfold m_bounds_Latest at h
  have h0 := h; clear h
  cbv
  obtain ⟨b38, hv, h0⟩ := bindS h0
  refine call_is hO hX (fn_bounds_Valid hO hv) (by kernel_rfl) [0] rfl ⟨rfl, rfl, trivial⟩ rfl ?_
  cbv
  rcases condS h0 with ⟨hc1, h0⟩ | ⟨hc1, h0⟩
  · rw [hc1]
    cbv
    cases h0
    exact fin_ok hX rfl ⟨[2], _, _, ⟨rfl, rfl⟩, rfl, rfl, rfl, rfl, by cbv; try simp⟩
  · rw [hc1]
    cbv
    obtain ⟨x132, h1, h0⟩ := bindS h0
    rcases condS h1 with ⟨hc2, h1⟩ | ⟨hc2, h1⟩
    · rw [hc2]
      cbv
      cases h1
      try dsimp only at h0
      replace h0 := condT h0 rfl
      cases h0
      exact fin_ok hX rfl ⟨[2], _, _, ⟨rfl, rfl⟩, rfl, rfl, rfl, rfl, by cbv; try simp⟩
    · rw [hc2]
      cbv
      cases h1
      try dsimp only at h0
      rcases condS h0 with ⟨hc3, h0⟩ | ⟨hc3, h0⟩
      · rw [hc3]
        cbv
        cases h0
        exact fin_ok hX rfl ⟨[2], _, _, ⟨rfl, rfl⟩, rfl, rfl, rfl, rfl, by cbv; try simp⟩
      · rw [hc3]
        cbv
        obtain ⟨l57, hv, h0⟩ := bindS h0
        refine call_is hO hX (fn_clone_i3 hO hv) (by kernel_rfl) [0] rfl ⟨rfl, rfl, trivial⟩ rfl ?_
        cbv
        obtain ⟨l59, hi, h0⟩ := bindS h0
        obtain ⟨I1, hI1, hi⟩ := loopS hi
        refine loop1 tab_holds eqs_holds mixed [] hO hX I1 (fun y => [(6, .junk), (23, .junk), (8, .c (.sl 2)), (25, .c (.int .i64 y.2.1))]) (fun y => [(2, .own 32 .i3 y.2.2)]) (fun y => y.1) _ (by kernel_rfl) hi (by cbv; try simp) ?_
        refine allp ?_
        intro n1
        refine allp ?_
        intro x134
        intro l58 hi
        cbv
        rw [hI1] at hi
        obtain ⟨n1, rfl, x1, h1, hi1⟩ := iterS hi
        unfold m_bounds_Latest_L1 at h1
        try dsimp only at h1
        rcases condS h1 with ⟨hc4, h1⟩ | ⟨hc4, h1⟩
        · rw [hc4]
          cbv
          obtain ⟨hg5, h1⟩ := grdS h1
          refine ⟨room_of hO hg5, ?_⟩
          obtain ⟨hg6, h1⟩ := grdS h1
          refine ⟨room_of hO hg6, ?_⟩
          obtain ⟨hg7, h1⟩ := grdS h1
          refine ⟨inr_of hO hg7, ?_⟩
          cases h1
          exact ⟨_, [0, 1, 4], nextI hI1 hi1, by cbv; try simp, by first | exact Nat.lt_succ_self _ | omega⟩
        · rw [hc4]
          cbv
          cases h1
          cases exitI hi1
          try dsimp only at h0
          obtain ⟨⟨l60, b39⟩, hv, h0⟩ := bindS h0
          try dsimp only at h0
          refine call_is hO hX (fn_bounds_tight hO hv) (by kernel_rfl) [2] rfl ⟨rfl, rfl, trivial⟩ rfl ?_
          cbv
          rcases condS h0 with ⟨hc8, h0⟩ | ⟨hc8, h0⟩
          · rw [hc8]
            cbv
            cases h0
            exact fin_ok hX rfl ⟨[4], _, _, ⟨rfl, rfl⟩, rfl, rfl, rfl, rfl, by cbv; try simp⟩
          · rw [hc8]
            cbv
            obtain ⟨hg9, h0⟩ := grdS h0
            refine ⟨idx_of hO hg9, ?_⟩
            obtain ⟨hg10, h0⟩ := grdS h0
            refine ⟨kin_of hO hg10, ?_⟩
            obtain ⟨l61, hv, h0⟩ := bindS h0
            refine call_is hO hX (fn_clone_i1 hO hv) (by kernel_rfl) [4] rfl ⟨rfl, rfl, trivial⟩ rfl ?_
            cbv
            cases h0
            exact fin_ok hX rfl ⟨[5], _, _, ⟨rfl, rfl⟩, rfl, rfl, rfl, rfl, by cbv; try simp⟩
set_option maxHeartbeats 40000000 in
theorem fn_ref45_Holds {O0 : Ops} (hO0 : O0 = std) {l_1 : List (Int × Int × Int)} {at_1 : List Int} {r1 : Bool} (h : m_ref45_Holds O0 l_1 at_1 = some r1) :
    Fn Try.prog 29 [.c (.sl 0), .c (.sl 1)] [.arr false .i3 l_1, .arr false .i1 at_1] (fun v c => v = .c (.bool r1) ∧ c = []) := by
  refine fn_run tab_holds eqs_holds mixed [(11, (.seg 1 [0, 1, 2, 3, 4, 5, 6, 7, 8, 9, 10, 11, 12, 13, 14, 15, 16, 17, 18, 19, 20, 21, 22] .fin), [])] Try.func29 (by kernel_rfl) (by kernel_rfl) (Nat.le_of_ble_eq_true rfl) ?_
  intro O X hO hX
  rw [hO0, ← hO] at h
  unfold m_ref45_Holds at h
  have h0 := h; clear h
  cbv
  obtain ⟨b44, hv, h0⟩ := bindS h0
  refine call_is hO hX (fn_ref45_Valid hO hv) (by kernel_rfl) [0] rfl ⟨rfl, rfl, trivial⟩ rfl ?_
  cbv
  rcases condS h0 with ⟨hc1, h0⟩ | ⟨hc1, h0⟩
  · rw [hc1]
    cbv
    cases h0
    exact fin_ok hX rfl ⟨[], _, _, ⟨rfl, rfl⟩, rfl, rfl, rfl, rfl, by cbv; try simp⟩
  · rw [hc1]
    cbv
    obtain ⟨e1, hi, h0⟩ := bindS h0
    obtain ⟨I1, hI1, hi⟩ := loopS hi
    refine loop1 tab_holds eqs_holds mixed [(11, (.seg 1 [0, 1, 2, 3, 4, 5, 6, 7, 8, 9, 10, 11, 12, 13, 14, 15, 16, 17, 18, 19, 20, 21, 22] .fin), [])] hO hX I1 (fun y => [(5, .c (.int .i64 y.2))]) (fun _ => []) (fun y => y.1) _ (by kernel_rfl) hi (by cbv; try simp) ?_
    refine allp ?_
    intro n1
    intro i16 hi
    cbv
    rw [hI1] at hi
    obtain ⟨n1, rfl, x1, h1, hi1⟩ := iterS hi
    unfold m_ref45_Holds_L1 at h1
    try dsimp only at h1
    rcases condS h1 with ⟨hc2, h1⟩ | ⟨hc2, h1⟩
    · rw [hc2]
      cbv
      obtain ⟨x146, h2, h1⟩ := bindS h1
      rcases condS h2 with ⟨hc3, h2⟩ | ⟨hc3, h2⟩
      · rw [hc3]
        cbv
        obtain ⟨hg4, h2⟩ := grdS h2
        refine ⟨idx_of hO hg4, ?_⟩
        obtain ⟨hg5, h2⟩ := grdS h2
        refine ⟨kin_of hO hg5, ?_⟩
        cases h2
        try dsimp only at h1
        replace h1 := condT h1 rfl
        cases h1
        cases exitI hi1
        try dsimp only at h0
        cases h0
        exact fin_ok hX rfl ⟨[], _, _, ⟨rfl, rfl⟩, rfl, rfl, rfl, rfl, by cbv; try simp⟩
      · rw [hc3]
        cbv
        obtain ⟨hg6, h2⟩ := grdS h2
        refine ⟨idx_of hO hg6, ?_⟩
        obtain ⟨hg7, h2⟩ := grdS h2
        refine ⟨kin_of hO hg7, ?_⟩
        cases h2
        try dsimp only at h1
        refine ⟨idx_of hO hg6, ?_⟩
        refine ⟨kin_of hO hg7, ?_⟩
        rcases condS h1 with ⟨hc8, h1⟩ | ⟨hc8, h1⟩
        · rw [hc8]
          cbv
          cases h1
          cases exitI hi1
          try dsimp only at h0
          cases h0
          exact fin_ok hX rfl ⟨[], _, _, ⟨rfl, rfl⟩, rfl, rfl, rfl, rfl, by cbv; try simp⟩
        · rw [hc8]
          cbv
          obtain ⟨hg9, h1⟩ := grdS h1
          refine ⟨inr_of hO hg9, ?_⟩
          cases h1
          exact ⟨_, [0, 1], nextI hI1 hi1, by cbv; try simp, by first | exact Nat.lt_succ_self _ | omega⟩
    · rw [hc2]
      cbv
      cases h1
      cases exitI hi1
      try dsimp only at h0
      obtain ⟨e1, hi, h0⟩ := bindS h0
      obtain ⟨I2, hI2, hi⟩ := loopS hi
      refine loop1 tab_holds eqs_holds mixed [(11, (.seg 1 [0, 1, 2, 3, 4, 5, 6, 7, 8, 9, 10, 11, 12, 13, 14, 15, 16, 17, 18, 19, 20, 21, 22] .fin), [])] hO hX I2 (fun y => [(6, .c (.int .i64 y.2))]) (fun _ => []) (fun y => y.1) _ (by kernel_rfl) hi (by cbv; try simp) ?_
      refine allp ?_
      intro n2
      intro i17 hi
      cbv
      rw [hI2] at hi
      obtain ⟨n2, rfl, x2, h1, hi2⟩ := iterS hi
      unfold m_ref45_Holds_L2 at h1
      try dsimp only at h1
      rcases condS h1 with ⟨hc10, h1⟩ | ⟨hc10, h1⟩
      · rw [hc10]
        cbv
        obtain ⟨hg11, h1⟩ := grdS h1
        refine ⟨idx_of hO hg11, ?_⟩
        obtain ⟨hg12, h1⟩ := grdS h1
        refine ⟨kin_of hO hg12, ?_⟩
        obtain ⟨hg13, h1⟩ := grdS h1
        refine ⟨idx_of hO hg13, ?_⟩
        obtain ⟨hg14, h1⟩ := grdS h1
        refine ⟨kin_of hO hg14, ?_⟩
        refine ⟨idx_of hO hg11, ?_⟩
        refine ⟨kin_of hO hg12, ?_⟩
        obtain ⟨hg15, h1⟩ := grdS h1
        refine ⟨idx_of hO hg15, ?_⟩
        obtain ⟨hg16, h1⟩ := grdS h1
        refine ⟨kin_of hO hg16, ?_⟩
        obtain ⟨hg17, h1⟩ := grdS h1
        refine ⟨inr_of hO hg17, ?_⟩
        refine ⟨idx_of hO hg11, ?_⟩
        refine ⟨kin_of hO hg12, ?_⟩
        rcases condS h1 with ⟨hc18, h1⟩ | ⟨hc18, h1⟩
        · rw [hc18]
          cbv
          cases h1
          cases exitI hi2
          try dsimp only at h0
          cases h0
          exact fin_ok hX rfl ⟨[], _, _, ⟨rfl, rfl⟩, rfl, rfl, rfl, rfl, by cbv; try simp⟩
        · rw [hc18]
          cbv
          obtain ⟨hg19, h1⟩ := grdS h1
          refine ⟨inr_of hO hg19, ?_⟩
          cases h1
          exact ⟨_, [0, 1], nextI hI2 hi2, by cbv; try simp, by first | exact Nat.lt_succ_self _ | omega⟩
      · rw [hc10]
        cbv
        cases h1
        cases exitI hi2
        try dsimp only at h0
        cases h0
        exact fin_ok hX rfl ⟨[], _, _, ⟨rfl, rfl⟩, rfl, rfl, rfl, rfl, by cbv; try simp⟩
end Go.Proofs.Ytegmjohhgedakaa
