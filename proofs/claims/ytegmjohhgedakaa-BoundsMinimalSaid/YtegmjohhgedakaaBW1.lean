/-
  The code does what its models say (printed by lift.py).
-/
import Derived.Test.YtegmjohhgedakaaBM
import Derived.Test.YtegmjohhgedakaaSrtB
import Derived.Test.YtegmjohhgedakaaBW0
namespace Go.Proofs.Ytegmjohhgedakaa
open Go.RowKit
set_option maxRecDepth 100000

set_option maxHeartbeats 40000000 in
theorem fn_bounds_Between {O0 : Ops} (hO0 : O0 = std) {n_1 : Int} {i_1 : Int} {j_1 : Int} {l_1 : List (Int × Int × Int)} {r1 : Int} {r2 : Int} {r3 : Int} (h : m_bounds_Between O0 n_1 i_1 j_1 l_1 = some (r1, r2, r3)) :
    Fn Try.prog 16 [.c (.int .i64 n_1), .c (.sl 0), .c (.int .i64 i_1), .c (.int .i64 j_1)] [.arr false .i3 l_1] (fun v c => v = .tup [.one (.int .i64 r1), .one (.int .i64 r2), .one (.int .i64 r3)] ∧ c = []) := by
  refine fn_run tab_holds eqs_holds mixed [(8, (.seg 1 [0, 1, 2, 3, 4, 5, 6, 7, 8, 9, 10, 11, 12, 13, 14, 15, 16, 17] .fin), [])] Try.func16 (by kernel_rfl) (by kernel_rfl) (Nat.le_of_ble_eq_true rfl) ?_
  intro O X hO hX
  rw [hO0, ← hO] at h
  unfold m_bounds_Between at h
  have h0 := h; clear h
  cbv
  obtain ⟨b4, hv, h0⟩ := bindS h0
  refine call_is hO hX (fn_bounds_Valid hO hv) (by kernel_rfl) [0] rfl ⟨rfl, rfl, trivial⟩ rfl ?_
  cbv
  rcases condS h0 with ⟨hc1, h0⟩ | ⟨hc1, h0⟩
  · rw [hc1]
    cbv
    cases h0
    exact fin_ok hX rfl ⟨[], _, _, ⟨rfl, rfl⟩, rfl, rfl, rfl, rfl, by cbv; try simp⟩
  · rw [hc1]
    cbv
    obtain ⟨x14, h1, h0⟩ := bindS h0
    rcases condS h1 with ⟨hc2, h1⟩ | ⟨hc2, h1⟩
    · rw [hc2]
      cbv
      cases h1
      try dsimp only at h0
      replace h0 := condT h0 rfl
      cases h0
      exact fin_ok hX rfl ⟨[], _, _, ⟨rfl, rfl⟩, rfl, rfl, rfl, rfl, by cbv; try simp⟩
    · rw [hc2]
      cbv
      rcases condS h1 with ⟨hc3, h1⟩ | ⟨hc3, h1⟩
      · rw [hc3]
        cbv
        cases h1
        try dsimp only at h0
        replace h0 := condT h0 rfl
        cases h0
        exact fin_ok hX rfl ⟨[], _, _, ⟨rfl, rfl⟩, rfl, rfl, rfl, rfl, by cbv; try simp⟩
      · rw [hc3]
        cbv
        rcases condS h1 with ⟨hc4, h1⟩ | ⟨hc4, h1⟩
        · rw [hc4]
          cbv
          cases h1
          try dsimp only at h0
          replace h0 := condT h0 rfl
          cases h0
          exact fin_ok hX rfl ⟨[], _, _, ⟨rfl, rfl⟩, rfl, rfl, rfl, rfl, by cbv; try simp⟩
        · rw [hc4]
          cbv
          cases h1
          try dsimp only at h0
          rcases condS h0 with ⟨hc5, h0⟩ | ⟨hc5, h0⟩
          · rw [hc5]
            cbv
            cases h0
            exact fin_ok hX rfl ⟨[], _, _, ⟨rfl, rfl⟩, rfl, rfl, rfl, rfl, by cbv; try simp⟩
          · rw [hc5]
            cbv
            obtain ⟨⟨l3, b8⟩, hv, h0⟩ := bindS h0
            try dsimp only at h0
            refine call_is hO hX (fn_bounds_tight hO hv) (by kernel_rfl) [0] rfl ⟨rfl, rfl, trivial⟩ rfl ?_
            cbv
            rcases condS h0 with ⟨hc6, h0⟩ | ⟨hc6, h0⟩
            · rw [hc6]
              cbv
              cases h0
              exact fin_ok hX rfl ⟨[], _, _, ⟨rfl, rfl⟩, rfl, rfl, rfl, rfl, by cbv; try simp⟩
            · rw [hc6]
              cbv
              obtain ⟨hg7, h0⟩ := grdS h0
              refine ⟨idx_of hO hg7, ?_⟩
              obtain ⟨hg8, h0⟩ := grdS h0
              refine ⟨kin_of hO hg8, ?_⟩
              obtain ⟨hg9, h0⟩ := grdS h0
              refine ⟨idx_of hO hg9, ?_⟩
              obtain ⟨hg10, h0⟩ := grdS h0
              refine ⟨kin_of hO hg10, ?_⟩
              obtain ⟨hg11, h0⟩ := grdS h0
              refine ⟨inr_of hO hg11, ?_⟩
              obtain ⟨hg12, h0⟩ := grdS h0
              refine ⟨idx_of hO hg12, ?_⟩
              obtain ⟨hg13, h0⟩ := grdS h0
              refine ⟨kin_of hO hg13, ?_⟩
              obtain ⟨hg14, h0⟩ := grdS h0
              refine ⟨idx_of hO hg14, ?_⟩
              obtain ⟨hg15, h0⟩ := grdS h0
              refine ⟨kin_of hO hg15, ?_⟩
              cases h0
              exact fin_ok hX rfl ⟨[], _, _, ⟨rfl, rfl⟩, rfl, rfl, rfl, rfl, by cbv; try simp⟩
set_option maxHeartbeats 40000000 in
theorem fn_bounds_Tight {O0 : Ops} (hO0 : O0 = std) {n_1 : Int} {l_1 : List (Int × Int × Int)} {r1 : List (List Int)} {r2 : Int} (h : m_bounds_Tight O0 n_1 l_1 = some (r1, r2)) :
    Fn Try.prog 18 [.c (.int .i64 n_1), .c (.sl 0)] [.arr false .i3 l_1] (fun v c => v = .tup [.one (.sl 1), .one (.int .i64 r2)] ∧ c = [.mat true r1]) := by
  refine fn_run tab_holds eqs_holds mixed [] Try.func18 (by kernel_rfl) (by kernel_rfl) (Nat.le_of_ble_eq_true rfl) ?_
  intro O X hO hX
  rw [hO0, ← hO] at h
  unfold m_bounds_Tight at h
  have h0 := h; clear h
  cbv
  obtain ⟨b9, hv, h0⟩ := bindS h0
  refine call_is hO hX (fn_bounds_Valid hO hv) (by kernel_rfl) [0] rfl ⟨rfl, rfl, trivial⟩ rfl ?_
  cbv
  rcases condS h0 with ⟨hc1, h0⟩ | ⟨hc1, h0⟩
  · rw [hc1]
    cbv
    cases h0
    refine fin_frz hX 2 ?_
    cbv
    exact fin_ok hX rfl ⟨[2], _, _, ⟨rfl, rfl⟩, rfl, rfl, rfl, rfl, by cbv; try simp⟩
  · rw [hc1]
    cbv
    obtain ⟨⟨l4, b10⟩, hv, h0⟩ := bindS h0
    try dsimp only at h0
    refine call_is hO hX (fn_bounds_tight hO hv) (by kernel_rfl) [0] rfl ⟨rfl, rfl, trivial⟩ rfl ?_
    cbv
    rcases condS h0 with ⟨hc2, h0⟩ | ⟨hc2, h0⟩
    · rw [hc2]
      cbv
      cases h0
      refine fin_frz hX 3 ?_
      cbv
      exact fin_ok hX rfl ⟨[3], _, _, ⟨rfl, rfl⟩, rfl, rfl, rfl, rfl, by cbv; try simp⟩
    · rw [hc2]
      cbv
      cases h0
      exact fin_ok hX rfl ⟨[2], _, _, ⟨rfl, rfl⟩, rfl, rfl, rfl, rfl, by cbv; try simp⟩
set_option maxHeartbeats 40000000 in
theorem fn_bounds_Earliest {O0 : Ops} (hO0 : O0 = std) {n_1 : Int} {l_1 : List (Int × Int × Int)} {r1 : List Int} {r2 : Int} (h : m_bounds_Earliest O0 n_1 l_1 = some (r1, r2)) :
    Fn Try.prog 26 [.c (.int .i64 n_1), .c (.sl 0)] [.arr false .i3 l_1] (fun v c => v = .tup [.one (.sl 1), .one (.int .i64 r2)] ∧ c = [.own 3 .i1 r1]) := by
  refine fn_run tab_holds eqs_holds mixed [] Try.func26 (by kernel_rfl) (by kernel_rfl) (Nat.le_of_ble_eq_true rfl) ?_
  intro O X hO hX
  rw [hO0, ← hO] at h
  unfold m_bounds_Earliest at h
  have h0 := h; clear h
  cbv
  obtain ⟨⟨l5, n17⟩, hv, h0⟩ := bindS h0
  try dsimp only at h0
  refine call_is hO hX (fn_bounds_Tight hO hv) (by kernel_rfl) [0] rfl ⟨rfl, rfl, trivial⟩ rfl ?_
  cbv
  rcases condS h0 with ⟨hc1, h0⟩ | ⟨hc1, h0⟩
  · rw [hc1]
    cbv
    cases h0
    exact fin_ok hX rfl ⟨[3], _, _, ⟨rfl, rfl⟩, rfl, rfl, rfl, rfl, by cbv; try simp⟩
  · rw [hc1]
    cbv
    obtain ⟨hg2, h0⟩ := grdS h0
    refine ⟨rng_of hO hg2, ?_⟩
    refine ⟨rng_of hO hg2, ?_⟩
    obtain ⟨hg3, h0⟩ := grdS h0
    refine ⟨room_of hO hg3, ?_⟩
    obtain ⟨e1, hi, h0⟩ := bindS h0
    obtain ⟨I1, hI1, hi⟩ := loopS hi
    refine loop1 tab_holds eqs_holds mixed [] hO hX I1 (fun y => [(10, .junk), (13, .junk), (14, .junk), (20, .junk), (22, .c (.int .i64 y.2.1))]) (fun y => [(3, .own 3 .i1 y.2.2)]) (fun y => y.1) _ (by kernel_rfl) hi (by cbv; try simp) ?_
    refine allp ?_
    intro n1
    refine allp ?_
    intro x41
    intro l6 hi
    cbv
    rw [hI1] at hi
    obtain ⟨n1, rfl, x1, h1, hi1⟩ := iterS hi
    unfold m_bounds_Earliest_L1 at h1
    try dsimp only at h1
    rcases condS h1 with ⟨hc4, h1⟩ | ⟨hc4, h1⟩
    · rw [hc4]
      cbv
      obtain ⟨hg5, h1⟩ := grdS h1
      refine ⟨idx_of hO hg5, ?_⟩
      obtain ⟨hg6, h1⟩ := grdS h1
      refine ⟨kin_of hO hg6, ?_⟩
      obtain ⟨hg7, h1⟩ := grdS h1
      refine ⟨idx_of hO hg7, ?_⟩
      obtain ⟨hg8, h1⟩ := grdS h1
      refine ⟨kin_of hO hg8, ?_⟩
      rcases condS h1 with ⟨hc9, h1⟩ | ⟨hc9, h1⟩
      · rw [hc9]
        cbv
        cases h1
        cases exitI hi1
        try dsimp only at h0
        cases h0
        exact fin_ok hX rfl ⟨[4], _, _, ⟨rfl, rfl⟩, rfl, rfl, rfl, rfl, by cbv; try simp⟩
      · rw [hc9]
        cbv
        refine ⟨idx_of hO hg5, ?_⟩
        refine ⟨kin_of hO hg6, ?_⟩
        refine ⟨idx_of hO hg7, ?_⟩
        refine ⟨kin_of hO hg8, ?_⟩
        obtain ⟨hg10, h1⟩ := grdS h1
        refine ⟨inr_of hO hg10, ?_⟩
        obtain ⟨hg11, h1⟩ := grdS h1
        refine ⟨idx_of hO hg11, ?_⟩
        obtain ⟨hg12, h1⟩ := grdS h1
        refine ⟨kin_of hO hg12, ?_⟩
        obtain ⟨hg13, h1⟩ := grdS h1
        refine ⟨inr_of hO hg13, ?_⟩
        cases h1
        exact ⟨_, [0, 1, 2, 3], nextI hI1 hi1, by cbv; try simp, by first | exact Nat.lt_succ_self _ | omega⟩
    · rw [hc4]
      cbv
      cases h1
      cases exitI hi1
      try dsimp only at h0
      cases h0
      exact fin_ok hX rfl ⟨[3], _, _, ⟨rfl, rfl⟩, rfl, rfl, rfl, rfl, by cbv; try simp⟩
set_option maxHeartbeats 40000000 in
theorem fn_bounds_cycle {O0 : Ops} (hO0 : O0 = std) {n_1 : Int} {l_1 : List (Int × Int × Int)} {e : ((Unit) ⊕ (List Int))} (h : m_bounds_cycle O0 n_1 l_1 = some e) :
    Fn Try.prog 42 [.c (.int .i64 n_1), .c (.sl 0)] [.arr false .i3 l_1] (fun v c => match e with | .inl _ => v = .c (.raw (.slice none 0 0)) ∧ c = [] | .inr (r1) => v = .c (.sl 1) ∧ c = [.own 3 .i1 r1]) := by
  refine fn_run tabn_holds eqsn_holds mixed [(10, (.seg 1 [0, 1, 2, 3, 4, 5, 6, 7, 8] .fin), []), (12, (.seg 0 [0, 1, 3, 4, 6, 7, 8] (.seg 1 [2] (.seg 0 [10] (.seg 1 [5, 9] (.seg 4 [11] (.seg 0 [12] (.seg 4 [13] (.seg 0 [14] .fin)))))))), [])] Try.func42 (by kernel_rfl) (by kernel_rfl) (Nat.le_of_ble_eq_true rfl) ?_
  intro O X hO hX
  rw [hO0, ← hO] at h
  unfold m_bounds_cycle at h
  have h0 := h; clear h
  cbv
  obtain ⟨hg1, h0⟩ := grdS h0
  refine ⟨rng_of hO hg1, ?_⟩
  refine ⟨rng_of hO hg1, ?_⟩
  obtain ⟨hg2, h0⟩ := grdS h0
  refine ⟨room_of hO hg2, ?_⟩
  obtain ⟨l9, hv, h0⟩ := bindS h0
  refine call_is hO hX (fn_rep_i1 hO hv) (by kernel_rfl) [2] rfl ⟨rfl, rfl, trivial⟩ rfl ?_
  cbv
  obtain ⟨⟨last18, l37⟩, hi, h0⟩ := bindS h0
  obtain ⟨I2, hI2, hi⟩ := loopS hi
  refine loop1 tabn_holds eqsn_holds mixed [(10, (.seg 1 [0, 1, 2, 3, 4, 5, 6, 7, 8] .fin), []), (12, (.seg 0 [0, 1, 3, 4, 6, 7, 8] (.seg 1 [2] (.seg 0 [10] (.seg 1 [5, 9] (.seg 4 [11] (.seg 0 [12] (.seg 4 [13] (.seg 0 [14] .fin)))))))), [])] hO hX I2 (fun y => [(15, .junk), (16, .junk), (18, .junk), (7, .c (.int .i64 y.2.1)), (20, .c (.int .i64 y.2.2.1))]) (fun y => [(1, .own 3 .i1 y.2.2.2.1), (3, .own 3 .i1 y.2.2.2.2)]) (fun y => y.1) _ (by kernel_rfl) hi (by cbv; try simp) ?_
  refine allp ?_
  intro n2
  refine allp ?_
  intro last9
  refine allp ?_
  intro x45
  refine allp ?_
  intro l22
  intro l23 hi
  cbv
  rw [hI2] at hi
  obtain ⟨n2, rfl, x2, h1, hi2⟩ := iterS hi
  unfold m_bounds_cycle_L2 at h1
  try dsimp only at h1
  rcases condS h1 with ⟨hc3, h1⟩ | ⟨hc3, h1⟩
  · rw [hc3]
    cbv
    obtain ⟨⟨last16, l34, l35⟩, hi, h1⟩ := bindS h1
    obtain ⟨I1, hI1, hi⟩ := loopS hi
    refine loop1 tabn_holds eqsn_holds mixed [(10, (.seg 1 [0, 1, 2, 3, 4, 5, 6, 7, 8] .fin), []), (12, (.seg 0 [0, 1, 3, 4, 6, 7, 8] (.seg 1 [2] (.seg 0 [10] (.seg 1 [5, 9] (.seg 4 [11] (.seg 0 [12] (.seg 4 [13] (.seg 0 [14] .fin)))))))), [])] hO hX I1 (fun y => [(7, .c (.int .i64 y.2.1)), (24, .c (.int .i64 y.2.2.1))]) (fun y => [(1, .own 3 .i1 y.2.2.2.1), (3, .own 3 .i1 y.2.2.2.2)]) (fun y => y.1) _ (by kernel_rfl) hi (by cbv; try simp) ?_
    refine allp ?_
    intro n1
    refine allp ?_
    intro last13
    refine allp ?_
    intro x47
    refine allp ?_
    intro l28
    intro l29 hi
    cbv
    rw [hI1] at hi
    obtain ⟨n1, rfl, x1, h2, hi1⟩ := iterS hi
    unfold m_bounds_cycle_L1 at h2
    try dsimp only at h2
    rcases condS h2 with ⟨hc4, h2⟩ | ⟨hc4, h2⟩
    · rw [hc4]
      cbv
      obtain ⟨hg5, h2⟩ := grdS h2
      refine ⟨idx_of hO hg5, ?_⟩
      obtain ⟨hg6, h2⟩ := grdS h2
      refine ⟨kin_of hO hg6, ?_⟩
      obtain ⟨hg7, h2⟩ := grdS h2
      refine ⟨idx_of hO hg7, ?_⟩
      obtain ⟨hg8, h2⟩ := grdS h2
      refine ⟨kin_of hO hg8, ?_⟩
      obtain ⟨hg9, h2⟩ := grdS h2
      refine ⟨inr_of hO hg9, ?_⟩
      obtain ⟨hg10, h2⟩ := grdS h2
      refine ⟨idx_of hO hg10, ?_⟩
      obtain ⟨hg11, h2⟩ := grdS h2
      refine ⟨kin_of hO hg11, ?_⟩
      obtain ⟨⟨last15, l32, l33⟩, h3, h2⟩ := bindS h2
      rcases condS h3 with ⟨hc12, h3⟩ | ⟨hc12, h3⟩
      · rw [hc12]
        cbv
        refine ⟨idx_of hO hg10, ?_⟩
        refine ⟨kin_of hO hg11, ?_⟩
        obtain ⟨hg13, h3⟩ := grdS h3
        refine ⟨idx_of hO hg13, ?_⟩
        obtain ⟨hg14, h3⟩ := grdS h3
        refine ⟨kin_of hO hg14, ?_⟩
        cases h3
        try dsimp only at h2
        obtain ⟨hg15, h2⟩ := grdS h2
        refine ⟨inr_of hO hg15, ?_⟩
        cases h2
        exact ⟨_, [0, 1, 2, 3], nextI hI1 hi1, by cbv; try simp, by first | exact Nat.lt_succ_self _ | omega⟩
      · rw [hc12]
        cbv
        cases h3
        try dsimp only at h2
        obtain ⟨hg16, h2⟩ := grdS h2
        refine ⟨inr_of hO hg16, ?_⟩
        cases h2
        exact ⟨_, [0, 1, 2, 3], nextI hI1 hi1, by cbv; try simp, by first | exact Nat.lt_succ_self _ | omega⟩
    · rw [hc4]
      cbv
      cases h2
      cases exitI hi1
      try dsimp only at h1
      rcases condS h1 with ⟨hc17, h1⟩ | ⟨hc17, h1⟩
      · rw [hc17]
        cbv
        cases h1
        cases exitI hi2
        try dsimp only at h0
        try (rw [hc17]; cbv)
        replace h0 := condT h0 hc17
        cases h0
        exact fin_ok hX rfl ⟨[], _, _, ⟨rfl, rfl⟩, rfl, rfl, rfl, rfl, by cbv; try simp⟩
      · rw [hc17]
        cbv
        obtain ⟨hg18, h1⟩ := grdS h1
        refine ⟨inr_of hO hg18, ?_⟩
        cases h1
        exact ⟨_, [0, 1, 2, 3], nextI hI2 hi2, by cbv; try simp, by first | exact Nat.lt_succ_self _ | omega⟩
  · rw [hc3]
    cbv
    cases h1
    cases exitI hi2
    try dsimp only at h0
    rcases condS h0 with ⟨hc19, h0⟩ | ⟨hc19, h0⟩
    · rw [hc19]
      cbv
      cases h0
      exact fin_ok hX rfl ⟨[], _, _, ⟨rfl, rfl⟩, rfl, rfl, rfl, rfl, by cbv; try simp⟩
    · rw [hc19]
      cbv
      obtain ⟨last20, hi, h0⟩ := bindS h0
      obtain ⟨I3, hI3, hi⟩ := loopS hi
      refine loop1 tabn_holds eqsn_holds mixed [(10, (.seg 1 [0, 1, 2, 3, 4, 5, 6, 7, 8] .fin), []), (12, (.seg 0 [0, 1, 3, 4, 6, 7, 8] (.seg 1 [2] (.seg 0 [10] (.seg 1 [5, 9] (.seg 4 [11] (.seg 0 [12] (.seg 4 [13] (.seg 0 [14] .fin)))))))), [])] hO hX I3 (fun y => [(5, .junk), (7, .c (.int .i64 y.2.1)), (63, .c (.int .i64 y.2.2))]) (fun _ => []) (fun y => y.1) _ (by kernel_rfl) hi (by cbv; try simp) ?_
      refine allp ?_
      intro n3
      refine allp ?_
      intro last19
      intro x48 hi
      cbv
      rw [hI3] at hi
      obtain ⟨n3, rfl, x3, h1, hi3⟩ := iterS hi
      unfold m_bounds_cycle_L3 at h1
      try dsimp only at h1
      rcases condS h1 with ⟨hc20, h1⟩ | ⟨hc20, h1⟩
      · rw [hc20]
        cbv
        obtain ⟨hg21, h1⟩ := grdS h1
        refine ⟨idx_of hO hg21, ?_⟩
        obtain ⟨hg22, h1⟩ := grdS h1
        refine ⟨kin_of hO hg22, ?_⟩
        obtain ⟨hg23, h1⟩ := grdS h1
        refine ⟨idx_of hO hg23, ?_⟩
        obtain ⟨hg24, h1⟩ := grdS h1
        refine ⟨kin_of hO hg24, ?_⟩
        obtain ⟨hg25, h1⟩ := grdS h1
        refine ⟨inr_of hO hg25, ?_⟩
        cases h1
        exact ⟨_, [0, 1, 2, 3], nextI hI3 hi3, by cbv; try simp, by first | exact Nat.lt_succ_self _ | omega⟩
      · rw [hc20]
        cbv
        cases h1
        cases exitI hi3
        try dsimp only at h0
        refine loop_nilS hO hX 3 .i1 11 rfl ?_
        cbv
        obtain ⟨l39, hi, h0⟩ := bindS h0
        obtain ⟨I4, hI4, hi⟩ := loopS hi
        refine loop1 tabn_holds eqsn_holds mixed [(10, (.seg 1 [0, 1, 2, 3, 4, 5, 6, 7, 8] .fin), []), (12, (.seg 0 [0, 1, 3, 4, 6, 7, 8] (.seg 1 [2] (.seg 0 [10] (.seg 1 [5, 9] (.seg 4 [11] (.seg 0 [12] (.seg 4 [13] (.seg 0 [14] .fin)))))))), [])] hO hX I4 (fun y => [(11, .c (.sl 4)), (12, .c (.int .i64 y.2.1))]) (fun y => [(4, .own 3 .i1 y.2.2)]) (fun y => y.1) _ (by kernel_rfl) hi (by cbv; try simp) ?_
        refine allp ?_
        intro n4
        refine allp ?_
        intro v3
        intro l38 hi
        cbv
        rw [hI4] at hi
        obtain ⟨n4, rfl, x4, h1, hi4⟩ := iterS hi
        unfold m_bounds_cycle_L4 at h1
        try dsimp only at h1
        obtain ⟨hg26, h1⟩ := grdS h1
        refine ⟨idx_of hO hg26, ?_⟩
        obtain ⟨hg27, h1⟩ := grdS h1
        refine ⟨kin_of hO hg27, ?_⟩
        obtain ⟨hg28, h1⟩ := grdS h1
        refine ⟨room_of hO hg28, ?_⟩
        obtain ⟨hg29, h1⟩ := grdS h1
        refine ⟨room_of hO hg29, ?_⟩
        obtain ⟨hg30, h1⟩ := grdS h1
        refine ⟨idx_of hO hg30, ?_⟩
        obtain ⟨hg31, h1⟩ := grdS h1
        refine ⟨kin_of hO hg31, ?_⟩
        rcases condS h1 with ⟨hc32, h1⟩ | ⟨hc32, h1⟩
        · rw [hc32]
          cbv
          cases h1
          cases exitI hi4
          try dsimp only at h0
          refine call_inline tab_holds eqs_holds mixed [(3, (.seg 1 [0, 1] (.seg 0 [2, 3] (.seg 1 [4, 5, 6, 7, 8, 9, 10, 11, 12] .fin))), [13, 14, 15])] hO hX (by kernel_rfl) Try.func56 (by kernel_rfl) (by kernel_rfl) rfl ?_
          intro X1 hX1 hF1
          cbv
          obtain ⟨hg33, h0⟩ := grdS h0
          refine ⟨inr_of hO hg33, ?_⟩
          obtain ⟨l41, hi, h0⟩ := bindS h0
          obtain ⟨I5, hI5, hi⟩ := loopS hi
          refine loop1 tab_holds eqs_holds mixed [(3, (.seg 1 [0, 1] (.seg 0 [2, 3] (.seg 1 [4, 5, 6, 7, 8, 9, 10, 11, 12] .fin))), [13, 14, 15])] hO hX1 I5 (fun y => [(2, .c (.int .i64 y.2.1)), (3, .c (.int .i64 y.2.2.1))]) (fun y => [(6, .own 3 .i1 y.2.2.2)]) (fun y => y.1) _ (by kernel_rfl) hi (by cbv; try simp) ?_
          refine allp ?_
          intro n5
          refine allp ?_
          intro i3
          refine allp ?_
          intro j2
          intro l40 hi
          cbv
          rw [hI5] at hi
          obtain ⟨n5, rfl, x5, h1, hi5⟩ := iterS hi
          unfold m_bounds_cycle_L5 at h1
          try dsimp only at h1
          rcases condS h1 with ⟨hc34, h1⟩ | ⟨hc34, h1⟩
          · rw [hc34]
            cbv
            obtain ⟨hg35, h1⟩ := grdS h1
            refine ⟨idx_of hO hg35, ?_⟩
            obtain ⟨hg36, h1⟩ := grdS h1
            refine ⟨kin_of hO hg36, ?_⟩
            obtain ⟨hg37, h1⟩ := grdS h1
            refine ⟨idx_of hO hg37, ?_⟩
            obtain ⟨hg38, h1⟩ := grdS h1
            refine ⟨kin_of hO hg38, ?_⟩
            refine ⟨idx_of hO hg37, ?_⟩
            refine ⟨kin_of hO hg38, ?_⟩
            obtain ⟨hg39, h1⟩ := grdS h1
            refine ⟨idx_of hO hg39, ?_⟩
            obtain ⟨hg40, h1⟩ := grdS h1
            refine ⟨kin_of hO hg40, ?_⟩
            obtain ⟨hg41, h1⟩ := grdS h1
            refine ⟨inr_of hO hg41, ?_⟩
            obtain ⟨hg42, h1⟩ := grdS h1
            refine ⟨inr_of hO hg42, ?_⟩
            cases h1
            exact ⟨_, [0, 1, 2, 3, 4, 5, 6], nextI hI5 hi5, by cbv; try simp, by first | exact Nat.lt_succ_self _ | omega⟩
          · rw [hc34]
            cbv
            cases h1
            cases exitI hi5
            try dsimp only at h0
            refine hF1 _ _ ?_
            cbv
            cases h0
            exact fin_ok hX rfl ⟨[6], _, _, ⟨rfl, rfl⟩, rfl, rfl, rfl, rfl, by cbv; try simp⟩
        · rw [hc32]
          cbv
          cases h1
          exact ⟨_, [0, 1, 2, 3, 6], nextI hI4 hi4, by cbv; try simp, by first | exact Nat.lt_succ_self _ | omega⟩
set_option maxHeartbeats 40000000 in
theorem fn_bounds_Cycle {O0 : Ops} (hO0 : O0 = std) {n_1 : Int} {l_1 : List (Int × Int × Int)} {r1 : List Int} {r2 : Int} (h : m_bounds_Cycle O0 n_1 l_1 = some (r1, r2)) :
    Fn Try.prog 14 [.c (.int .i64 n_1), .c (.sl 0)] [.arr false .i3 l_1] (fun v c => v = .tup [.one (.sl 1), .one (.int .i64 r2)] ∧ c = [.own 3 .i1 r1]) := by
  refine fn_run tab_holds eqs_holds mixed [] Try.func14 (by kernel_rfl) (by kernel_rfl) (Nat.le_of_ble_eq_true rfl) ?_
  intro O X hO hX
  rw [hO0, ← hO] at h
  unfold m_bounds_Cycle at h
  have h0 := h; clear h
  cbv
  obtain ⟨b11, hv, h0⟩ := bindS h0
  refine call_is hO hX (fn_bounds_Valid hO hv) (by kernel_rfl) [0] rfl ⟨rfl, rfl, trivial⟩ rfl ?_
  cbv
  rcases condS h0 with ⟨hc1, h0⟩ | ⟨hc1, h0⟩
  · rw [hc1]
    cbv
    cases h0
    exact fin_ok hX rfl ⟨[2], _, _, ⟨rfl, rfl⟩, rfl, rfl, rfl, rfl, by cbv; try simp⟩
  · rw [hc1]
    cbv
    obtain ⟨e1, h1, h0⟩ := bindS h0
    obtain ⟨e1, hv, h1⟩ := bindS h1
    rcases e1 with _ | l42
    · try dsimp only at h1
      refine call_is hO hX (fn_bounds_cycle hO hv) (by kernel_rfl) [0] rfl ⟨rfl, rfl, trivial⟩ rfl ?_
      cbv
      cases h1
      try dsimp only at h0
      cases h0
      exact fin_ok hX rfl ⟨[2], _, _, ⟨rfl, rfl⟩, rfl, rfl, rfl, rfl, by cbv; try simp⟩
    · try dsimp only at h1
      refine call_is hO hX (fn_bounds_cycle hO hv) (by kernel_rfl) [0] rfl ⟨rfl, rfl, trivial⟩ rfl ?_
      cbv
      cases h1
      try dsimp only at h0
      obtain ⟨hg2, h0⟩ := grdS h0
      refine ⟨nil_of hO hg2, ?_⟩
      cases h0
      exact fin_ok hX rfl ⟨[2], _, _, ⟨rfl, rfl⟩, rfl, rfl, rfl, rfl, by cbv; try simp⟩
set_option maxHeartbeats 40000000 in
theorem fn_slices_Equal {O0 : Ops} (hO0 : O0 = std) {s1_1 : List Int} {s2_1 : List Int} {r1 : Bool} (h : m_slices_Equal O0 s1_1 s2_1 = some r1) :
    Fn Try.prog 31 [.c (.sl 0), .c (.sl 1)] [.arr false .i1 s1_1, .arr false .i1 s2_1] (fun v c => v = .c (.bool r1) ∧ c = []) := by
  refine fn_run tab_holds eqs_holds mixed [(6, (.seg 1 [0, 1, 2, 3, 4, 5, 6, 7, 8] .fin), [])] Try.func31 (by kernel_rfl) (by kernel_rfl) (Nat.le_of_ble_eq_true rfl) ?_
  intro O X hO hX
  rw [hO0, ← hO] at h
  unfold m_slices_Equal at h
  have h0 := h; clear h
  cbv
  rcases condS h0 with ⟨hc1, h0⟩ | ⟨hc1, h0⟩
  · rw [hc1]
    cbv
    cases h0
    exact fin_ok hX rfl ⟨[], _, _, ⟨rfl, rfl⟩, rfl, rfl, rfl, rfl, by cbv; try simp⟩
  · rw [hc1]
    cbv
    obtain ⟨e1, hi, h0⟩ := bindS h0
    obtain ⟨I1, hI1, hi⟩ := loopS hi
    refine loop1 tab_holds eqs_holds mixed [(6, (.seg 1 [0, 1, 2, 3, 4, 5, 6, 7, 8] .fin), [])] hO hX I1 (fun y => [(13, .c (.int .i64 y.2))]) (fun _ => []) (fun y => y.1) _ (by kernel_rfl) hi (by cbv; try simp) ?_
    refine allp ?_
    intro n1
    intro x49 hi
    cbv
    rw [hI1] at hi
    obtain ⟨n1, rfl, x1, h1, hi1⟩ := iterS hi
    unfold m_slices_Equal_L1 at h1
    try dsimp only at h1
    rcases condS h1 with ⟨hc2, h1⟩ | ⟨hc2, h1⟩
    · rw [hc2]
      cbv
      obtain ⟨hg3, h1⟩ := grdS h1
      refine ⟨idx_of hO hg3, ?_⟩
      obtain ⟨hg4, h1⟩ := grdS h1
      refine ⟨kin_of hO hg4, ?_⟩
      obtain ⟨hg5, h1⟩ := grdS h1
      refine ⟨idx_of hO hg5, ?_⟩
      obtain ⟨hg6, h1⟩ := grdS h1
      refine ⟨kin_of hO hg6, ?_⟩
      rcases condS h1 with ⟨hc7, h1⟩ | ⟨hc7, h1⟩
      · rw [hc7]
        cbv
        cases h1
        cases exitI hi1
        try dsimp only at h0
        cases h0
        exact fin_ok hX rfl ⟨[], _, _, ⟨rfl, rfl⟩, rfl, rfl, rfl, rfl, by cbv; try simp⟩
      · rw [hc7]
        cbv
        obtain ⟨hg8, h1⟩ := grdS h1
        refine ⟨inr_of hO hg8, ?_⟩
        cases h1
        exact ⟨_, [0, 1], nextI hI1 hi1, by cbv; try simp, by first | exact Nat.lt_succ_self _ | omega⟩
    · rw [hc2]
      cbv
      cases h1
      cases exitI hi1
      try dsimp only at h0
      cases h0
      exact fin_ok hX rfl ⟨[], _, _, ⟨rfl, rfl⟩, rfl, rfl, rfl, rfl, by cbv; try simp⟩
set_option maxHeartbeats 40000000 in
theorem fn_law45_awake {O0 : Ops} (hO0 : O0 = std) {r1 : Bool} (h : m_law45_awake O0 = some r1) :
    Fn Try.prog 11 [] [] (fun v c => v = .c (.bool r1) ∧ c = []) := by
  refine fn_run tab_holds eqs_holds mixed [] Try.func11 (by kernel_rfl) (by kernel_rfl) (Nat.le_of_ble_eq_true rfl) ?_
  intro O X hO hX
  rw [hO0, ← hO] at h
  unfold m_law45_awake at h
  have h0 := h; clear h
  cbv
  obtain ⟨⟨n14, n15, n16⟩, hv, h0⟩ := bindS h0
  try dsimp only at h0
  refine call_is hO hX (fn_bounds_Between hO hv) (by kernel_rfl) [0] rfl ⟨rfl, rfl, trivial⟩ rfl ?_
  cbv
  obtain ⟨⟨l8, n18⟩, hv, h0⟩ := bindS h0
  try dsimp only at h0
  refine call_is hO hX (fn_bounds_Earliest hO hv) (by kernel_rfl) [0] rfl ⟨rfl, rfl, trivial⟩ rfl ?_
  cbv
  obtain ⟨hg1, h0⟩ := grdS h0
  refine ⟨room_of hO hg1, ?_⟩
  obtain ⟨hg2, h0⟩ := grdS h0
  refine ⟨room_of hO hg2, ?_⟩
  obtain ⟨⟨l44, n19⟩, hv, h0⟩ := bindS h0
  try dsimp only at h0
  refine call_is hO hX (fn_bounds_Cycle hO hv) (by kernel_rfl) [3] rfl ⟨rfl, rfl, trivial⟩ rfl ?_
  cbv
  obtain ⟨x56, h1, h0⟩ := bindS h0
  rcases condS h1 with ⟨hc3, h1⟩ | ⟨hc3, h1⟩
  · rw [hc3]
    cbv
    rcases condS h1 with ⟨hc4, h1⟩ | ⟨hc4, h1⟩
    · rw [hc4]
      cbv
      rcases condS h1 with ⟨hc5, h1⟩ | ⟨hc5, h1⟩
      · rw [hc5]
        cbv
        obtain ⟨b12, hv, h1⟩ := bindS h1
        refine call_is hO hX (fn_slices_Equal hO hv) (by kernel_rfl) [1, 5] rfl ⟨rfl, rfl, rfl, rfl, trivial⟩ rfl ?_
        cbv
        rcases condS h1 with ⟨hc6, h1⟩ | ⟨hc6, h1⟩
        · rw [hc6]
          cbv
          rcases condS h1 with ⟨hc7, h1⟩ | ⟨hc7, h1⟩
          · rw [hc7]
            cbv
            rcases condS h1 with ⟨hc8, h1⟩ | ⟨hc8, h1⟩
            · rw [hc8]
              cbv
              cases h1
              try dsimp only at h0
              cases h0
              exact fin_ok hX rfl ⟨[], _, _, ⟨rfl, rfl⟩, rfl, rfl, rfl, rfl, by cbv; try simp⟩
            · rw [hc8]
              cbv
              cases h1
              try dsimp only at h0
              cases h0
              exact fin_ok hX rfl ⟨[], _, _, ⟨rfl, rfl⟩, rfl, rfl, rfl, rfl, by cbv; try simp⟩
          · rw [hc7]
            cbv
            cases h1
            try dsimp only at h0
            cases h0
            exact fin_ok hX rfl ⟨[], _, _, ⟨rfl, rfl⟩, rfl, rfl, rfl, rfl, by cbv; try simp⟩
        · rw [hc6]
          cbv
          cases h1
          try dsimp only at h0
          cases h0
          exact fin_ok hX rfl ⟨[], _, _, ⟨rfl, rfl⟩, rfl, rfl, rfl, rfl, by cbv; try simp⟩
      · rw [hc5]
        cbv
        cases h1
        try dsimp only at h0
        cases h0
        exact fin_ok hX rfl ⟨[], _, _, ⟨rfl, rfl⟩, rfl, rfl, rfl, rfl, by cbv; try simp⟩
    · rw [hc4]
      cbv
      cases h1
      try dsimp only at h0
      cases h0
      exact fin_ok hX rfl ⟨[], _, _, ⟨rfl, rfl⟩, rfl, rfl, rfl, rfl, by cbv; try simp⟩
  · rw [hc3]
    cbv
    cases h1
    try dsimp only at h0
    cases h0
    exact fin_ok hX rfl ⟨[], _, _, ⟨rfl, rfl⟩, rfl, rfl, rfl, rfl, by cbv; try simp⟩
end Go.Proofs.Ytegmjohhgedakaa
