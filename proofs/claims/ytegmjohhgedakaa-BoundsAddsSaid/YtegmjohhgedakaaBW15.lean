/-
  The code does what its models say (printed by lift.py).
-/
import Derived.Test.YtegmjohhgedakaaBM
import Derived.Test.YtegmjohhgedakaaSrtB
import Derived.Test.YtegmjohhgedakaaBW0
namespace Go.Proofs.Ytegmjohhgedakaa
open Go.RowKit
set_option maxRecDepth 100000

set_option maxHeartbeats 40000000 in
theorem fn_law45_BoundsAdds_1 {O0 : Ops} (hO0 : O0 = std) {row_1 : List Int} {r1 : Bool} (h : m_law45_BoundsAdds_1 O0 row_1 = some r1) :
    Fn Try.prog 32 [.c (.sl 0)] [.arr false .i1 row_1] (fun v c => v = .c (.bool r1) ∧ c = []) := by
  refine fn_run tab_holds eqs_holds mixed [] Try.func32 (by kernel_rfl) (by kernel_rfl) (Nat.le_of_ble_eq_true rfl) ?_
  intro O X hO hX
  rw [hO0, ← hO] at h
  unfold m_law45_BoundsAdds_1 at h
  have h0 := h; clear h
  cbv
  cases h0
  exact fin_ok hX rfl ⟨[], _, _, ⟨rfl, rfl⟩, rfl, rfl, rfl, rfl, by cbv; try simp⟩
set_option maxHeartbeats 40000000 in
theorem fn_slices_IndexFunc_5 {O0 : Ops} (hO0 : O0 = std) {s_1 : List (List Int)} {r1 : Int} (h : m_slices_IndexFunc_5 O0 s_1 = some r1) :
    Fn Try.prog 47 [.c (.sl 0), .c (.fn 32 [])] [.mat false s_1] (fun v c => v = .c (.int .i64 r1) ∧ c = []) := by
  refine fn_run tab_holds eqs_holds mixed [] Try.func47 (by kernel_rfl) (by kernel_rfl) (Nat.le_of_ble_eq_true rfl) ?_
  intro O X hO hX
  rw [hO0, ← hO] at h
  unfold m_slices_IndexFunc_5 at h
  have h0 := h; clear h
  cbv
  obtain ⟨e1, hi, h0⟩ := bindS h0
  obtain ⟨I1, hI1, hi⟩ := loopS hi
  refine loop1 tab_holds eqs_holds mixed [] hO hX I1 (fun y => [(8, .c (.int .i64 y.2))]) (fun _ => []) (fun y => y.1) _ (by kernel_rfl) hi (by cbv; try simp) ?_
  refine allp ?_
  intro n1
  intro x174 hi
  cbv
  rw [hI1] at hi
  obtain ⟨n1, rfl, x1, h1, hi1⟩ := iterS hi
  unfold m_slices_IndexFunc_5_L1 at h1
  try dsimp only at h1
  rcases condS h1 with ⟨hc1, h1⟩ | ⟨hc1, h1⟩
  · rw [hc1]
    cbv
    obtain ⟨hg2, h1⟩ := grdS h1
    refine ⟨idx_of hO hg2, ?_⟩
    obtain ⟨hg3, h1⟩ := grdS h1
    refine ⟨kin_of hO hg3, ?_⟩
    obtain ⟨b56, hv, h1⟩ := bindS h1
    refine call_is hO hX (fn_law45_BoundsAdds_1 hO hv) (by kernel_rfl) [1] rfl ⟨rfl, rfl, trivial⟩ rfl ?_
    cbv
    rcases condS h1 with ⟨hc4, h1⟩ | ⟨hc4, h1⟩
    · rw [hc4]
      cbv
      cases h1
      cases exitI hi1
      try dsimp only at h0
      cases h0
      exact fin_ok hX rfl ⟨[], _, _, ⟨rfl, rfl⟩, rfl, rfl, rfl, rfl, by cbv; try simp⟩
    · rw [hc4]
      cbv
      obtain ⟨hg5, h1⟩ := grdS h1
      refine ⟨inr_of hO hg5, ?_⟩
      cases h1
      exact ⟨_, [0], nextI hI1 hi1, by cbv; try simp, by first | exact Nat.lt_succ_self _ | omega⟩
  · rw [hc1]
    cbv
    cases h1
    cases exitI hi1
    try dsimp only at h0
    cases h0
    exact fin_ok hX rfl ⟨[], _, _, ⟨rfl, rfl⟩, rfl, rfl, rfl, rfl, by cbv; try simp⟩
set_option maxHeartbeats 40000000 in
theorem fn_slices_ContainsFunc_5 {O0 : Ops} (hO0 : O0 = std) {s_1 : List (List Int)} {r1 : Bool} (h : m_slices_ContainsFunc_5 O0 s_1 = some r1) :
    Fn Try.prog 23 [.c (.sl 0), .c (.fn 32 [])] [.mat false s_1] (fun v c => v = .c (.bool r1) ∧ c = []) := by
  refine fn_run tab_holds eqs_holds mixed [] Try.func23 (by kernel_rfl) (by kernel_rfl) (Nat.le_of_ble_eq_true rfl) ?_
  intro O X hO hX
  rw [hO0, ← hO] at h
  unfold m_slices_ContainsFunc_5 at h
  have h0 := h; clear h
  cbv
  obtain ⟨n32, hv, h0⟩ := bindS h0
  refine call_is hO hX (fn_slices_IndexFunc_5 hO hv) (by kernel_rfl) [0] rfl ⟨rfl, rfl, trivial⟩ rfl ?_
  cbv
  cases h0
  exact fin_ok hX rfl ⟨[], _, _, ⟨rfl, rfl⟩, rfl, rfl, rfl, rfl, by cbv; try simp⟩
set_option maxHeartbeats 40000000 in
theorem fn_bounds_closed_1 {O0 : Ops} (hO0 : O0 = std) {x_1 : Int} {r1 : Bool} (h : m_bounds_closed_1 O0 x_1 = some r1) :
    Fn Try.prog 60 [.c (.int .i64 x_1)] [] (fun v c => v = .c (.bool r1) ∧ c = []) := by
  refine fn_run tab_holds eqs_holds mixed [] Try.func60 (by kernel_rfl) (by kernel_rfl) (Nat.le_of_ble_eq_true rfl) ?_
  intro O X hO hX
  rw [hO0, ← hO] at h
  unfold m_bounds_closed_1 at h
  have h0 := h; clear h
  cbv
  obtain ⟨x184, h1, h0⟩ := bindS h0
  rcases condS h1 with ⟨hc1, h1⟩ | ⟨hc1, h1⟩
  · rw [hc1]
    cbv
    rcases condS h1 with ⟨hc2, h1⟩ | ⟨hc2, h1⟩
    · rw [hc2]
      cbv
      cases h1
      try dsimp only at h0
      cases h0
      exact fin_ok hX rfl ⟨[], _, _, ⟨rfl, rfl⟩, rfl, rfl, rfl, rfl, by cbv; try simp⟩
    · rw [hc2]
      cbv
      cases h1
      try dsimp only at h0
      cases h0
      exact fin_ok hX rfl ⟨[], _, _, ⟨rfl, rfl⟩, rfl, rfl, rfl, rfl, by cbv; try simp⟩
  · rw [hc1]
    cbv
    cases h1
    try dsimp only at h0
    cases h0
    exact fin_ok hX rfl ⟨[], _, _, ⟨rfl, rfl⟩, rfl, rfl, rfl, rfl, by cbv; try simp⟩
set_option maxHeartbeats 40000000 in
theorem fn_slices_IndexFunc_6 {O0 : Ops} (hO0 : O0 = std) {s_1 : List Int} {r1 : Int} (h : m_slices_IndexFunc_6 O0 s_1 = some r1) :
    Fn Try.prog 62 [.c (.sl 0), .c (.fn 60 [])] [.arr false .i1 s_1] (fun v c => v = .c (.int .i64 r1) ∧ c = []) := by
  refine fn_run tab_holds eqs_holds mixed [] Try.func62 (by kernel_rfl) (by kernel_rfl) (Nat.le_of_ble_eq_true rfl) ?_
  intro O X hO hX
  rw [hO0, ← hO] at h
  unfold m_slices_IndexFunc_6 at h
  have h0 := h; clear h
  cbv
  obtain ⟨e1, hi, h0⟩ := bindS h0
  obtain ⟨I1, hI1, hi⟩ := loopS hi
  refine loop1 tab_holds eqs_holds mixed [] hO hX I1 (fun y => [(8, .c (.int .i64 y.2))]) (fun _ => []) (fun y => y.1) _ (by kernel_rfl) hi (by cbv; try simp) ?_
  refine allp ?_
  intro n1
  intro x181 hi
  cbv
  rw [hI1] at hi
  obtain ⟨n1, rfl, x1, h1, hi1⟩ := iterS hi
  unfold m_slices_IndexFunc_6_L1 at h1
  try dsimp only at h1
  rcases condS h1 with ⟨hc1, h1⟩ | ⟨hc1, h1⟩
  · rw [hc1]
    cbv
    obtain ⟨hg2, h1⟩ := grdS h1
    refine ⟨idx_of hO hg2, ?_⟩
    obtain ⟨hg3, h1⟩ := grdS h1
    refine ⟨kin_of hO hg3, ?_⟩
    obtain ⟨b59, hv, h1⟩ := bindS h1
    refine call_is hO hX (fn_bounds_closed_1 hO hv) (by kernel_rfl) [] rfl trivial rfl ?_
    cbv
    rcases condS h1 with ⟨hc4, h1⟩ | ⟨hc4, h1⟩
    · rw [hc4]
      cbv
      cases h1
      cases exitI hi1
      try dsimp only at h0
      cases h0
      exact fin_ok hX rfl ⟨[], _, _, ⟨rfl, rfl⟩, rfl, rfl, rfl, rfl, by cbv; try simp⟩
    · rw [hc4]
      cbv
      obtain ⟨hg5, h1⟩ := grdS h1
      refine ⟨inr_of hO hg5, ?_⟩
      cases h1
      exact ⟨_, [0], nextI hI1 hi1, by cbv; try simp, by first | exact Nat.lt_succ_self _ | omega⟩
  · rw [hc1]
    cbv
    cases h1
    cases exitI hi1
    try dsimp only at h0
    cases h0
    exact fin_ok hX rfl ⟨[], _, _, ⟨rfl, rfl⟩, rfl, rfl, rfl, rfl, by cbv; try simp⟩
set_option maxHeartbeats 40000000 in
theorem fn_slices_ContainsFunc_6 {O0 : Ops} (hO0 : O0 = std) {s_1 : List Int} {r1 : Bool} (h : m_slices_ContainsFunc_6 O0 s_1 = some r1) :
    Fn Try.prog 50 [.c (.sl 0), .c (.fn 60 [])] [.arr false .i1 s_1] (fun v c => v = .c (.bool r1) ∧ c = []) := by
  refine fn_run tab_holds eqs_holds mixed [] Try.func50 (by kernel_rfl) (by kernel_rfl) (Nat.le_of_ble_eq_true rfl) ?_
  intro O X hO hX
  rw [hO0, ← hO] at h
  unfold m_slices_ContainsFunc_6 at h
  have h0 := h; clear h
  cbv
  obtain ⟨n33, hv, h0⟩ := bindS h0
  refine call_is hO hX (fn_slices_IndexFunc_6 hO hv) (by kernel_rfl) [0] rfl ⟨rfl, rfl, trivial⟩ rfl ?_
  cbv
  cases h0
  exact fin_ok hX rfl ⟨[], _, _, ⟨rfl, rfl⟩, rfl, rfl, rfl, rfl, by cbv; try simp⟩
set_option maxHeartbeats 40000000 in
theorem fn_bounds_closed {O0 : Ops} (hO0 : O0 = std) {m_1 : List (List Int)} {r1 : Bool} (h : m_bounds_closed O0 m_1 = some r1) :
    Fn Try.prog 48 [.c (.sl 0)] [.mat false m_1] (fun v c => v = .c (.bool r1) ∧ c = []) := by
  refine fn_run tab_holds eqs_holds mixed [(19, (.seg 1 [0, 1, 2, 3, 4, 5, 6, 7, 8, 9, 10, 11, 12, 13, 14, 15, 16, 17, 18, 19, 20] (.seg 2 [21] (.seg 1 [22] .fin))), [])] Try.func48 (by kernel_rfl) (by kernel_rfl) (Nat.le_of_ble_eq_true rfl) ?_
  intro O X hO hX
  rw [hO0, ← hO] at h
  unfold m_bounds_closed at h
  have h0 := h; clear h
  cbv
  obtain ⟨x179, h1, h0⟩ := bindS h0
  rcases condS h1 with ⟨hc1, h1⟩ | ⟨hc1, h1⟩
  · rw [hc1]
    cbv
    cases h1
    try dsimp only at h0
    replace h0 := condT h0 rfl
    cases h0
    exact fin_ok hX rfl ⟨[], _, _, ⟨rfl, rfl⟩, rfl, rfl, rfl, rfl, by cbv; try simp⟩
  · rw [hc1]
    cbv
    cases h1
    try dsimp only at h0
    rcases condS h0 with ⟨hc2, h0⟩ | ⟨hc2, h0⟩
    · rw [hc2]
      cbv
      cases h0
      exact fin_ok hX rfl ⟨[], _, _, ⟨rfl, rfl⟩, rfl, rfl, rfl, rfl, by cbv; try simp⟩
    · rw [hc2]
      cbv
      obtain ⟨e1, hi, h0⟩ := bindS h0
      obtain ⟨I1, hI1, hi⟩ := loopS hi
      refine loop1 tab_holds eqs_holds mixed [(19, (.seg 1 [0, 1, 2, 3, 4, 5, 6, 7, 8, 9, 10, 11, 12, 13, 14, 15, 16, 17, 18, 19, 20] (.seg 2 [21] (.seg 1 [22] .fin))), [])] hO hX I1 (fun y => [(19, .c (.int .i64 y.2))]) (fun _ => []) (fun y => y.1) _ (by kernel_rfl) hi (by cbv; try simp) ?_
      refine allp ?_
      intro n1
      intro x180 hi
      cbv
      rw [hI1] at hi
      obtain ⟨n1, rfl, x1, h1, hi1⟩ := iterS hi
      unfold m_bounds_closed_L1 at h1
      try dsimp only at h1
      rcases condS h1 with ⟨hc3, h1⟩ | ⟨hc3, h1⟩
      · rw [hc3]
        cbv
        obtain ⟨hg4, h1⟩ := grdS h1
        refine ⟨idx_of hO hg4, ?_⟩
        obtain ⟨hg5, h1⟩ := grdS h1
        refine ⟨kin_of hO hg5, ?_⟩
        obtain ⟨x187, h2, h1⟩ := bindS h1
        rcases condS h2 with ⟨hc6, h2⟩ | ⟨hc6, h2⟩
        · rw [hc6]
          cbv
          cases h2
          try dsimp only at h1
          replace h1 := condT h1 rfl
          cases h1
          cases exitI hi1
          try dsimp only at h0
          cases h0
          exact fin_ok hX rfl ⟨[], _, _, ⟨rfl, rfl⟩, rfl, rfl, rfl, rfl, by cbv; try simp⟩
        · rw [hc6]
          cbv
          rcases condS h2 with ⟨hc7, h2⟩ | ⟨hc7, h2⟩
          · rw [hc7]
            cbv
            obtain ⟨hg8, h2⟩ := grdS h2
            refine ⟨idx_of hO hg8, ?_⟩
            obtain ⟨hg9, h2⟩ := grdS h2
            refine ⟨kin_of hO hg9, ?_⟩
            cases h2
            try dsimp only at h1
            replace h1 := condT h1 rfl
            cases h1
            cases exitI hi1
            try dsimp only at h0
            cases h0
            exact fin_ok hX rfl ⟨[], _, _, ⟨rfl, rfl⟩, rfl, rfl, rfl, rfl, by cbv; try simp⟩
          · rw [hc7]
            cbv
            obtain ⟨hg10, h2⟩ := grdS h2
            refine ⟨idx_of hO hg10, ?_⟩
            obtain ⟨hg11, h2⟩ := grdS h2
            refine ⟨kin_of hO hg11, ?_⟩
            obtain ⟨b60, hv, h2⟩ := bindS h2
            refine call_is hO hX (fn_slices_ContainsFunc_6 hO hv) (by kernel_rfl) [1] rfl ⟨rfl, rfl, trivial⟩ rfl ?_
            cbv
            cases h2
            try dsimp only at h1
            rcases condS h1 with ⟨hc12, h1⟩ | ⟨hc12, h1⟩
            · rw [hc12]
              cbv
              cases h1
              cases exitI hi1
              try dsimp only at h0
              cases h0
              exact fin_ok hX rfl ⟨[], _, _, ⟨rfl, rfl⟩, rfl, rfl, rfl, rfl, by cbv; try simp⟩
            · rw [hc12]
              cbv
              obtain ⟨hg13, h1⟩ := grdS h1
              refine ⟨inr_of hO hg13, ?_⟩
              cases h1
              exact ⟨_, [0], nextI hI1 hi1, by cbv; try simp, by first | exact Nat.lt_succ_self _ | omega⟩
      · rw [hc3]
        cbv
        cases h1
        cases exitI hi1
        try dsimp only at h0
        obtain ⟨e1, hi, h0⟩ := bindS h0
        obtain ⟨I4, hI4, hi⟩ := loopS hi
        refine loop1 tab_holds eqs_holds mixed [(19, (.seg 1 [0, 1, 2, 3, 4, 5, 6, 7, 8, 9, 10, 11, 12, 13, 14, 15, 16, 17, 18, 19, 20] (.seg 2 [21] (.seg 1 [22] .fin))), [])] hO hX I4 (fun y => [(41, .c (.int .i64 y.2))]) (fun _ => []) (fun y => y.1) _ (by kernel_rfl) hi (by cbv; try simp) ?_
        refine allp ?_
        intro n4
        intro x188 hi
        cbv
        rw [hI4] at hi
        obtain ⟨n4, rfl, x4, h1, hi4⟩ := iterS hi
        unfold m_bounds_closed_L4 at h1
        try dsimp only at h1
        rcases condS h1 with ⟨hc14, h1⟩ | ⟨hc14, h1⟩
        · rw [hc14]
          cbv
          obtain ⟨e2, hi, h1⟩ := bindS h1
          obtain ⟨I3, hI3, hi⟩ := loopS hi
          refine loop1 tab_holds eqs_holds mixed [(19, (.seg 1 [0, 1, 2, 3, 4, 5, 6, 7, 8, 9, 10, 11, 12, 13, 14, 15, 16, 17, 18, 19, 20] (.seg 2 [21] (.seg 1 [22] .fin))), [])] hO hX I3 (fun y => [(45, .c (.int .i64 y.2))]) (fun _ => []) (fun y => y.1) _ (by kernel_rfl) hi (by cbv; try simp) ?_
          refine allp ?_
          intro n3
          intro x189 hi
          cbv
          rw [hI3] at hi
          obtain ⟨n3, rfl, x3, h2, hi3⟩ := iterS hi
          unfold m_bounds_closed_L3 at h2
          try dsimp only at h2
          rcases condS h2 with ⟨hc15, h2⟩ | ⟨hc15, h2⟩
          · rw [hc15]
            cbv
            obtain ⟨e3, hi, h2⟩ := bindS h2
            obtain ⟨I2, hI2, hi⟩ := loopS hi
            refine loop1 tab_holds eqs_holds mixed [(19, (.seg 1 [0, 1, 2, 3, 4, 5, 6, 7, 8, 9, 10, 11, 12, 13, 14, 15, 16, 17, 18, 19, 20] (.seg 2 [21] (.seg 1 [22] .fin))), [])] hO hX I2 (fun y => [(49, .c (.int .i64 y.2))]) (fun _ => []) (fun y => y.1) _ (by kernel_rfl) hi (by cbv; try simp) ?_
            refine allp ?_
            intro n2
            intro x190 hi
            cbv
            rw [hI2] at hi
            obtain ⟨n2, rfl, x2, h3, hi2⟩ := iterS hi
            unfold m_bounds_closed_L2 at h3
            try dsimp only at h3
            rcases condS h3 with ⟨hc16, h3⟩ | ⟨hc16, h3⟩
            · rw [hc16]
              cbv
              obtain ⟨hg17, h3⟩ := grdS h3
              refine ⟨idx_of hO hg17, ?_⟩
              obtain ⟨hg18, h3⟩ := grdS h3
              refine ⟨kin_of hO hg18, ?_⟩
              obtain ⟨hg19, h3⟩ := grdS h3
              refine ⟨idx_of hO hg19, ?_⟩
              obtain ⟨hg20, h3⟩ := grdS h3
              refine ⟨kin_of hO hg20, ?_⟩
              refine ⟨idx_of hO hg17, ?_⟩
              refine ⟨kin_of hO hg18, ?_⟩
              obtain ⟨hg21, h3⟩ := grdS h3
              refine ⟨idx_of hO hg21, ?_⟩
              obtain ⟨hg22, h3⟩ := grdS h3
              refine ⟨kin_of hO hg22, ?_⟩
              obtain ⟨hg23, h3⟩ := grdS h3
              refine ⟨idx_of hO hg23, ?_⟩
              obtain ⟨hg24, h3⟩ := grdS h3
              refine ⟨kin_of hO hg24, ?_⟩
              obtain ⟨hg25, h3⟩ := grdS h3
              refine ⟨idx_of hO hg25, ?_⟩
              obtain ⟨hg26, h3⟩ := grdS h3
              refine ⟨kin_of hO hg26, ?_⟩
              obtain ⟨n34, hv, h3⟩ := bindS h3
              refine call_is hO hX (fn_bounds_plus hO hv) (by kernel_rfl) [] rfl trivial rfl ?_
              cbv
              rcases condS h3 with ⟨hc27, h3⟩ | ⟨hc27, h3⟩
              · rw [hc27]
                cbv
                cases h3
                cases exitI hi2
                try dsimp only at h2
                cases h2
                cases exitI hi3
                try dsimp only at h1
                cases h1
                cases exitI hi4
                try dsimp only at h0
                cases h0
                exact fin_ok hX rfl ⟨[], _, _, ⟨rfl, rfl⟩, rfl, rfl, rfl, rfl, by cbv; try simp⟩
              · rw [hc27]
                cbv
                obtain ⟨hg28, h3⟩ := grdS h3
                refine ⟨inr_of hO hg28, ?_⟩
                cases h3
                exact ⟨_, [0], nextI hI2 hi2, by cbv; try simp, by first | exact Nat.lt_succ_self _ | omega⟩
            · rw [hc16]
              cbv
              cases h3
              cases exitI hi2
              try dsimp only at h2
              obtain ⟨hg29, h2⟩ := grdS h2
              refine ⟨inr_of hO hg29, ?_⟩
              cases h2
              exact ⟨_, [0], nextI hI3 hi3, by cbv; try simp, by first | exact Nat.lt_succ_self _ | omega⟩
          · rw [hc15]
            cbv
            cases h2
            cases exitI hi3
            try dsimp only at h1
            obtain ⟨hg30, h1⟩ := grdS h1
            refine ⟨inr_of hO hg30, ?_⟩
            cases h1
            exact ⟨_, [0], nextI hI4 hi4, by cbv; try simp, by first | exact Nat.lt_succ_self _ | omega⟩
        · rw [hc14]
          cbv
          cases h1
          cases exitI hi4
          try dsimp only at h0
          cases h0
          exact fin_ok hX rfl ⟨[], _, _, ⟨rfl, rfl⟩, rfl, rfl, rfl, rfl, by cbv; try simp⟩
set_option maxHeartbeats 40000000 in
theorem fn_bounds_Add {O0 : Ops} (hO0 : O0 = std) {b_1 : Int} {b_2 : Int} {b_3 : Int} {m_1 : List (List Int)} {r1 : List (List Int)} {r2 : Int} (h : m_bounds_Add O0 b_1 b_2 b_3 m_1 = some (r1, r2)) :
    Fn Try.prog 33 [.c (.sl 0), .agg [.int .i64 b_1, .int .i64 b_2, .int .i64 b_3]] [.mat false m_1] (fun v c => v = .tup [.one (.sl 1), .one (.int .i64 r2)] ∧ c = [.mat true r1]) := by
  refine fn_run tab_holds eqs_holds mixed [(3, (.seg 1 [0, 1, 2, 3, 4, 5, 6, 7, 8, 9, 10] (.seg 2 [11] (.seg 1 [12] .fin))), []), (13, (.seg 1 [0, 1, 2, 3, 4, 5, 6, 7, 8, 9, 10, 11, 12, 13, 14, 15, 17, 18, 19, 20, 21, 22, 23, 24] (.seg 2 [16] (.seg 2 [25] (.seg 1 [26, 27] .fin)))), [28])] Try.func33 (by kernel_rfl) (by kernel_rfl) (Nat.le_of_ble_eq_true rfl) ?_
  intro O X hO hX
  rw [hO0, ← hO] at h
  unfold m_bounds_Add at h
  have h0 := h; clear h
  cbv
  obtain ⟨x192, h1, h0⟩ := bindS h0
  obtain ⟨b61, hv, h1⟩ := bindS h1
  refine call_is hO hX (fn_bounds_closed hO hv) (by kernel_rfl) [0] rfl ⟨rfl, rfl, trivial⟩ rfl ?_
  cbv
  rcases condS h1 with ⟨hc1, h1⟩ | ⟨hc1, h1⟩
  · rw [hc1]
    cbv
    cases h1
    try dsimp only at h0
    replace h0 := condT h0 rfl
    cases h0
    refine fin_frz hX 3 ?_
    cbv
    exact fin_ok hX rfl ⟨[3], _, _, ⟨rfl, rfl⟩, rfl, rfl, rfl, rfl, by cbv; try simp⟩
  · rw [hc1]
    cbv
    obtain ⟨b62, hv, h1⟩ := bindS h1
    refine call_is hO hX (fn_bounds_right hO hv) (by kernel_rfl) [] rfl trivial rfl ?_
    cbv
    cases h1
    try dsimp only at h0
    rcases condS h0 with ⟨hc2, h0⟩ | ⟨hc2, h0⟩
    · rw [hc2]
      cbv
      cases h0
      refine fin_frz hX 3 ?_
      cbv
      exact fin_ok hX rfl ⟨[3], _, _, ⟨rfl, rfl⟩, rfl, rfl, rfl, rfl, by cbv; try simp⟩
    · rw [hc2]
      cbv
      obtain ⟨hg3, h0⟩ := grdS h0
      refine ⟨idx_of hO hg3, ?_⟩
      obtain ⟨hg4, h0⟩ := grdS h0
      refine ⟨kin_of hO hg4, ?_⟩
      obtain ⟨hg5, h0⟩ := grdS h0
      refine ⟨idx_of hO hg5, ?_⟩
      obtain ⟨hg6, h0⟩ := grdS h0
      refine ⟨kin_of hO hg6, ?_⟩
      obtain ⟨n35, hv, h0⟩ := bindS h0
      refine call_is hO hX (fn_bounds_plus hO hv) (by kernel_rfl) [] rfl trivial rfl ?_
      cbv
      rcases condS h0 with ⟨hc7, h0⟩ | ⟨hc7, h0⟩
      · rw [hc7]
        cbv
        cases h0
        refine fin_frz hX 3 ?_
        cbv
        exact fin_ok hX rfl ⟨[3], _, _, ⟨rfl, rfl⟩, rfl, rfl, rfl, rfl, by cbv; try simp⟩
      · rw [hc7]
        cbv
        obtain ⟨hg8, h0⟩ := grdS h0
        refine ⟨rng_of hO hg8, ?_⟩
        refine ⟨rng_of hO hg8, ?_⟩
        obtain ⟨hg9, h0⟩ := grdS h0
        refine ⟨room_of hO hg9, ?_⟩
        obtain ⟨m60, hi, h0⟩ := bindS h0
        obtain ⟨I2, hI2, hi⟩ := loopS hi
        refine loop1 tab_holds eqs_holds mixed [(3, (.seg 1 [0, 1, 2, 3, 4, 5, 6, 7, 8, 9, 10] (.seg 2 [11] (.seg 1 [12] .fin))), []), (13, (.seg 1 [0, 1, 2, 3, 4, 5, 6, 7, 8, 9, 10, 11, 12, 13, 14, 15, 17, 18, 19, 20, 21, 22, 23, 24] (.seg 2 [16] (.seg 2 [25] (.seg 1 [26, 27] .fin)))), [28])] hO hX I2 (fun y => [(4, .junk), (21, .junk), (25, .junk), (29, .junk), (35, .junk), (38, .c (.int .i64 y.2.1))]) (fun y => [(3, .mtw 26 3 y.2.2)]) (fun y => y.1) _ (by kernel_rfl) hi (by cbv; try simp) ?_
        refine allp ?_
        intro n2
        refine allp ?_
        intro x196
        intro m57 hi
        cbv
        rw [hI2] at hi
        obtain ⟨n2, rfl, x2, h1, hi2⟩ := iterS hi
        unfold m_bounds_Add_L2 at h1
        try dsimp only at h1
        rcases condS h1 with ⟨hc10, h1⟩ | ⟨hc10, h1⟩
        · rw [hc10]
          cbv
          obtain ⟨hg11, h1⟩ := grdS h1
          refine ⟨idx_of hO hg11, ?_⟩
          obtain ⟨hg12, h1⟩ := grdS h1
          refine ⟨kin_of hO hg12, ?_⟩
          obtain ⟨l72, hv, h1⟩ := bindS h1
          refine call_is hO hX (fn_clone_i1 hO hv) (by kernel_rfl) [4] rfl ⟨rfl, rfl, trivial⟩ rfl ?_
          cbv
          obtain ⟨hg13, h1⟩ := grdS h1
          refine ⟨idx_of hO hg13, ?_⟩
          obtain ⟨hg14, h1⟩ := grdS h1
          refine ⟨kin_of hO hg14, ?_⟩
          obtain ⟨m59, hi, h1⟩ := bindS h1
          obtain ⟨I1, hI1, hi⟩ := loopS hi
          refine loop1 tab_holds eqs_holds mixed [(3, (.seg 1 [0, 1, 2, 3, 4, 5, 6, 7, 8, 9, 10] (.seg 2 [11] (.seg 1 [12] .fin))), []), (13, (.seg 1 [0, 1, 2, 3, 4, 5, 6, 7, 8, 9, 10, 11, 12, 13, 14, 15, 17, 18, 19, 20, 21, 22, 23, 24] (.seg 2 [16] (.seg 2 [25] (.seg 1 [26, 27] .fin)))), [28])] hO hX I1 (fun y => [(43, .junk), (46, .junk), (47, .junk), (50, .c (.int .i64 y.2.1))]) (fun y => [(6, .mtw 26 3 y.2.2)]) (fun y => y.1) _ (by kernel_rfl) hi (by cbv; try simp) ?_
          refine allp ?_
          intro n1
          refine allp ?_
          intro x198
          intro m58 hi
          cbv
          rw [hI1] at hi
          obtain ⟨n1, rfl, x1, h2, hi1⟩ := iterS hi
          unfold m_bounds_Add_L1 at h2
          try dsimp only at h2
          rcases condS h2 with ⟨hc15, h2⟩ | ⟨hc15, h2⟩
          · rw [hc15]
            cbv
            obtain ⟨hg16, h2⟩ := grdS h2
            refine ⟨idx_of hO hg16, ?_⟩
            obtain ⟨hg17, h2⟩ := grdS h2
            refine ⟨kin_of hO hg17, ?_⟩
            obtain ⟨hg18, h2⟩ := grdS h2
            refine ⟨idx_of hO hg18, ?_⟩
            obtain ⟨hg19, h2⟩ := grdS h2
            refine ⟨kin_of hO hg19, ?_⟩
            obtain ⟨hg20, h2⟩ := grdS h2
            refine ⟨idx_of hO hg20, ?_⟩
            obtain ⟨hg21, h2⟩ := grdS h2
            refine ⟨kin_of hO hg21, ?_⟩
            refine ⟨idx_of hO hg3, ?_⟩
            refine ⟨kin_of hO hg4, ?_⟩
            obtain ⟨hg22, h2⟩ := grdS h2
            refine ⟨idx_of hO hg22, ?_⟩
            obtain ⟨hg23, h2⟩ := grdS h2
            refine ⟨kin_of hO hg23, ?_⟩
            obtain ⟨n42, hv, h2⟩ := bindS h2
            refine call_is hO hX (fn_bounds_plus hO hv) (by kernel_rfl) [] rfl trivial rfl ?_
            cbv
            obtain ⟨n43, hv, h2⟩ := bindS h2
            refine call_is hO hX (fn_bounds_plus hO hv) (by kernel_rfl) [] rfl trivial rfl ?_
            cbv
            obtain ⟨hg24, h2⟩ := grdS h2
            refine ⟨idx_of hO hg24, ?_⟩
            obtain ⟨hg25, h2⟩ := grdS h2
            refine ⟨kin_of hO hg25, ?_⟩
            obtain ⟨hg26, h2⟩ := grdS h2
            refine ⟨inr_of hO hg26, ?_⟩
            cases h2
            exact ⟨_, [0, 1, 2, 3, 4, 5, 6], nextI hI1 hi1, by cbv; try simp, by first | exact Nat.lt_succ_self _ | omega⟩
          · rw [hc15]
            cbv
            cases h2
            cases exitI hi1
            try dsimp only at h1
            obtain ⟨hg27, h1⟩ := grdS h1
            refine ⟨inr_of hO hg27, ?_⟩
            cases h1
            exact ⟨_, [0, 1, 2, 6], nextI hI2 hi2, by cbv; try simp, by first | exact Nat.lt_succ_self _ | omega⟩
        · rw [hc10]
          cbv
          cases h1
          cases exitI hi2
          try dsimp only at h0
          cases h0
          refine fin_frz hX 3 ?_
          cbv
          exact fin_ok hX rfl ⟨[3], _, _, ⟨rfl, rfl⟩, rfl, rfl, rfl, rfl, by cbv; try simp⟩
end Go.Proofs.Ytegmjohhgedakaa
