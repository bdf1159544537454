/-
  The code does what its models say (printed by lift.py).
-/
import Derived.Test.YtlpbdikmhngmfaaQM
import Derived.Test.YtlpbdikmhngmfaaManWC
namespace Go.Proofs.Ytlpbdikmhngmfaa
open Go.RowKit
set_option maxRecDepth 100000

set_option maxHeartbeats 40000000 in
theorem fn_ref13_Span {O0 : Ops} (hO0 : O0 = std) {s_1 : Int} {s_2 : Int} {r1 : Bool} (h : m_ref13_Span O0 s_1 s_2 = some r1) :
    Fn Try.prog 92 [.agg [.int .i64 s_1, .int .i64 s_2]] [] (fun v c => v = .c (.bool r1) ∧ c = []) := by
  refine fn_run tab_holds eqs_holds mixed [] Try.func92 (by kernel_rfl) (by kernel_rfl) (Nat.le_of_ble_eq_true rfl) ?_
  intro O X hO hX
  rw [hO0, ← hO] at h
  unfold m_ref13_Span at h
  have h0 := h; clear h
  cbv
  obtain ⟨x111, h1, h0⟩ := bindS h0
  rcases condS h1 with ⟨hc1, h1⟩ | ⟨hc1, h1⟩
  · rw [hc1]
    cbv
    rcases condS h1 with ⟨hc2, h1⟩ | ⟨hc2, h1⟩
    · rw [hc2]
      cbv
      cases h1
      try dsimp only at h0
      cases h0
      exact fin_ok hX rfl ⟨[], _, _, ⟨rfl, rfl⟩, rfl, rfl, rfl, rfl, by cbv; try simp⟩
    · rw [hc2]
      cbv
      cases h1
      try dsimp only at h0
      cases h0
      exact fin_ok hX rfl ⟨[], _, _, ⟨rfl, rfl⟩, rfl, rfl, rfl, rfl, by cbv; try simp⟩
  · rw [hc1]
    cbv
    cases h1
    try dsimp only at h0
    cases h0
    exact fin_ok hX rfl ⟨[], _, _, ⟨rfl, rfl⟩, rfl, rfl, rfl, rfl, by cbv; try simp⟩
set_option maxHeartbeats 40000000 in
theorem fn_ref13_Runs {O0 : Ops} (hO0 : O0 = std) {l_1 : List (Int × Int)} {r1 : Bool} (h : m_ref13_Runs O0 l_1 = some r1) :
    Fn Try.prog 71 [.c (.sl 0)] [.arr false .i2 l_1] (fun v c => v = .c (.bool r1) ∧ c = []) := by
  refine fn_run tab_holds eqs_holds mixed [(4, (.seg 1 [0, 1, 2, 3] (.seg 2 [4] (.seg 1 [5, 6, 7, 8, 9, 10, 11, 12, 13, 14, 15, 16, 17, 18, 19, 20, 21, 22, 23] .fin))), [])] Try.func71 (by kernel_rfl) (by kernel_rfl) (Nat.le_of_ble_eq_true rfl) ?_
  intro O X hO hX
  rw [hO0, ← hO] at h
  unfold m_ref13_Runs at h
  have h0 := h; clear h
  cbv
  obtain ⟨e1, hi, h0⟩ := bindS h0
  obtain ⟨I1, hI1, hi⟩ := loopS hi
  refine loop1 tab_holds eqs_holds mixed [(4, (.seg 1 [0, 1, 2, 3] (.seg 2 [4] (.seg 1 [5, 6, 7, 8, 9, 10, 11, 12, 13, 14, 15, 16, 17, 18, 19, 20, 21, 22, 23] .fin))), [])] hO hX I1 (fun y => [(3, .c (.int .i64 y.2))]) (fun _ => []) (fun y => y.1) _ (by kernel_rfl) hi (by cbv; try simp) ?_
  refine allp ?_
  intro n1
  intro i8 hi
  cbv
  rw [hI1] at hi
  obtain ⟨n1, rfl, x1, h1, hi1⟩ := iterS hi
  unfold m_ref13_Runs_L1 at h1
  try dsimp only at h1
  rcases condS h1 with ⟨hc1, h1⟩ | ⟨hc1, h1⟩
  · as_aux_lemma =>
    rw [hc1]
    cbv
    obtain ⟨x114, h2, h1⟩ := bindS h1
    obtain ⟨hg2, h2⟩ := grdS h2
    refine ⟨idx_of hO hg2, ?_⟩
    obtain ⟨hg3, h2⟩ := grdS h2
    refine ⟨kin_of hO hg3, ?_⟩
    obtain ⟨b29, hv, h2⟩ := bindS h2
    refine call_is hO hX (fn_ref13_Span hO hv) (by kernel_rfl) [] rfl trivial rfl ?_
    cbv
    rcases condS h2 with ⟨hc4, h2⟩ | ⟨hc4, h2⟩
    · rw [hc4]
      cbv
      cases h2
      try dsimp only at h1
      replace h1 := condT h1 rfl
      cases h1
      cases exitI hi1
      try dsimp only at h0
      cases h0
      exact fin_ok hX rfl ⟨[], _, _, ⟨rfl, rfl⟩, rfl, rfl, rfl, rfl, by cbv; try simp⟩
    · rw [hc4]
      cbv
      rcases condS h2 with ⟨hc5, h2⟩ | ⟨hc5, h2⟩
      · rw [hc5]
        cbv
        obtain ⟨hg6, h2⟩ := grdS h2
        refine ⟨inr_of hO hg6, ?_⟩
        obtain ⟨hg7, h2⟩ := grdS h2
        refine ⟨idx_of hO hg7, ?_⟩
        obtain ⟨hg8, h2⟩ := grdS h2
        refine ⟨kin_of hO hg8, ?_⟩
        cases h2
        try dsimp only at h1
        refine ⟨idx_of hO hg2, ?_⟩
        refine ⟨kin_of hO hg3, ?_⟩
        rcases condS h1 with ⟨hc9, h1⟩ | ⟨hc9, h1⟩
        · rw [hc9]
          cbv
          cases h1
          cases exitI hi1
          try dsimp only at h0
          cases h0
          exact fin_ok hX rfl ⟨[], _, _, ⟨rfl, rfl⟩, rfl, rfl, rfl, rfl, by cbv; try simp⟩
        · rw [hc9]
          cbv
          obtain ⟨hg10, h1⟩ := grdS h1
          refine ⟨inr_of hO hg10, ?_⟩
          cases h1
          exact ⟨_, [0], nextI hI1 hi1, by cbv; try simp, by first | exact Nat.lt_succ_self _ | omega⟩
      · rw [hc5]
        cbv
        cases h2
        try dsimp only at h1
        replace h1 := condF h1 rfl
        obtain ⟨hg11, h1⟩ := grdS h1
        refine ⟨inr_of hO hg11, ?_⟩
        cases h1
        exact ⟨_, [0], nextI hI1 hi1, by cbv; try simp, by first | exact Nat.lt_succ_self _ | omega⟩
  · rw [hc1]
    cbv
    cases h1
    cases exitI hi1
    try dsimp only at h0
    cases h0
    exact fin_ok hX rfl ⟨[], _, _, ⟨rfl, rfl⟩, rfl, rfl, rfl, rfl, by cbv; try simp⟩
set_option maxHeartbeats 40000000 in
theorem fn_ref01_Div {O0 : Ops} (hO0 : O0 = std) {a_1 : Int} {b_1 : Int} {r1 : Int} {r2 : Int} {r3 : Int} (h : m_ref01_Div O0 a_1 b_1 = some (r1, r2, r3)) :
    Fn Try.prog 95 [.c (.int .i64 a_1), .c (.int .i64 b_1)] [] (fun v c => v = .tup [.one (.int .i64 r1), .one (.int .i64 r2), .one (.int .i64 r3)] ∧ c = []) := by
  refine fn_run tab_holds eqs_holds mixed [(5, (.seg 1 [0, 1, 2, 3, 4, 5, 6, 7] .fin), [])] Try.func95 (by kernel_rfl) (by kernel_rfl) (Nat.le_of_ble_eq_true rfl) ?_
  intro O X hO hX
  rw [hO0, ← hO] at h
  unfold m_ref01_Div at h
  have h0 := h; clear h
  cbv
  rcases condS h0 with ⟨hc1, h0⟩ | ⟨hc1, h0⟩
  · rw [hc1]
    cbv
    cases h0
    exact fin_ok hX rfl ⟨[], _, _, ⟨rfl, rfl⟩, rfl, rfl, rfl, rfl, by cbv; try simp⟩
  · as_aux_lemma =>
    rw [hc1]
    cbv
    obtain ⟨x121, h1, h0⟩ := bindS h0
    rcases condS h1 with ⟨hc2, h1⟩ | ⟨hc2, h1⟩
    · as_aux_lemma =>
      rw [hc2]
      cbv
      cases h1
      try dsimp only at h0
      rcases condS h0 with ⟨hc3, h0⟩ | ⟨hc3, h0⟩
      · rw [hc3]
        cbv
        cases h0
        exact fin_ok hX rfl ⟨[], _, _, ⟨rfl, rfl⟩, rfl, rfl, rfl, rfl, by cbv; try simp⟩
      · as_aux_lemma =>
        rw [hc3]
        cbv
        obtain ⟨hg4, h0⟩ := grdS h0
        refine ⟨nz_of hO hg4, ?_⟩
        obtain ⟨hg5, h0⟩ := grdS h0
        refine ⟨inr_of hO hg5, ?_⟩
        obtain ⟨x123, h1, h0⟩ := bindS h0
        refine ⟨nz_of hO hg4, ?_⟩
        rcases condS h1 with ⟨hc6, h1⟩ | ⟨hc6, h1⟩
        · rw [hc6]
          cbv
          cases h1
          try dsimp only at h0
          obtain ⟨⟨q6, r4⟩, h1, h0⟩ := bindS h0
          rcases condS h1 with ⟨hc7, h1⟩ | ⟨hc7, h1⟩
          · rw [hc7]
            cbv
            obtain ⟨hg8, h1⟩ := grdS h1
            refine ⟨inr_of hO hg8, ?_⟩
            obtain ⟨hg9, h1⟩ := grdS h1
            refine ⟨inr_of hO hg9, ?_⟩
            cases h1
            try dsimp only at h0
            cases h0
            exact fin_ok hX rfl ⟨[], _, _, ⟨rfl, rfl⟩, rfl, rfl, rfl, rfl, by cbv; try simp⟩
          · rw [hc7]
            cbv
            cases h1
            try dsimp only at h0
            cases h0
            exact fin_ok hX rfl ⟨[], _, _, ⟨rfl, rfl⟩, rfl, rfl, rfl, rfl, by cbv; try simp⟩
        · rw [hc6]
          cbv
          cases h1
          try dsimp only at h0
          obtain ⟨⟨q6, r4⟩, h1, h0⟩ := bindS h0
          replace h1 := condF h1 rfl
          cases h1
          try dsimp only at h0
          cases h0
          exact fin_ok hX rfl ⟨[], _, _, ⟨rfl, rfl⟩, rfl, rfl, rfl, rfl, by cbv; try simp⟩
    · as_aux_lemma =>
      rw [hc2]
      cbv
      cases h1
      try dsimp only at h0
      replace h0 := condF h0 rfl
      obtain ⟨hg10, h0⟩ := grdS h0
      refine ⟨nz_of hO hg10, ?_⟩
      obtain ⟨hg11, h0⟩ := grdS h0
      refine ⟨inr_of hO hg11, ?_⟩
      obtain ⟨x123, h1, h0⟩ := bindS h0
      refine ⟨nz_of hO hg10, ?_⟩
      rcases condS h1 with ⟨hc12, h1⟩ | ⟨hc12, h1⟩
      · rw [hc12]
        cbv
        cases h1
        try dsimp only at h0
        obtain ⟨⟨q6, r4⟩, h1, h0⟩ := bindS h0
        rcases condS h1 with ⟨hc13, h1⟩ | ⟨hc13, h1⟩
        · rw [hc13]
          cbv
          obtain ⟨hg14, h1⟩ := grdS h1
          refine ⟨inr_of hO hg14, ?_⟩
          obtain ⟨hg15, h1⟩ := grdS h1
          refine ⟨inr_of hO hg15, ?_⟩
          cases h1
          try dsimp only at h0
          cases h0
          exact fin_ok hX rfl ⟨[], _, _, ⟨rfl, rfl⟩, rfl, rfl, rfl, rfl, by cbv; try simp⟩
        · rw [hc13]
          cbv
          cases h1
          try dsimp only at h0
          cases h0
          exact fin_ok hX rfl ⟨[], _, _, ⟨rfl, rfl⟩, rfl, rfl, rfl, rfl, by cbv; try simp⟩
      · rw [hc12]
        cbv
        cases h1
        try dsimp only at h0
        obtain ⟨⟨q6, r4⟩, h1, h0⟩ := bindS h0
        replace h1 := condF h1 rfl
        cases h1
        try dsimp only at h0
        cases h0
        exact fin_ok hX rfl ⟨[], _, _, ⟨rfl, rfl⟩, rfl, rfl, rfl, rfl, by cbv; try simp⟩
set_option maxHeartbeats 40000000 in
theorem fn_ref01_Mod {O0 : Ops} (hO0 : O0 = std) {a_1 : Int} {b_1 : Int} {r1 : Int} (h : m_ref01_Mod O0 a_1 b_1 = some r1) :
    Fn Try.prog 78 [.c (.int .i64 a_1), .c (.int .i64 b_1)] [] (fun v c => v = .c (.int .i64 r1) ∧ c = []) := by
  refine fn_run tab_holds eqs_holds mixed [] Try.func78 (by kernel_rfl) (by kernel_rfl) (Nat.le_of_ble_eq_true rfl) ?_
  intro O X hO hX
  rw [hO0, ← hO] at h
  unfold m_ref01_Mod at h
  have h0 := h; clear h
  cbv
  obtain ⟨⟨n37, n38, n39⟩, hv, h0⟩ := bindS h0
  try dsimp only at h0
  refine call_is hO hX (fn_ref01_Div hO hv) (by kernel_rfl) [] rfl trivial rfl ?_
  cbv
  cases h0
  exact fin_ok hX rfl ⟨[], _, _, ⟨rfl, rfl⟩, rfl, rfl, rfl, rfl, by cbv; try simp⟩
set_option maxHeartbeats 40000000 in
theorem fn_ref13_ends {O0 : Ops} (hO0 : O0 = std) {a_1 : List (Int × Int)} {b_1 : List (Int × Int)} {r1 : List Int} (h : m_ref13_ends O0 a_1 b_1 = some r1) :
    Fn Try.prog 74 [.c (.sl 0), .c (.sl 1)] [.arr false .i2 a_1, .arr false .i2 b_1] (fun v c => v = .c (.sl 2) ∧ c = [.own 3 .i1 r1]) := by
  refine fn_run tab_holds eqs_holds mixed [(5, (.seg 1 [0, 1, 2, 3, 4, 5, 6, 7, 8, 9, 10] (.seg 2 [11] .fin)), [12, 13]), (9, (.seg 1 [0, 1, 2, 3, 4, 5, 6, 7, 8, 9, 10] (.seg 2 [11] .fin)), [12, 13]), (12, (.seg 1 [0, 1, 2, 3, 4, 5, 6, 7, 8, 9, 10, 11, 12, 13, 14, 15, 16, 17, 18, 19, 20] .fin), [])] Try.func74 (by kernel_rfl) (by kernel_rfl) (Nat.le_of_ble_eq_true rfl) ?_
  intro O X hO hX
  rw [hO0, ← hO] at h
  unfold m_ref13_ends at h
  have h0 := h; clear h
  cbv
  obtain ⟨l85, hi, h0⟩ := bindS h0
  obtain ⟨I1, hI1, hi⟩ := loopS hi
  refine loop1 tab_holds eqs_holds mixed [(5, (.seg 1 [0, 1, 2, 3, 4, 5, 6, 7, 8, 9, 10] (.seg 2 [11] .fin)), [12, 13]), (9, (.seg 1 [0, 1, 2, 3, 4, 5, 6, 7, 8, 9, 10] (.seg 2 [11] .fin)), [12, 13]), (12, (.seg 1 [0, 1, 2, 3, 4, 5, 6, 7, 8, 9, 10, 11, 12, 13, 14, 15, 16, 17, 18, 19, 20] .fin), [])] hO hX I1 (fun y => [(4, .junk), (5, .c (.sl 3)), (8, .c (.int .i64 y.2.1))]) (fun y => [(3, .own 3 .i1 y.2.2)]) (fun y => y.1) _ (by kernel_rfl) hi (by cbv; try simp) ?_
  refine allp ?_
  intro n1
  refine allp ?_
  intro i12
  intro l84 hi
  cbv
  rw [hI1] at hi
  obtain ⟨n1, rfl, x1, h1, hi1⟩ := iterS hi
  unfold m_ref13_ends_L1 at h1
  try dsimp only at h1
  rcases condS h1 with ⟨hc1, h1⟩ | ⟨hc1, h1⟩
  · rw [hc1]
    cbv
    obtain ⟨hg2, h1⟩ := grdS h1
    refine ⟨idx_of hO hg2, ?_⟩
    obtain ⟨hg3, h1⟩ := grdS h1
    refine ⟨kin_of hO hg3, ?_⟩
    refine ⟨idx_of hO hg2, ?_⟩
    refine ⟨kin_of hO hg3, ?_⟩
    obtain ⟨hg4, h1⟩ := grdS h1
    refine ⟨room_of hO hg4, ?_⟩
    obtain ⟨hg5, h1⟩ := grdS h1
    refine ⟨room_of hO hg5, ?_⟩
    obtain ⟨hg6, h1⟩ := grdS h1
    refine ⟨inr_of hO hg6, ?_⟩
    cases h1
    exact ⟨_, [0, 1, 2, 7, 4, 5], nextI hI1 hi1, by cbv; try simp, by first | exact Nat.lt_succ_self _ | omega⟩
  · as_aux_lemma =>
    rw [hc1]
    cbv
    cases h1
    cases exitI hi1
    try dsimp only at h0
    obtain ⟨l87, hi, h0⟩ := bindS h0
    obtain ⟨I2, hI2, hi⟩ := loopS hi
    refine loop1 tab_holds eqs_holds mixed [(5, (.seg 1 [0, 1, 2, 3, 4, 5, 6, 7, 8, 9, 10] (.seg 2 [11] .fin)), [12, 13]), (9, (.seg 1 [0, 1, 2, 3, 4, 5, 6, 7, 8, 9, 10] (.seg 2 [11] .fin)), [12, 13]), (12, (.seg 1 [0, 1, 2, 3, 4, 5, 6, 7, 8, 9, 10, 11, 12, 13, 14, 15, 16, 17, 18, 19, 20] .fin), [])] hO hX I2 (fun y => [(6, .c (.sl 4)), (9, .c (.int .i64 y.2.1))]) (fun y => [(4, .own 3 .i1 y.2.2)]) (fun y => y.1) _ (by kernel_rfl) hi (by cbv; try simp) ?_
    refine allp ?_
    intro n2
    refine allp ?_
    intro i14
    intro l86 hi
    cbv
    rw [hI2] at hi
    obtain ⟨n2, rfl, x2, h1, hi2⟩ := iterS hi
    unfold m_ref13_ends_L2 at h1
    try dsimp only at h1
    rcases condS h1 with ⟨hc7, h1⟩ | ⟨hc7, h1⟩
    · rw [hc7]
      cbv
      obtain ⟨hg8, h1⟩ := grdS h1
      refine ⟨idx_of hO hg8, ?_⟩
      obtain ⟨hg9, h1⟩ := grdS h1
      refine ⟨kin_of hO hg9, ?_⟩
      refine ⟨idx_of hO hg8, ?_⟩
      refine ⟨kin_of hO hg9, ?_⟩
      obtain ⟨hg10, h1⟩ := grdS h1
      refine ⟨room_of hO hg10, ?_⟩
      obtain ⟨hg11, h1⟩ := grdS h1
      refine ⟨room_of hO hg11, ?_⟩
      obtain ⟨hg12, h1⟩ := grdS h1
      refine ⟨inr_of hO hg12, ?_⟩
      cases h1
      exact ⟨_, [0, 1, 2, 3, 7, 5], nextI hI2 hi2, by cbv; try simp, by first | exact Nat.lt_succ_self _ | omega⟩
    · as_aux_lemma =>
      rw [hc7]
      cbv
      cases h1
      cases exitI hi2
      try dsimp only at h0
      obtain ⟨l93, hi, h0⟩ := bindS h0
      obtain ⟨I3, hI3, hi⟩ := loopS hi
      refine loop1 tab_holds eqs_holds mixed [(5, (.seg 1 [0, 1, 2, 3, 4, 5, 6, 7, 8, 9, 10] (.seg 2 [11] .fin)), [12, 13]), (9, (.seg 1 [0, 1, 2, 3, 4, 5, 6, 7, 8, 9, 10] (.seg 2 [11] .fin)), [12, 13]), (12, (.seg 1 [0, 1, 2, 3, 4, 5, 6, 7, 8, 9, 10, 11, 12, 13, 14, 15, 16, 17, 18, 19, 20] .fin), [])] hO hX I3 (fun y => [(7, .c (.sl 5)), (10, .c (.int .i64 y.2.1)), (11, .c (.int .i64 y.2.2.1))]) (fun y => [(5, .own 3 .i1 y.2.2.2)]) (fun y => y.1) _ (by kernel_rfl) hi (by cbv; try simp) ?_
      refine allp ?_
      intro n3
      refine allp ?_
      intro i18
      refine allp ?_
      intro k10
      intro l90 hi
      cbv
      rw [hI3] at hi
      obtain ⟨n3, rfl, x3, h1, hi3⟩ := iterS hi
      unfold m_ref13_ends_L3 at h1
      try dsimp only at h1
      obtain ⟨x130, h2, h1⟩ := bindS h1
      rcases condS h2 with ⟨hc13, h2⟩ | ⟨hc13, h2⟩
      · as_aux_lemma =>
        rw [hc13]
        cbv
        cases h2
        try dsimp only at h1
        replace h1 := condT h1 rfl
        obtain ⟨x133, h2, h1⟩ := bindS h1
        rcases condS h2 with ⟨hc14, h2⟩ | ⟨hc14, h2⟩
        · rw [hc14]
          cbv
          cases h2
          try dsimp only at h1
          obtain ⟨⟨i20, k12, l92⟩, h2, h1⟩ := bindS h1
          replace h2 := condT h2 rfl
          obtain ⟨hg15, h2⟩ := grdS h2
          refine ⟨idx_of hO hg15, ?_⟩
          obtain ⟨hg16, h2⟩ := grdS h2
          refine ⟨kin_of hO hg16, ?_⟩
          obtain ⟨hg17, h2⟩ := grdS h2
          refine ⟨room_of hO hg17, ?_⟩
          obtain ⟨hg18, h2⟩ := grdS h2
          refine ⟨room_of hO hg18, ?_⟩
          obtain ⟨hg19, h2⟩ := grdS h2
          refine ⟨inr_of hO hg19, ?_⟩
          cases h2
          try dsimp only at h1
          cases h1
          exact ⟨_, [0, 1, 2, 3, 4, 7], nextI hI3 hi3, by cbv; try simp, by first | exact Nat.lt_succ_self _ | omega⟩
        · as_aux_lemma =>
          rw [hc14]
          cbv
          try (rw [hc13]; cbv)
          replace h2 := condT h2 hc13
          obtain ⟨hg20, h2⟩ := grdS h2
          refine ⟨idx_of hO hg20, ?_⟩
          obtain ⟨hg21, h2⟩ := grdS h2
          refine ⟨kin_of hO hg21, ?_⟩
          obtain ⟨hg22, h2⟩ := grdS h2
          refine ⟨idx_of hO hg22, ?_⟩
          obtain ⟨hg23, h2⟩ := grdS h2
          refine ⟨kin_of hO hg23, ?_⟩
          cases h2
          try dsimp only at h1
          obtain ⟨⟨i20, k12, l92⟩, h2, h1⟩ := bindS h1
          rcases condS h2 with ⟨hc24, h2⟩ | ⟨hc24, h2⟩
          · rw [hc24]
            cbv
            obtain ⟨hg25, h2⟩ := grdS h2
            refine ⟨idx_of hO hg25, ?_⟩
            obtain ⟨hg26, h2⟩ := grdS h2
            refine ⟨kin_of hO hg26, ?_⟩
            obtain ⟨hg27, h2⟩ := grdS h2
            refine ⟨room_of hO hg27, ?_⟩
            obtain ⟨hg28, h2⟩ := grdS h2
            refine ⟨room_of hO hg28, ?_⟩
            obtain ⟨hg29, h2⟩ := grdS h2
            refine ⟨inr_of hO hg29, ?_⟩
            cases h2
            try dsimp only at h1
            cases h1
            exact ⟨_, [0, 1, 2, 3, 4, 7], nextI hI3 hi3, by cbv; try simp, by first | exact Nat.lt_succ_self _ | omega⟩
          · rw [hc24]
            cbv
            obtain ⟨hg30, h2⟩ := grdS h2
            refine ⟨idx_of hO hg30, ?_⟩
            obtain ⟨hg31, h2⟩ := grdS h2
            refine ⟨kin_of hO hg31, ?_⟩
            obtain ⟨hg32, h2⟩ := grdS h2
            refine ⟨room_of hO hg32, ?_⟩
            obtain ⟨hg33, h2⟩ := grdS h2
            refine ⟨room_of hO hg33, ?_⟩
            obtain ⟨hg34, h2⟩ := grdS h2
            refine ⟨inr_of hO hg34, ?_⟩
            cases h2
            try dsimp only at h1
            cases h1
            exact ⟨_, [0, 1, 2, 3, 4, 7], nextI hI3 hi3, by cbv; try simp, by first | exact Nat.lt_succ_self _ | omega⟩
      · as_aux_lemma =>
        rw [hc13]
        cbv
        cases h2
        try dsimp only at h1
        rcases condS h1 with ⟨hc35, h1⟩ | ⟨hc35, h1⟩
        · as_aux_lemma =>
          rw [hc35]
          cbv
          obtain ⟨x133, h2, h1⟩ := bindS h1
          rcases condS h2 with ⟨hc36, h2⟩ | ⟨hc36, h2⟩
          · rw [hc36]
            cbv
            cases h2
            try dsimp only at h1
            obtain ⟨⟨i20, k12, l92⟩, h2, h1⟩ := bindS h1
            replace h2 := condT h2 rfl
            obtain ⟨hg37, h2⟩ := grdS h2
            refine ⟨idx_of hO hg37, ?_⟩
            obtain ⟨hg38, h2⟩ := grdS h2
            refine ⟨kin_of hO hg38, ?_⟩
            obtain ⟨hg39, h2⟩ := grdS h2
            refine ⟨room_of hO hg39, ?_⟩
            obtain ⟨hg40, h2⟩ := grdS h2
            refine ⟨room_of hO hg40, ?_⟩
            obtain ⟨hg41, h2⟩ := grdS h2
            refine ⟨inr_of hO hg41, ?_⟩
            cases h2
            try dsimp only at h1
            cases h1
            exact ⟨_, [0, 1, 2, 3, 4, 7], nextI hI3 hi3, by cbv; try simp, by first | exact Nat.lt_succ_self _ | omega⟩
          · rw [hc36]
            cbv
            try (rw [hc13]; cbv)
            replace h2 := condF h2 hc13
            cases h2
            try dsimp only at h1
            obtain ⟨⟨i20, k12, l92⟩, h2, h1⟩ := bindS h1
            replace h2 := condF h2 rfl
            obtain ⟨hg42, h2⟩ := grdS h2
            refine ⟨idx_of hO hg42, ?_⟩
            obtain ⟨hg43, h2⟩ := grdS h2
            refine ⟨kin_of hO hg43, ?_⟩
            obtain ⟨hg44, h2⟩ := grdS h2
            refine ⟨room_of hO hg44, ?_⟩
            obtain ⟨hg45, h2⟩ := grdS h2
            refine ⟨room_of hO hg45, ?_⟩
            obtain ⟨hg46, h2⟩ := grdS h2
            refine ⟨inr_of hO hg46, ?_⟩
            cases h2
            try dsimp only at h1
            cases h1
            exact ⟨_, [0, 1, 2, 3, 4, 7], nextI hI3 hi3, by cbv; try simp, by first | exact Nat.lt_succ_self _ | omega⟩
        · rw [hc35]
          cbv
          cases h1
          cases exitI hi3
          try dsimp only at h0
          cases h0
          exact fin_ok hX rfl ⟨[5], _, _, ⟨rfl, rfl⟩, rfl, rfl, rfl, rfl, by cbv; try simp⟩
set_option maxHeartbeats 40000000 in
theorem fn_ref13_rule {O0 : Ops} (hO0 : O0 = std) {kind_1 : Int} {a_1 : Bool} {b_1 : Bool} {r1 : Bool} (h : m_ref13_rule O0 kind_1 a_1 b_1 = some r1) :
    Fn Try.prog 75 [.c (.int .i64 kind_1), .c (.bool a_1), .c (.bool b_1)] [] (fun v c => v = .c (.bool r1) ∧ c = []) := by
  refine fn_run tab_holds eqs_holds mixed [] Try.func75 (by kernel_rfl) (by kernel_rfl) (Nat.le_of_ble_eq_true rfl) ?_
  intro O X hO hX
  rw [hO0, ← hO] at h
  unfold m_ref13_rule at h
  have h0 := h; clear h
  cbv
  rcases condS h0 with ⟨hc1, h0⟩ | ⟨hc1, h0⟩
  · rw [hc1]
    cbv
    obtain ⟨x141, h1, h0⟩ := bindS h0
    rcases condS h1 with ⟨hc2, h1⟩ | ⟨hc2, h1⟩
    · rw [hc2]
      cbv
      cases h1
      try dsimp only at h0
      cases h0
      exact fin_ok hX rfl ⟨[], _, _, ⟨rfl, rfl⟩, rfl, rfl, rfl, rfl, by cbv; try simp⟩
    · rw [hc2]
      cbv
      cases h1
      try dsimp only at h0
      cases h0
      exact fin_ok hX rfl ⟨[], _, _, ⟨rfl, rfl⟩, rfl, rfl, rfl, rfl, by cbv; try simp⟩
  · rw [hc1]
    cbv
    rcases condS h0 with ⟨hc3, h0⟩ | ⟨hc3, h0⟩
    · rw [hc3]
      cbv
      obtain ⟨x143, h1, h0⟩ := bindS h0
      rcases condS h1 with ⟨hc4, h1⟩ | ⟨hc4, h1⟩
      · rw [hc4]
        cbv
        cases h1
        try dsimp only at h0
        cases h0
        exact fin_ok hX rfl ⟨[], _, _, ⟨rfl, rfl⟩, rfl, rfl, rfl, rfl, by cbv; try simp⟩
      · rw [hc4]
        cbv
        cases h1
        try dsimp only at h0
        cases h0
        exact fin_ok hX rfl ⟨[], _, _, ⟨rfl, rfl⟩, rfl, rfl, rfl, rfl, by cbv; try simp⟩
    · rw [hc3]
      cbv
      obtain ⟨x145, h1, h0⟩ := bindS h0
      rcases condS h1 with ⟨hc5, h1⟩ | ⟨hc5, h1⟩
      · rw [hc5]
        cbv
        cases h1
        try dsimp only at h0
        cases h0
        exact fin_ok hX rfl ⟨[], _, _, ⟨rfl, rfl⟩, rfl, rfl, rfl, rfl, by cbv; try simp⟩
      · rw [hc5]
        cbv
        cases h1
        try dsimp only at h0
        cases h0
        exact fin_ok hX rfl ⟨[], _, _, ⟨rfl, rfl⟩, rfl, rfl, rfl, rfl, by cbv; try simp⟩
end Go.Proofs.Ytlpbdikmhngmfaa
