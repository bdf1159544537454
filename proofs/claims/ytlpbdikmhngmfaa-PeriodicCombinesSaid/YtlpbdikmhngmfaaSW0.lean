/-
  The code does what its models say (printed by lift.py).
-/
import Derived.Test.YtlpbdikmhngmfaaQM
import Derived.Test.YtlpbdikmhngmfaaManWC
import Derived.Test.YtlpbdikmhngmfaaSrtP
namespace Go.Proofs.Ytlpbdikmhngmfaa
open Go.RowKit
set_option maxRecDepth 100000

set_option maxHeartbeats 40000000 in
theorem fn_interval_line {O0 : Ops} (hO0 : O0 = std) {x_1 : Int} {r1 : Bool} (h : m_interval_line O0 x_1 = some r1) :
    Fn Try.prog 67 [.c (.int .i64 x_1)] [] (fun v c => v = .c (.bool r1) ∧ c = []) := by
  refine fn_run tab_holds eqs_holds mixed [] Try.func67 (by kernel_rfl) (by kernel_rfl) (Nat.le_of_ble_eq_true rfl) ?_
  intro O X hO hX
  rw [hO0, ← hO] at h
  unfold m_interval_line at h
  have h0 := h; clear h
  cbv
  obtain ⟨x3, h1, h0⟩ := bindS h0
  rcases condS h1 with ⟨hc1, h1⟩ | ⟨hc1, h1⟩
  · rw [hc1]
    cbv
    cases h1
    try dsimp only at h0
    cases h0
    exact fin_ok hX rfl ⟨[], _, _, ⟨rfl, rfl⟩, rfl, rfl, rfl, rfl, by cbv; try simp⟩
  · rw [hc1]
    cbv
    cases h1
    try dsimp only at h0
    cases h0
    exact fin_ok hX rfl ⟨[], _, _, ⟨rfl, rfl⟩, rfl, rfl, rfl, rfl, by cbv; try simp⟩
set_option maxHeartbeats 40000000 in
theorem fn_interval_Valid {O0 : Ops} (hO0 : O0 = std) {s_1 : Int} {s_2 : Int} {r1 : Bool} (h : m_interval_Valid O0 s_1 s_2 = some r1) :
    Fn Try.prog 35 [.agg [.int .i64 s_1, .int .i64 s_2]] [] (fun v c => v = .c (.bool r1) ∧ c = []) := by
  refine fn_run tab_holds eqs_holds mixed [] Try.func35 (by kernel_rfl) (by kernel_rfl) (Nat.le_of_ble_eq_true rfl) ?_
  intro O X hO hX
  rw [hO0, ← hO] at h
  unfold m_interval_Valid at h
  have h0 := h; clear h
  cbv
  obtain ⟨x6, h1, h0⟩ := bindS h0
  obtain ⟨b1, hv, h1⟩ := bindS h1
  refine call_is hO hX (fn_interval_line hO hv) (by kernel_rfl) [] rfl trivial rfl ?_
  cbv
  rcases condS h1 with ⟨hc1, h1⟩ | ⟨hc1, h1⟩
  · rw [hc1]
    cbv
    obtain ⟨b2, hv, h1⟩ := bindS h1
    refine call_is hO hX (fn_interval_line hO hv) (by kernel_rfl) [] rfl trivial rfl ?_
    cbv
    rcases condS h1 with ⟨hc2, h1⟩ | ⟨hc2, h1⟩
    · rw [hc2]
      cbv
      cases h1
      try dsimp only at h0
      cases h0
      exact fin_ok hX rfl ⟨[], _, _, ⟨rfl, rfl⟩, rfl, rfl, rfl, rfl, by cbv; try simp⟩
    · rw [hc2]
      cbv
      cases h1
      try dsimp only at h0
      cases h0
      exact fin_ok hX rfl ⟨[], _, _, ⟨rfl, rfl⟩, rfl, rfl, rfl, rfl, by cbv; try simp⟩
  · rw [hc1]
    cbv
    cases h1
    try dsimp only at h0
    cases h0
    exact fin_ok hX rfl ⟨[], _, _, ⟨rfl, rfl⟩, rfl, rfl, rfl, rfl, by cbv; try simp⟩
set_option maxHeartbeats 40000000 in
theorem fn_periodic_Of_1 {O0 : Ops} (hO0 : O0 = std) {s_1 : Int} {s_2 : Int} {r1 : Bool} (h : m_periodic_Of_1 O0 s_1 s_2 = some r1) :
    Fn Try.prog 34 [.agg [.int .i64 s_1, .int .i64 s_2]] [] (fun v c => v = .c (.bool r1) ∧ c = []) := by
  refine fn_run tab_holds eqs_holds mixed [] Try.func34 (by kernel_rfl) (by kernel_rfl) (Nat.le_of_ble_eq_true rfl) ?_
  intro O X hO hX
  rw [hO0, ← hO] at h
  unfold m_periodic_Of_1 at h
  have h0 := h; clear h
  cbv
  obtain ⟨b3, hv, h0⟩ := bindS h0
  refine call_is hO hX (fn_interval_Valid hO hv) (by kernel_rfl) [] rfl trivial rfl ?_
  cbv
  cases h0
  exact fin_ok hX rfl ⟨[], _, _, ⟨rfl, rfl⟩, rfl, rfl, rfl, rfl, by cbv; try simp⟩
set_option maxHeartbeats 40000000 in
theorem fn_slices_IndexFunc {O0 : Ops} (hO0 : O0 = std) {s_1 : List (Int × Int)} {r1 : Int} (h : m_slices_IndexFunc O0 s_1 = some r1) :
    Fn Try.prog 66 [.c (.sl 0), .c (.fn 34 [])] [.arr false .i2 s_1] (fun v c => v = .c (.int .i64 r1) ∧ c = []) := by
  refine fn_run tab_holds eqs_holds mixed [] Try.func66 (by kernel_rfl) (by kernel_rfl) (Nat.le_of_ble_eq_true rfl) ?_
  intro O X hO hX
  rw [hO0, ← hO] at h
  unfold m_slices_IndexFunc at h
  have h0 := h; clear h
  cbv
  obtain ⟨e1, hi, h0⟩ := bindS h0
  obtain ⟨I1, hI1, hi⟩ := loopS hi
  refine loop1 tab_holds eqs_holds mixed [] hO hX I1 (fun y => [(8, .c (.int .i64 y.2))]) (fun _ => []) (fun y => y.1) _ (by kernel_rfl) hi (by cbv; try simp) ?_
  refine allp ?_
  intro n1
  intro x1 hi
  cbv
  rw [hI1] at hi
  obtain ⟨n1, rfl, x1, h1, hi1⟩ := iterS hi
  unfold m_slices_IndexFunc_L1 at h1
  try dsimp only at h1
  rcases condS h1 with ⟨hc1, h1⟩ | ⟨hc1, h1⟩
  · rw [hc1]
    cbv
    obtain ⟨hg2, h1⟩ := grdS h1
    refine ⟨idx_of hO hg2, ?_⟩
    obtain ⟨hg3, h1⟩ := grdS h1
    refine ⟨kin_of hO hg3, ?_⟩
    obtain ⟨b4, hv, h1⟩ := bindS h1
    refine call_is hO hX (fn_periodic_Of_1 hO hv) (by kernel_rfl) [] rfl trivial rfl ?_
    cbv
    rcases condS h1 with ⟨hc4, h1⟩ | ⟨hc4, h1⟩
    · rw [hc4]
      cbv
      cases h1
      cases exitI hi1
      try dsimp only at h0
      cases h0
      exact fin_ok hX rfl ⟨[], _, _, ⟨rfl, rfl⟩, rfl, rfl, rfl, rfl, by cbv; try simp⟩
    · rw [hc4]
      cbv
      obtain ⟨hg5, h1⟩ := grdS h1
      refine ⟨inr_of hO hg5, ?_⟩
      cases h1
      exact ⟨_, [0], nextI hI1 hi1, by cbv; try simp, by first | exact Nat.lt_succ_self _ | omega⟩
  · rw [hc1]
    cbv
    cases h1
    cases exitI hi1
    try dsimp only at h0
    cases h0
    exact fin_ok hX rfl ⟨[], _, _, ⟨rfl, rfl⟩, rfl, rfl, rfl, rfl, by cbv; try simp⟩
set_option maxHeartbeats 40000000 in
theorem fn_slices_ContainsFunc {O0 : Ops} (hO0 : O0 = std) {s_1 : List (Int × Int)} {r1 : Bool} (h : m_slices_ContainsFunc O0 s_1 = some r1) :
    Fn Try.prog 33 [.c (.sl 0), .c (.fn 34 [])] [.arr false .i2 s_1] (fun v c => v = .c (.bool r1) ∧ c = []) := by
  refine fn_run tab_holds eqs_holds mixed [] Try.func33 (by kernel_rfl) (by kernel_rfl) (Nat.le_of_ble_eq_true rfl) ?_
  intro O X hO hX
  rw [hO0, ← hO] at h
  unfold m_slices_ContainsFunc at h
  have h0 := h; clear h
  cbv
  obtain ⟨n1, hv, h0⟩ := bindS h0
  refine call_is hO hX (fn_slices_IndexFunc hO hv) (by kernel_rfl) [0] rfl ⟨rfl, rfl, trivial⟩ rfl ?_
  cbv
  cases h0
  exact fin_ok hX rfl ⟨[], _, _, ⟨rfl, rfl⟩, rfl, rfl, rfl, rfl, by cbv; try simp⟩
set_option maxHeartbeats 40000000 in
theorem fn_integer_Div {O0 : Ops} (hO0 : O0 = std) {a_1 : Int} {b_1 : Int} {r1 : Int} {r2 : Int} {r3 : Int} (h : m_integer_Div O0 a_1 b_1 = some (r1, r2, r3)) :
    Fn Try.prog 77 [.c (.int .i64 a_1), .c (.int .i64 b_1)] [] (fun v c => v = .tup [.one (.int .i64 r1), .one (.int .i64 r2), .one (.int .i64 r3)] ∧ c = []) := by
  refine fn_run tab_holds eqs_holds mixed [(5, (.seg 1 [0, 1, 2, 3, 4, 5, 6, 7] .fin), [])] Try.func77 (by kernel_rfl) (by kernel_rfl) (Nat.le_of_ble_eq_true rfl) ?_
  intro O X hO hX
  rw [hO0, ← hO] at h
  unfold m_integer_Div at h
  have h0 := h; clear h
  cbv
  obtain ⟨e1, h1, h0⟩ := bindS h0
  rcases condS h1 with ⟨hc1, h1⟩ | ⟨hc1, h1⟩
  · rw [hc1]
    cbv
    cases h1
    try dsimp only at h0
    cases h0
    exact fin_ok hX rfl ⟨[], _, _, ⟨rfl, rfl⟩, rfl, rfl, rfl, rfl, by cbv; try simp⟩
  · as_aux_lemma =>
    rw [hc1]
    cbv
    obtain ⟨x12, h2, h1⟩ := bindS h1
    rcases condS h2 with ⟨hc2, h2⟩ | ⟨hc2, h2⟩
    · as_aux_lemma =>
      rw [hc2]
      cbv
      cases h2
      try dsimp only at h1
      rcases condS h1 with ⟨hc3, h1⟩ | ⟨hc3, h1⟩
      · rw [hc3]
        cbv
        cases h1
        try dsimp only at h0
        cases h0
        exact fin_ok hX rfl ⟨[], _, _, ⟨rfl, rfl⟩, rfl, rfl, rfl, rfl, by cbv; try simp⟩
      · as_aux_lemma =>
        rw [hc3]
        cbv
        cases h1
        try dsimp only at h0
        obtain ⟨hg4, h0⟩ := grdS h0
        refine ⟨nz_of hO hg4, ?_⟩
        obtain ⟨hg5, h0⟩ := grdS h0
        refine ⟨inr_of hO hg5, ?_⟩
        obtain ⟨x16, h1, h0⟩ := bindS h0
        refine ⟨nz_of hO hg4, ?_⟩
        rcases condS h1 with ⟨hc6, h1⟩ | ⟨hc6, h1⟩
        · rw [hc6]
          cbv
          cases h1
          try dsimp only at h0
          obtain ⟨⟨q2, r2⟩, h1, h0⟩ := bindS h0
          rcases condS h1 with ⟨hc7, h1⟩ | ⟨hc7, h1⟩
          · rw [hc7]
            cbv
            obtain ⟨hg8, h1⟩ := grdS h1
            refine ⟨inr_of hO hg8, ?_⟩
            obtain ⟨hg9, h1⟩ := grdS h1
            refine ⟨inr_of hO hg9, ?_⟩
            cases h1
            try dsimp only at h0
            cases h0
            exact fin_ok hX rfl ⟨[], _, _, ⟨rfl, rfl⟩, rfl, rfl, rfl, rfl, by cbv; try simp⟩
          · rw [hc7]
            cbv
            cases h1
            try dsimp only at h0
            cases h0
            exact fin_ok hX rfl ⟨[], _, _, ⟨rfl, rfl⟩, rfl, rfl, rfl, rfl, by cbv; try simp⟩
        · rw [hc6]
          cbv
          cases h1
          try dsimp only at h0
          obtain ⟨⟨q2, r2⟩, h1, h0⟩ := bindS h0
          replace h1 := condF h1 rfl
          cases h1
          try dsimp only at h0
          cases h0
          exact fin_ok hX rfl ⟨[], _, _, ⟨rfl, rfl⟩, rfl, rfl, rfl, rfl, by cbv; try simp⟩
    · as_aux_lemma =>
      rw [hc2]
      cbv
      cases h2
      try dsimp only at h1
      replace h1 := condF h1 rfl
      cases h1
      try dsimp only at h0
      obtain ⟨hg10, h0⟩ := grdS h0
      refine ⟨nz_of hO hg10, ?_⟩
      obtain ⟨hg11, h0⟩ := grdS h0
      refine ⟨inr_of hO hg11, ?_⟩
      obtain ⟨x16, h1, h0⟩ := bindS h0
      refine ⟨nz_of hO hg10, ?_⟩
      rcases condS h1 with ⟨hc12, h1⟩ | ⟨hc12, h1⟩
      · rw [hc12]
        cbv
        cases h1
        try dsimp only at h0
        obtain ⟨⟨q2, r2⟩, h1, h0⟩ := bindS h0
        rcases condS h1 with ⟨hc13, h1⟩ | ⟨hc13, h1⟩
        · rw [hc13]
          cbv
          obtain ⟨hg14, h1⟩ := grdS h1
          refine ⟨inr_of hO hg14, ?_⟩
          obtain ⟨hg15, h1⟩ := grdS h1
          refine ⟨inr_of hO hg15, ?_⟩
          cases h1
          try dsimp only at h0
          cases h0
          exact fin_ok hX rfl ⟨[], _, _, ⟨rfl, rfl⟩, rfl, rfl, rfl, rfl, by cbv; try simp⟩
        · rw [hc13]
          cbv
          cases h1
          try dsimp only at h0
          cases h0
          exact fin_ok hX rfl ⟨[], _, _, ⟨rfl, rfl⟩, rfl, rfl, rfl, rfl, by cbv; try simp⟩
      · rw [hc12]
        cbv
        cases h1
        try dsimp only at h0
        obtain ⟨⟨q2, r2⟩, h1, h0⟩ := bindS h0
        replace h1 := condF h1 rfl
        cases h1
        try dsimp only at h0
        cases h0
        exact fin_ok hX rfl ⟨[], _, _, ⟨rfl, rfl⟩, rfl, rfl, rfl, rfl, by cbv; try simp⟩
set_option maxHeartbeats 40000000 in
theorem fn_integer_Mod {O0 : Ops} (hO0 : O0 = std) {a_1 : Int} {b_1 : Int} {r1 : Int} (h : m_integer_Mod O0 a_1 b_1 = some r1) :
    Fn Try.prog 51 [.c (.int .i64 a_1), .c (.int .i64 b_1)] [] (fun v c => v = .c (.int .i64 r1) ∧ c = []) := by
  refine fn_run tab_holds eqs_holds mixed [] Try.func51 (by kernel_rfl) (by kernel_rfl) (Nat.le_of_ble_eq_true rfl) ?_
  intro O X hO hX
  rw [hO0, ← hO] at h
  unfold m_integer_Mod at h
  have h0 := h; clear h
  cbv
  obtain ⟨⟨n2, n3, n4⟩, hv, h0⟩ := bindS h0
  try dsimp only at h0
  refine call_is hO hX (fn_integer_Div hO hv) (by kernel_rfl) [] rfl trivial rfl ?_
  cbv
  cases h0
  exact fin_ok hX rfl ⟨[], _, _, ⟨rfl, rfl⟩, rfl, rfl, rfl, rfl, by cbv; try simp⟩
set_option maxHeartbeats 40000000 in
theorem fn_periodic_fold {O0 : Ops} (hO0 : O0 = std) {period_1 : Int} {l_1 : List (Int × Int)} {r1 : List (Int × Int)} (h : m_periodic_fold O0 period_1 l_1 = some r1) :
    Fn Try.prog 37 [.c (.int .i64 period_1), .c (.sl 0)] [.arr false .i2 l_1] (fun v c => v = .c (.sl 1) ∧ c = [.own 29 .i2 r1]) := by
  refine fn_run tab_holds eqs_holds mixed [] Try.func37 (by kernel_rfl) (by kernel_rfl) (Nat.le_of_ble_eq_true rfl) ?_
  intro O X hO hX
  rw [hO0, ← hO] at h
  unfold m_periodic_fold at h
  have h0 := h; clear h
  cbv
  obtain ⟨e1, hi, h0⟩ := bindS h0
  obtain ⟨I1, hI1, hi⟩ := loopS hi
  refine loop1 tab_holds eqs_holds mixed [] hO hX I1 (fun y => [(5, .c (.sl 2)), (12, .c (.int .i64 y.2.1))]) (fun y => [(2, .own 29 .i2 y.2.2)]) (fun y => y.1) _ (by kernel_rfl) hi (by cbv; try simp) ?_
  refine allp ?_
  intro n1
  refine allp ?_
  intro x17
  intro l3 hi
  cbv
  rw [hI1] at hi
  obtain ⟨n1, rfl, x1, h1, hi1⟩ := iterS hi
  unfold m_periodic_fold_L1 at h1
  try dsimp only at h1
  rcases condS h1 with ⟨hc1, h1⟩ | ⟨hc1, h1⟩
  · as_aux_lemma =>
    rw [hc1]
    cbv
    obtain ⟨hg2, h1⟩ := grdS h1
    refine ⟨idx_of hO hg2, ?_⟩
    obtain ⟨hg3, h1⟩ := grdS h1
    refine ⟨kin_of hO hg3, ?_⟩
    obtain ⟨hg4, h1⟩ := grdS h1
    refine ⟨inr_of hO hg4, ?_⟩
    rcases condS h1 with ⟨hc5, h1⟩ | ⟨hc5, h1⟩
    · rw [hc5]
      cbv
      cases h1
      cases exitI hi1
      try dsimp only at h0
      cases h0
      exact fin_ok hX rfl ⟨[4], _, _, ⟨rfl, rfl⟩, rfl, rfl, rfl, rfl, by cbv; try simp⟩
    · rw [hc5]
      cbv
      obtain ⟨n6, hv, h1⟩ := bindS h1
      refine call_is hO hX (fn_integer_Mod hO hv) (by kernel_rfl) [] rfl trivial rfl ?_
      cbv
      obtain ⟨hg6, h1⟩ := grdS h1
      refine ⟨inr_of hO hg6, ?_⟩
      obtain ⟨hg7, h1⟩ := grdS h1
      refine ⟨inr_of hO hg7, ?_⟩
      obtain ⟨hg8, h1⟩ := grdS h1
      refine ⟨room_of hO hg8, ?_⟩
      obtain ⟨hg9, h1⟩ := grdS h1
      refine ⟨room_of hO hg9, ?_⟩
      obtain ⟨l5, h2, h1⟩ := bindS h1
      rcases condS h2 with ⟨hc10, h2⟩ | ⟨hc10, h2⟩
      · rw [hc10]
        cbv
        obtain ⟨hg11, h2⟩ := grdS h2
        refine ⟨inr_of hO hg11, ?_⟩
        obtain ⟨hg12, h2⟩ := grdS h2
        refine ⟨room_of hO hg12, ?_⟩
        obtain ⟨hg13, h2⟩ := grdS h2
        refine ⟨room_of hO hg13, ?_⟩
        cases h2
        try dsimp only at h1
        obtain ⟨hg14, h1⟩ := grdS h1
        refine ⟨inr_of hO hg14, ?_⟩
        cases h1
        exact ⟨_, [0, 1, 7], nextI hI1 hi1, by cbv; try simp, by first | exact Nat.lt_succ_self _ | omega⟩
      · rw [hc10]
        cbv
        cases h2
        try dsimp only at h1
        obtain ⟨hg15, h1⟩ := grdS h1
        refine ⟨inr_of hO hg15, ?_⟩
        cases h1
        exact ⟨_, [0, 1, 5], nextI hI1 hi1, by cbv; try simp, by first | exact Nat.lt_succ_self _ | omega⟩
  · as_aux_lemma =>
    rw [hc1]
    cbv
    cases h1
    cases exitI hi1
    try dsimp only at h0
    refine call_inline tab_holds eqs_holds mixed [(7, (.seg 1 [0, 1, 2, 3, 4, 5, 6, 7, 8, 9, 10, 11, 12] .fin), []), (8, (.seg 1 [0, 1, 2, 3, 4, 5, 6, 7, 8, 9, 10, 11, 12, 13] .fin), [14])] hO hX (by kernel_rfl) Try.func68 (by kernel_rfl) (by kernel_rfl) rfl ?_
    intro X1 hX1 hF1
    cbv
    obtain ⟨l7, hv, h0⟩ := bindS h0
    refine srt_joined hO hX1 (i := 2) rfl hv ?_
    cbv
    obtain ⟨l13, hi, h0⟩ := bindS h0
    obtain ⟨I2, hI2, hi⟩ := loopS hi
    refine loop1 tab_holds eqs_holds mixed [(7, (.seg 1 [0, 1, 2, 3, 4, 5, 6, 7, 8, 9, 10, 11, 12] .fin), []), (8, (.seg 1 [0, 1, 2, 3, 4, 5, 6, 7, 8, 9, 10, 11, 12, 13] .fin), [14])] hO hX1 I2 (fun y => [(2, .junk), (3, .c (.sl 4)), (11, .c (.int .i64 y.2.1))]) (fun y => [(4, .own 29 .i2 y.2.2)]) (fun y => y.1) _ (by kernel_rfl) hi (by cbv; try simp) ?_
    refine allp ?_
    intro n2
    refine allp ?_
    intro x21
    intro l10 hi
    cbv
    rw [hI2] at hi
    obtain ⟨n2, rfl, x2, h1, hi2⟩ := iterS hi
    unfold m_periodic_fold_L2 at h1
    try dsimp only at h1
    rcases condS h1 with ⟨hc16, h1⟩ | ⟨hc16, h1⟩
    · as_aux_lemma =>
      rw [hc16]
      cbv
      obtain ⟨hg17, h1⟩ := grdS h1
      refine ⟨idx_of hO hg17, ?_⟩
      obtain ⟨hg18, h1⟩ := grdS h1
      refine ⟨kin_of hO hg18, ?_⟩
      obtain ⟨x23, h2, h1⟩ := bindS h1
      rcases condS h2 with ⟨hc19, h2⟩ | ⟨hc19, h2⟩
      · as_aux_lemma =>
        rw [hc19]
        cbv
        obtain ⟨hg20, h2⟩ := grdS h2
        refine ⟨inr_of hO hg20, ?_⟩
        obtain ⟨hg21, h2⟩ := grdS h2
        refine ⟨idx_of hO hg21, ?_⟩
        obtain ⟨hg22, h2⟩ := grdS h2
        refine ⟨kin_of hO hg22, ?_⟩
        cases h2
        try dsimp only at h1
        obtain ⟨l12, h2, h1⟩ := bindS h1
        rcases condS h2 with ⟨hc23, h2⟩ | ⟨hc23, h2⟩
        · rw [hc23]
          cbv
          obtain ⟨hg24, h2⟩ := grdS h2
          refine ⟨inr_of hO hg24, ?_⟩
          refine ⟨inr_of hO hg24, ?_⟩
          obtain ⟨hg25, h2⟩ := grdS h2
          refine ⟨idx_of hO hg25, ?_⟩
          obtain ⟨hg26, h2⟩ := grdS h2
          refine ⟨kin_of hO hg26, ?_⟩
          cases h2
          try dsimp only at h1
          refine ⟨idx_of hO hg25, ?_⟩
          refine ⟨kin_of hO hg26, ?_⟩
          obtain ⟨hg27, h1⟩ := grdS h1
          refine ⟨inr_of hO hg27, ?_⟩
          cases h1
          exact ⟨_, [0, 1, 2, 3, 4], nextI hI2 hi2, by cbv; try simp, by first | exact Nat.lt_succ_self _ | omega⟩
        · rw [hc23]
          cbv
          obtain ⟨hg28, h2⟩ := grdS h2
          refine ⟨room_of hO hg28, ?_⟩
          obtain ⟨hg29, h2⟩ := grdS h2
          refine ⟨room_of hO hg29, ?_⟩
          cases h2
          try dsimp only at h1
          obtain ⟨hg30, h1⟩ := grdS h1
          refine ⟨inr_of hO hg30, ?_⟩
          cases h1
          exact ⟨_, [0, 1, 2, 3, 7], nextI hI2 hi2, by cbv; try simp, by first | exact Nat.lt_succ_self _ | omega⟩
      · rw [hc19]
        cbv
        cases h2
        try dsimp only at h1
        obtain ⟨l12, h2, h1⟩ := bindS h1
        replace h2 := condF h2 rfl
        obtain ⟨hg31, h2⟩ := grdS h2
        refine ⟨room_of hO hg31, ?_⟩
        obtain ⟨hg32, h2⟩ := grdS h2
        refine ⟨room_of hO hg32, ?_⟩
        cases h2
        try dsimp only at h1
        obtain ⟨hg33, h1⟩ := grdS h1
        refine ⟨inr_of hO hg33, ?_⟩
        cases h1
        exact ⟨_, [0, 1, 2, 3, 7], nextI hI2 hi2, by cbv; try simp, by first | exact Nat.lt_succ_self _ | omega⟩
    · rw [hc16]
      cbv
      cases h1
      cases exitI hi2
      try dsimp only at h0
      refine hF1 _ _ ?_
      cbv
      cases h0
      exact fin_ok hX rfl ⟨[4], _, _, ⟨rfl, rfl⟩, rfl, rfl, rfl, rfl, by cbv; try simp⟩
end Go.Proofs.Ytlpbdikmhngmfaa
