/-
  The code does what its models say (printed by lift.py).
-/
import Derived.Test.YtlpbdikmhngmfaaQM
import Derived.Test.YtlpbdikmhngmfaaManWC
import Derived.Test.YtlpbdikmhngmfaaSW5
import Derived.Test.YtlpbdikmhngmfaaSW6
import Derived.Test.YtlpbdikmhngmfaaSW7
namespace Go.Proofs.Ytlpbdikmhngmfaa
open Go.RowKit
set_option maxRecDepth 100000

set_option maxHeartbeats 40000000 in
theorem fn_ref13_Same_2 {O0 : Ops} (hO0 : O0 = std) {a_1 : List (Int × Int)} {r1 : Bool} (h : m_ref13_Same_2 O0 a_1 = some r1) :
    Fn Try.prog 63 [.c (.sl 0), .c (.sl 0)] [.arr false .i2 a_1] (fun v c => v = .c (.bool r1) ∧ c = []) := by
  refine fn_run tab_holds eqs_holds mixed [(6, (.seg 1 [0, 1, 2, 3, 4, 5, 6, 7, 8] .fin), [])] Try.func63 (by kernel_rfl) (by kernel_rfl) (Nat.le_of_ble_eq_true rfl) ?_
  intro O X hO hX
  rw [hO0, ← hO] at h
  unfold m_ref13_Same_2 at h
  have h0 := h; clear h
  cbv
  rw [show (O .not (O .eq (O .ofNat (O .len .i2 a_1)) (O .ofNat (O .len .i2 a_1)))) = false from std_neq_self hO _]
  cbv
  replace h0 := condF h0 (std_neq_self hO _)
  obtain ⟨e1, hi, h0⟩ := bindS h0
  obtain ⟨I1, hI1, hi⟩ := loopS hi
  refine loop1 tab_holds eqs_holds mixed [(6, (.seg 1 [0, 1, 2, 3, 4, 5, 6, 7, 8] .fin), [])] hO hX I1 (fun y => [(5, .c (.int .i64 y.2))]) (fun _ => []) (fun y => y.1) _ (by kernel_rfl) hi (by cbv; try simp) ?_
  refine allp ?_
  intro n1
  intro i28 hi
  cbv
  rw [hI1] at hi
  obtain ⟨n1, rfl, x1, h1, hi1⟩ := iterS hi
  unfold m_ref13_Same_2_L1 at h1
  try dsimp only at h1
  rcases condS h1 with ⟨hc1, h1⟩ | ⟨hc1, h1⟩
  · rw [hc1]
    cbv
    obtain ⟨hg2, h1⟩ := grdS h1
    refine ⟨idx_of hO hg2, ?_⟩
    obtain ⟨hg3, h1⟩ := grdS h1
    refine ⟨kin_of hO hg3, ?_⟩
    refine ⟨idx_of hO hg2, ?_⟩
    refine ⟨kin_of hO hg3, ?_⟩
    rcases condS h1 with ⟨hc4, h1⟩ | ⟨hc4, h1⟩
    · rw [hc4]
      cbv
      cases h1
      cases exitI hi1
      try dsimp only at h0
      cases h0
      exact fin_ok hX rfl ⟨[], _, _, ⟨rfl, rfl⟩, rfl, rfl, rfl, rfl, by cbv; try simp⟩
    · rw [hc4]
      cbv
      obtain ⟨hg5, h1⟩ := grdS h1
      refine ⟨inr_of hO hg5, ?_⟩
      cases h1
      exact ⟨_, [0], nextI hI1 hi1, by cbv; try simp, by first | exact Nat.lt_succ_self _ | omega⟩
  · rw [hc1]
    cbv
    cases h1
    cases exitI hi1
    try dsimp only at h0
    cases h0
    exact fin_ok hX rfl ⟨[], _, _, ⟨rfl, rfl⟩, rfl, rfl, rfl, rfl, by cbv; try simp⟩
set_option maxHeartbeats 40000000 in
theorem fn_ref13_cut {O0 : Ops} (hO0 : O0 = std) {period_1 : Int} {l_1 : List (Int × Int)} {r1 : Int} {r2 : List (Int × Int)} (h : m_ref13_cut O0 period_1 l_1 = some (r1, r2)) :
    Fn Try.prog 73 [.c (.int .i64 period_1), .c (.sl 0)] [.arr false .i2 l_1] (fun v c => v = .agg [.int .i64 r1, .sl 1] ∧ c = [.own 29 .i2 r2]) := by
  refine fn_run tab_holds eqs_holds mixed [(6, (.seg 1 [0, 1, 2, 3, 4, 5, 6, 7, 8, 9, 10, 11, 12, 13] (.seg 2 [14] .fin)), [15, 16])] Try.func73 (by kernel_rfl) (by kernel_rfl) (Nat.le_of_ble_eq_true rfl) ?_
  intro O X hO hX
  rw [hO0, ← hO] at h
  unfold m_ref13_cut at h
  have h0 := h; clear h
  cbv
  obtain ⟨l108, hi, h0⟩ := bindS h0
  obtain ⟨I1, hI1, hi⟩ := loopS hi
  refine loop1 tab_holds eqs_holds mixed [(6, (.seg 1 [0, 1, 2, 3, 4, 5, 6, 7, 8, 9, 10, 11, 12, 13] (.seg 2 [14] .fin)), [15, 16])] hO hX I1 (fun y => [(5, .c (.sl 2)), (6, .c (.int .i64 y.2.1))]) (fun y => [(2, .own 29 .i2 y.2.2)]) (fun y => y.1) _ (by kernel_rfl) hi (by cbv; try simp) ?_
  refine allp ?_
  intro n1
  refine allp ?_
  intro i30
  intro l105 hi
  cbv
  rw [hI1] at hi
  obtain ⟨n1, rfl, x1, h1, hi1⟩ := iterS hi
  unfold m_ref13_cut_L1 at h1
  try dsimp only at h1
  rcases condS h1 with ⟨hc1, h1⟩ | ⟨hc1, h1⟩
  · rw [hc1]
    cbv
    obtain ⟨hg2, h1⟩ := grdS h1
    refine ⟨idx_of hO hg2, ?_⟩
    obtain ⟨hg3, h1⟩ := grdS h1
    refine ⟨kin_of hO hg3, ?_⟩
    obtain ⟨l107, h2, h1⟩ := bindS h1
    rcases condS h2 with ⟨hc4, h2⟩ | ⟨hc4, h2⟩
    · rw [hc4]
      cbv
      refine ⟨idx_of hO hg2, ?_⟩
      refine ⟨kin_of hO hg3, ?_⟩
      refine ⟨idx_of hO hg2, ?_⟩
      refine ⟨kin_of hO hg3, ?_⟩
      obtain ⟨hg5, h2⟩ := grdS h2
      refine ⟨room_of hO hg5, ?_⟩
      obtain ⟨hg6, h2⟩ := grdS h2
      refine ⟨room_of hO hg6, ?_⟩
      cases h2
      try dsimp only at h1
      obtain ⟨hg7, h1⟩ := grdS h1
      refine ⟨inr_of hO hg7, ?_⟩
      cases h1
      exact ⟨_, [0, 1, 4], nextI hI1 hi1, by cbv; try simp, by first | exact Nat.lt_succ_self _ | omega⟩
    · rw [hc4]
      cbv
      cases h2
      try dsimp only at h1
      obtain ⟨hg8, h1⟩ := grdS h1
      refine ⟨inr_of hO hg8, ?_⟩
      cases h1
      exact ⟨_, [0, 1, 2], nextI hI1 hi1, by cbv; try simp, by first | exact Nat.lt_succ_self _ | omega⟩
  · rw [hc1]
    cbv
    cases h1
    cases exitI hi1
    try dsimp only at h0
    cases h0
    exact fin_ok hX rfl ⟨[2], _, _, ⟨rfl, rfl⟩, rfl, rfl, rfl, rfl, by cbv; try simp⟩
set_option maxHeartbeats 40000000 in
theorem fn_ref13_Least {O0 : Ops} (hO0 : O0 = std) {period_1 : Int} {l_1 : List (Int × Int)} {r1 : Int} {r2 : List (Int × Int)} (h : m_ref13_Least O0 period_1 l_1 = some (r1, r2)) :
    Fn Try.prog 46 [.c (.int .i64 period_1), .c (.sl 0)] [.arr false .i2 l_1] (fun v c => v = .agg [.int .i64 r1, .sl 1] ∧ c = [.own 29 .i2 r2]) := by
  refine fn_run tab_holds eqs_holds mixed [] Try.func46 (by kernel_rfl) (by kernel_rfl) (Nat.le_of_ble_eq_true rfl) ?_
  intro O X hO hX
  rw [hO0, ← hO] at h
  unfold m_ref13_Least at h
  have h0 := h; clear h
  cbv
  obtain ⟨e1, hi, h0⟩ := bindS h0
  obtain ⟨I1, hI1, hi⟩ := loopS hi
  refine loop1 tab_holds eqs_holds mixed [] hO hX I1 (fun y => [(5, .c (.int .i64 y.2))]) (fun _ => []) (fun y => y.1) _ (by kernel_rfl) hi (by cbv; try simp) ?_
  refine allp ?_
  intro n1
  intro q4 hi
  cbv
  rw [hI1] at hi
  obtain ⟨n1, rfl, x1, h1, hi1⟩ := iterS hi
  unfold m_ref13_Least_L1 at h1
  try dsimp only at h1
  obtain ⟨hg1, h1⟩ := grdS h1
  refine ⟨inr_of hO hg1, ?_⟩
  rcases condS h1 with ⟨hc2, h1⟩ | ⟨hc2, h1⟩
  · as_aux_lemma =>
    rw [hc2]
    cbv
    obtain ⟨x164, h2, h1⟩ := bindS h1
    rcases condS h2 with ⟨hc3, h2⟩ | ⟨hc3, h2⟩
    · as_aux_lemma =>
      rw [hc3]
      cbv
      obtain ⟨hg4, h2⟩ := grdS h2
      refine ⟨nz_of hO hg4, ?_⟩
      obtain ⟨e2, hv, h2⟩ := bindS h2
      rcases e2 with _ | l102
      · try dsimp only at h2
        refine call_is hO hX (fn_ref13_rotated hO hv) (by kernel_rfl) [0] rfl ⟨rfl, rfl, trivial⟩ rfl ?_
        cbv
        obtain ⟨b39, hv, h2⟩ := bindS h2
        refine call_is hO hX (fn_ref13_Same_2 hO hv) (by kernel_rfl) [0] rfl ⟨rfl, rfl, trivial⟩ rfl ?_
        cbv
        cases h2
        try dsimp only at h1
        rcases condS h1 with ⟨hc5, h1⟩ | ⟨hc5, h1⟩
        · rw [hc5]
          cbv
          obtain ⟨⟨n41, l109⟩, hv, h1⟩ := bindS h1
          try dsimp only at h1
          refine call_is hO hX (fn_ref13_cut hO hv) (by kernel_rfl) [0] rfl ⟨rfl, rfl, trivial⟩ rfl ?_
          cbv
          cases h1
          cases exitI hi1
          try dsimp only at h0
          cases h0
          exact fin_ok hX rfl ⟨[2], _, _, ⟨rfl, rfl⟩, rfl, rfl, rfl, rfl, by cbv; try simp⟩
        · rw [hc5]
          cbv
          obtain ⟨hg6, h1⟩ := grdS h1
          refine ⟨inr_of hO hg6, ?_⟩
          cases h1
          exact ⟨_, [0, 1], nextI hI1 hi1, by cbv; try simp, by first | exact Nat.lt_succ_self _ | omega⟩
      · try dsimp only at h2
        refine call_is hO hX (fn_ref13_rotated hO hv) (by kernel_rfl) [0] rfl ⟨rfl, rfl, trivial⟩ rfl ?_
        cbv
        obtain ⟨b40, hv, h2⟩ := bindS h2
        refine call_is hO hX (fn_ref13_Same hO hv) (by kernel_rfl) [2, 0] rfl ⟨rfl, rfl, rfl, rfl, trivial⟩ rfl ?_
        cbv
        cases h2
        try dsimp only at h1
        rcases condS h1 with ⟨hc7, h1⟩ | ⟨hc7, h1⟩
        · rw [hc7]
          cbv
          obtain ⟨⟨n41, l109⟩, hv, h1⟩ := bindS h1
          try dsimp only at h1
          refine call_is hO hX (fn_ref13_cut hO hv) (by kernel_rfl) [0] rfl ⟨rfl, rfl, trivial⟩ rfl ?_
          cbv
          cases h1
          cases exitI hi1
          try dsimp only at h0
          cases h0
          exact fin_ok hX rfl ⟨[3], _, _, ⟨rfl, rfl⟩, rfl, rfl, rfl, rfl, by cbv; try simp⟩
        · rw [hc7]
          cbv
          obtain ⟨hg8, h1⟩ := grdS h1
          refine ⟨inr_of hO hg8, ?_⟩
          cases h1
          exact ⟨_, [0, 1], nextI hI1 hi1, by cbv; try simp, by first | exact Nat.lt_succ_self _ | omega⟩
    · rw [hc3]
      cbv
      obtain ⟨hg9, h2⟩ := grdS h2
      refine ⟨nz_of hO hg9, ?_⟩
      cases h2
      try dsimp only at h1
      replace h1 := condF h1 rfl
      obtain ⟨hg10, h1⟩ := grdS h1
      refine ⟨inr_of hO hg10, ?_⟩
      cases h1
      exact ⟨_, [0, 1], nextI hI1 hi1, by cbv; try simp, by first | exact Nat.lt_succ_self _ | omega⟩
  · as_aux_lemma =>
    rw [hc2]
    cbv
    cases h1
    cases exitI hi1
    try dsimp only at h0
    obtain ⟨best9, hi, h0⟩ := bindS h0
    obtain ⟨I2, hI2, hi⟩ := loopS hi
    refine loop1 tab_holds eqs_holds mixed [] hO hX I2 (fun y => [(6, .c (.int .i64 y.2.1)), (7, .c (.int .i64 y.2.2))]) (fun _ => []) (fun y => y.1) _ (by kernel_rfl) hi (by cbv; try simp) ?_
    refine allp ?_
    intro n2
    refine allp ?_
    intro best6
    intro q7 hi
    cbv
    rw [hI2] at hi
    obtain ⟨n2, rfl, x2, h1, hi2⟩ := iterS hi
    unfold m_ref13_Least_L2 at h1
    try dsimp only at h1
    obtain ⟨hg11, h1⟩ := grdS h1
    refine ⟨inr_of hO hg11, ?_⟩
    rcases condS h1 with ⟨hc12, h1⟩ | ⟨hc12, h1⟩
    · as_aux_lemma =>
      rw [hc12]
      cbv
      obtain ⟨x168, h2, h1⟩ := bindS h1
      rcases condS h2 with ⟨hc13, h2⟩ | ⟨hc13, h2⟩
      · as_aux_lemma =>
        rw [hc13]
        cbv
        obtain ⟨hg14, h2⟩ := grdS h2
        refine ⟨nz_of hO hg14, ?_⟩
        refine ⟨nz_of hO hg14, ?_⟩
        obtain ⟨hg15, h2⟩ := grdS h2
        refine ⟨inr_of hO hg15, ?_⟩
        obtain ⟨e2, hv, h2⟩ := bindS h2
        rcases e2 with _ | l111
        · try dsimp only at h2
          refine call_is hO hX (fn_ref13_rotated hO hv) (by kernel_rfl) [0] rfl ⟨rfl, rfl, trivial⟩ rfl ?_
          cbv
          obtain ⟨b41, hv, h2⟩ := bindS h2
          refine call_is hO hX (fn_ref13_Same_2 hO hv) (by kernel_rfl) [0] rfl ⟨rfl, rfl, trivial⟩ rfl ?_
          cbv
          cases h2
          try dsimp only at h1
          obtain ⟨best8, h2, h1⟩ := bindS h1
          rcases condS h2 with ⟨hc16, h2⟩ | ⟨hc16, h2⟩
          · rw [hc16]
            cbv
            refine ⟨nz_of hO hg14, ?_⟩
            obtain ⟨hg17, h2⟩ := grdS h2
            refine ⟨inr_of hO hg17, ?_⟩
            cases h2
            try dsimp only at h1
            obtain ⟨hg18, h1⟩ := grdS h1
            refine ⟨inr_of hO hg18, ?_⟩
            cases h1
            exact ⟨_, [0, 1], nextI hI2 hi2, by cbv; try simp, by first | exact Nat.lt_succ_self _ | omega⟩
          · rw [hc16]
            cbv
            cases h2
            try dsimp only at h1
            obtain ⟨hg19, h1⟩ := grdS h1
            refine ⟨inr_of hO hg19, ?_⟩
            cases h1
            exact ⟨_, [0, 1], nextI hI2 hi2, by cbv; try simp, by first | exact Nat.lt_succ_self _ | omega⟩
        · try dsimp only at h2
          refine call_is hO hX (fn_ref13_rotated hO hv) (by kernel_rfl) [0] rfl ⟨rfl, rfl, trivial⟩ rfl ?_
          cbv
          obtain ⟨b42, hv, h2⟩ := bindS h2
          refine call_is hO hX (fn_ref13_Same hO hv) (by kernel_rfl) [2, 0] rfl ⟨rfl, rfl, rfl, rfl, trivial⟩ rfl ?_
          cbv
          cases h2
          try dsimp only at h1
          obtain ⟨best8, h2, h1⟩ := bindS h1
          rcases condS h2 with ⟨hc20, h2⟩ | ⟨hc20, h2⟩
          · rw [hc20]
            cbv
            refine ⟨nz_of hO hg14, ?_⟩
            obtain ⟨hg21, h2⟩ := grdS h2
            refine ⟨inr_of hO hg21, ?_⟩
            cases h2
            try dsimp only at h1
            obtain ⟨hg22, h1⟩ := grdS h1
            refine ⟨inr_of hO hg22, ?_⟩
            cases h1
            exact ⟨_, [0, 1], nextI hI2 hi2, by cbv; try simp, by first | exact Nat.lt_succ_self _ | omega⟩
          · rw [hc20]
            cbv
            cases h2
            try dsimp only at h1
            obtain ⟨hg23, h1⟩ := grdS h1
            refine ⟨inr_of hO hg23, ?_⟩
            cases h1
            exact ⟨_, [0, 1], nextI hI2 hi2, by cbv; try simp, by first | exact Nat.lt_succ_self _ | omega⟩
      · rw [hc13]
        cbv
        obtain ⟨hg24, h2⟩ := grdS h2
        refine ⟨nz_of hO hg24, ?_⟩
        cases h2
        try dsimp only at h1
        obtain ⟨best8, h2, h1⟩ := bindS h1
        replace h2 := condF h2 rfl
        cases h2
        try dsimp only at h1
        obtain ⟨hg25, h1⟩ := grdS h1
        refine ⟨inr_of hO hg25, ?_⟩
        cases h1
        exact ⟨_, [0, 1], nextI hI2 hi2, by cbv; try simp, by first | exact Nat.lt_succ_self _ | omega⟩
    · rw [hc12]
      cbv
      cases h1
      cases exitI hi2
      try dsimp only at h0
      obtain ⟨⟨n42, l112⟩, hv, h0⟩ := bindS h0
      try dsimp only at h0
      refine call_is hO hX (fn_ref13_cut hO hv) (by kernel_rfl) [0] rfl ⟨rfl, rfl, trivial⟩ rfl ?_
      cbv
      cases h0
      exact fin_ok hX rfl ⟨[2], _, _, ⟨rfl, rfl⟩, rfl, rfl, rfl, rfl, by cbv; try simp⟩
set_option maxHeartbeats 40000000 in
theorem fn_ref13_Valid {O0 : Ops} (hO0 : O0 = std) {p_1 : Int} {p_2 : List (Int × Int)} {r1 : Bool} (h : m_ref13_Valid O0 p_1 p_2 = some r1) :
    Fn Try.prog 43 [.agg [.int .i64 p_1, .sl 0]] [.arr false .i2 p_2] (fun v c => v = .c (.bool r1) ∧ c = []) := by
  refine fn_run tab_holds eqs_holds mixed [(3, (.seg 1 [0, 1, 2, 3, 4, 5, 6, 7, 8, 9, 10, 11, 12, 13, 14, 15, 16, 17, 18, 19, 20, 21, 22, 23, 24, 25] .fin), []), (5, (.seg 1 [0, 1, 2, 3, 6, 7] (.seg 2 [4] (.seg 1 [5, 8, 9] .fin))), [])] Try.func43 (by kernel_rfl) (by kernel_rfl) (Nat.le_of_ble_eq_true rfl) ?_
  intro O X hO hX
  rw [hO0, ← hO] at h
  unfold m_ref13_Valid at h
  have h0 := h; clear h
  cbv
  obtain ⟨x116, h1, h0⟩ := bindS h0
  rcases condS h1 with ⟨hc1, h1⟩ | ⟨hc1, h1⟩
  · rw [hc1]
    cbv
    cases h1
    try dsimp only at h0
    replace h0 := condT h0 rfl
    cases h0
    exact fin_ok hX rfl ⟨[], _, _, ⟨rfl, rfl⟩, rfl, rfl, rfl, rfl, by cbv; try simp⟩
  · as_aux_lemma =>
    rw [hc1]
    cbv
    rcases condS h1 with ⟨hc2, h1⟩ | ⟨hc2, h1⟩
    · rw [hc2]
      cbv
      cases h1
      try dsimp only at h0
      replace h0 := condT h0 rfl
      cases h0
      exact fin_ok hX rfl ⟨[], _, _, ⟨rfl, rfl⟩, rfl, rfl, rfl, rfl, by cbv; try simp⟩
    · as_aux_lemma =>
      rw [hc2]
      cbv
      rcases condS h1 with ⟨hc3, h1⟩ | ⟨hc3, h1⟩
      · rw [hc3]
        cbv
        cases h1
        try dsimp only at h0
        replace h0 := condT h0 rfl
        cases h0
        exact fin_ok hX rfl ⟨[], _, _, ⟨rfl, rfl⟩, rfl, rfl, rfl, rfl, by cbv; try simp⟩
      · as_aux_lemma =>
        rw [hc3]
        cbv
        obtain ⟨b30, hv, h1⟩ := bindS h1
        refine call_is hO hX (fn_ref13_Runs hO hv) (by kernel_rfl) [0] rfl ⟨rfl, rfl, trivial⟩ rfl ?_
        cbv
        cases h1
        try dsimp only at h0
        rcases condS h0 with ⟨hc4, h0⟩ | ⟨hc4, h0⟩
        · rw [hc4]
          cbv
          cases h0
          exact fin_ok hX rfl ⟨[], _, _, ⟨rfl, rfl⟩, rfl, rfl, rfl, rfl, by cbv; try simp⟩
        · as_aux_lemma =>
          rw [hc4]
          cbv
          obtain ⟨x119, h1, h0⟩ := bindS h0
          rcases condS h1 with ⟨hc5, h1⟩ | ⟨hc5, h1⟩
          · as_aux_lemma =>
            rw [hc5]
            cbv
            rcases condS h1 with ⟨hc6, h1⟩ | ⟨hc6, h1⟩
            · rw [hc6]
              cbv
              obtain ⟨hg7, h1⟩ := grdS h1
              refine ⟨idx_of hO hg7, ?_⟩
              obtain ⟨hg8, h1⟩ := grdS h1
              refine ⟨kin_of hO hg8, ?_⟩
              cases h1
              try dsimp only at h0
              replace h0 := condT h0 rfl
              cases h0
              exact fin_ok hX rfl ⟨[], _, _, ⟨rfl, rfl⟩, rfl, rfl, rfl, rfl, by cbv; try simp⟩
            · rw [hc6]
              cbv
              obtain ⟨hg9, h1⟩ := grdS h1
              refine ⟨idx_of hO hg9, ?_⟩
              obtain ⟨hg10, h1⟩ := grdS h1
              refine ⟨kin_of hO hg10, ?_⟩
              obtain ⟨hg11, h1⟩ := grdS h1
              refine ⟨inr_of hO hg11, ?_⟩
              obtain ⟨hg12, h1⟩ := grdS h1
              refine ⟨idx_of hO hg12, ?_⟩
              obtain ⟨hg13, h1⟩ := grdS h1
              refine ⟨kin_of hO hg13, ?_⟩
              cases h1
              try dsimp only at h0
              rcases condS h0 with ⟨hc14, h0⟩ | ⟨hc14, h0⟩
              · rw [hc14]
                cbv
                cases h0
                exact fin_ok hX rfl ⟨[], _, _, ⟨rfl, rfl⟩, rfl, rfl, rfl, rfl, by cbv; try simp⟩
              · rw [hc14]
                cbv
                obtain ⟨⟨n43, l113⟩, hv, h0⟩ := bindS h0
                try dsimp only at h0
                refine call_is hO hX (fn_ref13_Least hO hv) (by kernel_rfl) [0] rfl ⟨rfl, rfl, trivial⟩ rfl ?_
                cbv
                cases h0
                exact fin_ok hX rfl ⟨[], _, _, ⟨rfl, rfl⟩, rfl, rfl, rfl, rfl, by cbv; try simp⟩
          · rw [hc5]
            cbv
            cases h1
            try dsimp only at h0
            replace h0 := condF h0 rfl
            obtain ⟨⟨n43, l113⟩, hv, h0⟩ := bindS h0
            try dsimp only at h0
            refine call_is hO hX (fn_ref13_Least hO hv) (by kernel_rfl) [0] rfl ⟨rfl, rfl, trivial⟩ rfl ?_
            cbv
            cases h0
            exact fin_ok hX rfl ⟨[], _, _, ⟨rfl, rfl⟩, rfl, rfl, rfl, rfl, by cbv; try simp⟩
set_option maxHeartbeats 40000000 in
theorem fn_ref01_Gcd {O0 : Ops} (hO0 : O0 = std) {a_1 : Int} {b_1 : Int} {r1 : Int} (h : m_ref01_Gcd O0 a_1 b_1 = some r1) :
    Fn Try.prog 94 [.c (.int .i64 a_1), .c (.int .i64 b_1)] [] (fun v c => v = .c (.int .i64 r1) ∧ c = []) := by
  refine fn_run tab_holds eqs_holds mixed [(4, (.seg 1 [0, 1, 2, 3, 4, 5] .fin), [])] Try.func94 (by kernel_rfl) (by kernel_rfl) (Nat.le_of_ble_eq_true rfl) ?_
  intro O X hO hX
  rw [hO0, ← hO] at h
  unfold m_ref01_Gcd at h
  have h0 := h; clear h
  cbv
  obtain ⟨e1, hi, h0⟩ := bindS h0
  obtain ⟨I1, hI1, hi⟩ := loopS hi
  refine loop1 tab_holds eqs_holds mixed [(4, (.seg 1 [0, 1, 2, 3, 4, 5] .fin), [])] hO hX I1 (fun y => [(0, .c (.int .i64 y.2.1)), (1, .c (.int .i64 y.2.2))]) (fun _ => []) (fun y => y.1) _ (by kernel_rfl) hi (by cbv; try simp) ?_
  refine allp ?_
  intro n1
  refine allp ?_
  intro a1
  intro b45 hi
  cbv
  rw [hI1] at hi
  obtain ⟨n1, rfl, x1, h1, hi1⟩ := iterS hi
  unfold m_ref01_Gcd_L1 at h1
  try dsimp only at h1
  rcases condS h1 with ⟨hc1, h1⟩ | ⟨hc1, h1⟩
  · rw [hc1]
    cbv
    rcases condS h1 with ⟨hc2, h1⟩ | ⟨hc2, h1⟩
    · rw [hc2]
      cbv
      cases h1
      cases exitI hi1
      try dsimp only at h0
      cases h0
      exact fin_ok hX rfl ⟨[], _, _, ⟨rfl, rfl⟩, rfl, rfl, rfl, rfl, by cbv; try simp⟩
    · rw [hc2]
      cbv
      obtain ⟨hg3, h1⟩ := grdS h1
      refine ⟨nz_of hO hg3, ?_⟩
      cases h1
      exact ⟨_, [], nextI hI1 hi1, by cbv; try simp, by first | exact Nat.lt_succ_self _ | omega⟩
  · rw [hc1]
    cbv
    cases h1
    cases exitI hi1
    try dsimp only at h0
    rcases condS h0 with ⟨hc4, h0⟩ | ⟨hc4, h0⟩
    · rw [hc4]
      cbv
      cases h0
      exact fin_ok hX rfl ⟨[], _, _, ⟨rfl, rfl⟩, rfl, rfl, rfl, rfl, by cbv; try simp⟩
    · rw [hc4]
      cbv
      obtain ⟨a4, h1, h0⟩ := bindS h0
      rcases condS h1 with ⟨hc5, h1⟩ | ⟨hc5, h1⟩
      · rw [hc5]
        cbv
        obtain ⟨hg6, h1⟩ := grdS h1
        refine ⟨inr_of hO hg6, ?_⟩
        cases h1
        try dsimp only at h0
        cases h0
        exact fin_ok hX rfl ⟨[], _, _, ⟨rfl, rfl⟩, rfl, rfl, rfl, rfl, by cbv; try simp⟩
      · rw [hc5]
        cbv
        cases h1
        try dsimp only at h0
        cases h0
        exact fin_ok hX rfl ⟨[], _, _, ⟨rfl, rfl⟩, rfl, rfl, rfl, rfl, by cbv; try simp⟩
set_option maxHeartbeats 40000000 in
theorem fn_ref01_Lcm {O0 : Ops} (hO0 : O0 = std) {a_1 : Int} {b_1 : Int} {r1 : Int} {r2 : Int} (h : m_ref01_Lcm O0 a_1 b_1 = some (r1, r2)) :
    Fn Try.prog 72 [.c (.int .i64 a_1), .c (.int .i64 b_1)] [] (fun v c => v = .tup [.one (.int .i64 r1), .one (.int .i64 r2)] ∧ c = []) := by
  refine fn_run tab_holds eqs_holds mixed [] Try.func72 (by kernel_rfl) (by kernel_rfl) (Nat.le_of_ble_eq_true rfl) ?_
  intro O X hO hX
  rw [hO0, ← hO] at h
  unfold m_ref01_Lcm at h
  have h0 := h; clear h
  cbv
  obtain ⟨x172, h1, h0⟩ := bindS h0
  rcases condS h1 with ⟨hc1, h1⟩ | ⟨hc1, h1⟩
  · rw [hc1]
    cbv
    cases h1
    try dsimp only at h0
    replace h0 := condT h0 rfl
    cases h0
    exact fin_ok hX rfl ⟨[], _, _, ⟨rfl, rfl⟩, rfl, rfl, rfl, rfl, by cbv; try simp⟩
  · rw [hc1]
    cbv
    cases h1
    try dsimp only at h0
    rcases condS h0 with ⟨hc2, h0⟩ | ⟨hc2, h0⟩
    · rw [hc2]
      cbv
      cases h0
      exact fin_ok hX rfl ⟨[], _, _, ⟨rfl, rfl⟩, rfl, rfl, rfl, rfl, by cbv; try simp⟩
    · rw [hc2]
      cbv
      obtain ⟨n44, hv, h0⟩ := bindS h0
      refine call_is hO hX (fn_ref01_Gcd hO hv) (by kernel_rfl) [] rfl trivial rfl ?_
      cbv
      obtain ⟨hg3, h0⟩ := grdS h0
      refine ⟨nz_of hO hg3, ?_⟩
      obtain ⟨hg4, h0⟩ := grdS h0
      refine ⟨inr_of hO hg4, ?_⟩
      obtain ⟨⟨n45, n46⟩, hv, h0⟩ := bindS h0
      try dsimp only at h0
      refine call_is hO hX (fn_ref01_Mul hO hv) (by kernel_rfl) [] rfl trivial rfl ?_
      cbv
      cases h0
      exact fin_ok hX rfl ⟨[], _, _, ⟨rfl, rfl⟩, rfl, rfl, rfl, rfl, by cbv; try simp⟩
set_option maxHeartbeats 40000000 in
theorem fn_ref13_Pair {O0 : Ops} (hO0 : O0 = std) {a_1 : Int} {b_1 : Int} {a_2 : List (Int × Int)} {b_2 : List (Int × Int)} {r1 : Int} {r2 : Int} (h : m_ref13_Pair O0 a_1 b_1 a_2 b_2 = some (r1, r2)) :
    Fn Try.prog 44 [.agg [.int .i64 a_1, .sl 0], .agg [.int .i64 b_1, .sl 1]] [.arr false .i2 a_2, .arr false .i2 b_2] (fun v c => v = .tup [.one (.int .i64 r1), .one (.int .i64 r2)] ∧ c = []) := by
  refine fn_run tab_holds eqs_holds mixed [(4, (.seg 1 [0, 1, 2, 3, 4, 5, 6, 7, 8, 9, 10, 11, 12, 13, 14, 15, 16, 17] .fin), [])] Try.func44 (by kernel_rfl) (by kernel_rfl) (Nat.le_of_ble_eq_true rfl) ?_
  intro O X hO hX
  rw [hO0, ← hO] at h
  unfold m_ref13_Pair at h
  have h0 := h; clear h
  cbv
  obtain ⟨⟨n47, n48⟩, hv, h0⟩ := bindS h0
  try dsimp only at h0
  refine call_is hO hX (fn_ref01_Lcm hO hv) (by kernel_rfl) [] rfl trivial rfl ?_
  cbv
  obtain ⟨x174, h1, h0⟩ := bindS h0
  rcases condS h1 with ⟨hc1, h1⟩ | ⟨hc1, h1⟩
  · rw [hc1]
    cbv
    cases h1
    try dsimp only at h0
    replace h0 := condT h0 rfl
    cases h0
    exact fin_ok hX rfl ⟨[], _, _, ⟨rfl, rfl⟩, rfl, rfl, rfl, rfl, by cbv; try simp⟩
  · rw [hc1]
    cbv
    cases h1
    try dsimp only at h0
    rcases condS h0 with ⟨hc2, h0⟩ | ⟨hc2, h0⟩
    · rw [hc2]
      cbv
      cases h0
      exact fin_ok hX rfl ⟨[], _, _, ⟨rfl, rfl⟩, rfl, rfl, rfl, rfl, by cbv; try simp⟩
    · rw [hc2]
      cbv
      obtain ⟨hg3, h0⟩ := grdS h0
      refine ⟨nz_of hO hg3, ?_⟩
      obtain ⟨hg4, h0⟩ := grdS h0
      refine ⟨inr_of hO hg4, ?_⟩
      obtain ⟨hg5, h0⟩ := grdS h0
      refine ⟨inr_of hO hg5, ?_⟩
      obtain ⟨hg6, h0⟩ := grdS h0
      refine ⟨nz_of hO hg6, ?_⟩
      obtain ⟨hg7, h0⟩ := grdS h0
      refine ⟨inr_of hO hg7, ?_⟩
      obtain ⟨hg8, h0⟩ := grdS h0
      refine ⟨inr_of hO hg8, ?_⟩
      obtain ⟨hg9, h0⟩ := grdS h0
      refine ⟨inr_of hO hg9, ?_⟩
      rcases condS h0 with ⟨hc10, h0⟩ | ⟨hc10, h0⟩
      · rw [hc10]
        cbv
        cases h0
        exact fin_ok hX rfl ⟨[], _, _, ⟨rfl, rfl⟩, rfl, rfl, rfl, rfl, by cbv; try simp⟩
      · rw [hc10]
        cbv
        cases h0
        exact fin_ok hX rfl ⟨[], _, _, ⟨rfl, rfl⟩, rfl, rfl, rfl, rfl, by cbv; try simp⟩
end Go.Proofs.Ytlpbdikmhngmfaa
