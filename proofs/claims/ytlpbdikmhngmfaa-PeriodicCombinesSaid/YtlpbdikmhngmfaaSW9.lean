/-
  The code does what its models say (printed by lift.py).
-/
import Derived.Test.YtlpbdikmhngmfaaQM
import Derived.Test.YtlpbdikmhngmfaaQG
import Derived.Test.YtlpbdikmhngmfaaManWC
import Derived.Test.YtlpbdikmhngmfaaSW1
import Derived.Test.YtlpbdikmhngmfaaSW2
import Derived.Test.YtlpbdikmhngmfaaSW3
import Derived.Test.YtlpbdikmhngmfaaSW4
import Derived.Test.YtlpbdikmhngmfaaSW7
import Derived.Test.YtlpbdikmhngmfaaSW8
namespace Go.Proofs.Ytlpbdikmhngmfaa
open Go.RowKit
set_option maxRecDepth 100000

set_option maxHeartbeats 40000000 in
theorem fn_ref13_Spread {O0 : Ops} (hO0 : O0 = std) {p_1 : Int} {m_1 : Int} {p_2 : List (Int × Int)} {r1 : List (Int × Int)} (h : m_ref13_Spread O0 p_1 m_1 p_2 = some r1) :
    Fn Try.prog 48 [.agg [.int .i64 p_1, .sl 0], .c (.int .i64 m_1)] [.arr false .i2 p_2] (fun v c => v = .c (.sl 1) ∧ c = [.own 29 .i2 r1]) := by
  refine fn_run tab_holds eqs_holds mixed [(12, (.seg 1 [0, 1, 2, 3, 4, 5, 6, 7, 8, 9, 10, 11, 12, 13, 14, 15, 16] (.seg 2 [17] (.seg 3 [18] .fin))), []), (13, (.seg 1 [0, 1, 2, 3, 4, 5, 6, 7, 8, 9, 10, 11, 12, 13, 14] .fin), [])] Try.func48 (by kernel_rfl) (by kernel_rfl) (Nat.le_of_ble_eq_true rfl) ?_
  intro O X hO hX
  rw [hO0, ← hO] at h
  unfold m_ref13_Spread at h
  have h0 := h; clear h
  cbv
  rcases condS h0 with ⟨hc1, h0⟩ | ⟨hc1, h0⟩
  · rw [hc1]
    cbv
    cases h0
    exact fin_ok hX rfl ⟨[3], _, _, ⟨rfl, rfl⟩, rfl, rfl, rfl, rfl, by cbv; try simp⟩
  · as_aux_lemma =>
    rw [hc1]
    cbv
    rcases condS h0 with ⟨hc2, h0⟩ | ⟨hc2, h0⟩
    · rw [hc2]
      cbv
      cases h0
      exact fin_ok hX rfl ⟨[3], _, _, ⟨rfl, rfl⟩, rfl, rfl, rfl, rfl, by cbv; try simp⟩
    · as_aux_lemma =>
      rw [hc2]
      cbv
      obtain ⟨l127, hi, h0⟩ := bindS h0
      obtain ⟨I2, hI2, hi⟩ := loopS hi
      refine loop1 tab_holds eqs_holds mixed [(12, (.seg 1 [0, 1, 2, 3, 4, 5, 6, 7, 8, 9, 10, 11, 12, 13, 14, 15, 16] (.seg 2 [17] (.seg 3 [18] .fin))), []), (13, (.seg 1 [0, 1, 2, 3, 4, 5, 6, 7, 8, 9, 10, 11, 12, 13, 14] .fin), [])] hO hX I2 (fun y => [(4, .junk), (9, .junk), (13, .junk), (5, .c (.sl 3)), (6, .c (.int .i64 y.2.1))]) (fun y => [(3, .own 29 .i2 y.2.2)]) (fun y => y.1) _ (by kernel_rfl) hi (by cbv; try simp) ?_
      refine allp ?_
      intro n2
      refine allp ?_
      intro at8
      intro l120 hi
      cbv
      rw [hI2] at hi
      obtain ⟨n2, rfl, x2, h1, hi2⟩ := iterS hi
      unfold m_ref13_Spread_L2 at h1
      try dsimp only at h1
      rcases condS h1 with ⟨hc3, h1⟩ | ⟨hc3, h1⟩
      · as_aux_lemma =>
        rw [hc3]
        cbv
        obtain ⟨l126, hi, h1⟩ := bindS h1
        obtain ⟨I1, hI1, hi⟩ := loopS hi
        refine loop1 tab_holds eqs_holds mixed [(12, (.seg 1 [0, 1, 2, 3, 4, 5, 6, 7, 8, 9, 10, 11, 12, 13, 14, 15, 16] (.seg 2 [17] (.seg 3 [18] .fin))), []), (13, (.seg 1 [0, 1, 2, 3, 4, 5, 6, 7, 8, 9, 10, 11, 12, 13, 14] .fin), [])] hO hX I1 (fun y => [(5, .c (.sl 3)), (7, .c (.int .i64 y.2.1))]) (fun y => [(3, .own 29 .i2 y.2.2)]) (fun y => y.1) _ (by kernel_rfl) hi (by cbv; try simp) ?_
        refine allp ?_
        intro n1
        refine allp ?_
        intro i34
        intro l123 hi
        cbv
        rw [hI1] at hi
        obtain ⟨n1, rfl, x1, h2, hi1⟩ := iterS hi
        unfold m_ref13_Spread_L1 at h2
        try dsimp only at h2
        rcases condS h2 with ⟨hc4, h2⟩ | ⟨hc4, h2⟩
        · as_aux_lemma =>
          rw [hc4]
          cbv
          obtain ⟨hg5, h2⟩ := grdS h2
          refine ⟨idx_of hO hg5, ?_⟩
          obtain ⟨hg6, h2⟩ := grdS h2
          refine ⟨kin_of hO hg6, ?_⟩
          obtain ⟨hg7, h2⟩ := grdS h2
          refine ⟨inr_of hO hg7, ?_⟩
          refine ⟨idx_of hO hg5, ?_⟩
          refine ⟨kin_of hO hg6, ?_⟩
          obtain ⟨hg8, h2⟩ := grdS h2
          refine ⟨inr_of hO hg8, ?_⟩
          obtain ⟨x182, h3, h2⟩ := bindS h2
          rcases condS h3 with ⟨hc9, h3⟩ | ⟨hc9, h3⟩
          · rw [hc9]
            cbv
            obtain ⟨hg10, h3⟩ := grdS h3
            refine ⟨inr_of hO hg10, ?_⟩
            obtain ⟨hg11, h3⟩ := grdS h3
            refine ⟨idx_of hO hg11, ?_⟩
            obtain ⟨hg12, h3⟩ := grdS h3
            refine ⟨kin_of hO hg12, ?_⟩
            cases h3
            try dsimp only at h2
            obtain ⟨l125, h3, h2⟩ := bindS h2
            rcases condS h3 with ⟨hc13, h3⟩ | ⟨hc13, h3⟩
            · rw [hc13]
              cbv
              obtain ⟨hg14, h3⟩ := grdS h3
              refine ⟨inr_of hO hg14, ?_⟩
              obtain ⟨hg15, h3⟩ := grdS h3
              refine ⟨idx_of hO hg15, ?_⟩
              obtain ⟨hg16, h3⟩ := grdS h3
              refine ⟨kin_of hO hg16, ?_⟩
              cases h3
              try dsimp only at h2
              obtain ⟨hg17, h2⟩ := grdS h2
              refine ⟨inr_of hO hg17, ?_⟩
              cases h2
              exact ⟨_, [0, 1, 2, 3], nextI hI1 hi1, by cbv; try simp, by first | exact Nat.lt_succ_self _ | omega⟩
            · rw [hc13]
              cbv
              obtain ⟨hg18, h3⟩ := grdS h3
              refine ⟨room_of hO hg18, ?_⟩
              obtain ⟨hg19, h3⟩ := grdS h3
              refine ⟨room_of hO hg19, ?_⟩
              cases h3
              try dsimp only at h2
              obtain ⟨hg20, h2⟩ := grdS h2
              refine ⟨inr_of hO hg20, ?_⟩
              cases h2
              exact ⟨_, [0, 1, 2, 6], nextI hI1 hi1, by cbv; try simp, by first | exact Nat.lt_succ_self _ | omega⟩
          · rw [hc9]
            cbv
            cases h3
            try dsimp only at h2
            obtain ⟨l125, h3, h2⟩ := bindS h2
            replace h3 := condF h3 rfl
            obtain ⟨hg21, h3⟩ := grdS h3
            refine ⟨room_of hO hg21, ?_⟩
            obtain ⟨hg22, h3⟩ := grdS h3
            refine ⟨room_of hO hg22, ?_⟩
            cases h3
            try dsimp only at h2
            obtain ⟨hg23, h2⟩ := grdS h2
            refine ⟨inr_of hO hg23, ?_⟩
            cases h2
            exact ⟨_, [0, 1, 2, 6], nextI hI1 hi1, by cbv; try simp, by first | exact Nat.lt_succ_self _ | omega⟩
        · rw [hc4]
          cbv
          cases h2
          cases exitI hi1
          try dsimp only at h1
          obtain ⟨hg24, h1⟩ := grdS h1
          refine ⟨inr_of hO hg24, ?_⟩
          cases h1
          exact ⟨_, [0, 1, 2, 3], nextI hI2 hi2, by cbv; try simp, by first | exact Nat.lt_succ_self _ | omega⟩
      · rw [hc3]
        cbv
        cases h1
        cases exitI hi2
        try dsimp only at h0
        cases h0
        exact fin_ok hX rfl ⟨[3], _, _, ⟨rfl, rfl⟩, rfl, rfl, rfl, rfl, by cbv; try simp⟩
set_option maxHeartbeats 40000000 in
theorem fn_ref13_limited {O0 : Ops} (hO0 : O0 = std) {p_1 : Int} {p_2 : List (Int × Int)} {e : ((Int × Int) ⊕ (Int × Int))} (h : m_ref13_limited O0 p_1 p_2 = some e) :
    Fn Try.prog 45 [.agg [.int .i64 p_1, .sl 0]] [.arr false .i2 p_2] (fun v c => match e with | .inl (r1, r2) => v = .tup [.many [.int .i64 r1, .raw (.slice none 0 0)], .one (.int .i64 r2)] ∧ c = [] | .inr ((r1, r2)) => v = .tup [.many [.int .i64 r1, .sl 0], .one (.int .i64 r2)] ∧ c = []) := by
  refine fn_run tab_holds eqs_holds mixed [] Try.func45 (by kernel_rfl) (by kernel_rfl) (Nat.le_of_ble_eq_true rfl) ?_
  intro O X hO hX
  rw [hO0, ← hO] at h
  unfold m_ref13_limited at h
  have h0 := h; clear h
  cbv
  rcases condS h0 with ⟨hc1, h0⟩ | ⟨hc1, h0⟩
  · rw [hc1]
    cbv
    cases h0
    exact fin_ok hX rfl ⟨[], _, _, ⟨rfl, rfl⟩, rfl, rfl, rfl, rfl, by cbv; try simp⟩
  · rw [hc1]
    cbv
    cases h0
    exact fin_ok hX rfl ⟨[], _, _, ⟨rfl, rfl⟩, rfl, rfl, rfl, rfl, by cbv; try simp⟩
set_option maxHeartbeats 40000000 in
theorem fn_ref13_Combine {O0 : Ops} (hO0 : O0 = std) {a_1 : Int} {b_1 : Int} {kind_1 : Int} {a_2 : List (Int × Int)} {b_2 : List (Int × Int)} {r1 : Int} {r2 : List (Int × Int)} {r3 : Int} (h : m_ref13_Combine O0 a_1 b_1 kind_1 a_2 b_2 = some (r1, r2, r3)) :
    Fn Try.prog 17 [.agg [.int .i64 a_1, .sl 0], .agg [.int .i64 b_1, .sl 1], .c (.int .i64 kind_1)] [.arr false .i2 a_2, .arr false .i2 b_2] (fun v c => v = .tup [.many [.int .i64 r1, .sl 2], .one (.int .i64 r3)] ∧ c = [.arr true .i2 r2]) := by
  refine fn_run tab_holds eqs_holds mixed [(6, (.seg 1 [0, 1, 2, 4, 5, 7] (.seg 2 [3] (.seg 2 [6] (.seg 2 [8] (.seg 2 [9] (.seg 2 [10] (.seg 1 [11, 12] .fin))))))), [13, 14])] Try.func17 (by kernel_rfl) (by kernel_rfl) (Nat.le_of_ble_eq_true rfl) ?_
  intro O X hO hX
  rw [hO0, ← hO] at h
  unfold m_ref13_Combine at h
  have h0 := h; clear h
  cbv
  obtain ⟨x170, h1, h0⟩ := bindS h0
  obtain ⟨b43, hv, h1⟩ := bindS h1
  refine call_is hO hX (fn_ref13_Valid hO hv) (by kernel_rfl) [0] rfl ⟨rfl, rfl, trivial⟩ rfl ?_
  cbv
  rcases condS h1 with ⟨hc1, h1⟩ | ⟨hc1, h1⟩
  · rw [hc1]
    cbv
    cases h1
    try dsimp only at h0
    replace h0 := condT h0 rfl
    cases h0
    refine fin_nil hX .i2 5 rfl ?_
    cbv
    exact fin_ok hX rfl ⟨[5], _, _, ⟨rfl, rfl⟩, rfl, rfl, rfl, rfl, by cbv; try simp⟩
  · as_aux_lemma =>
    rw [hc1]
    cbv
    obtain ⟨b44, hv, h1⟩ := bindS h1
    refine call_is hO hX (fn_ref13_Valid hO hv) (by kernel_rfl) [1] rfl ⟨rfl, rfl, trivial⟩ rfl ?_
    cbv
    cases h1
    try dsimp only at h0
    rcases condS h0 with ⟨hc2, h0⟩ | ⟨hc2, h0⟩
    · rw [hc2]
      cbv
      cases h0
      refine fin_nil hX .i2 5 rfl ?_
      cbv
      exact fin_ok hX rfl ⟨[5], _, _, ⟨rfl, rfl⟩, rfl, rfl, rfl, rfl, by cbv; try simp⟩
    · as_aux_lemma =>
      rw [hc2]
      cbv
      obtain ⟨⟨n49, n50⟩, hv, h0⟩ := bindS h0
      try dsimp only at h0
      refine call_is hO hX (fn_ref13_Pair hO hv) (by kernel_rfl) [0, 1] rfl ⟨rfl, rfl, rfl, rfl, trivial⟩ rfl ?_
      cbv
      rcases condS h0 with ⟨hc3, h0⟩ | ⟨hc3, h0⟩
      · rw [hc3]
        cbv
        cases h0
        refine fin_nil hX .i2 5 rfl ?_
        cbv
        exact fin_ok hX rfl ⟨[5], _, _, ⟨rfl, rfl⟩, rfl, rfl, rfl, rfl, by cbv; try simp⟩
      · rw [hc3]
        cbv
        obtain ⟨e1, h1, h0⟩ := bindS h0
        obtain ⟨l128, hv, h1⟩ := bindS h1
        refine call_is hO hX (fn_ref13_Spread hO hv) (by kernel_rfl) [0] rfl ⟨rfl, rfl, trivial⟩ rfl ?_
        cbv
        obtain ⟨l129, hv, h1⟩ := bindS h1
        refine call_is hO hX (fn_ref13_Spread hO hv) (by kernel_rfl) [1] rfl ⟨rfl, rfl, trivial⟩ rfl ?_
        cbv
        obtain ⟨l130, hv, h1⟩ := bindS h1
        refine call_is hO hX (fn_ref13_Lists hO hv) (by kernel_rfl) [5, 6] rfl ⟨rfl, rfl, rfl, rfl, trivial⟩ rfl ?_
        cbv
        obtain ⟨⟨n51, l131⟩, hv, h1⟩ := bindS h1
        try dsimp only at h1
        refine call_is hO hX (fn_ref13_Least hO hv) (by kernel_rfl) [7] rfl ⟨rfl, rfl, trivial⟩ rfl ?_
        cbv
        obtain ⟨e1, hv, h1⟩ := bindS h1
        rcases e1 with ⟨n52, n53⟩ | ⟨n54, n55⟩
        · try dsimp only at h1
          refine call_is hO hX (fn_ref13_limited hO hv) (by kernel_rfl) [8] rfl ⟨rfl, rfl, trivial⟩ rfl ?_
          cbv
          cases h1
          try dsimp only at h0
          cases h0
          refine fin_nil hX .i2 9 rfl ?_
          cbv
          exact fin_ok hX rfl ⟨[9], _, _, ⟨rfl, rfl⟩, rfl, rfl, rfl, rfl, by cbv; try simp⟩
        · try dsimp only at h1
          refine call_is hO hX (fn_ref13_limited hO hv) (by kernel_rfl) [8] rfl ⟨rfl, rfl, trivial⟩ rfl ?_
          cbv
          cases h1
          try dsimp only at h0
          cases h0
          refine fin_frz hX 8 ?_
          cbv
          exact fin_ok hX rfl ⟨[8], _, _, ⟨rfl, rfl⟩, rfl, rfl, rfl, rfl, by cbv; try simp⟩
set_option maxHeartbeats 40000000 in
theorem fn_law13_PeriodicCombines_1 {O0 : Ops} (hO0 : O0 = std) {p_1 : Int} {e_1 : Int} {q_1 : Int} {f_1 : Int} {p_2 : List (Int × Int)} {q_2 : List (Int × Int)} {r1 : Bool} (h : m_law13_PeriodicCombines_1 O0 p_1 e_1 q_1 f_1 p_2 q_2 = some r1) :
    Fn Try.prog 12 [.agg [.int .i64 p_1, .sl 0], .c (.int .i64 e_1), .agg [.int .i64 q_1, .sl 1], .c (.int .i64 f_1)] [.arr false .i2 p_2, .arr false .i2 q_2] (fun v c => v = .c (.bool r1) ∧ c = []) := by
  refine fn_run tab_holds eqs_holds mixed [] Try.func12 (by kernel_rfl) (by kernel_rfl) (Nat.le_of_ble_eq_true rfl) ?_
  intro O X hO hX
  rw [hO0, ← hO] at h
  unfold m_law13_PeriodicCombines_1 at h
  have h0 := h; clear h
  cbv
  obtain ⟨x192, h1, h0⟩ := bindS h0
  rcases condS h1 with ⟨hc1, h1⟩ | ⟨hc1, h1⟩
  · rw [hc1]
    cbv
    rcases condS h1 with ⟨hc2, h1⟩ | ⟨hc2, h1⟩
    · rw [hc2]
      cbv
      obtain ⟨b46, hv, h1⟩ := bindS h1
      refine call_is hO hX (fn_slices_Equal hO hv) (by kernel_rfl) [0, 1] rfl ⟨rfl, rfl, rfl, rfl, trivial⟩ rfl ?_
      cbv
      cases h1
      try dsimp only at h0
      cases h0
      exact fin_ok hX rfl ⟨[], _, _, ⟨rfl, rfl⟩, rfl, rfl, rfl, rfl, by cbv; try simp⟩
    · rw [hc2]
      cbv
      cases h1
      try dsimp only at h0
      cases h0
      exact fin_ok hX rfl ⟨[], _, _, ⟨rfl, rfl⟩, rfl, rfl, rfl, rfl, by cbv; try simp⟩
  · rw [hc1]
    cbv
    cases h1
    try dsimp only at h0
    cases h0
    exact fin_ok hX rfl ⟨[], _, _, ⟨rfl, rfl⟩, rfl, rfl, rfl, rfl, by cbv; try simp⟩
set_option maxHeartbeats 40000000 in
theorem fn_periodic_Meet_1 {O0 : Ops} (hO0 : O0 = std) {a_1 : Bool} {b_1 : Bool} {r1 : Bool} (h : m_periodic_Meet_1 O0 a_1 b_1 = some r1) :
    Fn Try.prog 41 [.c (.bool a_1), .c (.bool b_1)] [] (fun v c => v = .c (.bool r1) ∧ c = []) := by
  refine fn_run tab_holds eqs_holds mixed [] Try.func41 (by kernel_rfl) (by kernel_rfl) (Nat.le_of_ble_eq_true rfl) ?_
  intro O X hO hX
  rw [hO0, ← hO] at h
  unfold m_periodic_Meet_1 at h
  have h0 := h; clear h
  cbv
  obtain ⟨x203, h1, h0⟩ := bindS h0
  rcases condS h1 with ⟨hc1, h1⟩ | ⟨hc1, h1⟩
  · rw [hc1]
    cbv
    cases h1
    try dsimp only at h0
    cases h0
    exact fin_ok hX rfl ⟨[], _, _, ⟨rfl, rfl⟩, rfl, rfl, rfl, rfl, by cbv; try simp⟩
  · rw [hc1]
    cbv
    cases h1
    try dsimp only at h0
    cases h0
    exact fin_ok hX rfl ⟨[], _, _, ⟨rfl, rfl⟩, rfl, rfl, rfl, rfl, by cbv; try simp⟩
theorem fn_periodic_combine_2 {O0 : Ops} (hO0 : O0 = std) {a_1 : List (Int × Int)} {b_1 : List (Int × Int)} {r1 : List (Int × Int)} (h : m_periodic_combine_2 O0 a_1 b_1 = some r1) :
    Fn Try.prog 49 [.c (.sl 0), .c (.sl 1), .c (.fn 41 [])] [.arr false .i2 a_1, .arr false .i2 b_1] (fun v c => v = .c (.sl 2) ∧ c = [.own 29 .i2 r1]) :=
  fn_g_combine (by kernel_rfl) (@fun _ hO _ _ _ h => fn_periodic_Meet_1 hO h) hO0 h
set_option maxHeartbeats 40000000 in
theorem fn_periodic_both_2 {O0 : Ops} (hO0 : O0 = std) {a_1 : Int} {b_1 : Int} {a_2 : List (Int × Int)} {b_2 : List (Int × Int)} {r1 : Int} {r2 : List (Int × Int)} {r3 : Int} (h : m_periodic_both_2 O0 a_1 b_1 a_2 b_2 = some (r1, r2, r3)) :
    Fn Try.prog 39 [.agg [.int .i64 a_1, .sl 0], .agg [.int .i64 b_1, .sl 1], .c (.fn 41 [])] [.arr false .i2 a_2, .arr false .i2 b_2] (fun v c => v = .tup [.many [.int .i64 r1, .sl 2], .one (.int .i64 r3)] ∧ c = [.arr true .i2 r2]) := by
  refine fn_run tab_holds eqs_holds mixed [(6, (.seg 1 [0, 1, 2, 3, 4, 5, 6, 7, 8, 9, 10, 11, 12, 13, 14, 15, 16, 17] .fin), []), (8, (.seg 1 [0, 1, 2, 4, 5, 7] (.seg 2 [3] (.seg 2 [6] (.seg 2 [8] (.seg 2 [9] (.seg 1 [10, 11] .fin)))))), [12, 13])] Try.func39 (by kernel_rfl) (by kernel_rfl) (Nat.le_of_ble_eq_true rfl) ?_
  intro O X hO hX
  rw [hO0, ← hO] at h
  unfold m_periodic_both_2 at h
  have h0 := h; clear h
  cbv
  obtain ⟨x194, h1, h0⟩ := bindS h0
  obtain ⟨b48, hv, h1⟩ := bindS h1
  refine call_is hO hX (fn_periodic_Valid hO hv) (by kernel_rfl) [0] rfl ⟨rfl, rfl, trivial⟩ rfl ?_
  cbv
  rcases condS h1 with ⟨hc1, h1⟩ | ⟨hc1, h1⟩
  · rw [hc1]
    cbv
    cases h1
    try dsimp only at h0
    replace h0 := condT h0 rfl
    cases h0
    refine fin_nil hX .i2 5 rfl ?_
    cbv
    exact fin_ok hX rfl ⟨[5], _, _, ⟨rfl, rfl⟩, rfl, rfl, rfl, rfl, by cbv; try simp⟩
  · as_aux_lemma =>
    rw [hc1]
    cbv
    obtain ⟨b49, hv, h1⟩ := bindS h1
    refine call_is hO hX (fn_periodic_Valid hO hv) (by kernel_rfl) [1] rfl ⟨rfl, rfl, trivial⟩ rfl ?_
    cbv
    cases h1
    try dsimp only at h0
    rcases condS h0 with ⟨hc2, h0⟩ | ⟨hc2, h0⟩
    · rw [hc2]
      cbv
      cases h0
      refine fin_nil hX .i2 5 rfl ?_
      cbv
      exact fin_ok hX rfl ⟨[5], _, _, ⟨rfl, rfl⟩, rfl, rfl, rfl, rfl, by cbv; try simp⟩
    · as_aux_lemma =>
      rw [hc2]
      cbv
      obtain ⟨⟨n58, n59⟩, hv, h0⟩ := bindS h0
      try dsimp only at h0
      refine call_is hO hX (fn_integer_Lcm hO hv) (by kernel_rfl) [] rfl trivial rfl ?_
      cbv
      obtain ⟨x196, h1, h0⟩ := bindS h0
      rcases condS h1 with ⟨hc3, h1⟩ | ⟨hc3, h1⟩
      · rw [hc3]
        cbv
        cases h1
        try dsimp only at h0
        replace h0 := condT h0 rfl
        cases h0
        refine fin_nil hX .i2 5 rfl ?_
        cbv
        exact fin_ok hX rfl ⟨[5], _, _, ⟨rfl, rfl⟩, rfl, rfl, rfl, rfl, by cbv; try simp⟩
      · as_aux_lemma =>
        rw [hc3]
        cbv
        cases h1
        try dsimp only at h0
        rcases condS h0 with ⟨hc4, h0⟩ | ⟨hc4, h0⟩
        · rw [hc4]
          cbv
          cases h0
          refine fin_nil hX .i2 5 rfl ?_
          cbv
          exact fin_ok hX rfl ⟨[5], _, _, ⟨rfl, rfl⟩, rfl, rfl, rfl, rfl, by cbv; try simp⟩
        · rw [hc4]
          cbv
          obtain ⟨hg5, h0⟩ := grdS h0
          refine ⟨nz_of hO hg5, ?_⟩
          obtain ⟨hg6, h0⟩ := grdS h0
          refine ⟨inr_of hO hg6, ?_⟩
          obtain ⟨hg7, h0⟩ := grdS h0
          refine ⟨inr_of hO hg7, ?_⟩
          obtain ⟨hg8, h0⟩ := grdS h0
          refine ⟨nz_of hO hg8, ?_⟩
          obtain ⟨hg9, h0⟩ := grdS h0
          refine ⟨inr_of hO hg9, ?_⟩
          obtain ⟨hg10, h0⟩ := grdS h0
          refine ⟨inr_of hO hg10, ?_⟩
          obtain ⟨hg11, h0⟩ := grdS h0
          refine ⟨inr_of hO hg11, ?_⟩
          rcases condS h0 with ⟨hc12, h0⟩ | ⟨hc12, h0⟩
          · rw [hc12]
            cbv
            cases h0
            refine fin_nil hX .i2 5 rfl ?_
            cbv
            exact fin_ok hX rfl ⟨[5], _, _, ⟨rfl, rfl⟩, rfl, rfl, rfl, rfl, by cbv; try simp⟩
          · rw [hc12]
            cbv
            obtain ⟨l134, hv, h0⟩ := bindS h0
            refine call_is hO hX (fn_periodic_spread hO hv) (by kernel_rfl) [0] rfl ⟨rfl, rfl, trivial⟩ rfl ?_
            cbv
            obtain ⟨l135, hv, h0⟩ := bindS h0
            refine call_is hO hX (fn_periodic_spread hO hv) (by kernel_rfl) [1] rfl ⟨rfl, rfl, trivial⟩ rfl ?_
            cbv
            obtain ⟨l146, hv, h0⟩ := bindS h0
            refine call_is hO hX (fn_periodic_combine_2 hO hv) (by kernel_rfl) [5, 6] rfl ⟨rfl, rfl, rfl, rfl, trivial⟩ rfl ?_
            cbv
            obtain ⟨⟨n64, l147, n65⟩, hv, h0⟩ := bindS h0
            try dsimp only at h0
            refine call_is hO hX (fn_periodic_limited hO hv) (by kernel_rfl) [7] rfl ⟨rfl, rfl, trivial⟩ rfl ?_
            cbv
            cases h0
            exact fin_ok hX rfl ⟨[8], _, _, ⟨rfl, rfl⟩, rfl, rfl, rfl, rfl, by cbv; try simp⟩
set_option maxHeartbeats 40000000 in
theorem fn_periodic_Meet {O0 : Ops} (hO0 : O0 = std) {a_1 : Int} {b_1 : Int} {a_2 : List (Int × Int)} {b_2 : List (Int × Int)} {r1 : Int} {r2 : List (Int × Int)} {r3 : Int} (h : m_periodic_Meet O0 a_1 b_1 a_2 b_2 = some (r1, r2, r3)) :
    Fn Try.prog 15 [.agg [.int .i64 a_1, .sl 0], .agg [.int .i64 b_1, .sl 1]] [.arr false .i2 a_2, .arr false .i2 b_2] (fun v c => v = .tup [.many [.int .i64 r1, .sl 2], .one (.int .i64 r3)] ∧ c = [.arr true .i2 r2]) := by
  refine fn_run tab_holds eqs_holds mixed [] Try.func15 (by kernel_rfl) (by kernel_rfl) (Nat.le_of_ble_eq_true rfl) ?_
  intro O X hO hX
  rw [hO0, ← hO] at h
  unfold m_periodic_Meet at h
  have h0 := h; clear h
  cbv
  obtain ⟨⟨n66, l148, n67⟩, hv, h0⟩ := bindS h0
  try dsimp only at h0
  refine call_is hO hX (fn_periodic_both_2 hO hv) (by kernel_rfl) [0, 1] rfl ⟨rfl, rfl, rfl, rfl, trivial⟩ rfl ?_
  cbv
  cases h0
  exact fin_ok hX rfl ⟨[5], _, _, ⟨rfl, rfl⟩, rfl, rfl, rfl, rfl, by cbv; try simp⟩
set_option maxHeartbeats 40000000 in
theorem fn_periodic_Minus_1 {O0 : Ops} (hO0 : O0 = std) {a_1 : Bool} {b_1 : Bool} {r1 : Bool} (h : m_periodic_Minus_1 O0 a_1 b_1 = some r1) :
    Fn Try.prog 42 [.c (.bool a_1), .c (.bool b_1)] [] (fun v c => v = .c (.bool r1) ∧ c = []) := by
  refine fn_run tab_holds eqs_holds mixed [] Try.func42 (by kernel_rfl) (by kernel_rfl) (Nat.le_of_ble_eq_true rfl) ?_
  intro O X hO hX
  rw [hO0, ← hO] at h
  unfold m_periodic_Minus_1 at h
  have h0 := h; clear h
  cbv
  obtain ⟨x235, h1, h0⟩ := bindS h0
  rcases condS h1 with ⟨hc1, h1⟩ | ⟨hc1, h1⟩
  · rw [hc1]
    cbv
    cases h1
    try dsimp only at h0
    cases h0
    exact fin_ok hX rfl ⟨[], _, _, ⟨rfl, rfl⟩, rfl, rfl, rfl, rfl, by cbv; try simp⟩
  · rw [hc1]
    cbv
    cases h1
    try dsimp only at h0
    cases h0
    exact fin_ok hX rfl ⟨[], _, _, ⟨rfl, rfl⟩, rfl, rfl, rfl, rfl, by cbv; try simp⟩
theorem fn_periodic_combine_3 {O0 : Ops} (hO0 : O0 = std) {a_1 : List (Int × Int)} {b_1 : List (Int × Int)} {r1 : List (Int × Int)} (h : m_periodic_combine_3 O0 a_1 b_1 = some r1) :
    Fn Try.prog 49 [.c (.sl 0), .c (.sl 1), .c (.fn 42 [])] [.arr false .i2 a_1, .arr false .i2 b_1] (fun v c => v = .c (.sl 2) ∧ c = [.own 29 .i2 r1]) :=
  fn_g_combine (by kernel_rfl) (@fun _ hO _ _ _ h => fn_periodic_Minus_1 hO h) hO0 h
set_option maxHeartbeats 40000000 in
theorem fn_periodic_both_3 {O0 : Ops} (hO0 : O0 = std) {a_1 : Int} {b_1 : Int} {a_2 : List (Int × Int)} {b_2 : List (Int × Int)} {r1 : Int} {r2 : List (Int × Int)} {r3 : Int} (h : m_periodic_both_3 O0 a_1 b_1 a_2 b_2 = some (r1, r2, r3)) :
    Fn Try.prog 39 [.agg [.int .i64 a_1, .sl 0], .agg [.int .i64 b_1, .sl 1], .c (.fn 42 [])] [.arr false .i2 a_2, .arr false .i2 b_2] (fun v c => v = .tup [.many [.int .i64 r1, .sl 2], .one (.int .i64 r3)] ∧ c = [.arr true .i2 r2]) := by
  refine fn_run tab_holds eqs_holds mixed [(6, (.seg 1 [0, 1, 2, 3, 4, 5, 6, 7, 8, 9, 10, 11, 12, 13, 14, 15, 16, 17] .fin), []), (8, (.seg 1 [0, 1, 2, 4, 5, 7] (.seg 2 [3] (.seg 2 [6] (.seg 2 [8] (.seg 2 [9] (.seg 1 [10, 11] .fin)))))), [12, 13])] Try.func39 (by kernel_rfl) (by kernel_rfl) (Nat.le_of_ble_eq_true rfl) ?_
  intro O X hO hX
  rw [hO0, ← hO] at h
  unfold m_periodic_both_3 at h
  have h0 := h; clear h
  cbv
  obtain ⟨x226, h1, h0⟩ := bindS h0
  obtain ⟨b59, hv, h1⟩ := bindS h1
  refine call_is hO hX (fn_periodic_Valid hO hv) (by kernel_rfl) [0] rfl ⟨rfl, rfl, trivial⟩ rfl ?_
  cbv
  rcases condS h1 with ⟨hc1, h1⟩ | ⟨hc1, h1⟩
  · rw [hc1]
    cbv
    cases h1
    try dsimp only at h0
    replace h0 := condT h0 rfl
    cases h0
    refine fin_nil hX .i2 5 rfl ?_
    cbv
    exact fin_ok hX rfl ⟨[5], _, _, ⟨rfl, rfl⟩, rfl, rfl, rfl, rfl, by cbv; try simp⟩
  · as_aux_lemma =>
    rw [hc1]
    cbv
    obtain ⟨b60, hv, h1⟩ := bindS h1
    refine call_is hO hX (fn_periodic_Valid hO hv) (by kernel_rfl) [1] rfl ⟨rfl, rfl, trivial⟩ rfl ?_
    cbv
    cases h1
    try dsimp only at h0
    rcases condS h0 with ⟨hc2, h0⟩ | ⟨hc2, h0⟩
    · rw [hc2]
      cbv
      cases h0
      refine fin_nil hX .i2 5 rfl ?_
      cbv
      exact fin_ok hX rfl ⟨[5], _, _, ⟨rfl, rfl⟩, rfl, rfl, rfl, rfl, by cbv; try simp⟩
    · as_aux_lemma =>
      rw [hc2]
      cbv
      obtain ⟨⟨n72, n73⟩, hv, h0⟩ := bindS h0
      try dsimp only at h0
      refine call_is hO hX (fn_integer_Lcm hO hv) (by kernel_rfl) [] rfl trivial rfl ?_
      cbv
      obtain ⟨x228, h1, h0⟩ := bindS h0
      rcases condS h1 with ⟨hc3, h1⟩ | ⟨hc3, h1⟩
      · rw [hc3]
        cbv
        cases h1
        try dsimp only at h0
        replace h0 := condT h0 rfl
        cases h0
        refine fin_nil hX .i2 5 rfl ?_
        cbv
        exact fin_ok hX rfl ⟨[5], _, _, ⟨rfl, rfl⟩, rfl, rfl, rfl, rfl, by cbv; try simp⟩
      · as_aux_lemma =>
        rw [hc3]
        cbv
        cases h1
        try dsimp only at h0
        rcases condS h0 with ⟨hc4, h0⟩ | ⟨hc4, h0⟩
        · rw [hc4]
          cbv
          cases h0
          refine fin_nil hX .i2 5 rfl ?_
          cbv
          exact fin_ok hX rfl ⟨[5], _, _, ⟨rfl, rfl⟩, rfl, rfl, rfl, rfl, by cbv; try simp⟩
        · rw [hc4]
          cbv
          obtain ⟨hg5, h0⟩ := grdS h0
          refine ⟨nz_of hO hg5, ?_⟩
          obtain ⟨hg6, h0⟩ := grdS h0
          refine ⟨inr_of hO hg6, ?_⟩
          obtain ⟨hg7, h0⟩ := grdS h0
          refine ⟨inr_of hO hg7, ?_⟩
          obtain ⟨hg8, h0⟩ := grdS h0
          refine ⟨nz_of hO hg8, ?_⟩
          obtain ⟨hg9, h0⟩ := grdS h0
          refine ⟨inr_of hO hg9, ?_⟩
          obtain ⟨hg10, h0⟩ := grdS h0
          refine ⟨inr_of hO hg10, ?_⟩
          obtain ⟨hg11, h0⟩ := grdS h0
          refine ⟨inr_of hO hg11, ?_⟩
          rcases condS h0 with ⟨hc12, h0⟩ | ⟨hc12, h0⟩
          · rw [hc12]
            cbv
            cases h0
            refine fin_nil hX .i2 5 rfl ?_
            cbv
            exact fin_ok hX rfl ⟨[5], _, _, ⟨rfl, rfl⟩, rfl, rfl, rfl, rfl, by cbv; try simp⟩
          · rw [hc12]
            cbv
            obtain ⟨l151, hv, h0⟩ := bindS h0
            refine call_is hO hX (fn_periodic_spread hO hv) (by kernel_rfl) [0] rfl ⟨rfl, rfl, trivial⟩ rfl ?_
            cbv
            obtain ⟨l152, hv, h0⟩ := bindS h0
            refine call_is hO hX (fn_periodic_spread hO hv) (by kernel_rfl) [1] rfl ⟨rfl, rfl, trivial⟩ rfl ?_
            cbv
            obtain ⟨l163, hv, h0⟩ := bindS h0
            refine call_is hO hX (fn_periodic_combine_3 hO hv) (by kernel_rfl) [5, 6] rfl ⟨rfl, rfl, rfl, rfl, trivial⟩ rfl ?_
            cbv
            obtain ⟨⟨n78, l164, n79⟩, hv, h0⟩ := bindS h0
            try dsimp only at h0
            refine call_is hO hX (fn_periodic_limited hO hv) (by kernel_rfl) [7] rfl ⟨rfl, rfl, trivial⟩ rfl ?_
            cbv
            cases h0
            exact fin_ok hX rfl ⟨[8], _, _, ⟨rfl, rfl⟩, rfl, rfl, rfl, rfl, by cbv; try simp⟩
set_option maxHeartbeats 40000000 in
theorem fn_periodic_Minus {O0 : Ops} (hO0 : O0 = std) {a_1 : Int} {b_1 : Int} {a_2 : List (Int × Int)} {b_2 : List (Int × Int)} {r1 : Int} {r2 : List (Int × Int)} {r3 : Int} (h : m_periodic_Minus O0 a_1 b_1 a_2 b_2 = some (r1, r2, r3)) :
    Fn Try.prog 16 [.agg [.int .i64 a_1, .sl 0], .agg [.int .i64 b_1, .sl 1]] [.arr false .i2 a_2, .arr false .i2 b_2] (fun v c => v = .tup [.many [.int .i64 r1, .sl 2], .one (.int .i64 r3)] ∧ c = [.arr true .i2 r2]) := by
  refine fn_run tab_holds eqs_holds mixed [] Try.func16 (by kernel_rfl) (by kernel_rfl) (Nat.le_of_ble_eq_true rfl) ?_
  intro O X hO hX
  rw [hO0, ← hO] at h
  unfold m_periodic_Minus at h
  have h0 := h; clear h
  cbv
  obtain ⟨⟨n80, l165, n81⟩, hv, h0⟩ := bindS h0
  try dsimp only at h0
  refine call_is hO hX (fn_periodic_both_3 hO hv) (by kernel_rfl) [0, 1] rfl ⟨rfl, rfl, rfl, rfl, trivial⟩ rfl ?_
  cbv
  cases h0
  exact fin_ok hX rfl ⟨[5], _, _, ⟨rfl, rfl⟩, rfl, rfl, rfl, rfl, by cbv; try simp⟩
end Go.Proofs.Ytlpbdikmhngmfaa
