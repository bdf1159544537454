/-
  The code does what its models say (printed by lift.py).
-/
import Derived.Test.YtlpbdikmhngmfaaQM
import Derived.Test.YtlpbdikmhngmfaaQG
import Derived.Test.YtlpbdikmhngmfaaManWC
import Derived.Test.YtlpbdikmhngmfaaSW0
import Derived.Test.YtlpbdikmhngmfaaSW1
import Derived.Test.YtlpbdikmhngmfaaSW2
import Derived.Test.YtlpbdikmhngmfaaSW3
import Derived.Test.YtlpbdikmhngmfaaSW4
import Derived.Test.YtlpbdikmhngmfaaSW5
import Derived.Test.YtlpbdikmhngmfaaSW7
import Derived.Test.YtlpbdikmhngmfaaSW8
import Derived.Test.YtlpbdikmhngmfaaSW9
namespace Go.Proofs.Ytlpbdikmhngmfaa
open Go.RowKit
set_option maxRecDepth 100000

set_option maxHeartbeats 40000000 in
theorem fn_periodic_Not_1 {O0 : Ops} (hO0 : O0 = std) {a_1 : Bool} {b_1 : Bool} {r1 : Bool} (h : m_periodic_Not_1 O0 a_1 b_1 = some r1) :
    Fn Try.prog 50 [.c (.bool a_1), .c (.bool b_1)] [] (fun v c => v = .c (.bool r1) ∧ c = []) := by
  refine fn_run tab_holds eqs_holds mixed [] Try.func50 (by kernel_rfl) (by kernel_rfl) (Nat.le_of_ble_eq_true rfl) ?_
  intro O X hO hX
  rw [hO0, ← hO] at h
  unfold m_periodic_Not_1 at h
  have h0 := h; clear h
  cbv
  obtain ⟨x263, h1, h0⟩ := bindS h0
  rcases condS h1 with ⟨hc1, h1⟩ | ⟨hc1, h1⟩
  · rw [hc1]
    cbv
    cases h1
    try dsimp only at h0
    cases h0
    exact fin_ok hX rfl ⟨[], _, _, ⟨rfl, rfl⟩, rfl, rfl, rfl, rfl, by cbv; try simp⟩
  · rw [hc1]
    cbv
    cases h1
    try dsimp only at h0
    cases h0
    exact fin_ok hX rfl ⟨[], _, _, ⟨rfl, rfl⟩, rfl, rfl, rfl, rfl, by cbv; try simp⟩
theorem fn_periodic_combine_4 {O0 : Ops} (hO0 : O0 = std) {a_1 : List (Int × Int)} {b_1 : List (Int × Int)} {r1 : List (Int × Int)} (h : m_periodic_combine_4 O0 a_1 b_1 = some r1) :
    Fn Try.prog 49 [.c (.sl 0), .c (.sl 1), .c (.fn 50 [])] [.arr false .i2 a_1, .arr false .i2 b_1] (fun v c => v = .c (.sl 2) ∧ c = [.own 29 .i2 r1]) :=
  fn_g_combine (by kernel_rfl) (@fun _ hO _ _ _ h => fn_periodic_Not_1 hO h) hO0 h
set_option maxHeartbeats 40000000 in
theorem fn_periodic_Not {O0 : Ops} (hO0 : O0 = std) {p_1 : Int} {p_2 : List (Int × Int)} {r1 : Int} {r2 : List (Int × Int)} {r3 : Int} (h : m_periodic_Not O0 p_1 p_2 = some (r1, r2, r3)) :
    Fn Try.prog 18 [.agg [.int .i64 p_1, .sl 0]] [.arr false .i2 p_2] (fun v c => v = .tup [.many [.int .i64 r1, .sl 1], .one (.int .i64 r3)] ∧ c = [.arr true .i2 r2]) := by
  refine fn_run tab_holds eqs_holds mixed [(3, (.seg 1 [0, 1, 2, 3, 4, 6, 7] (.seg 2 [5] (.seg 2 [8] (.seg 2 [9] (.seg 1 [10, 11] .fin))))), [12, 13])] Try.func18 (by kernel_rfl) (by kernel_rfl) (Nat.le_of_ble_eq_true rfl) ?_
  intro O X hO hX
  rw [hO0, ← hO] at h
  unfold m_periodic_Not at h
  have h0 := h; clear h
  cbv
  obtain ⟨b70, hv, h0⟩ := bindS h0
  refine call_is hO hX (fn_periodic_Valid hO hv) (by kernel_rfl) [0] rfl ⟨rfl, rfl, trivial⟩ rfl ?_
  cbv
  rcases condS h0 with ⟨hc1, h0⟩ | ⟨hc1, h0⟩
  · rw [hc1]
    cbv
    cases h0
    refine fin_nil hX .i2 3 rfl ?_
    cbv
    exact fin_ok hX rfl ⟨[3], _, _, ⟨rfl, rfl⟩, rfl, rfl, rfl, rfl, by cbv; try simp⟩
  · rw [hc1]
    cbv
    obtain ⟨l178, hv, h0⟩ := bindS h0
    refine call_is hO hX (fn_periodic_combine_4 hO hv) (by kernel_rfl) [3, 0] rfl ⟨rfl, rfl, rfl, rfl, trivial⟩ rfl ?_
    cbv
    obtain ⟨⟨n90, l179, n91⟩, hv, h0⟩ := bindS h0
    try dsimp only at h0
    refine call_is hO hX (fn_periodic_limited hO hv) (by kernel_rfl) [4] rfl ⟨rfl, rfl, trivial⟩ rfl ?_
    cbv
    cases h0
    exact fin_ok hX rfl ⟨[5], _, _, ⟨rfl, rfl⟩, rfl, rfl, rfl, rfl, by cbv; try simp⟩
set_option maxHeartbeats 40000000 in
theorem fn_ref13_Not {O0 : Ops} (hO0 : O0 = std) {p_1 : Int} {p_2 : List (Int × Int)} {r1 : Int} {r2 : List (Int × Int)} {r3 : Int} (h : m_ref13_Not O0 p_1 p_2 = some (r1, r2, r3)) :
    Fn Try.prog 19 [.agg [.int .i64 p_1, .sl 0]] [.arr false .i2 p_2] (fun v c => v = .tup [.many [.int .i64 r1, .sl 1], .one (.int .i64 r3)] ∧ c = [.arr true .i2 r2]) := by
  refine fn_run tab_holds eqs_holds mixed [(3, (.seg 1 [0, 1, 2, 3, 4, 6, 7] (.seg 2 [5] (.seg 2 [8] (.seg 2 [9] (.seg 2 [10] (.seg 1 [11, 12] .fin)))))), [13, 14])] Try.func19 (by kernel_rfl) (by kernel_rfl) (Nat.le_of_ble_eq_true rfl) ?_
  intro O X hO hX
  rw [hO0, ← hO] at h
  unfold m_ref13_Not at h
  have h0 := h; clear h
  cbv
  obtain ⟨b79, hv, h0⟩ := bindS h0
  refine call_is hO hX (fn_ref13_Valid hO hv) (by kernel_rfl) [0] rfl ⟨rfl, rfl, trivial⟩ rfl ?_
  cbv
  rcases condS h0 with ⟨hc1, h0⟩ | ⟨hc1, h0⟩
  · rw [hc1]
    cbv
    cases h0
    refine fin_nil hX .i2 3 rfl ?_
    cbv
    exact fin_ok hX rfl ⟨[3], _, _, ⟨rfl, rfl⟩, rfl, rfl, rfl, rfl, by cbv; try simp⟩
  · rw [hc1]
    cbv
    obtain ⟨e1, h1, h0⟩ := bindS h0
    obtain ⟨l181, hv, h1⟩ := bindS h1
    refine call_is hO hX (fn_ref13_Lists hO hv) (by kernel_rfl) [3, 0] rfl ⟨rfl, rfl, rfl, rfl, trivial⟩ rfl ?_
    cbv
    obtain ⟨⟨n94, l182⟩, hv, h1⟩ := bindS h1
    try dsimp only at h1
    refine call_is hO hX (fn_ref13_Least hO hv) (by kernel_rfl) [4] rfl ⟨rfl, rfl, trivial⟩ rfl ?_
    cbv
    obtain ⟨e1, hv, h1⟩ := bindS h1
    rcases e1 with ⟨n95, n96⟩ | ⟨n97, n98⟩
    · try dsimp only at h1
      refine call_is hO hX (fn_ref13_limited hO hv) (by kernel_rfl) [5] rfl ⟨rfl, rfl, trivial⟩ rfl ?_
      cbv
      cases h1
      try dsimp only at h0
      cases h0
      refine fin_nil hX .i2 6 rfl ?_
      cbv
      exact fin_ok hX rfl ⟨[6], _, _, ⟨rfl, rfl⟩, rfl, rfl, rfl, rfl, by cbv; try simp⟩
    · try dsimp only at h1
      refine call_is hO hX (fn_ref13_limited hO hv) (by kernel_rfl) [5] rfl ⟨rfl, rfl, trivial⟩ rfl ?_
      cbv
      cases h1
      try dsimp only at h0
      cases h0
      refine fin_frz hX 5 ?_
      cbv
      exact fin_ok hX rfl ⟨[5], _, _, ⟨rfl, rfl⟩, rfl, rfl, rfl, rfl, by cbv; try simp⟩
set_option maxHeartbeats 40000000 in
theorem fn_periodic_Move {O0 : Ops} (hO0 : O0 = std) {p_1 : Int} {n_1 : Int} {p_2 : List (Int × Int)} {r1 : Int} {r2 : List (Int × Int)} {r3 : Int} (h : m_periodic_Move O0 p_1 n_1 p_2 = some (r1, r2, r3)) :
    Fn Try.prog 20 [.agg [.int .i64 p_1, .sl 0], .c (.int .i64 n_1)] [.arr false .i2 p_2] (fun v c => v = .tup [.many [.int .i64 r1, .sl 1], .one (.int .i64 r3)] ∧ c = [.arr true .i2 r2]) := by
  refine fn_run tab_holds eqs_holds mixed [(12, (.seg 1 [0, 1, 2, 3, 4] (.seg 2 [5] (.seg 2 [6] (.seg 1 [7, 8] .fin)))), [9, 10])] Try.func20 (by kernel_rfl) (by kernel_rfl) (Nat.le_of_ble_eq_true rfl) ?_
  intro O X hO hX
  rw [hO0, ← hO] at h
  unfold m_periodic_Move at h
  have h0 := h; clear h
  cbv
  obtain ⟨b80, hv, h0⟩ := bindS h0
  refine call_is hO hX (fn_periodic_Valid hO hv) (by kernel_rfl) [0] rfl ⟨rfl, rfl, trivial⟩ rfl ?_
  cbv
  rcases condS h0 with ⟨hc1, h0⟩ | ⟨hc1, h0⟩
  · rw [hc1]
    cbv
    cases h0
    refine fin_nil hX .i2 3 rfl ?_
    cbv
    exact fin_ok hX rfl ⟨[3], _, _, ⟨rfl, rfl⟩, rfl, rfl, rfl, rfl, by cbv; try simp⟩
  · as_aux_lemma =>
    rw [hc1]
    cbv
    obtain ⟨x292, h1, h0⟩ := bindS h0
    rcases condS h1 with ⟨hc2, h1⟩ | ⟨hc2, h1⟩
    · rw [hc2]
      cbv
      cases h1
      try dsimp only at h0
      replace h0 := condT h0 rfl
      cases h0
      refine fin_nil hX .i2 3 rfl ?_
      cbv
      exact fin_ok hX rfl ⟨[3], _, _, ⟨rfl, rfl⟩, rfl, rfl, rfl, rfl, by cbv; try simp⟩
    · as_aux_lemma =>
      rw [hc2]
      cbv
      cases h1
      try dsimp only at h0
      rcases condS h0 with ⟨hc3, h0⟩ | ⟨hc3, h0⟩
      · rw [hc3]
        cbv
        cases h0
        refine fin_nil hX .i2 3 rfl ?_
        cbv
        exact fin_ok hX rfl ⟨[3], _, _, ⟨rfl, rfl⟩, rfl, rfl, rfl, rfl, by cbv; try simp⟩
      · as_aux_lemma =>
        rw [hc3]
        cbv
        obtain ⟨n101, hv, h0⟩ := bindS h0
        refine call_is hO hX (fn_integer_Mod hO hv) (by kernel_rfl) [] rfl trivial rfl ?_
        cbv
        obtain ⟨l186, hi, h0⟩ := bindS h0
        obtain ⟨I1, hI1, hi⟩ := loopS hi
        refine loop1 tab_holds eqs_holds mixed [(12, (.seg 1 [0, 1, 2, 3, 4] (.seg 2 [5] (.seg 2 [6] (.seg 1 [7, 8] .fin)))), [9, 10])] hO hX I1 (fun y => [(22, .junk), (25, .junk), (7, .c (.sl 3)), (28, .c (.int .i64 y.2.1))]) (fun y => [(3, .own 29 .i2 y.2.2)]) (fun y => y.1) _ (by kernel_rfl) hi (by cbv; try simp) ?_
        refine allp ?_
        intro n1
        refine allp ?_
        intro x294
        intro l185 hi
        cbv
        rw [hI1] at hi
        obtain ⟨n1, rfl, x1, h1, hi1⟩ := iterS hi
        unfold m_periodic_Move_L1 at h1
        try dsimp only at h1
        rcases condS h1 with ⟨hc4, h1⟩ | ⟨hc4, h1⟩
        · rw [hc4]
          cbv
          obtain ⟨hg5, h1⟩ := grdS h1
          refine ⟨idx_of hO hg5, ?_⟩
          obtain ⟨hg6, h1⟩ := grdS h1
          refine ⟨kin_of hO hg6, ?_⟩
          obtain ⟨hg7, h1⟩ := grdS h1
          refine ⟨inr_of hO hg7, ?_⟩
          obtain ⟨hg8, h1⟩ := grdS h1
          refine ⟨inr_of hO hg8, ?_⟩
          obtain ⟨hg9, h1⟩ := grdS h1
          refine ⟨room_of hO hg9, ?_⟩
          obtain ⟨hg10, h1⟩ := grdS h1
          refine ⟨room_of hO hg10, ?_⟩
          obtain ⟨hg11, h1⟩ := grdS h1
          refine ⟨inr_of hO hg11, ?_⟩
          cases h1
          exact ⟨_, [0, 1, 2, 6], nextI hI1 hi1, by cbv; try simp, by first | exact Nat.lt_succ_self _ | omega⟩
        · rw [hc4]
          cbv
          cases h1
          cases exitI hi1
          try dsimp only at h0
          obtain ⟨l187, hv, h0⟩ := bindS h0
          refine call_is hO hX (fn_periodic_fold hO hv) (by kernel_rfl) [3] rfl ⟨rfl, rfl, trivial⟩ rfl ?_
          cbv
          obtain ⟨⟨n102, l188, n103⟩, hv, h0⟩ := bindS h0
          try dsimp only at h0
          refine call_is hO hX (fn_periodic_limited hO hv) (by kernel_rfl) [4] rfl ⟨rfl, rfl, trivial⟩ rfl ?_
          cbv
          cases h0
          exact fin_ok hX rfl ⟨[5], _, _, ⟨rfl, rfl⟩, rfl, rfl, rfl, rfl, by cbv; try simp⟩
set_option maxHeartbeats 40000000 in
theorem fn_ref13_Move {O0 : Ops} (hO0 : O0 = std) {p_1 : Int} {n_1 : Int} {p_2 : List (Int × Int)} {e : ((Int × List (Int × Int) × Int) ⊕ (Int × Int))} (h : m_ref13_Move O0 p_1 n_1 p_2 = some e) :
    Fn Try.prog 21 [.agg [.int .i64 p_1, .sl 0], .c (.int .i64 n_1)] [.arr false .i2 p_2] (fun v c => match e with | .inl (r1, r2, r3) => v = .tup [.many [.int .i64 r1, .sl 1], .one (.int .i64 r3)] ∧ c = [.arr true .i2 r2] | .inr ((r1, r2)) => v = .tup [.many [.int .i64 r1, .sl 0], .one (.int .i64 r2)] ∧ c = []) := by
  refine fn_run tab_holds eqs_holds mixed [(5, (.seg 1 [0, 1, 2, 3, 4, 5, 6] (.seg 2 [7] (.seg 1 [8] (.seg 2 [9] (.seg 1 [10, 11] .fin))))), [12, 13])] Try.func21 (by kernel_rfl) (by kernel_rfl) (Nat.le_of_ble_eq_true rfl) ?_
  intro O X hO hX
  rw [hO0, ← hO] at h
  unfold m_ref13_Move at h
  have h0 := h; clear h
  cbv
  obtain ⟨b81, hv, h0⟩ := bindS h0
  refine call_is hO hX (fn_ref13_Valid hO hv) (by kernel_rfl) [0] rfl ⟨rfl, rfl, trivial⟩ rfl ?_
  cbv
  rcases condS h0 with ⟨hc1, h0⟩ | ⟨hc1, h0⟩
  · rw [hc1]
    cbv
    cases h0
    refine fin_nil hX .i2 3 rfl ?_
    cbv
    exact fin_ok hX rfl ⟨[3], _, _, ⟨rfl, rfl⟩, rfl, rfl, rfl, rfl, by cbv; try simp⟩
  · as_aux_lemma =>
    rw [hc1]
    cbv
    obtain ⟨x296, h1, h0⟩ := bindS h0
    rcases condS h1 with ⟨hc2, h1⟩ | ⟨hc2, h1⟩
    · rw [hc2]
      cbv
      cases h1
      try dsimp only at h0
      replace h0 := condT h0 rfl
      cases h0
      refine fin_nil hX .i2 3 rfl ?_
      cbv
      exact fin_ok hX rfl ⟨[3], _, _, ⟨rfl, rfl⟩, rfl, rfl, rfl, rfl, by cbv; try simp⟩
    · as_aux_lemma =>
      rw [hc2]
      cbv
      cases h1
      try dsimp only at h0
      rcases condS h0 with ⟨hc3, h0⟩ | ⟨hc3, h0⟩
      · rw [hc3]
        cbv
        cases h0
        refine fin_nil hX .i2 3 rfl ?_
        cbv
        exact fin_ok hX rfl ⟨[3], _, _, ⟨rfl, rfl⟩, rfl, rfl, rfl, rfl, by cbv; try simp⟩
      · as_aux_lemma =>
        rw [hc3]
        cbv
        obtain ⟨e1, h1, h0⟩ := bindS h0
        obtain ⟨e1, hv, h1⟩ := bindS h1
        rcases e1 with _ | l190
        · try dsimp only at h1
          refine call_is hO hX (fn_ref13_rotated hO hv) (by kernel_rfl) [0] rfl ⟨rfl, rfl, trivial⟩ rfl ?_
          cbv
          obtain ⟨e1, hv, h1⟩ := bindS h1
          rcases e1 with ⟨n106, n107⟩ | ⟨n108, n109⟩
          · try dsimp only at h1
            refine call_is hO hX (fn_ref13_limited hO hv) (by kernel_rfl) [0] rfl ⟨rfl, rfl, trivial⟩ rfl ?_
            cbv
            cases h1
            try dsimp only at h0
            cases h0
            refine fin_nil hX .i2 3 rfl ?_
            cbv
            exact fin_ok hX rfl ⟨[3], _, _, ⟨rfl, rfl⟩, rfl, rfl, rfl, rfl, by cbv; try simp⟩
          · try dsimp only at h1
            refine call_is hO hX (fn_ref13_limited hO hv) (by kernel_rfl) [0] rfl ⟨rfl, rfl, trivial⟩ rfl ?_
            cbv
            cases h1
            try dsimp only at h0
            cases h0
            exact fin_ok hX rfl ⟨[], _, _, ⟨rfl, rfl⟩, rfl, rfl, rfl, rfl, by cbv; try simp⟩
        · try dsimp only at h1
          refine call_is hO hX (fn_ref13_rotated hO hv) (by kernel_rfl) [0] rfl ⟨rfl, rfl, trivial⟩ rfl ?_
          cbv
          obtain ⟨e1, hv, h1⟩ := bindS h1
          rcases e1 with ⟨n110, n111⟩ | ⟨n112, n113⟩
          · try dsimp only at h1
            refine call_is hO hX (fn_ref13_limited hO hv) (by kernel_rfl) [3] rfl ⟨rfl, rfl, trivial⟩ rfl ?_
            cbv
            cases h1
            try dsimp only at h0
            cases h0
            refine fin_nil hX .i2 4 rfl ?_
            cbv
            exact fin_ok hX rfl ⟨[4], _, _, ⟨rfl, rfl⟩, rfl, rfl, rfl, rfl, by cbv; try simp⟩
          · try dsimp only at h1
            refine call_is hO hX (fn_ref13_limited hO hv) (by kernel_rfl) [3] rfl ⟨rfl, rfl, trivial⟩ rfl ?_
            cbv
            cases h1
            try dsimp only at h0
            cases h0
            refine fin_frz hX 3 ?_
            cbv
            exact fin_ok hX rfl ⟨[3], _, _, ⟨rfl, rfl⟩, rfl, rfl, rfl, rfl, by cbv; try simp⟩
set_option maxHeartbeats 40000000 in
theorem fn_law13_PeriodicCombines {O0 : Ops} (hO0 : O0 = std) {a_1 : Int} {b_1 : Int} {n_1 : Int} {a_2 : List (Int × Int)} {b_2 : List (Int × Int)} {r1 : Bool} (h : m_law13_PeriodicCombines O0 a_1 b_1 n_1 a_2 b_2 = some r1) :
    Fn Try.prog 4 [.agg [.int .i64 a_1, .sl 0], .agg [.int .i64 b_1, .sl 1], .c (.int .i64 n_1)] [.arr false .i2 a_2, .arr false .i2 b_2] (fun v c => v = .c (.bool r1) ∧ c = []) := by
  refine fn_run tab_holds eqs_holds mixed [] Try.func4 (by kernel_rfl) (by kernel_rfl) (Nat.le_of_ble_eq_true rfl) ?_
  intro O X hO hX
  rw [hO0, ← hO] at h
  unfold m_law13_PeriodicCombines at h
  have h0 := h; clear h
  cbv
  obtain ⟨x108, h1, h0⟩ := bindS h0
  obtain ⟨b25, hv, h1⟩ := bindS h1
  refine call_is hO hX (fn_law13_awake hO hv) (by kernel_rfl) [] rfl trivial rfl ?_
  cbv
  rcases condS h1 with ⟨hc1, h1⟩ | ⟨hc1, h1⟩
  · rw [hc1]
    cbv
    cases h1
    try dsimp only at h0
    replace h0 := condT h0 rfl
    obtain ⟨b28, hv, h0⟩ := bindS h0
    refine call_is hO hX (fn_law13_awake hO hv) (by kernel_rfl) [] rfl trivial rfl ?_
    cbv
    cases h0
    exact fin_ok hX rfl ⟨[], _, _, ⟨rfl, rfl⟩, rfl, rfl, rfl, rfl, by cbv; try simp⟩
  · as_aux_lemma =>
    rw [hc1]
    cbv
    obtain ⟨b26, hv, h1⟩ := bindS h1
    refine call_is hO hX (fn_law13_long hO hv) (by kernel_rfl) [0] rfl ⟨rfl, rfl, trivial⟩ rfl ?_
    cbv
    rcases condS h1 with ⟨hc2, h1⟩ | ⟨hc2, h1⟩
    · rw [hc2]
      cbv
      cases h1
      try dsimp only at h0
      replace h0 := condT h0 rfl
      obtain ⟨b28, hv, h0⟩ := bindS h0
      refine call_is hO hX (fn_law13_awake hO hv) (by kernel_rfl) [] rfl trivial rfl ?_
      cbv
      cases h0
      exact fin_ok hX rfl ⟨[], _, _, ⟨rfl, rfl⟩, rfl, rfl, rfl, rfl, by cbv; try simp⟩
    · as_aux_lemma =>
      rw [hc2]
      cbv
      obtain ⟨b27, hv, h1⟩ := bindS h1
      refine call_is hO hX (fn_law13_long hO hv) (by kernel_rfl) [1] rfl ⟨rfl, rfl, trivial⟩ rfl ?_
      cbv
      cases h1
      try dsimp only at h0
      rcases condS h0 with ⟨hc3, h0⟩ | ⟨hc3, h0⟩
      · rw [hc3]
        cbv
        obtain ⟨b28, hv, h0⟩ := bindS h0
        refine call_is hO hX (fn_law13_awake hO hv) (by kernel_rfl) [] rfl trivial rfl ?_
        cbv
        cases h0
        exact fin_ok hX rfl ⟨[], _, _, ⟨rfl, rfl⟩, rfl, rfl, rfl, rfl, by cbv; try simp⟩
      · as_aux_lemma =>
        rw [hc3]
        cbv
        refine loop_unroll tab_holds eqs_holds mixed [] hO hX 4 (by kernel_rfl) ?_
        cbv
        rw [show (O .lt 0 (Int.ofNat 3)) = true from by subst hO; rfl]
        cbv
        obtain ⟨⟨n35, l71, n36⟩, hv, h0⟩ := bindS h0
        try dsimp only at h0
        refine call_is hO hX (fn_periodic_Union hO hv) (by kernel_rfl) [0, 1] rfl ⟨rfl, rfl, rfl, rfl, trivial⟩ rfl ?_
        cbv
        obtain ⟨⟨n56, l133, n57⟩, hv, h0⟩ := bindS h0
        try dsimp only at h0
        refine call_is hO hX (fn_ref13_Combine hO hv) (by kernel_rfl) [0, 1] rfl ⟨rfl, rfl, rfl, rfl, trivial⟩ rfl ?_
        cbv
        obtain ⟨b47, hv, h0⟩ := bindS h0
        refine call_is hO hX (fn_law13_PeriodicCombines_1 hO hv) (by kernel_rfl) [5, 7] rfl ⟨rfl, rfl, rfl, rfl, trivial⟩ rfl ?_
        cbv
        rcases condS h0 with ⟨hc4, h0⟩ | ⟨hc4, h0⟩
        · rw [hc4]
          cbv
          cases h0
          exact fin_ok hX rfl ⟨[], _, _, ⟨rfl, rfl⟩, rfl, rfl, rfl, rfl, by cbv; try simp⟩
        · as_aux_lemma =>
          rw [hc4]
          cbv
          obtain ⟨hg5, h0⟩ := grdS h0
          refine ⟨inr_of hO hg5, ?_⟩
          try (rw [show (O .add 0 1) = 1 from by subst hO; rfl]; try cbv)
          try (rw [show (O .add 0 1) = 1 from by subst hO; rfl]; try cbv)
          rw [show (O .lt 1 (Int.ofNat 3)) = true from by subst hO; rfl]
          cbv
          obtain ⟨⟨n68, l149, n69⟩, hv, h0⟩ := bindS h0
          try dsimp only at h0
          refine call_is hO hX (fn_periodic_Meet hO hv) (by kernel_rfl) [0, 1] rfl ⟨rfl, rfl, rfl, rfl, trivial⟩ rfl ?_
          cbv
          obtain ⟨⟨n70, l150, n71⟩, hv, h0⟩ := bindS h0
          try dsimp only at h0
          refine call_is hO hX (fn_ref13_Combine hO hv) (by kernel_rfl) [0, 1] rfl ⟨rfl, rfl, rfl, rfl, trivial⟩ rfl ?_
          cbv
          obtain ⟨b58, hv, h0⟩ := bindS h0
          refine call_is hO hX (fn_law13_PeriodicCombines_1 hO hv) (by kernel_rfl) [9, 11] rfl ⟨rfl, rfl, rfl, rfl, trivial⟩ rfl ?_
          cbv
          rcases condS h0 with ⟨hc6, h0⟩ | ⟨hc6, h0⟩
          · rw [hc6]
            cbv
            cases h0
            exact fin_ok hX rfl ⟨[], _, _, ⟨rfl, rfl⟩, rfl, rfl, rfl, rfl, by cbv; try simp⟩
          · as_aux_lemma =>
            rw [hc6]
            cbv
            obtain ⟨hg7, h0⟩ := grdS h0
            refine ⟨inr_of hO hg7, ?_⟩
            try (rw [show (O .add 1 1) = 2 from by subst hO; rfl]; try cbv)
            try (rw [show (O .add 1 1) = 2 from by subst hO; rfl]; try cbv)
            rw [show (O .lt 2 (Int.ofNat 3)) = true from by subst hO; rfl]
            cbv
            obtain ⟨⟨n82, l166, n83⟩, hv, h0⟩ := bindS h0
            try dsimp only at h0
            refine call_is hO hX (fn_periodic_Minus hO hv) (by kernel_rfl) [0, 1] rfl ⟨rfl, rfl, rfl, rfl, trivial⟩ rfl ?_
            cbv
            obtain ⟨⟨n84, l167, n85⟩, hv, h0⟩ := bindS h0
            try dsimp only at h0
            refine call_is hO hX (fn_ref13_Combine hO hv) (by kernel_rfl) [0, 1] rfl ⟨rfl, rfl, rfl, rfl, trivial⟩ rfl ?_
            cbv
            obtain ⟨b69, hv, h0⟩ := bindS h0
            refine call_is hO hX (fn_law13_PeriodicCombines_1 hO hv) (by kernel_rfl) [13, 15] rfl ⟨rfl, rfl, rfl, rfl, trivial⟩ rfl ?_
            cbv
            rcases condS h0 with ⟨hc8, h0⟩ | ⟨hc8, h0⟩
            · rw [hc8]
              cbv
              cases h0
              exact fin_ok hX rfl ⟨[], _, _, ⟨rfl, rfl⟩, rfl, rfl, rfl, rfl, by cbv; try simp⟩
            · as_aux_lemma =>
              rw [hc8]
              cbv
              obtain ⟨hg9, h0⟩ := grdS h0
              refine ⟨inr_of hO hg9, ?_⟩
              try (rw [show (O .add 2 1) = 3 from by subst hO; rfl]; try cbv)
              try (rw [show (O .add 2 1) = 3 from by subst hO; rfl]; try cbv)
              rw [show (O .lt 3 (Int.ofNat 3)) = false from by subst hO; rfl]
              cbv
              obtain ⟨⟨n92, l180, n93⟩, hv, h0⟩ := bindS h0
              try dsimp only at h0
              refine call_is hO hX (fn_periodic_Not hO hv) (by kernel_rfl) [0] rfl ⟨rfl, rfl, trivial⟩ rfl ?_
              cbv
              obtain ⟨⟨n99, l184, n100⟩, hv, h0⟩ := bindS h0
              try dsimp only at h0
              refine call_is hO hX (fn_ref13_Not hO hv) (by kernel_rfl) [0] rfl ⟨rfl, rfl, trivial⟩ rfl ?_
              cbv
              obtain ⟨⟨n104, l189, n105⟩, hv, h0⟩ := bindS h0
              try dsimp only at h0
              refine call_is hO hX (fn_periodic_Move hO hv) (by kernel_rfl) [0] rfl ⟨rfl, rfl, trivial⟩ rfl ?_
              cbv
              obtain ⟨e1, h1, h0⟩ := bindS h0
              obtain ⟨e1, hv, h1⟩ := bindS h1
              rcases e1 with ⟨n114, l192, n115⟩ | ⟨n116, n117⟩
              · try dsimp only at h1
                refine call_is hO hX (fn_ref13_Move hO hv) (by kernel_rfl) [0] rfl ⟨rfl, rfl, trivial⟩ rfl ?_
                cbv
                cases h1
                try dsimp only at h0
                obtain ⟨x315, h1, h0⟩ := bindS h0
                obtain ⟨b82, hv, h1⟩ := bindS h1
                refine call_is hO hX (fn_law13_PeriodicCombines_1 hO hv) (by kernel_rfl) [17, 19] rfl ⟨rfl, rfl, rfl, rfl, trivial⟩ rfl ?_
                cbv
                rcases condS h1 with ⟨hc10, h1⟩ | ⟨hc10, h1⟩
                · rw [hc10]
                  cbv
                  obtain ⟨b83, hv, h1⟩ := bindS h1
                  refine call_is hO hX (fn_law13_PeriodicCombines_1 hO hv) (by kernel_rfl) [21, 23] rfl ⟨rfl, rfl, rfl, rfl, trivial⟩ rfl ?_
                  cbv
                  cases h1
                  try dsimp only at h0
                  cases h0
                  exact fin_ok hX rfl ⟨[], _, _, ⟨rfl, rfl⟩, rfl, rfl, rfl, rfl, by cbv; try simp⟩
                · rw [hc10]
                  cbv
                  cases h1
                  try dsimp only at h0
                  cases h0
                  exact fin_ok hX rfl ⟨[], _, _, ⟨rfl, rfl⟩, rfl, rfl, rfl, rfl, by cbv; try simp⟩
              · try dsimp only at h1
                refine call_is hO hX (fn_ref13_Move hO hv) (by kernel_rfl) [0] rfl ⟨rfl, rfl, trivial⟩ rfl ?_
                cbv
                cases h1
                try dsimp only at h0
                obtain ⟨x317, h1, h0⟩ := bindS h0
                obtain ⟨b84, hv, h1⟩ := bindS h1
                refine call_is hO hX (fn_law13_PeriodicCombines_1 hO hv) (by kernel_rfl) [17, 19] rfl ⟨rfl, rfl, rfl, rfl, trivial⟩ rfl ?_
                cbv
                rcases condS h1 with ⟨hc11, h1⟩ | ⟨hc11, h1⟩
                · rw [hc11]
                  cbv
                  obtain ⟨b85, hv, h1⟩ := bindS h1
                  refine call_is hO hX (fn_law13_PeriodicCombines_1 hO hv) (by kernel_rfl) [21, 0] rfl ⟨rfl, rfl, rfl, rfl, trivial⟩ rfl ?_
                  cbv
                  cases h1
                  try dsimp only at h0
                  cases h0
                  exact fin_ok hX rfl ⟨[], _, _, ⟨rfl, rfl⟩, rfl, rfl, rfl, rfl, by cbv; try simp⟩
                · rw [hc11]
                  cbv
                  cases h1
                  try dsimp only at h0
                  cases h0
                  exact fin_ok hX rfl ⟨[], _, _, ⟨rfl, rfl⟩, rfl, rfl, rfl, rfl, by cbv; try simp⟩
end Go.Proofs.Ytlpbdikmhngmfaa
