/-
  The code does what its models say (printed by lift.py).
-/
import Derived.Test.YtfhfifcfkimgpaaHM
import Derived.Test.YtfhfifcfkimgpaaManW2
import Derived.Test.YtfhfifcfkimgpaaJW0
import Derived.Test.YtfhfifcfkimgpaaJW2
import Derived.Test.YtfhfifcfkimgpaaJW5
import Derived.Test.YtfhfifcfkimgpaaJW13
import Derived.Test.YtfhfifcfkimgpaaJW15
import Derived.Test.YtfhfifcfkimgpaaJW24
import Derived.Test.YtfhfifcfkimgpaaJW28
namespace Go.Proofs.Ytfhfifcfkimgpaa
open Go.RowKit
set_option maxRecDepth 100000

set_option maxHeartbeats 40000000 in
theorem fn_runs_search_1 {O0 : Ops} (hO0 : O0 = std) {s_1 : Int} {s_2 : Int} {x_1 : Int} {r1 : Int} (h : m_runs_search_1 O0 s_1 s_2 x_1 = some r1) :
    Fn Try.prog 101 [.agg [.int .i64 s_1, .int .i64 s_2], .c (.int .i64 x_1)] [] (fun v c => v = .c (.int .i64 r1) ∧ c = []) := by
  refine fn_run tab_holds eqs_holds mixed [] Try.func101 (by kernel_rfl) (by kernel_rfl) (Nat.le_of_ble_eq_true rfl) ?_
  intro O X hO hX
  rw [hO0, ← hO] at h
  unfold m_runs_search_1 at h
  have h0 := h; clear h
  cbv
  rcases condS h0 with ⟨hc1, h0⟩ | ⟨hc1, h0⟩
  · rw [hc1]
    cbv
    cases h0
    exact fin_ok hX rfl ⟨[], _, _, ⟨rfl, rfl⟩, rfl, rfl, rfl, rfl, by cbv; try simp⟩
  · rw [hc1]
    cbv
    cases h0
    exact fin_ok hX rfl ⟨[], _, _, ⟨rfl, rfl⟩, rfl, rfl, rfl, rfl, by cbv; try simp⟩
set_option maxHeartbeats 40000000 in
theorem fn_slices_BinarySearchFunc_2 {O0 : Ops} (hO0 : O0 = std) {target_1 : Int} {x_1 : List (Int × Int)} {r1 : Int} {r2 : Bool} (h : m_slices_BinarySearchFunc_2 O0 target_1 x_1 = some (r1, r2)) :
    Fn Try.prog 91 [.c (.sl 0), .c (.int .i64 target_1), .c (.fn 101 [])] [.arr false .i2 x_1] (fun v c => v = .tup [.one (.int .i64 r1), .one (.bool r2)] ∧ c = []) := by
  refine fn_run tab_holds eqs_holds mixed [] Try.func91 (by kernel_rfl) (by kernel_rfl) (Nat.le_of_ble_eq_true rfl) ?_
  intro O X hO hX
  rw [hO0, ← hO] at h
  unfold m_slices_BinarySearchFunc_2 at h
  have h0 := h; clear h
  cbv
  obtain ⟨i69, hi, h0⟩ := bindS h0
  obtain ⟨I1, hI1, hi⟩ := loopS hi
  refine loop1 tab_holds eqs_holds mixed [] hO hX I1 (fun y => [(9, .c (.int .i64 y.2.1)), (10, .c (.int .i64 y.2.2))]) (fun _ => []) (fun y => y.1) _ (by kernel_rfl) hi (by cbv; try simp) ?_
  refine allp ?_
  intro n1
  refine allp ?_
  intro i66
  intro j4 hi
  cbv
  rw [hI1] at hi
  obtain ⟨n1, rfl, x1, h1, hi1⟩ := iterS hi
  unfold m_slices_BinarySearchFunc_2_L1 at h1
  try dsimp only at h1
  rcases condS h1 with ⟨hc1, h1⟩ | ⟨hc1, h1⟩
  · rw [hc1]
    cbv
    obtain ⟨hg2, h1⟩ := grdS h1
    refine ⟨inr_of hO hg2, ?_⟩
    obtain ⟨hg3, h1⟩ := grdS h1
    refine ⟨inr_of hO hg3, ?_⟩
    obtain ⟨hg4, h1⟩ := grdS h1
    refine ⟨idx_of hO hg4, ?_⟩
    obtain ⟨hg5, h1⟩ := grdS h1
    refine ⟨inr_of hO hg5, ?_⟩
    obtain ⟨hg6, h1⟩ := grdS h1
    refine ⟨idx_of hO hg6, ?_⟩
    obtain ⟨hg7, h1⟩ := grdS h1
    refine ⟨kin_of hO hg7, ?_⟩
    obtain ⟨n195, hv, h1⟩ := bindS h1
    refine call_is hO hX (fn_runs_search_1 hO hv) (by kernel_rfl) [] rfl trivial rfl ?_
    cbv
    obtain ⟨⟨i68, j6⟩, h2, h1⟩ := bindS h1
    rcases condS h2 with ⟨hc8, h2⟩ | ⟨hc8, h2⟩
    · rw [hc8]
      cbv
      obtain ⟨hg9, h2⟩ := grdS h2
      refine ⟨inr_of hO hg9, ?_⟩
      cases h2
      try dsimp only at h1
      cases h1
      exact ⟨_, [0], nextI hI1 hi1, by cbv; try simp, by first | exact Nat.lt_succ_self _ | omega⟩
    · rw [hc8]
      cbv
      cases h2
      try dsimp only at h1
      cases h1
      exact ⟨_, [0], nextI hI1 hi1, by cbv; try simp, by first | exact Nat.lt_succ_self _ | omega⟩
  · rw [hc1]
    cbv
    cases h1
    cases exitI hi1
    try dsimp only at h0
    obtain ⟨x469, h1, h0⟩ := bindS h0
    rcases condS h1 with ⟨hc10, h1⟩ | ⟨hc10, h1⟩
    · rw [hc10]
      cbv
      obtain ⟨hg11, h1⟩ := grdS h1
      refine ⟨idx_of hO hg11, ?_⟩
      obtain ⟨hg12, h1⟩ := grdS h1
      refine ⟨kin_of hO hg12, ?_⟩
      obtain ⟨n196, hv, h1⟩ := bindS h1
      refine call_is hO hX (fn_runs_search_1 hO hv) (by kernel_rfl) [] rfl trivial rfl ?_
      cbv
      cases h1
      try dsimp only at h0
      cases h0
      exact fin_ok hX rfl ⟨[], _, _, ⟨rfl, rfl⟩, rfl, rfl, rfl, rfl, by cbv; try simp⟩
    · rw [hc10]
      cbv
      cases h1
      try dsimp only at h0
      cases h0
      exact fin_ok hX rfl ⟨[], _, _, ⟨rfl, rfl⟩, rfl, rfl, rfl, rfl, by cbv; try simp⟩
set_option maxHeartbeats 40000000 in
theorem fn_runs_search {O0 : Ops} (hO0 : O0 = std) {x_1 : Int} {a_1 : List (Int × Int)} {r1 : Int} (h : m_runs_search O0 x_1 a_1 = some r1) :
    Fn Try.prog 93 [.c (.sl 0), .c (.int .i64 x_1)] [.arr false .i2 a_1] (fun v c => v = .c (.int .i64 r1) ∧ c = []) := by
  refine fn_run tab_holds eqs_holds mixed [] Try.func93 (by kernel_rfl) (by kernel_rfl) (Nat.le_of_ble_eq_true rfl) ?_
  intro O X hO hX
  rw [hO0, ← hO] at h
  unfold m_runs_search at h
  have h0 := h; clear h
  cbv
  obtain ⟨⟨n197, b182⟩, hv, h0⟩ := bindS h0
  try dsimp only at h0
  refine call_is hO hX (fn_slices_BinarySearchFunc_2 hO hv) (by kernel_rfl) [0] rfl ⟨rfl, rfl, trivial⟩ rfl ?_
  cbv
  cases h0
  exact fin_ok hX rfl ⟨[], _, _, ⟨rfl, rfl⟩, rfl, rfl, rfl, rfl, by cbv; try simp⟩
set_option maxHeartbeats 40000000 in
theorem fn_runs_Next {O0 : Ops} (hO0 : O0 = std) {x_1 : Int} {a_1 : List (Int × Int)} {r1 : Int} {r2 : Bool} (h : m_runs_Next O0 x_1 a_1 = some (r1, r2)) :
    Fn Try.prog 76 [.c (.sl 0), .c (.int .i64 x_1)] [.arr false .i2 a_1] (fun v c => v = .tup [.one (.int .i64 r1), .one (.bool r2)] ∧ c = []) := by
  refine fn_run tab_holds eqs_holds mixed [] Try.func76 (by kernel_rfl) (by kernel_rfl) (Nat.le_of_ble_eq_true rfl) ?_
  intro O X hO hX
  rw [hO0, ← hO] at h
  unfold m_runs_Next at h
  have h0 := h; clear h
  cbv
  obtain ⟨b181, hv, h0⟩ := bindS h0
  refine call_is hO hX (fn_runs_Valid hO hv) (by kernel_rfl) [0] rfl ⟨rfl, rfl, trivial⟩ rfl ?_
  cbv
  rcases condS h0 with ⟨hc1, h0⟩ | ⟨hc1, h0⟩
  · rw [hc1]
    cbv
    cases h0
    exact fin_ok hX rfl ⟨[], _, _, ⟨rfl, rfl⟩, rfl, rfl, rfl, rfl, by cbv; try simp⟩
  · rw [hc1]
    cbv
    obtain ⟨n198, hv, h0⟩ := bindS h0
    refine call_is hO hX (fn_runs_search hO hv) (by kernel_rfl) [0] rfl ⟨rfl, rfl, trivial⟩ rfl ?_
    cbv
    rcases condS h0 with ⟨hc2, h0⟩ | ⟨hc2, h0⟩
    · rw [hc2]
      cbv
      cases h0
      exact fin_ok hX rfl ⟨[], _, _, ⟨rfl, rfl⟩, rfl, rfl, rfl, rfl, by cbv; try simp⟩
    · rw [hc2]
      cbv
      obtain ⟨hg3, h0⟩ := grdS h0
      refine ⟨idx_of hO hg3, ?_⟩
      obtain ⟨hg4, h0⟩ := grdS h0
      refine ⟨kin_of hO hg4, ?_⟩
      cases h0
      exact fin_ok hX rfl ⟨[], _, _, ⟨rfl, rfl⟩, rfl, rfl, rfl, rfl, by cbv; try simp⟩
set_option maxHeartbeats 40000000 in
theorem fn_periodic_Next {O0 : Ops} (hO0 : O0 = std) {p_1 : Int} {x_1 : Int} {p_2 : List (Int × Int)} {r1 : Int} {r2 : Bool} (h : m_periodic_Next O0 p_1 x_1 p_2 = some (r1, r2)) :
    Fn Try.prog 45 [.agg [.int .i64 p_1, .sl 0], .c (.int .i64 x_1)] [.arr false .i2 p_2] (fun v c => v = .tup [.one (.int .i64 r1), .one (.bool r2)] ∧ c = []) := by
  refine fn_run tab_holds eqs_holds mixed [(7, (.seg 1 [0, 1, 2, 3, 4, 5, 6, 7, 8, 9, 10, 11, 12, 13] .fin), [])] Try.func45 (by kernel_rfl) (by kernel_rfl) (Nat.le_of_ble_eq_true rfl) ?_
  intro O X hO hX
  rw [hO0, ← hO] at h
  unfold m_periodic_Next at h
  have h0 := h; clear h
  cbv
  obtain ⟨x467, h1, h0⟩ := bindS h0
  obtain ⟨b180, hv, h1⟩ := bindS h1
  refine call_is hO hX (fn_periodic_Valid hO hv) (by kernel_rfl) [0] rfl ⟨rfl, rfl, trivial⟩ rfl ?_
  cbv
  rcases condS h1 with ⟨hc1, h1⟩ | ⟨hc1, h1⟩
  · rw [hc1]
    cbv
    cases h1
    try dsimp only at h0
    replace h0 := condT h0 rfl
    cases h0
    exact fin_ok hX rfl ⟨[], _, _, ⟨rfl, rfl⟩, rfl, rfl, rfl, rfl, by cbv; try simp⟩
  · as_aux_lemma =>
    rw [hc1]
    cbv
    rcases condS h1 with ⟨hc2, h1⟩ | ⟨hc2, h1⟩
    · rw [hc2]
      cbv
      cases h1
      try dsimp only at h0
      replace h0 := condT h0 rfl
      cases h0
      exact fin_ok hX rfl ⟨[], _, _, ⟨rfl, rfl⟩, rfl, rfl, rfl, rfl, by cbv; try simp⟩
    · as_aux_lemma =>
      rw [hc2]
      cbv
      rcases condS h1 with ⟨hc3, h1⟩ | ⟨hc3, h1⟩
      · rw [hc3]
        cbv
        cases h1
        try dsimp only at h0
        replace h0 := condT h0 rfl
        cases h0
        exact fin_ok hX rfl ⟨[], _, _, ⟨rfl, rfl⟩, rfl, rfl, rfl, rfl, by cbv; try simp⟩
      · as_aux_lemma =>
        rw [hc3]
        cbv
        cases h1
        try dsimp only at h0
        rcases condS h0 with ⟨hc4, h0⟩ | ⟨hc4, h0⟩
        · rw [hc4]
          cbv
          cases h0
          exact fin_ok hX rfl ⟨[], _, _, ⟨rfl, rfl⟩, rfl, rfl, rfl, rfl, by cbv; try simp⟩
        · rw [hc4]
          cbv
          obtain ⟨n194, hv, h0⟩ := bindS h0
          refine call_is hO hX (fn_integer_Mod hO hv) (by kernel_rfl) [] rfl trivial rfl ?_
          cbv
          obtain ⟨⟨n199, b183⟩, hv, h0⟩ := bindS h0
          try dsimp only at h0
          refine call_is hO hX (fn_runs_Next hO hv) (by kernel_rfl) [0] rfl ⟨rfl, rfl, trivial⟩ rfl ?_
          cbv
          rcases condS h0 with ⟨hc5, h0⟩ | ⟨hc5, h0⟩
          · rw [hc5]
            cbv
            obtain ⟨hg6, h0⟩ := grdS h0
            refine ⟨inr_of hO hg6, ?_⟩
            obtain ⟨hg7, h0⟩ := grdS h0
            refine ⟨inr_of hO hg7, ?_⟩
            cases h0
            exact fin_ok hX rfl ⟨[], _, _, ⟨rfl, rfl⟩, rfl, rfl, rfl, rfl, by cbv; try simp⟩
          · rw [hc5]
            cbv
            obtain ⟨hg8, h0⟩ := grdS h0
            refine ⟨inr_of hO hg8, ?_⟩
            obtain ⟨hg9, h0⟩ := grdS h0
            refine ⟨inr_of hO hg9, ?_⟩
            obtain ⟨hg10, h0⟩ := grdS h0
            refine ⟨idx_of hO hg10, ?_⟩
            obtain ⟨hg11, h0⟩ := grdS h0
            refine ⟨kin_of hO hg11, ?_⟩
            obtain ⟨hg12, h0⟩ := grdS h0
            refine ⟨inr_of hO hg12, ?_⟩
            cases h0
            exact fin_ok hX rfl ⟨[], _, _, ⟨rfl, rfl⟩, rfl, rfl, rfl, rfl, by cbv; try simp⟩
set_option maxHeartbeats 40000000 in
theorem fn_law13_PeriodicNext {O0 : Ops} (hO0 : O0 = std) {p_1 : Int} {x_1 : Int} {p_2 : List (Int × Int)} {r1 : Bool} (h : m_law13_PeriodicNext O0 p_1 x_1 p_2 = some r1) :
    Fn Try.prog 12 [.agg [.int .i64 p_1, .sl 0], .c (.int .i64 x_1)] [.arr false .i2 p_2] (fun v c => v = .c (.bool r1) ∧ c = []) := by
  refine fn_run tab_holds eqs_holds mixed [] Try.func12 (by kernel_rfl) (by kernel_rfl) (Nat.le_of_ble_eq_true rfl) ?_
  intro O X hO hX
  rw [hO0, ← hO] at h
  unfold m_law13_PeriodicNext at h
  have h0 := h; clear h
  cbv
  obtain ⟨x465, h1, h0⟩ := bindS h0
  obtain ⟨b177, hv, h1⟩ := bindS h1
  refine call_is hO hX (fn_law13_awake hO hv) (by kernel_rfl) [] rfl trivial rfl ?_
  cbv
  rcases condS h1 with ⟨hc1, h1⟩ | ⟨hc1, h1⟩
  · rw [hc1]
    cbv
    cases h1
    try dsimp only at h0
    replace h0 := condT h0 rfl
    obtain ⟨b179, hv, h0⟩ := bindS h0
    refine call_is hO hX (fn_law13_awake hO hv) (by kernel_rfl) [] rfl trivial rfl ?_
    cbv
    cases h0
    exact fin_ok hX rfl ⟨[], _, _, ⟨rfl, rfl⟩, rfl, rfl, rfl, rfl, by cbv; try simp⟩
  · as_aux_lemma =>
    rw [hc1]
    cbv
    obtain ⟨b178, hv, h1⟩ := bindS h1
    refine call_is hO hX (fn_law13_long hO hv) (by kernel_rfl) [0] rfl ⟨rfl, rfl, trivial⟩ rfl ?_
    cbv
    cases h1
    try dsimp only at h0
    rcases condS h0 with ⟨hc2, h0⟩ | ⟨hc2, h0⟩
    · rw [hc2]
      cbv
      obtain ⟨b179, hv, h0⟩ := bindS h0
      refine call_is hO hX (fn_law13_awake hO hv) (by kernel_rfl) [] rfl trivial rfl ?_
      cbv
      cases h0
      exact fin_ok hX rfl ⟨[], _, _, ⟨rfl, rfl⟩, rfl, rfl, rfl, rfl, by cbv; try simp⟩
    · as_aux_lemma =>
      rw [hc2]
      cbv
      obtain ⟨⟨n200, b184⟩, hv, h0⟩ := bindS h0
      try dsimp only at h0
      refine call_is hO hX (fn_periodic_Next hO hv) (by kernel_rfl) [0] rfl ⟨rfl, rfl, trivial⟩ rfl ?_
      cbv
      obtain ⟨x471, h1, h0⟩ := bindS h0
      obtain ⟨b185, hv, h1⟩ := bindS h1
      refine call_is hO hX (fn_periodic_Valid hO hv) (by kernel_rfl) [0] rfl ⟨rfl, rfl, trivial⟩ rfl ?_
      cbv
      rcases condS h1 with ⟨hc3, h1⟩ | ⟨hc3, h1⟩
      · rw [hc3]
        cbv
        cases h1
        try dsimp only at h0
        replace h0 := condT h0 rfl
        obtain ⟨x473, h1, h0⟩ := bindS h0
        rcases condS h1 with ⟨hc4, h1⟩ | ⟨hc4, h1⟩
        · rw [hc4]
          cbv
          cases h1
          try dsimp only at h0
          cases h0
          exact fin_ok hX rfl ⟨[], _, _, ⟨rfl, rfl⟩, rfl, rfl, rfl, rfl, by cbv; try simp⟩
        · rw [hc4]
          cbv
          cases h1
          try dsimp only at h0
          cases h0
          exact fin_ok hX rfl ⟨[], _, _, ⟨rfl, rfl⟩, rfl, rfl, rfl, rfl, by cbv; try simp⟩
      · as_aux_lemma =>
        rw [hc3]
        cbv
        obtain ⟨b186, hv, h1⟩ := bindS h1
        refine call_is hO hX (fn_law13_line hO hv) (by kernel_rfl) [] rfl trivial rfl ?_
        cbv
        rcases condS h1 with ⟨hc5, h1⟩ | ⟨hc5, h1⟩
        · rw [hc5]
          cbv
          cases h1
          try dsimp only at h0
          replace h0 := condT h0 rfl
          obtain ⟨x473, h1, h0⟩ := bindS h0
          rcases condS h1 with ⟨hc6, h1⟩ | ⟨hc6, h1⟩
          · rw [hc6]
            cbv
            cases h1
            try dsimp only at h0
            cases h0
            exact fin_ok hX rfl ⟨[], _, _, ⟨rfl, rfl⟩, rfl, rfl, rfl, rfl, by cbv; try simp⟩
          · rw [hc6]
            cbv
            cases h1
            try dsimp only at h0
            cases h0
            exact fin_ok hX rfl ⟨[], _, _, ⟨rfl, rfl⟩, rfl, rfl, rfl, rfl, by cbv; try simp⟩
        · as_aux_lemma =>
          rw [hc5]
          cbv
          cases h1
          try dsimp only at h0
          rcases condS h0 with ⟨hc7, h0⟩ | ⟨hc7, h0⟩
          · rw [hc7]
            cbv
            obtain ⟨x473, h1, h0⟩ := bindS h0
            rcases condS h1 with ⟨hc8, h1⟩ | ⟨hc8, h1⟩
            · rw [hc8]
              cbv
              cases h1
              try dsimp only at h0
              cases h0
              exact fin_ok hX rfl ⟨[], _, _, ⟨rfl, rfl⟩, rfl, rfl, rfl, rfl, by cbv; try simp⟩
            · rw [hc8]
              cbv
              cases h1
              try dsimp only at h0
              cases h0
              exact fin_ok hX rfl ⟨[], _, _, ⟨rfl, rfl⟩, rfl, rfl, rfl, rfl, by cbv; try simp⟩
          · as_aux_lemma =>
            rw [hc7]
            cbv
            obtain ⟨x475, h1, h0⟩ := bindS h0
            rcases condS h1 with ⟨hc9, h1⟩ | ⟨hc9, h1⟩
            · rw [hc9]
              cbv
              cases h1
              try dsimp only at h0
              replace h0 := condT h0 rfl
              cases h0
              exact fin_ok hX rfl ⟨[], _, _, ⟨rfl, rfl⟩, rfl, rfl, rfl, rfl, by cbv; try simp⟩
            · as_aux_lemma =>
              rw [hc9]
              cbv
              rcases condS h1 with ⟨hc10, h1⟩ | ⟨hc10, h1⟩
              · rw [hc10]
                cbv
                cases h1
                try dsimp only at h0
                replace h0 := condT h0 rfl
                cases h0
                exact fin_ok hX rfl ⟨[], _, _, ⟨rfl, rfl⟩, rfl, rfl, rfl, rfl, by cbv; try simp⟩
              · as_aux_lemma =>
                rw [hc10]
                cbv
                rcases condS h1 with ⟨hc11, h1⟩ | ⟨hc11, h1⟩
                · rw [hc11]
                  cbv
                  obtain ⟨hg12, h1⟩ := grdS h1
                  refine ⟨inr_of hO hg12, ?_⟩
                  cases h1
                  try dsimp only at h0
                  replace h0 := condT h0 rfl
                  cases h0
                  exact fin_ok hX rfl ⟨[], _, _, ⟨rfl, rfl⟩, rfl, rfl, rfl, rfl, by cbv; try simp⟩
                · as_aux_lemma =>
                  rw [hc11]
                  cbv
                  obtain ⟨hg13, h1⟩ := grdS h1
                  refine ⟨inr_of hO hg13, ?_⟩
                  obtain ⟨b187, hv, h1⟩ := bindS h1
                  refine call_is hO hX (fn_periodic_Has hO hv) (by kernel_rfl) [0] rfl ⟨rfl, rfl, trivial⟩ rfl ?_
                  cbv
                  cases h1
                  try dsimp only at h0
                  rcases condS h0 with ⟨hc14, h0⟩ | ⟨hc14, h0⟩
                  · rw [hc14]
                    cbv
                    cases h0
                    exact fin_ok hX rfl ⟨[], _, _, ⟨rfl, rfl⟩, rfl, rfl, rfl, rfl, by cbv; try simp⟩
                  · as_aux_lemma =>
                    rw [hc14]
                    cbv
                    obtain ⟨x477, h1, h0⟩ := bindS h0
                    rcases condS h1 with ⟨hc15, h1⟩ | ⟨hc15, h1⟩
                    · rw [hc15]
                      cbv
                      cases h1
                      try dsimp only at h0
                      replace h0 := condT h0 rfl
                      cases h0
                      exact fin_ok hX rfl ⟨[], _, _, ⟨rfl, rfl⟩, rfl, rfl, rfl, rfl, by cbv; try simp⟩
                    · rw [hc15]
                      cbv
                      obtain ⟨b188, hv, h1⟩ := bindS h1
                      refine call_is hO hX (fn_law13_line hO hv) (by kernel_rfl) [] rfl trivial rfl ?_
                      cbv
                      cases h1
                      try dsimp only at h0
                      rcases condS h0 with ⟨hc16, h0⟩ | ⟨hc16, h0⟩
                      · rw [hc16]
                        cbv
                        cases h0
                        exact fin_ok hX rfl ⟨[], _, _, ⟨rfl, rfl⟩, rfl, rfl, rfl, rfl, by cbv; try simp⟩
                      · rw [hc16]
                        cbv
                        obtain ⟨⟨n201, n202⟩, hv, h0⟩ := bindS h0
                        try dsimp only at h0
                        refine call_is hO hX (fn_periodic_Count hO hv) (by kernel_rfl) [0] rfl ⟨rfl, rfl, trivial⟩ rfl ?_
                        cbv
                        obtain ⟨x479, h1, h0⟩ := bindS h0
                        rcases condS h1 with ⟨hc17, h1⟩ | ⟨hc17, h1⟩
                        · rw [hc17]
                          cbv
                          cases h1
                          try dsimp only at h0
                          cases h0
                          exact fin_ok hX rfl ⟨[], _, _, ⟨rfl, rfl⟩, rfl, rfl, rfl, rfl, by cbv; try simp⟩
                        · rw [hc17]
                          cbv
                          cases h1
                          try dsimp only at h0
                          cases h0
                          exact fin_ok hX rfl ⟨[], _, _, ⟨rfl, rfl⟩, rfl, rfl, rfl, rfl, by cbv; try simp⟩
end Go.Proofs.Ytfhfifcfkimgpaa
