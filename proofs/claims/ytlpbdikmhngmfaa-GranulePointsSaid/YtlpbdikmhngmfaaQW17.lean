/-
  The code does what its models say (printed by lift.py).
-/
import Derived.Test.YtlpbdikmhngmfaaQM
import Derived.Test.YtlpbdikmhngmfaaManWC
import Derived.Test.YtlpbdikmhngmfaaQW1
import Derived.Test.YtlpbdikmhngmfaaQW3
namespace Go.Proofs.Ytlpbdikmhngmfaa
open Go.RowKit
set_option maxRecDepth 100000

set_option maxHeartbeats 40000000 in
theorem fn_runs_Equal {O0 : Ops} (hO0 : O0 = std) {a_1 : List (Int × Int)} {b_1 : List (Int × Int)} {r1 : Bool} (h : m_runs_Equal O0 a_1 b_1 = some r1) :
    Fn Try.prog 38 [.c (.sl 0), .c (.sl 1)] [.arr false .i2 a_1, .arr false .i2 b_1] (fun v c => v = .c (.bool r1) ∧ c = []) := by
  refine fn_run tab_holds eqs_holds mixed [] Try.func38 (by kernel_rfl) (by kernel_rfl) (Nat.le_of_ble_eq_true rfl) ?_
  intro O X hO hX
  rw [hO0, ← hO] at h
  unfold m_runs_Equal at h
  have h0 := h; clear h
  cbv
  obtain ⟨x338, h1, h0⟩ := bindS h0
  obtain ⟨b100, hv, h1⟩ := bindS h1
  refine call_is hO hX (fn_runs_Valid hO hv) (by kernel_rfl) [0] rfl ⟨rfl, rfl, trivial⟩ rfl ?_
  cbv
  rcases condS h1 with ⟨hc1, h1⟩ | ⟨hc1, h1⟩
  · rw [hc1]
    cbv
    obtain ⟨b101, hv, h1⟩ := bindS h1
    refine call_is hO hX (fn_runs_Valid hO hv) (by kernel_rfl) [1] rfl ⟨rfl, rfl, trivial⟩ rfl ?_
    cbv
    rcases condS h1 with ⟨hc2, h1⟩ | ⟨hc2, h1⟩
    · rw [hc2]
      cbv
      obtain ⟨b102, hv, h1⟩ := bindS h1
      refine call_is hO hX (fn_slices_Equal hO hv) (by kernel_rfl) [0, 1] rfl ⟨rfl, rfl, rfl, rfl, trivial⟩ rfl ?_
      cbv
      cases h1
      try dsimp only at h0
      cases h0
      exact fin_ok hX rfl ⟨[], _, _, ⟨rfl, rfl⟩, rfl, rfl, rfl, rfl, by cbv; try simp⟩
    · rw [hc2]
      cbv
      cases h1
      try dsimp only at h0
      cases h0
      exact fin_ok hX rfl ⟨[], _, _, ⟨rfl, rfl⟩, rfl, rfl, rfl, rfl, by cbv; try simp⟩
  · rw [hc1]
    cbv
    cases h1
    try dsimp only at h0
    cases h0
    exact fin_ok hX rfl ⟨[], _, _, ⟨rfl, rfl⟩, rfl, rfl, rfl, rfl, by cbv; try simp⟩
set_option maxHeartbeats 40000000 in
theorem fn_periodic_Equal {O0 : Ops} (hO0 : O0 = std) {a_1 : Int} {b_1 : Int} {a_2 : List (Int × Int)} {b_2 : List (Int × Int)} {r1 : Bool} (h : m_periodic_Equal O0 a_1 b_1 a_2 b_2 = some r1) :
    Fn Try.prog 11 [.agg [.int .i64 a_1, .sl 0], .agg [.int .i64 b_1, .sl 1]] [.arr false .i2 a_2, .arr false .i2 b_2] (fun v c => v = .c (.bool r1) ∧ c = []) := by
  refine fn_run tab_holds eqs_holds mixed [] Try.func11 (by kernel_rfl) (by kernel_rfl) (Nat.le_of_ble_eq_true rfl) ?_
  intro O X hO hX
  rw [hO0, ← hO] at h
  unfold m_periodic_Equal at h
  have h0 := h; clear h
  cbv
  obtain ⟨x342, h1, h0⟩ := bindS h0
  obtain ⟨b98, hv, h1⟩ := bindS h1
  refine call_is hO hX (fn_periodic_Valid hO hv) (by kernel_rfl) [0] rfl ⟨rfl, rfl, trivial⟩ rfl ?_
  cbv
  rcases condS h1 with ⟨hc1, h1⟩ | ⟨hc1, h1⟩
  · rw [hc1]
    cbv
    obtain ⟨b99, hv, h1⟩ := bindS h1
    refine call_is hO hX (fn_periodic_Valid hO hv) (by kernel_rfl) [1] rfl ⟨rfl, rfl, trivial⟩ rfl ?_
    cbv
    rcases condS h1 with ⟨hc2, h1⟩ | ⟨hc2, h1⟩
    · rw [hc2]
      cbv
      rcases condS h1 with ⟨hc3, h1⟩ | ⟨hc3, h1⟩
      · rw [hc3]
        cbv
        obtain ⟨b103, hv, h1⟩ := bindS h1
        refine call_is hO hX (fn_runs_Equal hO hv) (by kernel_rfl) [0, 1] rfl ⟨rfl, rfl, rfl, rfl, trivial⟩ rfl ?_
        cbv
        cases h1
        try dsimp only at h0
        cases h0
        exact fin_ok hX rfl ⟨[], _, _, ⟨rfl, rfl⟩, rfl, rfl, rfl, rfl, by cbv; try simp⟩
      · rw [hc3]
        cbv
        cases h1
        try dsimp only at h0
        cases h0
        exact fin_ok hX rfl ⟨[], _, _, ⟨rfl, rfl⟩, rfl, rfl, rfl, rfl, by cbv; try simp⟩
    · rw [hc2]
      cbv
      cases h1
      try dsimp only at h0
      cases h0
      exact fin_ok hX rfl ⟨[], _, _, ⟨rfl, rfl⟩, rfl, rfl, rfl, rfl, by cbv; try simp⟩
  · rw [hc1]
    cbv
    cases h1
    try dsimp only at h0
    cases h0
    exact fin_ok hX rfl ⟨[], _, _, ⟨rfl, rfl⟩, rfl, rfl, rfl, rfl, by cbv; try simp⟩
end Go.Proofs.Ytlpbdikmhngmfaa
