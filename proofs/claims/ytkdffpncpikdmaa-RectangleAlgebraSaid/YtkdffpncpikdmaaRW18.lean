/-
  The code does what its models say (printed by lift.py).
-/
import Derived.Test.YtkdffpncpikdmaaRM
import Derived.Test.YtkdffpncpikdmaaSrtR
import Derived.Test.YtkdffpncpikdmaaRW0
import Derived.Test.YtkdffpncpikdmaaRW16
namespace Go.Proofs.Ytkdffpncpikdmaa
open Go.RowKit
set_option maxRecDepth 100000

set_option maxHeartbeats 40000000 in
theorem fn_rectangle_Equal {O0 : Ops} (hO0 : O0 = std) {a_1 : List (Int × Int × Int × Int)} {b_1 : List (Int × Int × Int × Int)} {r1 : Bool} (h : m_rectangle_Equal O0 a_1 b_1 = some r1) :
    Fn Try.prog 32 [.c (.sl 0), .c (.sl 1)] [.arr false .i4 a_1, .arr false .i4 b_1] (fun v c => v = .c (.bool r1) ∧ c = []) := by
  refine fn_run tab_holds eqs_holds mixed [] Try.func32 (by kernel_rfl) (by kernel_rfl) (Nat.le_of_ble_eq_true rfl) ?_
  intro O X hO hX
  rw [hO0, ← hO] at h
  unfold m_rectangle_Equal at h
  have h0 := h; clear h
  cbv
  obtain ⟨n85, hv, h0⟩ := bindS h0
  refine call_is hO hX (fn_rectangle_check hO hv) (by kernel_rfl) [2, 0, 1] rfl ⟨rfl, rfl, rfl, rfl, rfl, rfl, trivial⟩ rfl ?_
  cbv
  rcases condS h0 with ⟨hc1, h0⟩ | ⟨hc1, h0⟩
  · rw [hc1]
    cbv
    cases h0
    exact fin_ok hX rfl ⟨[], _, _, ⟨rfl, rfl⟩, rfl, rfl, rfl, rfl, by cbv; try simp⟩
  · as_aux_lemma =>
    rw [hc1]
    cbv
    obtain ⟨⟨l227, n86⟩, hv, h0⟩ := bindS h0
    try dsimp only at h0
    refine call_is hO hX (fn_rectangle_combine_3 hO hv) (by kernel_rfl) [0, 1] rfl ⟨rfl, rfl, rfl, rfl, trivial⟩ rfl ?_
    cbv
    obtain ⟨⟨l228, n87⟩, hv, h0⟩ := bindS h0
    try dsimp only at h0
    refine call_is hO hX (fn_rectangle_combine_3 hO hv) (by kernel_rfl) [1, 0] rfl ⟨rfl, rfl, rfl, rfl, trivial⟩ rfl ?_
    cbv
    obtain ⟨x201, h1, h0⟩ := bindS h0
    rcases condS h1 with ⟨hc2, h1⟩ | ⟨hc2, h1⟩
    · rw [hc2]
      cbv
      rcases condS h1 with ⟨hc3, h1⟩ | ⟨hc3, h1⟩
      · rw [hc3]
        cbv
        rcases condS h1 with ⟨hc4, h1⟩ | ⟨hc4, h1⟩
        · rw [hc4]
          cbv
          cases h1
          try dsimp only at h0
          cases h0
          exact fin_ok hX rfl ⟨[], _, _, ⟨rfl, rfl⟩, rfl, rfl, rfl, rfl, by cbv; try simp⟩
        · rw [hc4]
          cbv
          cases h1
          try dsimp only at h0
          cases h0
          exact fin_ok hX rfl ⟨[], _, _, ⟨rfl, rfl⟩, rfl, rfl, rfl, rfl, by cbv; try simp⟩
      · rw [hc3]
        cbv
        cases h1
        try dsimp only at h0
        cases h0
        exact fin_ok hX rfl ⟨[], _, _, ⟨rfl, rfl⟩, rfl, rfl, rfl, rfl, by cbv; try simp⟩
    · rw [hc2]
      cbv
      cases h1
      try dsimp only at h0
      cases h0
      exact fin_ok hX rfl ⟨[], _, _, ⟨rfl, rfl⟩, rfl, rfl, rfl, rfl, by cbv; try simp⟩
end Go.Proofs.Ytkdffpncpikdmaa
