/-
  The code does what its models say (printed by lift.py).
-/
import Derived.Test.YtkdffpncpikdmaaRM
import Derived.Test.YtkdffpncpikdmaaSrtR
import Derived.Test.YtkdffpncpikdmaaRW22
import Derived.Test.YtkdffpncpikdmaaRW23
namespace Go.Proofs.Ytkdffpncpikdmaa
open Go.RowKit
set_option maxRecDepth 100000

set_option maxHeartbeats 40000000 in
theorem fn_rectangle_Has {O0 : Ops} (hO0 : O0 = std) {valid_1 : Int} {tx_1 : Int} {l_1 : List (Int × Int × Int × Int)} {r1 : Bool} (h : m_rectangle_Has O0 valid_1 tx_1 l_1 = some r1) :
    Fn Try.prog 29 [.c (.sl 0), .c (.int .i64 valid_1), .c (.int .i64 tx_1)] [.arr false .i4 l_1] (fun v c => v = .c (.bool r1) ∧ c = []) := by
  refine fn_run tab_holds eqs_holds mixed [] Try.func29 (by kernel_rfl) (by kernel_rfl) (Nat.le_of_ble_eq_true rfl) ?_
  intro O X hO hX
  rw [hO0, ← hO] at h
  unfold m_rectangle_Has at h
  have h0 := h; clear h
  cbv
  obtain ⟨x252, h1, h0⟩ := bindS h0
  obtain ⟨n94, hv, h1⟩ := bindS h1
  refine call_is hO hX (fn_rectangle_check_2 hO hv) (by kernel_rfl) [3, 0] rfl ⟨rfl, rfl, rfl, rfl, trivial⟩ rfl ?_
  cbv
  rcases condS h1 with ⟨hc1, h1⟩ | ⟨hc1, h1⟩
  · rw [hc1]
    cbv
    obtain ⟨b95, hv, h1⟩ := bindS h1
    refine call_is hO hX (fn_slices_ContainsFunc_7 hO hv) (by kernel_rfl) [0, 1, 2] rfl ⟨rfl, rfl, rfl, rfl, rfl, rfl, trivial⟩ rfl ?_
    cbv
    cases h1
    try dsimp only at h0
    cases h0
    exact fin_ok hX rfl ⟨[], _, _, ⟨rfl, rfl⟩, rfl, rfl, rfl, rfl, by cbv; try simp⟩
  · rw [hc1]
    cbv
    cases h1
    try dsimp only at h0
    cases h0
    exact fin_ok hX rfl ⟨[], _, _, ⟨rfl, rfl⟩, rfl, rfl, rfl, rfl, by cbv; try simp⟩
end Go.Proofs.Ytkdffpncpikdmaa
