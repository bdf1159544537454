/-
  The code does what its models say (printed by lift.py).
-/
import Derived.Test.YtkdffpncpikdmaaRM
import Derived.Test.YtkdffpncpikdmaaSrtR
import Derived.Test.YtkdffpncpikdmaaRW0
namespace Go.Proofs.Ytkdffpncpikdmaa
open Go.RowKit
set_option maxRecDepth 100000

set_option maxHeartbeats 40000000 in
theorem fn_rectangle_check_2 {O0 : Ops} (hO0 : O0 = std) {lists_1 : List (Int × Int × Int × Int)} {r1 : Int} (h : m_rectangle_check_2 O0 lists_1 = some r1) :
    Fn Try.prog 55 [.c (.asl 0 1)] [.ro 22 [.sl 1], .arr false .i4 lists_1] (fun v c => v = .c (.int .i64 r1) ∧ c = []) := by
  refine fn_run tab_holds eqs_holds mixed [] Try.func55 (by kernel_rfl) (by kernel_rfl) (Nat.le_of_ble_eq_true rfl) ?_
  intro O X hO hX
  rw [hO0, ← hO] at h
  unfold m_rectangle_check_2 at h
  have h0 := h; clear h
  cbv
  refine loop_unroll tab_holds eqs_holds mixed [] hO hX 2 (by kernel_rfl) ?_
  cbv
  rw [show (O .lt 0 (Int.ofNat 1)) = true from by subst hO; rfl]
  cbv
  obtain ⟨b93, hv, h0⟩ := bindS h0
  refine call_is hO hX (fn_slices_ContainsFunc hO hv) (by kernel_rfl) [1] rfl ⟨rfl, rfl, trivial⟩ rfl ?_
  cbv
  rcases condS h0 with ⟨hc1, h0⟩ | ⟨hc1, h0⟩
  · rw [hc1]
    cbv
    cases h0
    exact fin_ok hX rfl ⟨[], _, _, ⟨rfl, rfl⟩, rfl, rfl, rfl, rfl, by cbv; try simp⟩
  · rw [hc1]
    cbv
    obtain ⟨hg2, h0⟩ := grdS h0
    refine ⟨inr_of hO hg2, ?_⟩
    try (rw [show (O .add 0 1) = 1 from by subst hO; rfl]; try cbv)
    try (rw [show (O .add 0 1) = 1 from by subst hO; rfl]; try cbv)
    rw [show (O .lt 1 (Int.ofNat 1)) = false from by subst hO; rfl]
    cbv
    refine loop_unroll tab_holds eqs_holds mixed [] hO hX 2 (by kernel_rfl) ?_
    cbv
    rw [show (O .lt 0 (Int.ofNat 1)) = true from by subst hO; rfl]
    cbv
    rcases condS h0 with ⟨hc3, h0⟩ | ⟨hc3, h0⟩
    · rw [hc3]
      cbv
      cases h0
      exact fin_ok hX rfl ⟨[], _, _, ⟨rfl, rfl⟩, rfl, rfl, rfl, rfl, by cbv; try simp⟩
    · rw [hc3]
      cbv
      refine ⟨inr_of hO hg2, ?_⟩
      try (rw [show (O .add 0 1) = 1 from by subst hO; rfl]; try cbv)
      try (rw [show (O .add 0 1) = 1 from by subst hO; rfl]; try cbv)
      rw [show (O .lt 1 (Int.ofNat 1)) = false from by subst hO; rfl]
      cbv
      cases h0
      exact fin_ok hX rfl ⟨[], _, _, ⟨rfl, rfl⟩, rfl, rfl, rfl, rfl, by cbv; try simp⟩
end Go.Proofs.Ytkdffpncpikdmaa
