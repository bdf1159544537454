/-
  The code does what its models say (printed by lift.py).
-/
import Derived.Test.YtfhfifcfkimgpaaHM
import Derived.Test.YtfhfifcfkimgpaaHG
import Derived.Test.YtfhfifcfkimgpaaManW2
namespace Go.Proofs.Ytfhfifcfkimgpaa
open Go.RowKit
set_option maxRecDepth 100000

set_option maxHeartbeats 40000000 in
theorem fn_periodic_combine_1 {O0 : Ops} (hO0 : O0 = std) {n_1 : Int} {l_1 : List (Int × Int)} {r1 : Int} {r2 : Bool} (h : m_periodic_combine_1 O0 n_1 l_1 = some (r1, r2)) :
    Fn Try.prog 87 [.c (.sl 0), .c (.int .i64 n_1)] [.arr false .i2 l_1] (fun v c => v = .tup [.one (.int .i64 r1), .one (.bool r2)] ∧ c = []) := by
  refine fn_run tab_holds eqs_holds mixed [] Try.func87 (by kernel_rfl) (by kernel_rfl) (Nat.le_of_ble_eq_true rfl) ?_
  intro O X hO hX
  rw [hO0, ← hO] at h
  unfold m_periodic_combine_1 at h
  have h0 := h; clear h
  cbv
  obtain ⟨hg1, h0⟩ := grdS h0
  refine ⟨nz_of hO hg1, ?_⟩
  obtain ⟨hg2, h0⟩ := grdS h0
  refine ⟨inr_of hO hg2, ?_⟩
  rcases condS h0 with ⟨hc3, h0⟩ | ⟨hc3, h0⟩
  · rw [hc3]
    cbv
    cases h0
    exact fin_ok hX rfl ⟨[], _, _, ⟨rfl, rfl⟩, rfl, rfl, rfl, rfl, by cbv; try simp⟩
  · rw [hc3]
    cbv
    refine ⟨nz_of hO hg1, ?_⟩
    rcases condS h0 with ⟨hc4, h0⟩ | ⟨hc4, h0⟩
    · rw [hc4]
      cbv
      refine ⟨nz_of hO hg1, ?_⟩
      refine ⟨inr_of hO hg2, ?_⟩
      obtain ⟨hg5, h0⟩ := grdS h0
      refine ⟨idx_of hO hg5, ?_⟩
      obtain ⟨hg6, h0⟩ := grdS h0
      refine ⟨kin_of hO hg6, ?_⟩
      cases h0
      exact fin_ok hX rfl ⟨[], _, _, ⟨rfl, rfl⟩, rfl, rfl, rfl, rfl, by cbv; try simp⟩
    · rw [hc4]
      cbv
      refine ⟨nz_of hO hg1, ?_⟩
      refine ⟨inr_of hO hg2, ?_⟩
      obtain ⟨hg7, h0⟩ := grdS h0
      refine ⟨idx_of hO hg7, ?_⟩
      obtain ⟨hg8, h0⟩ := grdS h0
      refine ⟨kin_of hO hg8, ?_⟩
      cases h0
      exact fin_ok hX rfl ⟨[], _, _, ⟨rfl, rfl⟩, rfl, rfl, rfl, rfl, by cbv; try simp⟩
set_option maxHeartbeats 40000000 in
theorem fn_periodic_Union_1 {O0 : Ops} (hO0 : O0 = std) {a_1 : Bool} {b_1 : Bool} {r1 : Bool} (h : m_periodic_Union_1 O0 a_1 b_1 = some r1) :
    Fn Try.prog 50 [.c (.bool a_1), .c (.bool b_1)] [] (fun v c => v = .c (.bool r1) ∧ c = []) := by
  refine fn_run tab_holds eqs_holds mixed [] Try.func50 (by kernel_rfl) (by kernel_rfl) (Nat.le_of_ble_eq_true rfl) ?_
  intro O X hO hX
  rw [hO0, ← hO] at h
  unfold m_periodic_Union_1 at h
  have h0 := h; clear h
  cbv
  obtain ⟨x79, h1, h0⟩ := bindS h0
  rcases condS h1 with ⟨hc1, h1⟩ | ⟨hc1, h1⟩
  · rw [hc1]
    cbv
    cases h1
    try dsimp only at h0
    cases h0
    exact fin_ok hX rfl ⟨[], _, _, ⟨rfl, rfl⟩, rfl, rfl, rfl, rfl, by cbv; try simp⟩
  · rw [hc1]
    cbv
    cases h1
    try dsimp only at h0
    cases h0
    exact fin_ok hX rfl ⟨[], _, _, ⟨rfl, rfl⟩, rfl, rfl, rfl, rfl, by cbv; try simp⟩
end Go.Proofs.Ytfhfifcfkimgpaa
