/-
  The code does what its models say (printed by lift.py).
-/
import Derived.Test.YtfhfifcfkimgpaaHM
import Derived.Test.YtfhfifcfkimgpaaManW2
namespace Go.Proofs.Ytfhfifcfkimgpaa
open Go.RowKit
set_option maxRecDepth 100000

set_option maxHeartbeats 40000000 in
theorem fn_law13_PeriodicLaws_1 {O0 : Ops} (hO0 : O0 = std) {e_1 : Int} {r1 : Bool} (h : m_law13_PeriodicLaws_1 O0 e_1 = some r1) :
    Fn Try.prog 27 [.c (.int .i64 e_1)] [] (fun v c => v = .c (.bool r1) ∧ c = []) := by
  refine fn_run tab_holds eqs_holds mixed [] Try.func27 (by kernel_rfl) (by kernel_rfl) (Nat.le_of_ble_eq_true rfl) ?_
  intro O X hO hX
  rw [hO0, ← hO] at h
  unfold m_law13_PeriodicLaws_1 at h
  have h0 := h; clear h
  cbv
  cases h0
  exact fin_ok hX rfl ⟨[], _, _, ⟨rfl, rfl⟩, rfl, rfl, rfl, rfl, by cbv; try simp⟩
set_option maxHeartbeats 40000000 in
theorem fn_slices_IndexFunc_2 {O0 : Ops} (hO0 : O0 = std) {s_1 : List Int} {r1 : Int} (h : m_slices_IndexFunc_2 O0 s_1 = some r1) :
    Fn Try.prog 66 [.c (.sl 0), .c (.fn 27 [])] [.arr false .i1 s_1] (fun v c => v = .c (.int .i64 r1) ∧ c = []) := by
  refine fn_run tab_holds eqs_holds mixed [] Try.func66 (by kernel_rfl) (by kernel_rfl) (Nat.le_of_ble_eq_true rfl) ?_
  intro O X hO hX
  rw [hO0, ← hO] at h
  unfold m_slices_IndexFunc_2 at h
  have h0 := h; clear h
  cbv
  obtain ⟨e1, hi, h0⟩ := bindS h0
  obtain ⟨I1, hI1, hi⟩ := loopS hi
  refine loop1 tab_holds eqs_holds mixed [] hO hX I1 (fun y => [(8, .c (.int .i64 y.2))]) (fun _ => []) (fun y => y.1) _ (by kernel_rfl) hi (by cbv; try simp) ?_
  refine allp ?_
  intro n1
  intro x504 hi
  cbv
  rw [hI1] at hi
  obtain ⟨n1, rfl, x1, h1, hi1⟩ := iterS hi
  unfold m_slices_IndexFunc_2_L1 at h1
  try dsimp only at h1
  rcases condS h1 with ⟨hc1, h1⟩ | ⟨hc1, h1⟩
  · rw [hc1]
    cbv
    obtain ⟨hg2, h1⟩ := grdS h1
    refine ⟨idx_of hO hg2, ?_⟩
    obtain ⟨hg3, h1⟩ := grdS h1
    refine ⟨kin_of hO hg3, ?_⟩
    obtain ⟨b204, hv, h1⟩ := bindS h1
    refine call_is hO hX (fn_law13_PeriodicLaws_1 hO hv) (by kernel_rfl) [] rfl trivial rfl ?_
    cbv
    rcases condS h1 with ⟨hc4, h1⟩ | ⟨hc4, h1⟩
    · rw [hc4]
      cbv
      cases h1
      cases exitI hi1
      try dsimp only at h0
      cases h0
      exact fin_ok hX rfl ⟨[], _, _, ⟨rfl, rfl⟩, rfl, rfl, rfl, rfl, by cbv; try simp⟩
    · rw [hc4]
      cbv
      obtain ⟨hg5, h1⟩ := grdS h1
      refine ⟨inr_of hO hg5, ?_⟩
      cases h1
      exact ⟨_, [0], nextI hI1 hi1, by cbv; try simp, by first | exact Nat.lt_succ_self _ | omega⟩
  · rw [hc1]
    cbv
    cases h1
    cases exitI hi1
    try dsimp only at h0
    cases h0
    exact fin_ok hX rfl ⟨[], _, _, ⟨rfl, rfl⟩, rfl, rfl, rfl, rfl, by cbv; try simp⟩
set_option maxHeartbeats 40000000 in
theorem fn_slices_ContainsFunc_2 {O0 : Ops} (hO0 : O0 = std) {s_1 : List Int} {r1 : Bool} (h : m_slices_ContainsFunc_2 O0 s_1 = some r1) :
    Fn Try.prog 26 [.c (.sl 0), .c (.fn 27 [])] [.arr false .i1 s_1] (fun v c => v = .c (.bool r1) ∧ c = []) := by
  refine fn_run tab_holds eqs_holds mixed [] Try.func26 (by kernel_rfl) (by kernel_rfl) (Nat.le_of_ble_eq_true rfl) ?_
  intro O X hO hX
  rw [hO0, ← hO] at h
  unfold m_slices_ContainsFunc_2 at h
  have h0 := h; clear h
  cbv
  obtain ⟨n228, hv, h0⟩ := bindS h0
  refine call_is hO hX (fn_slices_IndexFunc_2 hO hv) (by kernel_rfl) [0] rfl ⟨rfl, rfl, trivial⟩ rfl ?_
  cbv
  cases h0
  exact fin_ok hX rfl ⟨[], _, _, ⟨rfl, rfl⟩, rfl, rfl, rfl, rfl, by cbv; try simp⟩
end Go.Proofs.Ytfhfifcfkimgpaa
