/-
  The code does what its models say (printed by lift.py).
-/
import Derived.Test.YtegmjohhgedakaaBM
import Derived.Test.YtegmjohhgedakaaSrtB
namespace Go.Proofs.Ytegmjohhgedakaa
open Go.RowKit
set_option maxRecDepth 100000

set_option maxHeartbeats 40000000 in
theorem fn_law45_BoundsSchedules_1 {O0 : Ops} (hO0 : O0 = std) {row_1 : List Int} {r1 : Bool} (h : m_law45_BoundsSchedules_1 O0 row_1 = some r1) :
    Fn Try.prog 28 [.c (.sl 0)] [.arr false .i1 row_1] (fun v c => v = .c (.bool r1) ∧ c = []) := by
  refine fn_run tab_holds eqs_holds mixed [] Try.func28 (by kernel_rfl) (by kernel_rfl) (Nat.le_of_ble_eq_true rfl) ?_
  intro O X hO hX
  rw [hO0, ← hO] at h
  unfold m_law45_BoundsSchedules_1 at h
  have h0 := h; clear h
  cbv
  obtain ⟨hg1, h0⟩ := grdS h0
  refine ⟨idx_of hO hg1, ?_⟩
  obtain ⟨hg2, h0⟩ := grdS h0
  refine ⟨kin_of hO hg2, ?_⟩
  cases h0
  exact fin_ok hX rfl ⟨[], _, _, ⟨rfl, rfl⟩, rfl, rfl, rfl, rfl, by cbv; try simp⟩
set_option maxHeartbeats 40000000 in
theorem fn_slices_IndexFunc_3 {O0 : Ops} (hO0 : O0 = std) {s_1 : List (List Int)} {r1 : Int} (h : m_slices_IndexFunc_3 O0 s_1 = some r1) :
    Fn Try.prog 47 [.c (.sl 0), .c (.fn 28 [])] [.mat false s_1] (fun v c => v = .c (.int .i64 r1) ∧ c = []) := by
  refine fn_run tab_holds eqs_holds mixed [] Try.func47 (by kernel_rfl) (by kernel_rfl) (Nat.le_of_ble_eq_true rfl) ?_
  intro O X hO hX
  rw [hO0, ← hO] at h
  unfold m_slices_IndexFunc_3 at h
  have h0 := h; clear h
  cbv
  obtain ⟨e1, hi, h0⟩ := bindS h0
  obtain ⟨I1, hI1, hi⟩ := loopS hi
  refine loop1 tab_holds eqs_holds mixed [] hO hX I1 (fun y => [(8, .c (.int .i64 y.2))]) (fun _ => []) (fun y => y.1) _ (by kernel_rfl) hi (by cbv; try simp) ?_
  refine allp ?_
  intro n1
  intro x141 hi
  cbv
  rw [hI1] at hi
  obtain ⟨n1, rfl, x1, h1, hi1⟩ := iterS hi
  unfold m_slices_IndexFunc_3_L1 at h1
  try dsimp only at h1
  rcases condS h1 with ⟨hc1, h1⟩ | ⟨hc1, h1⟩
  · rw [hc1]
    cbv
    obtain ⟨hg2, h1⟩ := grdS h1
    refine ⟨idx_of hO hg2, ?_⟩
    obtain ⟨hg3, h1⟩ := grdS h1
    refine ⟨kin_of hO hg3, ?_⟩
    obtain ⟨b42, hv, h1⟩ := bindS h1
    refine call_is hO hX (fn_law45_BoundsSchedules_1 hO hv) (by kernel_rfl) [1] rfl ⟨rfl, rfl, trivial⟩ rfl ?_
    cbv
    rcases condS h1 with ⟨hc4, h1⟩ | ⟨hc4, h1⟩
    · rw [hc4]
      cbv
      cases h1
      cases exitI hi1
      try dsimp only at h0
      cases h0
      exact fin_ok hX rfl ⟨[], _, _, ⟨rfl, rfl⟩, rfl, rfl, rfl, rfl, by cbv; try simp⟩
    · rw [hc4]
      cbv
      obtain ⟨hg5, h1⟩ := grdS h1
      refine ⟨inr_of hO hg5, ?_⟩
      cases h1
      exact ⟨_, [0], nextI hI1 hi1, by cbv; try simp, by first | exact Nat.lt_succ_self _ | omega⟩
  · rw [hc1]
    cbv
    cases h1
    cases exitI hi1
    try dsimp only at h0
    cases h0
    exact fin_ok hX rfl ⟨[], _, _, ⟨rfl, rfl⟩, rfl, rfl, rfl, rfl, by cbv; try simp⟩
set_option maxHeartbeats 40000000 in
theorem fn_slices_ContainsFunc_3 {O0 : Ops} (hO0 : O0 = std) {s_1 : List (List Int)} {r1 : Bool} (h : m_slices_ContainsFunc_3 O0 s_1 = some r1) :
    Fn Try.prog 23 [.c (.sl 0), .c (.fn 28 [])] [.mat false s_1] (fun v c => v = .c (.bool r1) ∧ c = []) := by
  refine fn_run tab_holds eqs_holds mixed [] Try.func23 (by kernel_rfl) (by kernel_rfl) (Nat.le_of_ble_eq_true rfl) ?_
  intro O X hO hX
  rw [hO0, ← hO] at h
  unfold m_slices_ContainsFunc_3 at h
  have h0 := h; clear h
  cbv
  obtain ⟨n28, hv, h0⟩ := bindS h0
  refine call_is hO hX (fn_slices_IndexFunc_3 hO hv) (by kernel_rfl) [0] rfl ⟨rfl, rfl, trivial⟩ rfl ?_
  cbv
  cases h0
  exact fin_ok hX rfl ⟨[], _, _, ⟨rfl, rfl⟩, rfl, rfl, rfl, rfl, by cbv; try simp⟩
set_option maxHeartbeats 40000000 in
theorem fn_ref45_Ended {O0 : Ops} (hO0 : O0 = std) {n_1 : Int} {end_1 : Int} {l_1 : List (Int × Int × Int)} {r1 : List (Int × Int × Int)} (h : m_ref45_Ended O0 n_1 end_1 l_1 = some r1) :
    Fn Try.prog 30 [.c (.int .i64 n_1), .c (.sl 0), .c (.int .i64 end_1)] [.arr false .i3 l_1] (fun v c => v = .c (.sl 1) ∧ c = [.own 32 .i3 r1]) := by
  refine fn_run tab_holds eqs_holds mixed [] Try.func30 (by kernel_rfl) (by kernel_rfl) (Nat.le_of_ble_eq_true rfl) ?_
  intro O X hO hX
  rw [hO0, ← hO] at h
  unfold m_ref45_Ended at h
  have h0 := h; clear h
  cbv
  obtain ⟨hg1, h0⟩ := grdS h0
  refine ⟨room_of hO hg1, ?_⟩
  obtain ⟨hg2, h0⟩ := grdS h0
  refine ⟨room_of hO hg2, ?_⟩
  obtain ⟨l65, hi, h0⟩ := bindS h0
  obtain ⟨I1, hI1, hi⟩ := loopS hi
  refine loop1 tab_holds eqs_holds mixed [] hO hX I1 (fun y => [(6, .junk), (9, .junk), (11, .junk), (7, .c (.sl 3)), (8, .c (.int .i64 y.2.1))]) (fun y => [(3, .own 32 .i3 y.2.2)]) (fun y => y.1) _ (by kernel_rfl) hi (by cbv; try simp) ?_
  refine allp ?_
  intro n1
  refine allp ?_
  intro i19
  intro l64 hi
  cbv
  rw [hI1] at hi
  obtain ⟨n1, rfl, x1, h1, hi1⟩ := iterS hi
  unfold m_ref45_Ended_L1 at h1
  try dsimp only at h1
  rcases condS h1 with ⟨hc3, h1⟩ | ⟨hc3, h1⟩
  · rw [hc3]
    cbv
    obtain ⟨hg4, h1⟩ := grdS h1
    refine ⟨room_of hO hg4, ?_⟩
    obtain ⟨hg5, h1⟩ := grdS h1
    refine ⟨room_of hO hg5, ?_⟩
    obtain ⟨hg6, h1⟩ := grdS h1
    refine ⟨inr_of hO hg6, ?_⟩
    cases h1
    exact ⟨_, [0, 1, 2, 5], nextI hI1 hi1, by cbv; try simp, by first | exact Nat.lt_succ_self _ | omega⟩
  · rw [hc3]
    cbv
    cases h1
    cases exitI hi1
    try dsimp only at h0
    cases h0
    exact fin_ok hX rfl ⟨[3], _, _, ⟨rfl, rfl⟩, rfl, rfl, rfl, rfl, by cbv; try simp⟩
end Go.Proofs.Ytegmjohhgedakaa
