/-
  The code does what its models say (printed by lift.py).
-/
import Derived.Test.YtkdffpncpikdmaaGreatZM
import Derived.Test.YtkdffpncpikdmaaGreatSrtZ
import Derived.Test.YtkdffpncpikdmaaGreatZW7
namespace Go.Proofs.YtkdffpncpikdmaaGreat
open Go.RowKit
set_option maxRecDepth 100000

set_option maxHeartbeats 40000000 in
theorem fn_ref35_ends {O0 : Ops} (hO0 : O0 = std) {a_1 : List (Int × Int × Int × Int)} {b_1 : List (Int × Int × Int × Int)} {r1 : List Int} (h : m_ref35_ends O0 a_1 b_1 = some r1) :
    Fn Tryz.prog 32 [.c (.sl 0), .c (.sl 1)] [.arr false .i4 a_1, .arr false .i4 b_1] (fun v c => v = .c (.sl 2) ∧ c = [.own 3 .i1 r1]) := by
  refine fn_run tab_holds eqs_holds mixed [(5, (.seg 1 [0, 1, 2, 3, 4, 5, 6, 8, 9, 10, 11, 12, 13] (.seg 2 [7] (.seg 2 [14] (.seg 1 [15] .fin)))), []), (9, (.seg 1 [0, 1, 2, 3, 4, 5, 6, 8, 9, 10, 11, 12, 13] (.seg 2 [7] (.seg 2 [14] (.seg 1 [15] .fin)))), [])] Tryz.func32 (by kernel_rfl) (by kernel_rfl) (Nat.le_of_ble_eq_true rfl) ?_
  intro O X hO hX
  rw [hO0, ← hO] at h
  unfold m_ref35_ends at h
  have h0 := h; clear h
  cbv
  obtain ⟨l126, hi, h0⟩ := bindS h0
  obtain ⟨I1, hI1, hi⟩ := loopS hi
  refine loop1 tab_holds eqs_holds mixed [(5, (.seg 1 [0, 1, 2, 3, 4, 5, 6, 8, 9, 10, 11, 12, 13] (.seg 2 [7] (.seg 2 [14] (.seg 1 [15] .fin)))), []), (9, (.seg 1 [0, 1, 2, 3, 4, 5, 6, 8, 9, 10, 11, 12, 13] (.seg 2 [7] (.seg 2 [14] (.seg 1 [15] .fin)))), [])] hO hX I1 (fun y => [(4, .junk), (5, .c (.sl 3)), (6, .c (.int .i64 y.2.1))]) (fun y => [(3, .own 3 .i1 y.2.2)]) (fun y => y.1) _ (by kernel_rfl) hi (by cbv; try simp) ?_
  refine allp ?_
  intro n1
  refine allp ?_
  intro i38
  intro l123 hi
  cbv
  rw [hI1] at hi
  obtain ⟨n1, rfl, x1, h1, hi1⟩ := iterS hi
  unfold m_ref35_ends_L1 at h1
  try dsimp only at h1
  rcases condS h1 with ⟨hc1, h1⟩ | ⟨hc1, h1⟩
  · rw [hc1]
    cbv
    obtain ⟨hg2, h1⟩ := grdS h1
    refine ⟨idx_of hO hg2, ?_⟩
    obtain ⟨hg3, h1⟩ := grdS h1
    refine ⟨kin_of hO hg3, ?_⟩
    refine ⟨idx_of hO hg2, ?_⟩
    refine ⟨kin_of hO hg3, ?_⟩
    obtain ⟨l124, hv, h1⟩ := bindS h1
    refine call_is hO hX (fn_ref35_put hO hv) (by kernel_rfl) [3] rfl ⟨rfl, rfl, trivial⟩ rfl ?_
    cbv
    obtain ⟨l125, hv, h1⟩ := bindS h1
    refine call_is hO hX (fn_ref35_put hO hv) (by kernel_rfl) [4] rfl ⟨rfl, rfl, trivial⟩ rfl ?_
    cbv
    obtain ⟨hg4, h1⟩ := grdS h1
    refine ⟨inr_of hO hg4, ?_⟩
    cases h1
    exact ⟨_, [0, 1, 2, 5], nextI hI1 hi1, by cbv; try simp, by first | exact Nat.lt_succ_self _ | omega⟩
  · as_aux_lemma =>
    rw [hc1]
    cbv
    cases h1
    cases exitI hi1
    try dsimp only at h0
    obtain ⟨l132, hi, h0⟩ := bindS h0
    obtain ⟨I2, hI2, hi⟩ := loopS hi
    refine loop1 tab_holds eqs_holds mixed [(5, (.seg 1 [0, 1, 2, 3, 4, 5, 6, 8, 9, 10, 11, 12, 13] (.seg 2 [7] (.seg 2 [14] (.seg 1 [15] .fin)))), []), (9, (.seg 1 [0, 1, 2, 3, 4, 5, 6, 8, 9, 10, 11, 12, 13] (.seg 2 [7] (.seg 2 [14] (.seg 1 [15] .fin)))), [])] hO hX I2 (fun y => [(5, .c (.sl 3)), (7, .c (.int .i64 y.2.1))]) (fun y => [(3, .own 3 .i1 y.2.2)]) (fun y => y.1) _ (by kernel_rfl) hi (by cbv; try simp) ?_
    refine allp ?_
    intro n2
    refine allp ?_
    intro i40
    intro l129 hi
    cbv
    rw [hI2] at hi
    obtain ⟨n2, rfl, x2, h1, hi2⟩ := iterS hi
    unfold m_ref35_ends_L2 at h1
    try dsimp only at h1
    rcases condS h1 with ⟨hc5, h1⟩ | ⟨hc5, h1⟩
    · rw [hc5]
      cbv
      obtain ⟨hg6, h1⟩ := grdS h1
      refine ⟨idx_of hO hg6, ?_⟩
      obtain ⟨hg7, h1⟩ := grdS h1
      refine ⟨kin_of hO hg7, ?_⟩
      refine ⟨idx_of hO hg6, ?_⟩
      refine ⟨kin_of hO hg7, ?_⟩
      obtain ⟨l130, hv, h1⟩ := bindS h1
      refine call_is hO hX (fn_ref35_put hO hv) (by kernel_rfl) [3] rfl ⟨rfl, rfl, trivial⟩ rfl ?_
      cbv
      obtain ⟨l131, hv, h1⟩ := bindS h1
      refine call_is hO hX (fn_ref35_put hO hv) (by kernel_rfl) [4] rfl ⟨rfl, rfl, trivial⟩ rfl ?_
      cbv
      obtain ⟨hg8, h1⟩ := grdS h1
      refine ⟨inr_of hO hg8, ?_⟩
      cases h1
      exact ⟨_, [0, 1, 2, 5], nextI hI2 hi2, by cbv; try simp, by first | exact Nat.lt_succ_self _ | omega⟩
    · rw [hc5]
      cbv
      cases h1
      cases exitI hi2
      try dsimp only at h0
      cases h0
      exact fin_ok hX rfl ⟨[3], _, _, ⟨rfl, rfl⟩, rfl, rfl, rfl, rfl, by cbv; try simp⟩
set_option maxHeartbeats 40000000 in
theorem fn_ref35_has {O0 : Ops} (hO0 : O0 = std) {x_1 : Int} {l_1 : List (Int × Int)} {r1 : Bool} (h : m_ref35_has O0 x_1 l_1 = some r1) :
    Fn Tryz.prog 52 [.c (.sl 0), .c (.int .i64 x_1)] [.arr false .i2 l_1] (fun v c => v = .c (.bool r1) ∧ c = []) := by
  refine fn_run tab_holds eqs_holds mixed [] Tryz.func52 (by kernel_rfl) (by kernel_rfl) (Nat.le_of_ble_eq_true rfl) ?_
  intro O X hO hX
  rw [hO0, ← hO] at h
  unfold m_ref35_has at h
  have h0 := h; clear h
  cbv
  obtain ⟨b49, hv, h0⟩ := bindS h0
  refine call_is hO hX (fn_ref12_In hO hv) (by kernel_rfl) [0] rfl ⟨rfl, rfl, trivial⟩ rfl ?_
  cbv
  cases h0
  exact fin_ok hX rfl ⟨[], _, _, ⟨rfl, rfl⟩, rfl, rfl, rfl, rfl, by cbv; try simp⟩
end Go.Proofs.YtkdffpncpikdmaaGreat
