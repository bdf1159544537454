/-
  The code does what its models say (printed by lift.py).
-/
import Derived.Test.YtkdffpncpikdmaaGreatZM
import Derived.Test.YtkdffpncpikdmaaGreatSrtZ
import Derived.Test.YtkdffpncpikdmaaGreatZW4
namespace Go.Proofs.YtkdffpncpikdmaaGreat
open Go.RowKit
set_option maxRecDepth 100000

set_option maxHeartbeats 40000000 in
theorem fn_ref12_Spans {O0 : Ops} (hO0 : O0 = std) {l_1 : List (Int × Int)} {r1 : Bool} (h : m_ref12_Spans O0 l_1 = some r1) :
    Fn Tryz.prog 48 [.c (.sl 0)] [.arr false .i2 l_1] (fun v c => v = .c (.bool r1) ∧ c = []) := by
  refine fn_run tab_holds eqs_holds mixed [] Tryz.func48 (by kernel_rfl) (by kernel_rfl) (Nat.le_of_ble_eq_true rfl) ?_
  intro O X hO hX
  rw [hO0, ← hO] at h
  unfold m_ref12_Spans at h
  have h0 := h; clear h
  cbv
  obtain ⟨e1, hi, h0⟩ := bindS h0
  obtain ⟨I1, hI1, hi⟩ := loopS hi
  refine loop1 tab_holds eqs_holds mixed [] hO hX I1 (fun y => [(3, .c (.int .i64 y.2))]) (fun _ => []) (fun y => y.1) _ (by kernel_rfl) hi (by cbv; try simp) ?_
  refine allp ?_
  intro n1
  intro i15 hi
  cbv
  rw [hI1] at hi
  obtain ⟨n1, rfl, x1, h1, hi1⟩ := iterS hi
  unfold m_ref12_Spans_L1 at h1
  try dsimp only at h1
  rcases condS h1 with ⟨hc1, h1⟩ | ⟨hc1, h1⟩
  · rw [hc1]
    cbv
    obtain ⟨hg2, h1⟩ := grdS h1
    refine ⟨idx_of hO hg2, ?_⟩
    obtain ⟨hg3, h1⟩ := grdS h1
    refine ⟨kin_of hO hg3, ?_⟩
    obtain ⟨b37, hv, h1⟩ := bindS h1
    refine call_is hO hX (fn_ref12_Span hO hv) (by kernel_rfl) [] rfl trivial rfl ?_
    cbv
    rcases condS h1 with ⟨hc4, h1⟩ | ⟨hc4, h1⟩
    · rw [hc4]
      cbv
      cases h1
      cases exitI hi1
      try dsimp only at h0
      cases h0
      exact fin_ok hX rfl ⟨[], _, _, ⟨rfl, rfl⟩, rfl, rfl, rfl, rfl, by cbv; try simp⟩
    · rw [hc4]
      cbv
      obtain ⟨hg5, h1⟩ := grdS h1
      refine ⟨inr_of hO hg5, ?_⟩
      cases h1
      exact ⟨_, [0], nextI hI1 hi1, by cbv; try simp, by first | exact Nat.lt_succ_self _ | omega⟩
  · rw [hc1]
    cbv
    cases h1
    cases exitI hi1
    try dsimp only at h0
    cases h0
    exact fin_ok hX rfl ⟨[], _, _, ⟨rfl, rfl⟩, rfl, rfl, rfl, rfl, by cbv; try simp⟩
end Go.Proofs.YtkdffpncpikdmaaGreat
