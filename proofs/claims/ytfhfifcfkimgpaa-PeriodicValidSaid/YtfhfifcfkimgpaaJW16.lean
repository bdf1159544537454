/-
  The code does what its models say (printed by lift.py).
-/
import Derived.Test.YtfhfifcfkimgpaaHM
import Derived.Test.YtfhfifcfkimgpaaManW2
import Derived.Test.YtfhfifcfkimgpaaJW6
namespace Go.Proofs.Ytfhfifcfkimgpaa
open Go.RowKit
set_option maxRecDepth 100000

set_option maxHeartbeats 40000000 in
theorem fn_ref13_Has {O0 : Ops} (hO0 : O0 = std) {p_1 : Int} {x_1 : Int} {p_2 : List (Int × Int)} {r1 : Bool} (h : m_ref13_Has O0 p_1 x_1 p_2 = some r1) :
    Fn Try.prog 36 [.agg [.int .i64 p_1, .sl 0], .c (.int .i64 x_1)] [.arr false .i2 p_2] (fun v c => v = .c (.bool r1) ∧ c = []) := by
  refine fn_run tab_holds eqs_holds mixed [] Try.func36 (by kernel_rfl) (by kernel_rfl) (Nat.le_of_ble_eq_true rfl) ?_
  intro O X hO hX
  rw [hO0, ← hO] at h
  unfold m_ref13_Has at h
  have h0 := h; clear h
  cbv
  obtain ⟨n57, hv, h0⟩ := bindS h0
  refine call_is hO hX (fn_ref01_Mod hO hv) (by kernel_rfl) [] rfl trivial rfl ?_
  cbv
  obtain ⟨e1, hi, h0⟩ := bindS h0
  obtain ⟨I1, hI1, hi⟩ := loopS hi
  refine loop1 tab_holds eqs_holds mixed [] hO hX I1 (fun y => [(8, .junk), (6, .c (.int .i64 y.2))]) (fun _ => []) (fun y => y.1) _ (by kernel_rfl) hi (by cbv; try simp) ?_
  refine allp ?_
  intro n1
  intro i38 hi
  cbv
  rw [hI1] at hi
  obtain ⟨n1, rfl, x1, h1, hi1⟩ := iterS hi
  unfold m_ref13_Has_L1 at h1
  try dsimp only at h1
  rcases condS h1 with ⟨hc1, h1⟩ | ⟨hc1, h1⟩
  · as_aux_lemma =>
    rw [hc1]
    cbv
    obtain ⟨x190, h2, h1⟩ := bindS h1
    rcases condS h2 with ⟨hc2, h2⟩ | ⟨hc2, h2⟩
    · rw [hc2]
      cbv
      obtain ⟨hg3, h2⟩ := grdS h2
      refine ⟨idx_of hO hg3, ?_⟩
      obtain ⟨hg4, h2⟩ := grdS h2
      refine ⟨kin_of hO hg4, ?_⟩
      cases h2
      try dsimp only at h1
      refine ⟨idx_of hO hg3, ?_⟩
      refine ⟨kin_of hO hg4, ?_⟩
      rcases condS h1 with ⟨hc5, h1⟩ | ⟨hc5, h1⟩
      · rw [hc5]
        cbv
        cases h1
        cases exitI hi1
        try dsimp only at h0
        cases h0
        exact fin_ok hX rfl ⟨[], _, _, ⟨rfl, rfl⟩, rfl, rfl, rfl, rfl, by cbv; try simp⟩
      · rw [hc5]
        cbv
        obtain ⟨hg6, h1⟩ := grdS h1
        refine ⟨inr_of hO hg6, ?_⟩
        cases h1
        exact ⟨_, [0, 1], nextI hI1 hi1, by cbv; try simp, by first | exact Nat.lt_succ_self _ | omega⟩
    · rw [hc2]
      cbv
      obtain ⟨hg7, h2⟩ := grdS h2
      refine ⟨idx_of hO hg7, ?_⟩
      obtain ⟨hg8, h2⟩ := grdS h2
      refine ⟨kin_of hO hg8, ?_⟩
      cases h2
      try dsimp only at h1
      replace h1 := condF h1 rfl
      obtain ⟨hg9, h1⟩ := grdS h1
      refine ⟨inr_of hO hg9, ?_⟩
      cases h1
      exact ⟨_, [0, 1], nextI hI1 hi1, by cbv; try simp, by first | exact Nat.lt_succ_self _ | omega⟩
  · rw [hc1]
    cbv
    cases h1
    cases exitI hi1
    try dsimp only at h0
    cases h0
    exact fin_ok hX rfl ⟨[], _, _, ⟨rfl, rfl⟩, rfl, rfl, rfl, rfl, by cbv; try simp⟩
end Go.Proofs.Ytfhfifcfkimgpaa
