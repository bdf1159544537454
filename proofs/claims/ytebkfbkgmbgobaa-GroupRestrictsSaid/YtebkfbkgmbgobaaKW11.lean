/-
  The code does what its models say (printed by lift.py).
-/
import Derived.Test.YtebkfbkgmbgobaaKM
import Derived.Test.YtebkfbkgmbgobaaManW
import Derived.Test.YtebkfbkgmbgobaaKW2
import Derived.Test.YtebkfbkgmbgobaaKW3
import Derived.Test.YtebkfbkgmbgobaaKW5
import Derived.Test.YtebkfbkgmbgobaaKW9
import Derived.Test.YtebkfbkgmbgobaaKW10
namespace Go.Proofs.Ytebkfbkgmbgobaa
open Go.RowKit
set_option maxRecDepth 100000

set_option maxHeartbeats 40000000 in
theorem fn_law16_GroupRestricts {O0 : Ops} (hO0 : O0 = std) {c_1 : Int} {c_2 : Int} {p_1 : Int} {c_3 : List (Int × Int)} {p_2 : List (Int × Int)} {r1 : Bool} (h : m_law16_GroupRestricts O0 c_1 c_2 p_1 c_3 p_2 = some r1) :
    Fn Try.prog 3 [.agg [.int .i64 c_1, .int .i64 c_2, .sl 0], .agg [.int .i64 p_1, .sl 1]] [.arr false .i2 c_3, .arr false .i2 p_2] (fun v c => v = .c (.bool r1) ∧ c = []) := by
  refine fn_run tab_holds eqs_holds mixed [] Try.func3 (by kernel_rfl) (by kernel_rfl) (Nat.le_of_ble_eq_true rfl) ?_
  intro O X hO hX
  rw [hO0, ← hO] at h
  unfold m_law16_GroupRestricts at h
  have h0 := h; clear h
  cbv
  obtain ⟨b18, hv, h0⟩ := bindS h0
  refine call_is hO hX (fn_law16_awake hO hv) (by kernel_rfl) [] rfl trivial rfl ?_
  cbv
  rcases condS h0 with ⟨hc1, h0⟩ | ⟨hc1, h0⟩
  · rw [hc1]
    cbv
    cases h0
    exact fin_ok hX rfl ⟨[], _, _, ⟨rfl, rfl⟩, rfl, rfl, rfl, rfl, by cbv; try simp⟩
  · as_aux_lemma =>
    rw [hc1]
    cbv
    obtain ⟨x78, h1, h0⟩ := bindS h0
    obtain ⟨b21, hv, h1⟩ := bindS h1
    refine call_is hO hX (fn_law16_great hO hv) (by kernel_rfl) [4, 0] rfl ⟨rfl, rfl, rfl, rfl, trivial⟩ rfl ?_
    cbv
    rcases condS h1 with ⟨hc2, h1⟩ | ⟨hc2, h1⟩
    · rw [hc2]
      cbv
      cases h1
      try dsimp only at h0
      replace h0 := condT h0 rfl
      cases h0
      exact fin_ok hX rfl ⟨[], _, _, ⟨rfl, rfl⟩, rfl, rfl, rfl, rfl, by cbv; try simp⟩
    · as_aux_lemma =>
      rw [hc2]
      cbv
      cases h1
      try dsimp only at h0
      rcases condS h0 with ⟨hc3, h0⟩ | ⟨hc3, h0⟩
      · rw [hc3]
        cbv
        cases h0
        exact fin_ok hX rfl ⟨[], _, _, ⟨rfl, rfl⟩, rfl, rfl, rfl, rfl, by cbv; try simp⟩
      · as_aux_lemma =>
        rw [hc3]
        cbv
        obtain ⟨⟨n88, n89, l53, n90⟩, hv, h0⟩ := bindS h0
        try dsimp only at h0
        refine call_is hO hX (fn_group_Restrict hO hv) (by kernel_rfl) [0, 1] rfl ⟨rfl, rfl, rfl, rfl, trivial⟩ rfl ?_
        cbv
        obtain ⟨x183, h1, h0⟩ := bindS h0
        obtain ⟨b36, hv, h1⟩ := bindS h1
        refine call_is hO hX (fn_ref16_Valid hO hv) (by kernel_rfl) [0] rfl ⟨rfl, rfl, trivial⟩ rfl ?_
        cbv
        rcases condS h1 with ⟨hc4, h1⟩ | ⟨hc4, h1⟩
        · rw [hc4]
          cbv
          refine call_nil hO hX .i2 7 rfl ?_
          cbv
          cases h1
          try dsimp only at h0
          replace h0 := condT h0 rfl
          obtain ⟨b53, hv, h0⟩ := bindS h0
          refine call_is hO hX (fn_law16_is hO hv) (by kernel_rfl) [5, 7] rfl ⟨rfl, rfl, rfl, rfl, trivial⟩ rfl ?_
          cbv
          cases h0
          exact fin_ok hX rfl ⟨[], _, _, ⟨rfl, rfl⟩, rfl, rfl, rfl, rfl, by cbv; try simp⟩
        · rw [hc4]
          cbv
          obtain ⟨b50, hv, h1⟩ := bindS h1
          refine call_is hO hX (fn_ref16_Periodic hO hv) (by kernel_rfl) [1] rfl ⟨rfl, rfl, trivial⟩ rfl ?_
          cbv
          cases h1
          try dsimp only at h0
          rcases condS h0 with ⟨hc5, h0⟩ | ⟨hc5, h0⟩
          · rw [hc5]
            cbv
            refine call_nil hO hX .i2 7 rfl ?_
            cbv
            obtain ⟨b53, hv, h0⟩ := bindS h0
            refine call_is hO hX (fn_law16_is hO hv) (by kernel_rfl) [5, 7] rfl ⟨rfl, rfl, rfl, rfl, trivial⟩ rfl ?_
            cbv
            cases h0
            exact fin_ok hX rfl ⟨[], _, _, ⟨rfl, rfl⟩, rfl, rfl, rfl, rfl, by cbv; try simp⟩
          · rw [hc5]
            cbv
            obtain ⟨⟨n112, n113, l95, n114⟩, hv, h0⟩ := bindS h0
            try dsimp only at h0
            refine call_is hO hX (fn_ref16_Restrict hO hv) (by kernel_rfl) [0, 1] rfl ⟨rfl, rfl, rfl, rfl, trivial⟩ rfl ?_
            cbv
            obtain ⟨b57, hv, h0⟩ := bindS h0
            refine call_is hO hX (fn_law16_is hO hv) (by kernel_rfl) [5, 7] rfl ⟨rfl, rfl, rfl, rfl, trivial⟩ rfl ?_
            cbv
            cases h0
            exact fin_ok hX rfl ⟨[], _, _, ⟨rfl, rfl⟩, rfl, rfl, rfl, rfl, by cbv; try simp⟩
end Go.Proofs.Ytebkfbkgmbgobaa
