/-
  The code does what its models say (printed by lift.py).
-/
import Derived.Test.YtoklfjkanipjkaaGM
import Derived.Test.YtoklfjkanipjkaaManW
import Derived.Test.YtoklfjkanipjkaaGW5
import Derived.Test.YtoklfjkanipjkaaGW7
import Derived.Test.YtoklfjkanipjkaaGW20
import Derived.Test.YtoklfjkanipjkaaGW22
import Derived.Test.YtoklfjkanipjkaaGW23
namespace Go.Proofs.Ytoklfjkanipjkaa
open Go.RowKit
set_option maxRecDepth 100000

set_option maxHeartbeats 4000000 in
theorem fn_law16_GroupInside {O0 : Ops} (hO0 : O0 = std) {c_1 : Int} {c_2 : Int} {in_1 : Int} {in_2 : Int} {m_1 : Int} {c_3 : List (Int × Int)} {in_3 : List (Int × Int)} {r1 : Bool} (h : m_law16_GroupInside O0 c_1 c_2 in_1 in_2 m_1 c_3 in_3 = some r1) :
    Fn Try.prog 9 [.agg [.int .i64 c_1, .int .i64 c_2, .sl 0], .agg [.int .i64 in_1, .int .i64 in_2, .sl 1], .c (.int .i64 m_1)] [.arr false .i2 c_3, .arr false .i2 in_3] (fun v c => v = .c (.bool r1) ∧ c = []) := by
  refine fn_run tab_holds eqs_holds mixed [] Try.func9 (by kernel_rfl) (by kernel_rfl) (Nat.le_of_ble_eq_true rfl) ?_
  intro O X hO hX
  rw [hO0, ← hO] at h
  unfold m_law16_GroupInside at h
  have h0 := h; clear h
  cbv
  obtain ⟨b73, hv, h0⟩ := bindS h0
  refine call_go hO hX (fn_law16_awake hO hv) (by kernel_rfl) [] rfl trivial rfl ?_
  rintro _ _ ⟨rfl, rfl⟩
  cbv
  rcases condS h0 with ⟨hc0, h0⟩ | ⟨hc0, h0⟩
  · rw [hc0]
    cbv
    cases h0
    exact fin_ok hX rfl ⟨[], _, _, ⟨rfl, rfl⟩, rfl, rfl, rfl, rfl, by cbv; try simp⟩
  · rw [hc0]
    cbv
    obtain ⟨b77, hv, h0⟩ := bindS h0
    refine call_go hO hX (fn_law16_great_2 hO hv) (by kernel_rfl) [4, 0, 1] rfl ⟨rfl, rfl, rfl, rfl, rfl, rfl, trivial⟩ rfl ?_
    rintro _ _ ⟨rfl, rfl⟩
    cbv
    rcases condS h0 with ⟨hc1, h0⟩ | ⟨hc1, h0⟩
    · rw [hc1]
      cbv
      cases h0
      exact fin_ok hX rfl ⟨[], _, _, ⟨rfl, rfl⟩, rfl, rfl, rfl, rfl, by cbv; try simp⟩
    · rw [hc1]
      cbv
      obtain ⟨x173, h1, h0⟩ := bindS h0
      obtain ⟨b78, hv, h1⟩ := bindS h1
      refine call_go hO hX (fn_ref16_Valid hO hv) (by kernel_rfl) [0] rfl ⟨rfl, rfl, trivial⟩ rfl ?_
      rintro _ _ ⟨rfl, rfl⟩
      cbv
      rcases condS h1 with ⟨hc2, h1⟩ | ⟨hc2, h1⟩
      · rw [hc2]
        cbv
        cases h1
        try dsimp only at h0
        replace h0 := condT h0 rfl
        obtain ⟨⟨n261, n262, l106, n263⟩, hv, h0⟩ := bindS h0
        try dsimp only at h0
        refine call_go hO hX (fn_group_Inside hO hv) (by kernel_rfl) [0, 1] rfl ⟨rfl, rfl, rfl, rfl, trivial⟩ rfl ?_
        rintro _ _ ⟨rfl, rfl⟩
        cbv
        refine call_nil hO hX .i2 7 rfl ?_
        cbv
        obtain ⟨b87, hv, h0⟩ := bindS h0
        refine call_go hO hX (fn_law16_is hO hv) (by kernel_rfl) [5, 7] rfl ⟨rfl, rfl, rfl, rfl, trivial⟩ rfl ?_
        rintro _ _ ⟨rfl, rfl⟩
        cbv
        cases h0
        exact fin_ok hX rfl ⟨[], _, _, ⟨rfl, rfl⟩, rfl, rfl, rfl, rfl, by cbv; try simp⟩
      · rw [hc2]
        cbv
        obtain ⟨b79, hv, h1⟩ := bindS h1
        refine call_go hO hX (fn_ref16_Valid hO hv) (by kernel_rfl) [1] rfl ⟨rfl, rfl, trivial⟩ rfl ?_
        rintro _ _ ⟨rfl, rfl⟩
        cbv
        cases h1
        try dsimp only at h0
        rcases condS h0 with ⟨hc3, h0⟩ | ⟨hc3, h0⟩
        · rw [hc3]
          cbv
          obtain ⟨⟨n261, n262, l106, n263⟩, hv, h0⟩ := bindS h0
          try dsimp only at h0
          refine call_go hO hX (fn_group_Inside hO hv) (by kernel_rfl) [0, 1] rfl ⟨rfl, rfl, rfl, rfl, trivial⟩ rfl ?_
          rintro _ _ ⟨rfl, rfl⟩
          cbv
          refine call_nil hO hX .i2 7 rfl ?_
          cbv
          obtain ⟨b87, hv, h0⟩ := bindS h0
          refine call_go hO hX (fn_law16_is hO hv) (by kernel_rfl) [5, 7] rfl ⟨rfl, rfl, rfl, rfl, trivial⟩ rfl ?_
          rintro _ _ ⟨rfl, rfl⟩
          cbv
          cases h0
          exact fin_ok hX rfl ⟨[], _, _, ⟨rfl, rfl⟩, rfl, rfl, rfl, rfl, by cbv; try simp⟩
        · rw [hc3]
          cbv
          obtain ⟨b88, hv, h0⟩ := bindS h0
          refine call_go hO hX (fn_law16_few hO hv) (by kernel_rfl) [0, 1] rfl ⟨rfl, rfl, rfl, rfl, trivial⟩ rfl ?_
          rintro _ _ ⟨rfl, rfl⟩
          cbv
          rcases condS h0 with ⟨hc4, h0⟩ | ⟨hc4, h0⟩
          · rw [hc4]
            cbv
            cases h0
            exact fin_ok hX rfl ⟨[], _, _, ⟨rfl, rfl⟩, rfl, rfl, rfl, rfl, by cbv; try simp⟩
          · rw [hc4]
            cbv
            obtain ⟨⟨n264, n265, l107, n266⟩, hv, h0⟩ := bindS h0
            try dsimp only at h0
            refine call_go hO hX (fn_group_Inside hO hv) (by kernel_rfl) [0, 1] rfl ⟨rfl, rfl, rfl, rfl, trivial⟩ rfl ?_
            rintro _ _ ⟨rfl, rfl⟩
            cbv
            obtain ⟨⟨n286, n287, l127, n288⟩, hv, h0⟩ := bindS h0
            try dsimp only at h0
            refine call_go hO hX (fn_ref16_Inside hO hv) (by kernel_rfl) [0, 1] rfl ⟨rfl, rfl, rfl, rfl, trivial⟩ rfl ?_
            rintro _ _ ⟨rfl, rfl⟩
            cbv
            obtain ⟨b89, hv, h0⟩ := bindS h0
            refine call_go hO hX (fn_law16_is hO hv) (by kernel_rfl) [5, 7] rfl ⟨rfl, rfl, rfl, rfl, trivial⟩ rfl ?_
            rintro _ _ ⟨rfl, rfl⟩
            cbv
            cases h0
            exact fin_ok hX rfl ⟨[], _, _, ⟨rfl, rfl⟩, rfl, rfl, rfl, rfl, by cbv; try simp⟩
end Go.Proofs.Ytoklfjkanipjkaa
