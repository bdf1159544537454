/-
  The code does what its models say (printed by lift.py).
-/
import Derived.Test.YtoklfjkanipjkaaGM
import Derived.Test.YtoklfjkanipjkaaManW
import Derived.Test.YtoklfjkanipjkaaGW1
import Derived.Test.YtoklfjkanipjkaaGW4
import Derived.Test.YtoklfjkanipjkaaGW5
import Derived.Test.YtoklfjkanipjkaaGW6
import Derived.Test.YtoklfjkanipjkaaGW7
import Derived.Test.YtoklfjkanipjkaaGW14
import Derived.Test.YtoklfjkanipjkaaGW15
namespace Go.Proofs.Ytoklfjkanipjkaa
open Go.RowKit
set_option maxRecDepth 100000

set_option maxHeartbeats 4000000 in
theorem fn_granule_Gapless {O0 : Ops} (hO0 : O0 = std) {c_1 : Int} {c_2 : Int} {c_3 : List (Int × Int)} {r1 : Bool} (h : m_granule_Gapless O0 c_1 c_2 c_3 = some r1) :
    Fn Try.prog 29 [.agg [.int .i64 c_1, .int .i64 c_2, .sl 0]] [.arr false .i2 c_3] (fun v c => v = .c (.bool r1) ∧ c = []) := by
  refine fn_run tab_holds eqs_holds mixed [] Try.func29 (by kernel_rfl) (by kernel_rfl) (Nat.le_of_ble_eq_true rfl) ?_
  intro O X hO hX
  rw [hO0, ← hO] at h
  unfold m_granule_Gapless at h
  have h0 := h; clear h
  cbv
  obtain ⟨b59, hv, h0⟩ := bindS h0
  refine call_go hO hX (fn_granule_Valid hO hv) (by kernel_rfl) [0] rfl ⟨rfl, rfl, trivial⟩ rfl ?_
  rintro _ _ ⟨rfl, rfl⟩
  cbv
  rcases condS h0 with ⟨hc0, h0⟩ | ⟨hc0, h0⟩
  · rw [hc0]
    cbv
    cases h0
    exact fin_ok hX rfl ⟨[], _, _, ⟨rfl, rfl⟩, rfl, rfl, rfl, rfl, by cbv; try simp⟩
  · rw [hc0]
    cbv
    obtain ⟨e1, hi, h0⟩ := bindS h0
    obtain ⟨I1, hI1, hi⟩ := loopS hi
    refine loop1 tab_holds eqs_holds mixed [] hO hX I1 (fun y => [(9, .junk), (12, .c (.int .i64 y.2))]) (fun _ => []) (fun y => y.1) _ (by kernel_rfl) hi (by cbv; try simp) ?_
    rintro ⟨n1, x143⟩ hi
    cbv
    rw [hI1] at hi
    obtain ⟨n1, rfl, x1, h1, hi1⟩ := iterS hi
    unfold m_granule_Gapless_L1 at h1
    try dsimp only at h1
    rcases condS h1 with ⟨hc1, h1⟩ | ⟨hc1, h1⟩
    · rw [hc1]
      cbv
      obtain ⟨hg2, h1⟩ := grdS h1
      refine ⟨idx_of hO hg2, ?_⟩
      obtain ⟨hg3, h1⟩ := grdS h1
      refine ⟨kin_of hO hg3, ?_⟩
      obtain ⟨hg4, h1⟩ := grdS h1
      refine ⟨inr_of hO hg4, ?_⟩
      obtain ⟨next2, h2, h1⟩ := bindS h1
      rcases condS h2 with ⟨hc5, h2⟩ | ⟨hc5, h2⟩
      · rw [hc5]
        cbv
        refine ⟨inr_of hO hg4, ?_⟩
        obtain ⟨hg6, h2⟩ := grdS h2
        refine ⟨idx_of hO hg6, ?_⟩
        obtain ⟨hg7, h2⟩ := grdS h2
        refine ⟨kin_of hO hg7, ?_⟩
        cases h2
        try dsimp only at h1
        rcases condS h1 with ⟨hc8, h1⟩ | ⟨hc8, h1⟩
        · rw [hc8]
          cbv
          cases h1
          cases exitI hi1
          try dsimp only at h0
          cases h0
          exact fin_ok hX rfl ⟨[], _, _, ⟨rfl, rfl⟩, rfl, rfl, rfl, rfl, by cbv; try simp⟩
        · rw [hc8]
          cbv
          refine ⟨inr_of hO hg4, ?_⟩
          cases h1
          exact ⟨_, [0, 1], nextI hI1 hi1, by cbv; try simp, by first | exact Nat.lt_succ_self _ | omega⟩
      · rw [hc5]
        cbv
        cases h2
        try dsimp only at h1
        rcases condS h1 with ⟨hc6, h1⟩ | ⟨hc6, h1⟩
        · rw [hc6]
          cbv
          cases h1
          cases exitI hi1
          try dsimp only at h0
          cases h0
          exact fin_ok hX rfl ⟨[], _, _, ⟨rfl, rfl⟩, rfl, rfl, rfl, rfl, by cbv; try simp⟩
        · rw [hc6]
          cbv
          refine ⟨inr_of hO hg4, ?_⟩
          cases h1
          exact ⟨_, [0, 1], nextI hI1 hi1, by cbv; try simp, by first | exact Nat.lt_succ_self _ | omega⟩
    · rw [hc1]
      cbv
      cases h1
      cases exitI hi1
      try dsimp only at h0
      cases h0
      exact fin_ok hX rfl ⟨[], _, _, ⟨rfl, rfl⟩, rfl, rfl, rfl, rfl, by cbv; try simp⟩
set_option maxHeartbeats 4000000 in
theorem fn_law16_GroupCustoms {O0 : Ops} (hO0 : O0 = std) {c_1 : Int} {c_2 : Int} {origin_1 : Int} {c_3 : List (Int × Int)} {lengths_1 : List Int} {pattern_1 : List Int} {r1 : Bool} (h : m_law16_GroupCustoms O0 c_1 c_2 origin_1 c_3 lengths_1 pattern_1 = some r1) :
    Fn Try.prog 6 [.agg [.int .i64 c_1, .int .i64 c_2, .sl 0], .c (.int .i64 origin_1), .c (.sl 1), .c (.sl 2)] [.arr false .i2 c_3, .arr false .i1 lengths_1, .arr false .i1 pattern_1] (fun v c => v = .c (.bool r1) ∧ c = []) := by
  refine fn_run tab_holds eqs_holds mixed [] Try.func6 (by kernel_rfl) (by kernel_rfl) (Nat.le_of_ble_eq_true rfl) ?_
  intro O X hO hX
  rw [hO0, ← hO] at h
  unfold m_law16_GroupCustoms at h
  have h0 := h; clear h
  cbv
  obtain ⟨b49, hv, h0⟩ := bindS h0
  refine call_go hO hX (fn_law16_awake hO hv) (by kernel_rfl) [] rfl trivial rfl ?_
  rintro _ _ ⟨rfl, rfl⟩
  cbv
  rcases condS h0 with ⟨hc0, h0⟩ | ⟨hc0, h0⟩
  · rw [hc0]
    cbv
    cases h0
    exact fin_ok hX rfl ⟨[], _, _, ⟨rfl, rfl⟩, rfl, rfl, rfl, rfl, by cbv; try simp⟩
  · rw [hc0]
    cbv
    obtain ⟨x130, h1, h0⟩ := bindS h0
    obtain ⟨b50, hv, h1⟩ := bindS h1
    refine call_go hO hX (fn_law16_great hO hv) (by kernel_rfl) [4, 0] rfl ⟨rfl, rfl, rfl, rfl, trivial⟩ rfl ?_
    rintro _ _ ⟨rfl, rfl⟩
    cbv
    rcases condS h1 with ⟨hc1, h1⟩ | ⟨hc1, h1⟩
    · rw [hc1]
      cbv
      cases h1
      try dsimp only at h0
      replace h0 := condT h0 rfl
      cases h0
      exact fin_ok hX rfl ⟨[], _, _, ⟨rfl, rfl⟩, rfl, rfl, rfl, rfl, by cbv; try simp⟩
    · rw [hc1]
      cbv
      rcases condS h1 with ⟨hc2, h1⟩ | ⟨hc2, h1⟩
      · rw [hc2]
        cbv
        cases h1
        try dsimp only at h0
        replace h0 := condT h0 rfl
        cases h0
        exact fin_ok hX rfl ⟨[], _, _, ⟨rfl, rfl⟩, rfl, rfl, rfl, rfl, by cbv; try simp⟩
      · rw [hc2]
        cbv
        cases h1
        try dsimp only at h0
        rcases condS h0 with ⟨hc3, h0⟩ | ⟨hc3, h0⟩
        · rw [hc3]
          cbv
          cases h0
          exact fin_ok hX rfl ⟨[], _, _, ⟨rfl, rfl⟩, rfl, rfl, rfl, rfl, by cbv; try simp⟩
        · rw [hc3]
          cbv
          obtain ⟨⟨n136, n137, l64, n138⟩, hv, h0⟩ := bindS h0
          try dsimp only at h0
          refine call_go hO hX (fn_group_Custom hO hv) (by kernel_rfl) [1] rfl ⟨rfl, rfl, trivial⟩ rfl ?_
          rintro _ _ ⟨rfl, rfl⟩
          cbv
          obtain ⟨⟨n142, n143, l68, n144⟩, hv, h0⟩ := bindS h0
          try dsimp only at h0
          refine call_go hO hX (fn_ref16_Custom hO hv) (by kernel_rfl) [1] rfl ⟨rfl, rfl, trivial⟩ rfl ?_
          rintro _ _ ⟨rfl, rfl⟩
          cbv
          obtain ⟨⟨n145, n146, l69, n147⟩, hv, h0⟩ := bindS h0
          try dsimp only at h0
          refine call_go hO hX (fn_group_Fiscal hO hv) (by kernel_rfl) [2] rfl ⟨rfl, rfl, trivial⟩ rfl ?_
          rintro _ _ ⟨rfl, rfl⟩
          cbv
          obtain ⟨⟨n151, n152, l73, n153⟩, hv, h0⟩ := bindS h0
          try dsimp only at h0
          refine call_go hO hX (fn_ref16_Fiscal hO hv) (by kernel_rfl) [2] rfl ⟨rfl, rfl, trivial⟩ rfl ?_
          rintro _ _ ⟨rfl, rfl⟩
          cbv
          obtain ⟨⟨n168, n169, l82, n170⟩, hv, h0⟩ := bindS h0
          try dsimp only at h0
          refine call_go hO hX (fn_group_Fill hO hv) (by kernel_rfl) [0] rfl ⟨rfl, rfl, trivial⟩ rfl ?_
          rintro _ _ ⟨rfl, rfl⟩
          cbv
          obtain ⟨x142, h1, h0⟩ := bindS h0
          obtain ⟨b54, hv, h1⟩ := bindS h1
          refine call_go hO hX (fn_law16_is hO hv) (by kernel_rfl) [5, 7] rfl ⟨rfl, rfl, rfl, rfl, trivial⟩ rfl ?_
          rintro _ _ ⟨rfl, rfl⟩
          cbv
          rcases condS h1 with ⟨hc4, h1⟩ | ⟨hc4, h1⟩
          · rw [hc4]
            cbv
            cases h1
            try dsimp only at h0
            replace h0 := condT h0 rfl
            cases h0
            exact fin_ok hX rfl ⟨[], _, _, ⟨rfl, rfl⟩, rfl, rfl, rfl, rfl, by cbv; try simp⟩
          · rw [hc4]
            cbv
            obtain ⟨b55, hv, h1⟩ := bindS h1
            refine call_go hO hX (fn_law16_is hO hv) (by kernel_rfl) [9, 11] rfl ⟨rfl, rfl, rfl, rfl, trivial⟩ rfl ?_
            rintro _ _ ⟨rfl, rfl⟩
            cbv
            cases h1
            try dsimp only at h0
            rcases condS h0 with ⟨hc5, h0⟩ | ⟨hc5, h0⟩
            · rw [hc5]
              cbv
              cases h0
              exact fin_ok hX rfl ⟨[], _, _, ⟨rfl, rfl⟩, rfl, rfl, rfl, rfl, by cbv; try simp⟩
            · rw [hc5]
              cbv
              obtain ⟨b56, hv, h0⟩ := bindS h0
              refine call_go hO hX (fn_ref16_Valid hO hv) (by kernel_rfl) [0] rfl ⟨rfl, rfl, trivial⟩ rfl ?_
              rintro _ _ ⟨rfl, rfl⟩
              cbv
              rcases condS h0 with ⟨hc6, h0⟩ | ⟨hc6, h0⟩
              · rw [hc6]
                cbv
                refine call_nil hO hX .i2 15 rfl ?_
                cbv
                obtain ⟨b57, hv, h0⟩ := bindS h0
                refine call_go hO hX (fn_law16_is hO hv) (by kernel_rfl) [13, 15] rfl ⟨rfl, rfl, rfl, rfl, trivial⟩ rfl ?_
                rintro _ _ ⟨rfl, rfl⟩
                cbv
                cases h0
                exact fin_ok hX rfl ⟨[], _, _, ⟨rfl, rfl⟩, rfl, rfl, rfl, rfl, by cbv; try simp⟩
              · rw [hc6]
                cbv
                obtain ⟨⟨n182, n183, l86, n184⟩, hv, h0⟩ := bindS h0
                try dsimp only at h0
                refine call_go hO hX (fn_ref16_Fill hO hv) (by kernel_rfl) [0] rfl ⟨rfl, rfl, trivial⟩ rfl ?_
                rintro _ _ ⟨rfl, rfl⟩
                cbv
                obtain ⟨x146, h1, h0⟩ := bindS h0
                obtain ⟨b58, hv, h1⟩ := bindS h1
                refine call_go hO hX (fn_law16_is hO hv) (by kernel_rfl) [13, 15] rfl ⟨rfl, rfl, rfl, rfl, trivial⟩ rfl ?_
                rintro _ _ ⟨rfl, rfl⟩
                cbv
                rcases condS h1 with ⟨hc7, h1⟩ | ⟨hc7, h1⟩
                · rw [hc7]
                  cbv
                  rcases condS h1 with ⟨hc8, h1⟩ | ⟨hc8, h1⟩
                  · rw [hc8]
                    cbv
                    obtain ⟨b60, hv, h1⟩ := bindS h1
                    refine call_go hO hX (fn_granule_Gapless hO hv) (by kernel_rfl) [13] rfl ⟨rfl, rfl, trivial⟩ rfl ?_
                    rintro _ _ ⟨rfl, rfl⟩
                    cbv
                    cases h1
                    try dsimp only at h0
                    cases h0
                    exact fin_ok hX rfl ⟨[], _, _, ⟨rfl, rfl⟩, rfl, rfl, rfl, rfl, by cbv; try simp⟩
                  · rw [hc8]
                    cbv
                    cases h1
                    try dsimp only at h0
                    cases h0
                    exact fin_ok hX rfl ⟨[], _, _, ⟨rfl, rfl⟩, rfl, rfl, rfl, rfl, by cbv; try simp⟩
                · rw [hc7]
                  cbv
                  cases h1
                  try dsimp only at h0
                  cases h0
                  exact fin_ok hX rfl ⟨[], _, _, ⟨rfl, rfl⟩, rfl, rfl, rfl, rfl, by cbv; try simp⟩
end Go.Proofs.Ytoklfjkanipjkaa
