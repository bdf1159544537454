/-
  The code does what its models say (printed by lift.py).
-/
import Derived.Test.YtoklfjkanipjkaaGM
import Derived.Test.YtoklfjkanipjkaaManW
import Derived.Test.YtoklfjkanipjkaaGW5
import Derived.Test.YtoklfjkanipjkaaGW6
import Derived.Test.YtoklfjkanipjkaaGW7
import Derived.Test.YtoklfjkanipjkaaGW8
import Derived.Test.YtoklfjkanipjkaaGW12
import Derived.Test.YtoklfjkanipjkaaGW13
namespace Go.Proofs.Ytoklfjkanipjkaa
open Go.RowKit
set_option maxRecDepth 100000

set_option maxHeartbeats 4000000 in
theorem fn_law16_GroupPicks {O0 : Ops} (hO0 : O0 = std) {c_1 : Int} {c_2 : Int} {m_1 : Int} {c_3 : List (Int × Int)} {ks_1 : List Int} {r1 : Bool} (h : m_law16_GroupPicks O0 c_1 c_2 m_1 c_3 ks_1 = some r1) :
    Fn Try.prog 5 [.agg [.int .i64 c_1, .int .i64 c_2, .sl 0], .c (.int .i64 m_1), .c (.sl 1)] [.arr false .i2 c_3, .arr false .i1 ks_1] (fun v c => v = .c (.bool r1) ∧ c = []) := by
  refine fn_run tab_holds eqs_holds mixed [] Try.func5 (by kernel_rfl) (by kernel_rfl) (Nat.le_of_ble_eq_true rfl) ?_
  intro O X hO hX
  rw [hO0, ← hO] at h
  unfold m_law16_GroupPicks at h
  have h0 := h; clear h
  cbv
  obtain ⟨b39, hv, h0⟩ := bindS h0
  refine call_go hO hX (fn_law16_awake hO hv) (by kernel_rfl) [] rfl trivial rfl ?_
  rintro _ _ ⟨rfl, rfl⟩
  cbv
  rcases condS h0 with ⟨hc0, h0⟩ | ⟨hc0, h0⟩
  · rw [hc0]
    cbv
    cases h0
    exact fin_ok hX rfl ⟨[], _, _, ⟨rfl, rfl⟩, rfl, rfl, rfl, rfl, by cbv; try simp⟩
  · rw [hc0]
    cbv
    obtain ⟨x113, h1, h0⟩ := bindS h0
    obtain ⟨b40, hv, h1⟩ := bindS h1
    refine call_go hO hX (fn_law16_great hO hv) (by kernel_rfl) [3, 0] rfl ⟨rfl, rfl, rfl, rfl, trivial⟩ rfl ?_
    rintro _ _ ⟨rfl, rfl⟩
    cbv
    rcases condS h1 with ⟨hc1, h1⟩ | ⟨hc1, h1⟩
    · rw [hc1]
      cbv
      cases h1
      try dsimp only at h0
      replace h0 := condT h0 rfl
      cases h0
      exact fin_ok hX rfl ⟨[], _, _, ⟨rfl, rfl⟩, rfl, rfl, rfl, rfl, by cbv; try simp⟩
    · rw [hc1]
      cbv
      cases h1
      try dsimp only at h0
      rcases condS h0 with ⟨hc2, h0⟩ | ⟨hc2, h0⟩
      · rw [hc2]
        cbv
        cases h0
        exact fin_ok hX rfl ⟨[], _, _, ⟨rfl, rfl⟩, rfl, rfl, rfl, rfl, by cbv; try simp⟩
      · rw [hc2]
        cbv
        obtain ⟨⟨n118, n119, l55, n120⟩, hv, h0⟩ := bindS h0
        try dsimp only at h0
        refine call_go hO hX (fn_group_Pick hO hv) (by kernel_rfl) [0, 1] rfl ⟨rfl, rfl, rfl, rfl, trivial⟩ rfl ?_
        rintro _ _ ⟨rfl, rfl⟩
        cbv
        obtain ⟨b44, hv, h0⟩ := bindS h0
        refine call_go hO hX (fn_ref16_Valid hO hv) (by kernel_rfl) [0] rfl ⟨rfl, rfl, trivial⟩ rfl ?_
        rintro _ _ ⟨rfl, rfl⟩
        cbv
        rcases condS h0 with ⟨hc3, h0⟩ | ⟨hc3, h0⟩
        · rw [hc3]
          cbv
          refine call_nil hO hX .i2 6 rfl ?_
          cbv
          obtain ⟨b45, hv, h0⟩ := bindS h0
          refine call_go hO hX (fn_law16_is hO hv) (by kernel_rfl) [4, 6] rfl ⟨rfl, rfl, rfl, rfl, trivial⟩ rfl ?_
          rintro _ _ ⟨rfl, rfl⟩
          cbv
          cases h0
          exact fin_ok hX rfl ⟨[], _, _, ⟨rfl, rfl⟩, rfl, rfl, rfl, rfl, by cbv; try simp⟩
        · rw [hc3]
          cbv
          obtain ⟨⟨n133, n134, l63, n135⟩, hv, h0⟩ := bindS h0
          try dsimp only at h0
          refine call_go hO hX (fn_ref16_Pick hO hv) (by kernel_rfl) [0, 1] rfl ⟨rfl, rfl, rfl, rfl, trivial⟩ rfl ?_
          rintro _ _ ⟨rfl, rfl⟩
          cbv
          obtain ⟨b48, hv, h0⟩ := bindS h0
          refine call_go hO hX (fn_law16_is hO hv) (by kernel_rfl) [4, 6] rfl ⟨rfl, rfl, rfl, rfl, trivial⟩ rfl ?_
          rintro _ _ ⟨rfl, rfl⟩
          cbv
          cases h0
          exact fin_ok hX rfl ⟨[], _, _, ⟨rfl, rfl⟩, rfl, rfl, rfl, rfl, by cbv; try simp⟩
set_option maxHeartbeats 4000000 in
theorem fn_ref16_Custom {O0 : Ops} (hO0 : O0 = std) {origin_1 : Int} {lengths_1 : List Int} {r1 : Int} {r2 : Int} {r3 : List (Int × Int)} {r4 : Int} (h : m_ref16_Custom O0 origin_1 lengths_1 = some (r1, r2, r3, r4)) :
    Fn Try.prog 24 [.c (.int .i64 origin_1), .c (.sl 0)] [.arr false .i1 lengths_1] (fun v c => v = .tup [.many [.int .i64 r1, .int .i64 r2, .sl 1], .one (.int .i64 r4)] ∧ c = [.arr true .i2 r3]) := by
  refine fn_run tab_holds eqs_holds mixed [] Try.func24 (by kernel_rfl) (by kernel_rfl) (Nat.le_of_ble_eq_true rfl) ?_
  intro O X hO hX
  rw [hO0, ← hO] at h
  unfold m_ref16_Custom at h
  have h0 := h; clear h
  cbv
  rcases condS h0 with ⟨hc0, h0⟩ | ⟨hc0, h0⟩
  · rw [hc0]
    cbv
    cases h0
    refine fin_nil hX .i2 2 rfl ?_
    cbv
    exact fin_ok hX rfl ⟨[2], _, _, ⟨rfl, rfl⟩, rfl, rfl, rfl, rfl, by cbv; try simp⟩
  · rw [hc0]
    cbv
    obtain ⟨e1, hi, h0⟩ := bindS h0
    obtain ⟨I1, hI1, hi⟩ := loopS hi
    refine loop1 tab_holds eqs_holds mixed [] hO hX I1 (fun y => [(6, .c (.int .i64 y.2))]) (fun _ => []) (fun y => y.1) _ (by kernel_rfl) hi (by cbv; try simp) ?_
    rintro ⟨n1, i16⟩ hi
    cbv
    rw [hI1] at hi
    obtain ⟨n1, rfl, x1, h1, hi1⟩ := iterS hi
    unfold m_ref16_Custom_L1 at h1
    try dsimp only at h1
    rcases condS h1 with ⟨hc1, h1⟩ | ⟨hc1, h1⟩
    · rw [hc1]
      cbv
      obtain ⟨x132, h2, h1⟩ := bindS h1
      rcases condS h2 with ⟨hc2, h2⟩ | ⟨hc2, h2⟩
      · rw [hc2]
        cbv
        obtain ⟨hg3, h2⟩ := grdS h2
        refine ⟨idx_of hO hg3, ?_⟩
        obtain ⟨hg4, h2⟩ := grdS h2
        refine ⟨kin_of hO hg4, ?_⟩
        cases h2
        try dsimp only at h1
        replace h1 := condT h1 rfl
        cases h1
        cases exitI hi1
        try dsimp only at h0
        cases h0
        refine fin_nil hX .i2 2 rfl ?_
        cbv
        exact fin_ok hX rfl ⟨[2], _, _, ⟨rfl, rfl⟩, rfl, rfl, rfl, rfl, by cbv; try simp⟩
      · rw [hc2]
        cbv
        obtain ⟨hg3, h2⟩ := grdS h2
        refine ⟨idx_of hO hg3, ?_⟩
        obtain ⟨hg4, h2⟩ := grdS h2
        refine ⟨kin_of hO hg4, ?_⟩
        cases h2
        try dsimp only at h1
        refine ⟨idx_of hO hg3, ?_⟩
        refine ⟨kin_of hO hg4, ?_⟩
        rcases condS h1 with ⟨hc5, h1⟩ | ⟨hc5, h1⟩
        · rw [hc5]
          cbv
          cases h1
          cases exitI hi1
          try dsimp only at h0
          cases h0
          refine fin_nil hX .i2 2 rfl ?_
          cbv
          exact fin_ok hX rfl ⟨[2], _, _, ⟨rfl, rfl⟩, rfl, rfl, rfl, rfl, by cbv; try simp⟩
        · rw [hc5]
          cbv
          obtain ⟨hg6, h1⟩ := grdS h1
          refine ⟨inr_of hO hg6, ?_⟩
          cases h1
          exact ⟨_, [0, 1], nextI hI1 hi1, by cbv; try simp, by first | exact Nat.lt_succ_self _ | omega⟩
    · rw [hc1]
      cbv
      cases h1
      cases exitI hi1
      try dsimp only at h0
      rcases condS h0 with ⟨hc2, h0⟩ | ⟨hc2, h0⟩
      · rw [hc2]
        cbv
        cases h0
        refine fin_nil hX .i2 2 rfl ?_
        cbv
        exact fin_ok hX rfl ⟨[2], _, _, ⟨rfl, rfl⟩, rfl, rfl, rfl, rfl, by cbv; try simp⟩
      · rw [hc2]
        cbv
        obtain ⟨sum5, hi, h0⟩ := bindS h0
        obtain ⟨I2, hI2, hi⟩ := loopS hi
        refine loop1 tab_holds eqs_holds mixed [] hO hX I2 (fun y => [(7, .c (.int .i64 y.2.1)), (8, .c (.int .i64 y.2.2))]) (fun _ => []) (fun y => y.1) _ (by kernel_rfl) hi (by cbv; try simp) ?_
        rintro ⟨n2, sum4, i17⟩ hi
        cbv
        rw [hI2] at hi
        obtain ⟨n2, rfl, x2, h1, hi2⟩ := iterS hi
        unfold m_ref16_Custom_L2 at h1
        try dsimp only at h1
        rcases condS h1 with ⟨hc3, h1⟩ | ⟨hc3, h1⟩
        · rw [hc3]
          cbv
          obtain ⟨hg4, h1⟩ := grdS h1
          refine ⟨idx_of hO hg4, ?_⟩
          obtain ⟨hg5, h1⟩ := grdS h1
          refine ⟨kin_of hO hg5, ?_⟩
          obtain ⟨hg6, h1⟩ := grdS h1
          refine ⟨inr_of hO hg6, ?_⟩
          obtain ⟨hg7, h1⟩ := grdS h1
          refine ⟨inr_of hO hg7, ?_⟩
          cases h1
          exact ⟨_, [0, 1], nextI hI2 hi2, by cbv; try simp, by first | exact Nat.lt_succ_self _ | omega⟩
        · rw [hc3]
          cbv
          cases h1
          cases exitI hi2
          try dsimp only at h0
          rcases condS h0 with ⟨hc4, h0⟩ | ⟨hc4, h0⟩
          · rw [hc4]
            cbv
            cases h0
            refine fin_nil hX .i2 2 rfl ?_
            cbv
            exact fin_ok hX rfl ⟨[2], _, _, ⟨rfl, rfl⟩, rfl, rfl, rfl, rfl, by cbv; try simp⟩
          · rw [hc4]
            cbv
            obtain ⟨x134, h1, h0⟩ := bindS h0
            rcases condS h1 with ⟨hc5, h1⟩ | ⟨hc5, h1⟩
            · rw [hc5]
              cbv
              cases h1
              try dsimp only at h0
              replace h0 := condT h0 rfl
              cases h0
              refine fin_nil hX .i2 2 rfl ?_
              cbv
              exact fin_ok hX rfl ⟨[2], _, _, ⟨rfl, rfl⟩, rfl, rfl, rfl, rfl, by cbv; try simp⟩
            · rw [hc5]
              cbv
              cases h1
              try dsimp only at h0
              rcases condS h0 with ⟨hc6, h0⟩ | ⟨hc6, h0⟩
              · rw [hc6]
                cbv
                cases h0
                refine fin_nil hX .i2 2 rfl ?_
                cbv
                exact fin_ok hX rfl ⟨[2], _, _, ⟨rfl, rfl⟩, rfl, rfl, rfl, rfl, by cbv; try simp⟩
              · rw [hc6]
                cbv
                obtain ⟨l66, hi, h0⟩ := bindS h0
                obtain ⟨I3, hI3, hi⟩ := loopS hi
                refine loop1 tab_holds eqs_holds mixed [] hO hX I3 (fun y => [(9, .c (.sl 2)), (10, .c (.int .i64 y.2.1)), (11, .c (.int .i64 y.2.2.1))]) (fun y => [(2, .own 49 .i2 y.2.2.2)]) (fun y => y.1) _ (by kernel_rfl) hi (by cbv; try simp) ?_
                rintro ⟨n3, at2, i19, l65⟩ hi
                cbv
                rw [hI3] at hi
                obtain ⟨n3, rfl, x3, h1, hi3⟩ := iterS hi
                unfold m_ref16_Custom_L3 at h1
                try dsimp only at h1
                rcases condS h1 with ⟨hc7, h1⟩ | ⟨hc7, h1⟩
                · rw [hc7]
                  cbv
                  obtain ⟨hg8, h1⟩ := grdS h1
                  refine ⟨idx_of hO hg8, ?_⟩
                  obtain ⟨hg9, h1⟩ := grdS h1
                  refine ⟨kin_of hO hg9, ?_⟩
                  obtain ⟨hg10, h1⟩ := grdS h1
                  refine ⟨inr_of hO hg10, ?_⟩
                  obtain ⟨hg11, h1⟩ := grdS h1
                  refine ⟨room_of hO hg11, ?_⟩
                  obtain ⟨hg12, h1⟩ := grdS h1
                  refine ⟨room_of hO hg12, ?_⟩
                  refine ⟨idx_of hO hg8, ?_⟩
                  refine ⟨kin_of hO hg9, ?_⟩
                  refine ⟨inr_of hO hg10, ?_⟩
                  obtain ⟨hg13, h1⟩ := grdS h1
                  refine ⟨inr_of hO hg13, ?_⟩
                  cases h1
                  exact ⟨_, [0, 1, 4], nextI hI3 hi3, by cbv; try simp, by first | exact Nat.lt_succ_self _ | omega⟩
                · rw [hc7]
                  cbv
                  cases h1
                  cases exitI hi3
                  try dsimp only at h0
                  obtain ⟨⟨n139, n140, l67, n141⟩, hv, h0⟩ := bindS h0
                  try dsimp only at h0
                  refine call_go hO hX (fn_ref16_Make hO hv) (by kernel_rfl) [2] rfl ⟨rfl, rfl, trivial⟩ rfl ?_
                  rintro _ _ ⟨rfl, rfl⟩
                  cbv
                  cases h0
                  exact fin_ok hX rfl ⟨[3], _, _, ⟨rfl, rfl⟩, rfl, rfl, rfl, rfl, by cbv; try simp⟩
end Go.Proofs.Ytoklfjkanipjkaa
