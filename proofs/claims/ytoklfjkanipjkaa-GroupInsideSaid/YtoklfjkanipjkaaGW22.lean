/-
  The code does what its models say (printed by lift.py).
-/
import Derived.Test.YtoklfjkanipjkaaGM
import Derived.Test.YtoklfjkanipjkaaManW
import Derived.Test.YtoklfjkanipjkaaGW1
import Derived.Test.YtoklfjkanipjkaaGW8
import Derived.Test.YtoklfjkanipjkaaGW20
import Derived.Test.YtoklfjkanipjkaaGW21
namespace Go.Proofs.Ytoklfjkanipjkaa
open Go.RowKit
set_option maxRecDepth 100000

set_option maxHeartbeats 4000000 in
theorem fn_group_Inside {O0 : Ops} (hO0 : O0 = std) {c_1 : Int} {c_2 : Int} {in_1 : Int} {in_2 : Int} {m_1 : Int} {c_3 : List (Int × Int)} {in_3 : List (Int × Int)} {r1 : Int} {r2 : Int} {r3 : List (Int × Int)} {r4 : Int} (h : m_group_Inside O0 c_1 c_2 in_1 in_2 m_1 c_3 in_3 = some (r1, r2, r3, r4)) :
    Fn Try.prog 33 [.agg [.int .i64 c_1, .int .i64 c_2, .sl 0], .agg [.int .i64 in_1, .int .i64 in_2, .sl 1], .c (.int .i64 m_1)] [.arr false .i2 c_3, .arr false .i2 in_3] (fun v c => v = .tup [.many [.int .i64 r1, .int .i64 r2, .sl 2], .one (.int .i64 r4)] ∧ c = [.arr true .i2 r3]) := by
  refine fn_run tab_holds eqs_holds mixed [(6, (.seg 1 [0, 1, 2, 3, 4, 5, 6, 7, 8] .fin), []), (7, (.seg 1 [0, 1, 2, 3, 4, 5, 6, 7, 8, 9, 10, 11, 12] .fin), [])] Try.func33 (by kernel_rfl) (by kernel_rfl) (Nat.le_of_ble_eq_true rfl) ?_
  intro O X hO hX
  rw [hO0, ← hO] at h
  unfold m_group_Inside at h
  have h0 := h; clear h
  cbv
  obtain ⟨x175, h1, h0⟩ := bindS h0
  obtain ⟨b80, hv, h1⟩ := bindS h1
  refine call_go hO hX (fn_granule_Valid hO hv) (by kernel_rfl) [0] rfl ⟨rfl, rfl, trivial⟩ rfl ?_
  rintro _ _ ⟨rfl, rfl⟩
  cbv
  rcases condS h1 with ⟨hc0, h1⟩ | ⟨hc0, h1⟩
  · rw [hc0]
    cbv
    cases h1
    try dsimp only at h0
    replace h0 := condT h0 rfl
    cases h0
    refine fin_nil hX .i2 6 rfl ?_
    cbv
    exact fin_ok hX rfl ⟨[6], _, _, ⟨rfl, rfl⟩, rfl, rfl, rfl, rfl, by cbv; try simp⟩
  · rw [hc0]
    cbv
    obtain ⟨b81, hv, h1⟩ := bindS h1
    refine call_go hO hX (fn_granule_Valid hO hv) (by kernel_rfl) [1] rfl ⟨rfl, rfl, trivial⟩ rfl ?_
    rintro _ _ ⟨rfl, rfl⟩
    cbv
    rcases condS h1 with ⟨hc1, h1⟩ | ⟨hc1, h1⟩
    · rw [hc1]
      cbv
      cases h1
      try dsimp only at h0
      replace h0 := condT h0 rfl
      cases h0
      refine fin_nil hX .i2 6 rfl ?_
      cbv
      exact fin_ok hX rfl ⟨[6], _, _, ⟨rfl, rfl⟩, rfl, rfl, rfl, rfl, by cbv; try simp⟩
    · rw [hc1]
      cbv
      cases h1
      try dsimp only at h0
      rcases condS h0 with ⟨hc2, h0⟩ | ⟨hc2, h0⟩
      · rw [hc2]
        cbv
        cases h0
        refine fin_nil hX .i2 6 rfl ?_
        cbv
        exact fin_ok hX rfl ⟨[6], _, _, ⟨rfl, rfl⟩, rfl, rfl, rfl, rfl, by cbv; try simp⟩
      · rw [hc2]
        cbv
        obtain ⟨⟨n237, n238⟩, hv, h0⟩ := bindS h0
        try dsimp only at h0
        refine call_go hO hX (fn_group_common hO hv) (by kernel_rfl) [] rfl trivial rfl ?_
        rintro _ _ ⟨rfl, rfl⟩
        cbv
        rcases condS h0 with ⟨hc3, h0⟩ | ⟨hc3, h0⟩
        · rw [hc3]
          cbv
          cases h0
          refine fin_nil hX .i2 6 rfl ?_
          cbv
          exact fin_ok hX rfl ⟨[6], _, _, ⟨rfl, rfl⟩, rfl, rfl, rfl, rfl, by cbv; try simp⟩
        · rw [hc3]
          cbv
          obtain ⟨hg4, h0⟩ := grdS h0
          refine ⟨nz_of hO hg4, ?_⟩
          obtain ⟨hg5, h0⟩ := grdS h0
          refine ⟨inr_of hO hg5, ?_⟩
          obtain ⟨hg6, h0⟩ := grdS h0
          refine ⟨inr_of hO hg6, ?_⟩
          obtain ⟨x181, h1, h0⟩ := bindS h0
          rcases condS h1 with ⟨hc7, h1⟩ | ⟨hc7, h1⟩
          · rw [hc7]
            cbv
            cases h1
            try dsimp only at h0
            replace h0 := condT h0 rfl
            cases h0
            refine fin_nil hX .i2 6 rfl ?_
            cbv
            exact fin_ok hX rfl ⟨[6], _, _, ⟨rfl, rfl⟩, rfl, rfl, rfl, rfl, by cbv; try simp⟩
          · rw [hc7]
            cbv
            obtain ⟨hg8, h1⟩ := grdS h1
            refine ⟨nz_of hO hg8, ?_⟩
            obtain ⟨hg9, h1⟩ := grdS h1
            refine ⟨inr_of hO hg9, ?_⟩
            obtain ⟨hg10, h1⟩ := grdS h1
            refine ⟨inr_of hO hg10, ?_⟩
            cases h1
            try dsimp only at h0
            rcases condS h0 with ⟨hc11, h0⟩ | ⟨hc11, h0⟩
            · rw [hc11]
              cbv
              cases h0
              refine fin_nil hX .i2 6 rfl ?_
              cbv
              exact fin_ok hX rfl ⟨[6], _, _, ⟨rfl, rfl⟩, rfl, rfl, rfl, rfl, by cbv; try simp⟩
            · rw [hc11]
              cbv
              obtain ⟨⟨n258, n259, l105, n260⟩, hv, h0⟩ := bindS h0
              try dsimp only at h0
              refine call_go hO hX (fn_group_collect_5 hO hv) (by kernel_rfl) [3, 2, 4, 1, 0] rfl ⟨rfl, rfl, rfl, rfl, rfl, rfl, rfl, rfl, rfl, rfl, trivial⟩ rfl ?_
              rintro _ _ ⟨rfl, rfl⟩
              cbv
              cases h0
              exact fin_ok hX rfl ⟨[6], _, _, ⟨rfl, rfl⟩, rfl, rfl, rfl, rfl, by cbv; try simp⟩
set_option maxHeartbeats 4000000 in
theorem fn_law16_few {O0 : Ops} (hO0 : O0 = std) {a_1 : Int} {a_2 : Int} {b_1 : Int} {b_2 : Int} {a_3 : List (Int × Int)} {b_3 : List (Int × Int)} {r1 : Bool} (h : m_law16_few O0 a_1 a_2 b_1 b_2 a_3 b_3 = some r1) :
    Fn Try.prog 34 [.agg [.int .i64 a_1, .int .i64 a_2, .sl 0], .agg [.int .i64 b_1, .int .i64 b_2, .sl 1]] [.arr false .i2 a_3, .arr false .i2 b_3] (fun v c => v = .c (.bool r1) ∧ c = []) := by
  refine fn_run tab_holds eqs_holds mixed [(1, (.seg 1 [0, 1, 2, 3, 4, 5] .fin), []), (3, (.seg 1 [0, 1, 2, 3, 4, 5] .fin), []), (4, (.seg 1 [0, 1, 2, 3, 4, 5, 6, 7] .fin), []), (6, (.seg 1 [0, 1, 2, 3, 4, 5, 6, 7, 8, 9, 10, 11, 12, 13, 14, 15, 16, 17] .fin), [])] Try.func34 (by kernel_rfl) (by kernel_rfl) (Nat.le_of_ble_eq_true rfl) ?_
  intro O X hO hX
  rw [hO0, ← hO] at h
  unfold m_law16_few at h
  have h0 := h; clear h
  cbv
  obtain ⟨g2, hi, h0⟩ := bindS h0
  obtain ⟨I1, hI1, hi⟩ := loopS hi
  refine loop1 tab_holds eqs_holds mixed [(1, (.seg 1 [0, 1, 2, 3, 4, 5] .fin), []), (3, (.seg 1 [0, 1, 2, 3, 4, 5] .fin), []), (4, (.seg 1 [0, 1, 2, 3, 4, 5, 6, 7] .fin), []), (6, (.seg 1 [0, 1, 2, 3, 4, 5, 6, 7, 8, 9, 10, 11, 12, 13, 14, 15, 16, 17] .fin), [])] hO hX I1 (fun y => [(9, .junk), (11, .junk), (5, .c (.int .i64 y.2.1)), (6, .c (.int .i64 y.2.2))]) (fun _ => []) (fun y => y.1) _ (by kernel_rfl) hi (by cbv; try simp) ?_
  rintro ⟨n1, g1, h1⟩ hi
  cbv
  rw [hI1] at hi
  obtain ⟨n1, rfl, x1, h1, hi1⟩ := iterS hi
  unfold m_law16_few_L1 at h1
  try dsimp only at h1
  rcases condS h1 with ⟨hc0, h1⟩ | ⟨hc0, h1⟩
  · rw [hc0]
    cbv
    obtain ⟨hg1, h1⟩ := grdS h1
    refine ⟨nz_of hO hg1, ?_⟩
    cases h1
    exact ⟨_, [0, 1, 2, 3], nextI hI1 hi1, by cbv; try simp, by first | exact Nat.lt_succ_self _ | omega⟩
  · rw [hc0]
    cbv
    cases h1
    cases exitI hi1
    try dsimp only at h0
    obtain ⟨hg1, h0⟩ := grdS h0
    refine ⟨nz_of hO hg1, ?_⟩
    obtain ⟨hg2, h0⟩ := grdS h0
    refine ⟨inr_of hO hg2, ?_⟩
    obtain ⟨hg3, h0⟩ := grdS h0
    refine ⟨nz_of hO hg3, ?_⟩
    obtain ⟨hg4, h0⟩ := grdS h0
    refine ⟨inr_of hO hg4, ?_⟩
    rcases condS h0 with ⟨hc5, h0⟩ | ⟨hc5, h0⟩
    · rw [hc5]
      cbv
      cases h0
      exact fin_ok hX rfl ⟨[], _, _, ⟨rfl, rfl⟩, rfl, rfl, rfl, rfl, by cbv; try simp⟩
    · rw [hc5]
      cbv
      refine ⟨nz_of hO hg1, ?_⟩
      obtain ⟨hg6, h0⟩ := grdS h0
      refine ⟨inr_of hO hg6, ?_⟩
      obtain ⟨hg7, h0⟩ := grdS h0
      refine ⟨inr_of hO hg7, ?_⟩
      refine ⟨nz_of hO hg1, ?_⟩
      refine ⟨inr_of hO hg2, ?_⟩
      obtain ⟨hg8, h0⟩ := grdS h0
      refine ⟨inr_of hO hg8, ?_⟩
      obtain ⟨x197, h1, h0⟩ := bindS h0
      rcases condS h1 with ⟨hc9, h1⟩ | ⟨hc9, h1⟩
      · rw [hc9]
        cbv
        rcases condS h1 with ⟨hc10, h1⟩ | ⟨hc10, h1⟩
        · rw [hc10]
          cbv
          cases h1
          try dsimp only at h0
          cases h0
          exact fin_ok hX rfl ⟨[], _, _, ⟨rfl, rfl⟩, rfl, rfl, rfl, rfl, by cbv; try simp⟩
        · rw [hc10]
          cbv
          rcases condS h1 with ⟨hc11, h1⟩ | ⟨hc11, h1⟩
          · rw [hc11]
            cbv
            cases h1
            try dsimp only at h0
            cases h0
            exact fin_ok hX rfl ⟨[], _, _, ⟨rfl, rfl⟩, rfl, rfl, rfl, rfl, by cbv; try simp⟩
          · rw [hc11]
            cbv
            cases h1
            try dsimp only at h0
            cases h0
            exact fin_ok hX rfl ⟨[], _, _, ⟨rfl, rfl⟩, rfl, rfl, rfl, rfl, by cbv; try simp⟩
      · rw [hc9]
        cbv
        rcases condS h1 with ⟨hc10, h1⟩ | ⟨hc10, h1⟩
        · rw [hc10]
          cbv
          cases h1
          try dsimp only at h0
          cases h0
          exact fin_ok hX rfl ⟨[], _, _, ⟨rfl, rfl⟩, rfl, rfl, rfl, rfl, by cbv; try simp⟩
        · rw [hc10]
          cbv
          cases h1
          try dsimp only at h0
          cases h0
          exact fin_ok hX rfl ⟨[], _, _, ⟨rfl, rfl⟩, rfl, rfl, rfl, rfl, by cbv; try simp⟩
set_option maxHeartbeats 4000000 in
theorem fn_ref16_common {O0 : Ops} (hO0 : O0 = std) {a_1 : Int} {b_1 : Int} {r1 : Int} {r2 : Int} (h : m_ref16_common O0 a_1 b_1 = some (r1, r2)) :
    Fn Try.prog 73 [.c (.int .i64 a_1), .c (.int .i64 b_1)] [] (fun v c => v = .tup [.one (.int .i64 r1), .one (.int .i64 r2)] ∧ c = []) := by
  refine fn_run tab_holds eqs_holds mixed [] Try.func73 (by kernel_rfl) (by kernel_rfl) (Nat.le_of_ble_eq_true rfl) ?_
  intro O X hO hX
  rw [hO0, ← hO] at h
  unfold m_ref16_common at h
  have h0 := h; clear h
  cbv
  obtain ⟨n267, hv, h0⟩ := bindS h0
  refine call_go hO hX (fn_ref01_Gcd hO hv) (by kernel_rfl) [] rfl trivial rfl ?_
  rintro _ _ ⟨rfl, rfl⟩
  cbv
  obtain ⟨hg0, h0⟩ := grdS h0
  refine ⟨nz_of hO hg0, ?_⟩
  obtain ⟨hg1, h0⟩ := grdS h0
  refine ⟨inr_of hO hg1, ?_⟩
  obtain ⟨hg2, h0⟩ := grdS h0
  refine ⟨nz_of hO hg2, ?_⟩
  obtain ⟨hg3, h0⟩ := grdS h0
  refine ⟨inr_of hO hg3, ?_⟩
  rcases condS h0 with ⟨hc4, h0⟩ | ⟨hc4, h0⟩
  · rw [hc4]
    cbv
    cases h0
    exact fin_ok hX rfl ⟨[], _, _, ⟨rfl, rfl⟩, rfl, rfl, rfl, rfl, by cbv; try simp⟩
  · rw [hc4]
    cbv
    obtain ⟨hg5, h0⟩ := grdS h0
    refine ⟨inr_of hO hg5, ?_⟩
    cases h0
    exact fin_ok hX rfl ⟨[], _, _, ⟨rfl, rfl⟩, rfl, rfl, rfl, rfl, by cbv; try simp⟩
set_option maxHeartbeats 4000000 in
theorem fn_ref16_within {O0 : Ops} (hO0 : O0 = std) {c_1 : Int} {c_2 : Int} {s_1 : Int} {s_2 : Int} {c_3 : List (Int × Int)} {r1 : List (Int × Int)} (h : m_ref16_within O0 c_1 c_2 s_1 s_2 c_3 = some r1) :
    Fn Try.prog 74 [.agg [.int .i64 c_1, .int .i64 c_2, .sl 0], .agg [.int .i64 s_1, .int .i64 s_2]] [.arr false .i2 c_3] (fun v c => v = .c (.sl 1) ∧ c = [.own 49 .i2 r1]) := by
  refine fn_run tab_holds eqs_holds mixed [(1, (.seg 1 [0, 1, 2, 3, 4, 5, 6, 7, 8, 9] (.seg 2 [10] (.seg 1 [11, 12, 13] .fin))), []), (3, (.seg 1 [0, 1, 4, 5] (.seg 2 [2] (.seg 1 [3, 6] .fin))), [])] Try.func74 (by kernel_rfl) (by kernel_rfl) (Nat.le_of_ble_eq_true rfl) ?_
  intro O X hO hX
  rw [hO0, ← hO] at h
  unfold m_ref16_within at h
  have h0 := h; clear h
  cbv
  obtain ⟨hg0, h0⟩ := grdS h0
  refine ⟨inr_of hO hg0, ?_⟩
  obtain ⟨n272, hv, h0⟩ := bindS h0
  refine call_go hO hX (fn_ref01_Floor hO hv) (by kernel_rfl) [] rfl trivial rfl ?_
  rintro _ _ ⟨rfl, rfl⟩
  cbv
  obtain ⟨hg1, h0⟩ := grdS h0
  refine ⟨inr_of hO hg1, ?_⟩
  obtain ⟨hg2, h0⟩ := grdS h0
  refine ⟨inr_of hO hg2, ?_⟩
  obtain ⟨l113, hi, h0⟩ := bindS h0
  obtain ⟨I1, hI1, hi⟩ := loopS hi
  refine loop1 tab_holds eqs_holds mixed [(1, (.seg 1 [0, 1, 2, 3, 4, 5, 6, 7, 8, 9] (.seg 2 [10] (.seg 1 [11, 12, 13] .fin))), []), (3, (.seg 1 [0, 1, 4, 5] (.seg 2 [2] (.seg 1 [3, 6] .fin))), [])] hO hX I1 (fun y => [(4, .junk), (8, .junk), (11, .junk), (13, .junk), (16, .junk), (5, .c (.int .i64 y.2.1)), (6, .c (.sl 4))]) (fun y => [(4, .own 49 .i2 y.2.2)]) (fun y => y.1) _ (by kernel_rfl) hi (by cbv; try simp) ?_
  rintro ⟨n1, k7, l110⟩ hi
  cbv
  rw [hI1] at hi
  obtain ⟨n1, rfl, x1, h1, hi1⟩ := iterS hi
  unfold m_ref16_within_L1 at h1
  try dsimp only at h1
  obtain ⟨⟨n277, n278⟩, hv, h1⟩ := bindS h1
  try dsimp only at h1
  refine call_go hO hX (fn_ref16_Granule hO hv) (by kernel_rfl) [0] rfl ⟨rfl, rfl, trivial⟩ rfl ?_
  rintro _ _ ⟨rfl, rfl⟩
  cbv
  rcases condS h1 with ⟨hc3, h1⟩ | ⟨hc3, h1⟩
  · rw [hc3]
    cbv
    obtain ⟨⟨n279, n280⟩, hv, h1⟩ := bindS h1
    try dsimp only at h1
    refine call_go hO hX (fn_ref16_Granule hO hv) (by kernel_rfl) [0] rfl ⟨rfl, rfl, trivial⟩ rfl ?_
    rintro _ _ ⟨rfl, rfl⟩
    cbv
    obtain ⟨x203, h2, h1⟩ := bindS h1
    rcases condS h2 with ⟨hc4, h2⟩ | ⟨hc4, h2⟩
    · rw [hc4]
      cbv
      cases h2
      try dsimp only at h1
      obtain ⟨l112, h2, h1⟩ := bindS h1
      rcases condS h2 with ⟨hc5, h2⟩ | ⟨hc5, h2⟩
      · rw [hc5]
        cbv
        obtain ⟨hg6, h2⟩ := grdS h2
        refine ⟨room_of hO hg6, ?_⟩
        obtain ⟨hg7, h2⟩ := grdS h2
        refine ⟨room_of hO hg7, ?_⟩
        cases h2
        try dsimp only at h1
        obtain ⟨hg8, h1⟩ := grdS h1
        refine ⟨inr_of hO hg8, ?_⟩
        cases h1
        exact ⟨_, [0, 1, 2, 3, 7], nextI hI1 hi1, by cbv; try simp, by first | exact Nat.lt_succ_self _ | omega⟩
      · rw [hc5]
        cbv
        cases h2
        try dsimp only at h1
        obtain ⟨hg6, h1⟩ := grdS h1
        refine ⟨inr_of hO hg6, ?_⟩
        cases h1
        exact ⟨_, [0, 1, 2, 3, 4], nextI hI1 hi1, by cbv; try simp, by first | exact Nat.lt_succ_self _ | omega⟩
    · rw [hc4]
      cbv
      cases h2
      try dsimp only at h1
      obtain ⟨l112, h2, h1⟩ := bindS h1
      replace h2 := condF h2 rfl
      cases h2
      try dsimp only at h1
      obtain ⟨hg5, h1⟩ := grdS h1
      refine ⟨inr_of hO hg5, ?_⟩
      cases h1
      exact ⟨_, [0, 1, 2, 3, 4], nextI hI1 hi1, by cbv; try simp, by first | exact Nat.lt_succ_self _ | omega⟩
  · rw [hc3]
    cbv
    cases h1
    cases exitI hi1
    try dsimp only at h0
    cases h0
    exact fin_ok hX rfl ⟨[4], _, _, ⟨rfl, rfl⟩, rfl, rfl, rfl, rfl, by cbv; try simp⟩
end Go.Proofs.Ytoklfjkanipjkaa
