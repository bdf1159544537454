/-
  The code does what its models say (printed by lift.py).
-/
import Derived.Test.YtoklfjkanipjkaaGM
import Derived.Test.YtoklfjkanipjkaaManW
import Derived.Test.YtoklfjkanipjkaaSrtW
import Derived.Test.YtoklfjkanipjkaaGW0
import Derived.Test.YtoklfjkanipjkaaGW1
import Derived.Test.YtoklfjkanipjkaaGW2
import Derived.Test.YtoklfjkanipjkaaGW5
namespace Go.Proofs.Ytoklfjkanipjkaa
open Go.RowKit
set_option maxRecDepth 100000

set_option maxHeartbeats 4000000 in
theorem fn_group_Inside {O0 : Ops} (hO0 : O0 = std) {c_1 : Int} {c_2 : Int} {in_1 : Int} {in_2 : Int} {m_1 : Int} {c_3 : List (Int × Int)} {in_3 : List (Int × Int)} {r1 : Int} {r2 : Int} {r3 : List (Int × Int)} {r4 : Int} (h : m_group_Inside O0 c_1 c_2 in_1 in_2 m_1 c_3 in_3 = some (r1, r2, r3, r4)) :
    Fn Try.prog 33 [.agg [.int .i64 c_1, .int .i64 c_2, .sl 0], .agg [.int .i64 in_1, .int .i64 in_2, .sl 1], .c (.int .i64 m_1)] [.arr false .i2 c_3, .arr false .i2 in_3] (fun v c => v = .tup [.many [.int .i64 r1, .int .i64 r2, .sl 2], .one (.int .i64 r4)] ∧ c = [.arr true .i2 r3]) := by
  refine fn_run tab_holds eqs_holds mixed [(6, (.seg 1 [0, 1, 2, 3, 4, 5, 6, 7, 8] .fin), []), (7, (.seg 1 [0, 1, 2, 3, 4, 5, 6, 7, 8, 9, 10, 11, 12] .fin), [])] Try.func33 (by kernel_rfl) (by kernel_rfl) (Nat.le_of_ble_eq_true rfl) ?_
  intro O X hO hX
  rw [hO0, ← hO] at h
  unfold m_group_Inside at h
  have h0 := h; clear h
  cbv
  obtain ⟨x175, h1, h0⟩ := bindS h0
  obtain ⟨b80, hv, h1⟩ := bindS h1
  refine call_go hO hX (fn_granule_Valid hO hv) (by kernel_rfl) [0] rfl ⟨rfl, rfl, trivial⟩ rfl ?_
  rintro _ _ ⟨rfl, rfl⟩
  cbv
  rcases condS h1 with ⟨hc0, h1⟩ | ⟨hc0, h1⟩
  · rw [hc0]
    cbv
    cases h1
    try dsimp only at h0
    replace h0 := condT h0 rfl
    cases h0
    refine fin_nil hX .i2 6 rfl ?_
    cbv
    exact fin_ok hX rfl ⟨[6], _, _, ⟨rfl, rfl⟩, rfl, rfl, rfl, rfl, by cbv; try simp⟩
  · as_aux_lemma =>
    rw [hc0]
    cbv
    obtain ⟨b81, hv, h1⟩ := bindS h1
    refine call_go hO hX (fn_granule_Valid hO hv) (by kernel_rfl) [1] rfl ⟨rfl, rfl, trivial⟩ rfl ?_
    rintro _ _ ⟨rfl, rfl⟩
    cbv
    rcases condS h1 with ⟨hc1, h1⟩ | ⟨hc1, h1⟩
    · rw [hc1]
      cbv
      cases h1
      try dsimp only at h0
      replace h0 := condT h0 rfl
      cases h0
      refine fin_nil hX .i2 6 rfl ?_
      cbv
      exact fin_ok hX rfl ⟨[6], _, _, ⟨rfl, rfl⟩, rfl, rfl, rfl, rfl, by cbv; try simp⟩
    · as_aux_lemma =>
      rw [hc1]
      cbv
      cases h1
      try dsimp only at h0
      rcases condS h0 with ⟨hc2, h0⟩ | ⟨hc2, h0⟩
      · rw [hc2]
        cbv
        cases h0
        refine fin_nil hX .i2 6 rfl ?_
        cbv
        exact fin_ok hX rfl ⟨[6], _, _, ⟨rfl, rfl⟩, rfl, rfl, rfl, rfl, by cbv; try simp⟩
      · as_aux_lemma =>
        rw [hc2]
        cbv
        obtain ⟨⟨n237, n238⟩, hv, h0⟩ := bindS h0
        try dsimp only at h0
        refine call_go hO hX (fn_group_common hO hv) (by kernel_rfl) [] rfl trivial rfl ?_
        rintro _ _ ⟨rfl, rfl⟩
        cbv
        rcases condS h0 with ⟨hc3, h0⟩ | ⟨hc3, h0⟩
        · rw [hc3]
          cbv
          cases h0
          refine fin_nil hX .i2 6 rfl ?_
          cbv
          exact fin_ok hX rfl ⟨[6], _, _, ⟨rfl, rfl⟩, rfl, rfl, rfl, rfl, by cbv; try simp⟩
        · as_aux_lemma =>
          rw [hc3]
          cbv
          obtain ⟨hg4, h0⟩ := grdS h0
          refine ⟨nz_of hO hg4, ?_⟩
          obtain ⟨hg5, h0⟩ := grdS h0
          refine ⟨inr_of hO hg5, ?_⟩
          obtain ⟨hg6, h0⟩ := grdS h0
          refine ⟨inr_of hO hg6, ?_⟩
          obtain ⟨x181, h1, h0⟩ := bindS h0
          rcases condS h1 with ⟨hc7, h1⟩ | ⟨hc7, h1⟩
          · rw [hc7]
            cbv
            cases h1
            try dsimp only at h0
            replace h0 := condT h0 rfl
            cases h0
            refine fin_nil hX .i2 6 rfl ?_
            cbv
            exact fin_ok hX rfl ⟨[6], _, _, ⟨rfl, rfl⟩, rfl, rfl, rfl, rfl, by cbv; try simp⟩
          · rw [hc7]
            cbv
            obtain ⟨hg8, h1⟩ := grdS h1
            refine ⟨nz_of hO hg8, ?_⟩
            obtain ⟨hg9, h1⟩ := grdS h1
            refine ⟨inr_of hO hg9, ?_⟩
            obtain ⟨hg10, h1⟩ := grdS h1
            refine ⟨inr_of hO hg10, ?_⟩
            cases h1
            try dsimp only at h0
            rcases condS h0 with ⟨hc11, h0⟩ | ⟨hc11, h0⟩
            · rw [hc11]
              cbv
              cases h0
              refine fin_nil hX .i2 6 rfl ?_
              cbv
              exact fin_ok hX rfl ⟨[6], _, _, ⟨rfl, rfl⟩, rfl, rfl, rfl, rfl, by cbv; try simp⟩
            · rw [hc11]
              cbv
              obtain ⟨⟨n258, n259, l105, n260⟩, hv, h0⟩ := bindS h0
              try dsimp only at h0
              refine call_go hO hX (fn_group_collect_5 hO hv) (by kernel_rfl) [3, 2, 4, 1, 0] rfl ⟨rfl, rfl, rfl, rfl, rfl, rfl, rfl, rfl, rfl, rfl, trivial⟩ rfl ?_
              rintro _ _ ⟨rfl, rfl⟩
              cbv
              cases h0
              exact fin_ok hX rfl ⟨[6], _, _, ⟨rfl, rfl⟩, rfl, rfl, rfl, rfl, by cbv; try simp⟩
set_option maxHeartbeats 4000000 in
theorem fn_law16_few {O0 : Ops} (hO0 : O0 = std) {a_1 : Int} {a_2 : Int} {b_1 : Int} {b_2 : Int} {a_3 : List (Int × Int)} {b_3 : List (Int × Int)} {r1 : Bool} (h : m_law16_few O0 a_1 a_2 b_1 b_2 a_3 b_3 = some r1) :
    Fn Try.prog 34 [.agg [.int .i64 a_1, .int .i64 a_2, .sl 0], .agg [.int .i64 b_1, .int .i64 b_2, .sl 1]] [.arr false .i2 a_3, .arr false .i2 b_3] (fun v c => v = .c (.bool r1) ∧ c = []) := by
  refine fn_run tab_holds eqs_holds mixed [(1, (.seg 1 [0, 1, 2, 3, 4, 5] .fin), []), (3, (.seg 1 [0, 1, 2, 3, 4, 5] .fin), []), (4, (.seg 1 [0, 1, 2, 3, 4, 5, 6, 7] .fin), []), (6, (.seg 1 [0, 1, 2, 3, 4, 5, 6, 7, 8, 9, 10, 11, 12, 13, 14, 15, 16, 17] .fin), [])] Try.func34 (by kernel_rfl) (by kernel_rfl) (Nat.le_of_ble_eq_true rfl) ?_
  intro O X hO hX
  rw [hO0, ← hO] at h
  unfold m_law16_few at h
  have h0 := h; clear h
  cbv
  obtain ⟨g2, hi, h0⟩ := bindS h0
  obtain ⟨I1, hI1, hi⟩ := loopS hi
  refine loop1 tab_holds eqs_holds mixed [(1, (.seg 1 [0, 1, 2, 3, 4, 5] .fin), []), (3, (.seg 1 [0, 1, 2, 3, 4, 5] .fin), []), (4, (.seg 1 [0, 1, 2, 3, 4, 5, 6, 7] .fin), []), (6, (.seg 1 [0, 1, 2, 3, 4, 5, 6, 7, 8, 9, 10, 11, 12, 13, 14, 15, 16, 17] .fin), [])] hO hX I1 (fun y => [(9, .junk), (11, .junk), (5, .c (.int .i64 y.2.1)), (6, .c (.int .i64 y.2.2))]) (fun _ => []) (fun y => y.1) _ (by kernel_rfl) hi (by cbv; try simp) ?_
  rintro ⟨n1, g1, h1⟩ hi
  cbv
  rw [hI1] at hi
  obtain ⟨n1, rfl, x1, h1, hi1⟩ := iterS hi
  unfold m_law16_few_L1 at h1
  try dsimp only at h1
  rcases condS h1 with ⟨hc0, h1⟩ | ⟨hc0, h1⟩
  · rw [hc0]
    cbv
    obtain ⟨hg1, h1⟩ := grdS h1
    refine ⟨nz_of hO hg1, ?_⟩
    cases h1
    exact ⟨_, [0, 1, 2, 3], nextI hI1 hi1, by cbv; try simp, by first | exact Nat.lt_succ_self _ | omega⟩
  · as_aux_lemma =>
    rw [hc0]
    cbv
    cases h1
    cases exitI hi1
    try dsimp only at h0
    obtain ⟨hg1, h0⟩ := grdS h0
    refine ⟨nz_of hO hg1, ?_⟩
    obtain ⟨hg2, h0⟩ := grdS h0
    refine ⟨inr_of hO hg2, ?_⟩
    obtain ⟨hg3, h0⟩ := grdS h0
    refine ⟨nz_of hO hg3, ?_⟩
    obtain ⟨hg4, h0⟩ := grdS h0
    refine ⟨inr_of hO hg4, ?_⟩
    rcases condS h0 with ⟨hc5, h0⟩ | ⟨hc5, h0⟩
    · rw [hc5]
      cbv
      cases h0
      exact fin_ok hX rfl ⟨[], _, _, ⟨rfl, rfl⟩, rfl, rfl, rfl, rfl, by cbv; try simp⟩
    · as_aux_lemma =>
      rw [hc5]
      cbv
      refine ⟨nz_of hO hg1, ?_⟩
      obtain ⟨hg6, h0⟩ := grdS h0
      refine ⟨inr_of hO hg6, ?_⟩
      obtain ⟨hg7, h0⟩ := grdS h0
      refine ⟨inr_of hO hg7, ?_⟩
      refine ⟨nz_of hO hg1, ?_⟩
      refine ⟨inr_of hO hg2, ?_⟩
      obtain ⟨hg8, h0⟩ := grdS h0
      refine ⟨inr_of hO hg8, ?_⟩
      obtain ⟨x197, h1, h0⟩ := bindS h0
      rcases condS h1 with ⟨hc9, h1⟩ | ⟨hc9, h1⟩
      · rw [hc9]
        cbv
        rcases condS h1 with ⟨hc10, h1⟩ | ⟨hc10, h1⟩
        · rw [hc10]
          cbv
          cases h1
          try dsimp only at h0
          cases h0
          exact fin_ok hX rfl ⟨[], _, _, ⟨rfl, rfl⟩, rfl, rfl, rfl, rfl, by cbv; try simp⟩
        · rw [hc10]
          cbv
          rcases condS h1 with ⟨hc11, h1⟩ | ⟨hc11, h1⟩
          · rw [hc11]
            cbv
            cases h1
            try dsimp only at h0
            cases h0
            exact fin_ok hX rfl ⟨[], _, _, ⟨rfl, rfl⟩, rfl, rfl, rfl, rfl, by cbv; try simp⟩
          · rw [hc11]
            cbv
            cases h1
            try dsimp only at h0
            cases h0
            exact fin_ok hX rfl ⟨[], _, _, ⟨rfl, rfl⟩, rfl, rfl, rfl, rfl, by cbv; try simp⟩
      · rw [hc9]
        cbv
        rcases condS h1 with ⟨hc10, h1⟩ | ⟨hc10, h1⟩
        · rw [hc10]
          cbv
          cases h1
          try dsimp only at h0
          cases h0
          exact fin_ok hX rfl ⟨[], _, _, ⟨rfl, rfl⟩, rfl, rfl, rfl, rfl, by cbv; try simp⟩
        · rw [hc10]
          cbv
          cases h1
          try dsimp only at h0
          cases h0
          exact fin_ok hX rfl ⟨[], _, _, ⟨rfl, rfl⟩, rfl, rfl, rfl, rfl, by cbv; try simp⟩
set_option maxHeartbeats 4000000 in
theorem fn_ref16_common {O0 : Ops} (hO0 : O0 = std) {a_1 : Int} {b_1 : Int} {r1 : Int} {r2 : Int} (h : m_ref16_common O0 a_1 b_1 = some (r1, r2)) :
    Fn Try.prog 73 [.c (.int .i64 a_1), .c (.int .i64 b_1)] [] (fun v c => v = .tup [.one (.int .i64 r1), .one (.int .i64 r2)] ∧ c = []) := by
  refine fn_run tab_holds eqs_holds mixed [] Try.func73 (by kernel_rfl) (by kernel_rfl) (Nat.le_of_ble_eq_true rfl) ?_
  intro O X hO hX
  rw [hO0, ← hO] at h
  unfold m_ref16_common at h
  have h0 := h; clear h
  cbv
  obtain ⟨n267, hv, h0⟩ := bindS h0
  refine call_go hO hX (fn_ref01_Gcd hO hv) (by kernel_rfl) [] rfl trivial rfl ?_
  rintro _ _ ⟨rfl, rfl⟩
  cbv
  obtain ⟨hg0, h0⟩ := grdS h0
  refine ⟨nz_of hO hg0, ?_⟩
  obtain ⟨hg1, h0⟩ := grdS h0
  refine ⟨inr_of hO hg1, ?_⟩
  obtain ⟨hg2, h0⟩ := grdS h0
  refine ⟨nz_of hO hg2, ?_⟩
  obtain ⟨hg3, h0⟩ := grdS h0
  refine ⟨inr_of hO hg3, ?_⟩
  rcases condS h0 with ⟨hc4, h0⟩ | ⟨hc4, h0⟩
  · rw [hc4]
    cbv
    cases h0
    exact fin_ok hX rfl ⟨[], _, _, ⟨rfl, rfl⟩, rfl, rfl, rfl, rfl, by cbv; try simp⟩
  · rw [hc4]
    cbv
    obtain ⟨hg5, h0⟩ := grdS h0
    refine ⟨inr_of hO hg5, ?_⟩
    cases h0
    exact fin_ok hX rfl ⟨[], _, _, ⟨rfl, rfl⟩, rfl, rfl, rfl, rfl, by cbv; try simp⟩
set_option maxHeartbeats 4000000 in
theorem fn_ref16_within {O0 : Ops} (hO0 : O0 = std) {c_1 : Int} {c_2 : Int} {s_1 : Int} {s_2 : Int} {c_3 : List (Int × Int)} {r1 : List (Int × Int)} (h : m_ref16_within O0 c_1 c_2 s_1 s_2 c_3 = some r1) :
    Fn Try.prog 74 [.agg [.int .i64 c_1, .int .i64 c_2, .sl 0], .agg [.int .i64 s_1, .int .i64 s_2]] [.arr false .i2 c_3] (fun v c => v = .c (.sl 1) ∧ c = [.own 49 .i2 r1]) := by
  refine fn_run tab_holds eqs_holds mixed [(1, (.seg 1 [0, 1, 2, 3, 4, 5, 6, 7, 8, 9] (.seg 2 [10] (.seg 1 [11, 12, 13] .fin))), []), (3, (.seg 1 [0, 1, 4, 5] (.seg 2 [2] (.seg 1 [3, 6] .fin))), [])] Try.func74 (by kernel_rfl) (by kernel_rfl) (Nat.le_of_ble_eq_true rfl) ?_
  intro O X hO hX
  rw [hO0, ← hO] at h
  unfold m_ref16_within at h
  have h0 := h; clear h
  cbv
  obtain ⟨hg0, h0⟩ := grdS h0
  refine ⟨inr_of hO hg0, ?_⟩
  obtain ⟨n272, hv, h0⟩ := bindS h0
  refine call_go hO hX (fn_ref01_Floor hO hv) (by kernel_rfl) [] rfl trivial rfl ?_
  rintro _ _ ⟨rfl, rfl⟩
  cbv
  obtain ⟨hg1, h0⟩ := grdS h0
  refine ⟨inr_of hO hg1, ?_⟩
  obtain ⟨hg2, h0⟩ := grdS h0
  refine ⟨inr_of hO hg2, ?_⟩
  obtain ⟨l113, hi, h0⟩ := bindS h0
  obtain ⟨I1, hI1, hi⟩ := loopS hi
  refine loop1 tab_holds eqs_holds mixed [(1, (.seg 1 [0, 1, 2, 3, 4, 5, 6, 7, 8, 9] (.seg 2 [10] (.seg 1 [11, 12, 13] .fin))), []), (3, (.seg 1 [0, 1, 4, 5] (.seg 2 [2] (.seg 1 [3, 6] .fin))), [])] hO hX I1 (fun y => [(4, .junk), (8, .junk), (11, .junk), (13, .junk), (16, .junk), (5, .c (.int .i64 y.2.1)), (6, .c (.sl 4))]) (fun y => [(4, .own 49 .i2 y.2.2)]) (fun y => y.1) _ (by kernel_rfl) hi (by cbv; try simp) ?_
  rintro ⟨n1, k7, l110⟩ hi
  cbv
  rw [hI1] at hi
  obtain ⟨n1, rfl, x1, h1, hi1⟩ := iterS hi
  unfold m_ref16_within_L1 at h1
  try dsimp only at h1
  obtain ⟨⟨n277, n278⟩, hv, h1⟩ := bindS h1
  try dsimp only at h1
  refine call_go hO hX (fn_ref16_Granule hO hv) (by kernel_rfl) [0] rfl ⟨rfl, rfl, trivial⟩ rfl ?_
  rintro _ _ ⟨rfl, rfl⟩
  cbv
  rcases condS h1 with ⟨hc3, h1⟩ | ⟨hc3, h1⟩
  · as_aux_lemma =>
    rw [hc3]
    cbv
    obtain ⟨⟨n279, n280⟩, hv, h1⟩ := bindS h1
    try dsimp only at h1
    refine call_go hO hX (fn_ref16_Granule hO hv) (by kernel_rfl) [0] rfl ⟨rfl, rfl, trivial⟩ rfl ?_
    rintro _ _ ⟨rfl, rfl⟩
    cbv
    obtain ⟨x203, h2, h1⟩ := bindS h1
    rcases condS h2 with ⟨hc4, h2⟩ | ⟨hc4, h2⟩
    · rw [hc4]
      cbv
      cases h2
      try dsimp only at h1
      obtain ⟨l112, h2, h1⟩ := bindS h1
      rcases condS h2 with ⟨hc5, h2⟩ | ⟨hc5, h2⟩
      · rw [hc5]
        cbv
        obtain ⟨hg6, h2⟩ := grdS h2
        refine ⟨room_of hO hg6, ?_⟩
        obtain ⟨hg7, h2⟩ := grdS h2
        refine ⟨room_of hO hg7, ?_⟩
        cases h2
        try dsimp only at h1
        obtain ⟨hg8, h1⟩ := grdS h1
        refine ⟨inr_of hO hg8, ?_⟩
        cases h1
        exact ⟨_, [0, 1, 2, 3, 7], nextI hI1 hi1, by cbv; try simp, by first | exact Nat.lt_succ_self _ | omega⟩
      · rw [hc5]
        cbv
        cases h2
        try dsimp only at h1
        obtain ⟨hg6, h1⟩ := grdS h1
        refine ⟨inr_of hO hg6, ?_⟩
        cases h1
        exact ⟨_, [0, 1, 2, 3, 4], nextI hI1 hi1, by cbv; try simp, by first | exact Nat.lt_succ_self _ | omega⟩
    · rw [hc4]
      cbv
      cases h2
      try dsimp only at h1
      obtain ⟨l112, h2, h1⟩ := bindS h1
      replace h2 := condF h2 rfl
      cases h2
      try dsimp only at h1
      obtain ⟨hg5, h1⟩ := grdS h1
      refine ⟨inr_of hO hg5, ?_⟩
      cases h1
      exact ⟨_, [0, 1, 2, 3, 4], nextI hI1 hi1, by cbv; try simp, by first | exact Nat.lt_succ_self _ | omega⟩
  · rw [hc3]
    cbv
    cases h1
    cases exitI hi1
    try dsimp only at h0
    cases h0
    exact fin_ok hX rfl ⟨[4], _, _, ⟨rfl, rfl⟩, rfl, rfl, rfl, rfl, by cbv; try simp⟩
set_option maxHeartbeats 4000000 in
theorem fn_ref16_Inside {O0 : Ops} (hO0 : O0 = std) {c_1 : Int} {c_2 : Int} {in_1 : Int} {in_2 : Int} {number_1 : Int} {c_3 : List (Int × Int)} {in_3 : List (Int × Int)} {r1 : Int} {r2 : Int} {r3 : List (Int × Int)} {r4 : Int} (h : m_ref16_Inside O0 c_1 c_2 in_1 in_2 number_1 c_3 in_3 = some (r1, r2, r3, r4)) :
    Fn Try.prog 35 [.agg [.int .i64 c_1, .int .i64 c_2, .sl 0], .agg [.int .i64 in_1, .int .i64 in_2, .sl 1], .c (.int .i64 number_1)] [.arr false .i2 c_3, .arr false .i2 in_3] (fun v c => v = .tup [.many [.int .i64 r1, .int .i64 r2, .sl 2], .one (.int .i64 r4)] ∧ c = [.arr true .i2 r3]) := by
  refine fn_run tab_holds eqs_holds mixed [(6, (.seg 1 [0, 1, 2, 3, 4, 5, 6, 7, 8, 9, 10, 11, 12, 13, 14, 15, 16, 17, 18, 19] .fin), []), (10, (.seg 1 [0, 1, 2, 3, 4, 5, 6, 7, 8, 9] .fin), []), (12, (.seg 1 [0, 1, 2] (.seg 2 [3] (.seg 2 [4] (.seg 1 [5] .fin)))), [])] Try.func35 (by kernel_rfl) (by kernel_rfl) (Nat.le_of_ble_eq_true rfl) ?_
  intro O X hO hX
  rw [hO0, ← hO] at h
  unfold m_ref16_Inside at h
  have h0 := h; clear h
  cbv
  rcases condS h0 with ⟨hc0, h0⟩ | ⟨hc0, h0⟩
  · rw [hc0]
    cbv
    cases h0
    refine fin_nil hX .i2 5 rfl ?_
    cbv
    exact fin_ok hX rfl ⟨[5], _, _, ⟨rfl, rfl⟩, rfl, rfl, rfl, rfl, by cbv; try simp⟩
  · as_aux_lemma =>
    rw [hc0]
    cbv
    obtain ⟨⟨n268, n269⟩, hv, h0⟩ := bindS h0
    try dsimp only at h0
    refine call_go hO hX (fn_ref16_common hO hv) (by kernel_rfl) [] rfl trivial rfl ?_
    rintro _ _ ⟨rfl, rfl⟩
    cbv
    rcases condS h0 with ⟨hc1, h0⟩ | ⟨hc1, h0⟩
    · rw [hc1]
      cbv
      cases h0
      refine fin_nil hX .i2 5 rfl ?_
      cbv
      exact fin_ok hX rfl ⟨[5], _, _, ⟨rfl, rfl⟩, rfl, rfl, rfl, rfl, by cbv; try simp⟩
    · as_aux_lemma =>
      rw [hc1]
      cbv
      obtain ⟨x199, h1, h0⟩ := bindS h0
      rcases condS h1 with ⟨hc2, h1⟩ | ⟨hc2, h1⟩
      · rw [hc2]
        cbv
        obtain ⟨hg3, h1⟩ := grdS h1
        refine ⟨nz_of hO hg3, ?_⟩
        obtain ⟨hg4, h1⟩ := grdS h1
        refine ⟨inr_of hO hg4, ?_⟩
        obtain ⟨hg5, h1⟩ := grdS h1
        refine ⟨inr_of hO hg5, ?_⟩
        cases h1
        try dsimp only at h0
        replace h0 := condT h0 rfl
        cases h0
        refine fin_nil hX .i2 5 rfl ?_
        cbv
        exact fin_ok hX rfl ⟨[5], _, _, ⟨rfl, rfl⟩, rfl, rfl, rfl, rfl, by cbv; try simp⟩
      · as_aux_lemma =>
        rw [hc2]
        cbv
        obtain ⟨hg3, h1⟩ := grdS h1
        refine ⟨nz_of hO hg3, ?_⟩
        obtain ⟨hg4, h1⟩ := grdS h1
        refine ⟨inr_of hO hg4, ?_⟩
        obtain ⟨hg5, h1⟩ := grdS h1
        refine ⟨inr_of hO hg5, ?_⟩
        obtain ⟨hg6, h1⟩ := grdS h1
        refine ⟨nz_of hO hg6, ?_⟩
        obtain ⟨hg7, h1⟩ := grdS h1
        refine ⟨inr_of hO hg7, ?_⟩
        obtain ⟨hg8, h1⟩ := grdS h1
        refine ⟨inr_of hO hg8, ?_⟩
        cases h1
        try dsimp only at h0
        rcases condS h0 with ⟨hc9, h0⟩ | ⟨hc9, h0⟩
        · rw [hc9]
          cbv
          cases h0
          refine fin_nil hX .i2 5 rfl ?_
          cbv
          exact fin_ok hX rfl ⟨[5], _, _, ⟨rfl, rfl⟩, rfl, rfl, rfl, rfl, by cbv; try simp⟩
        · as_aux_lemma =>
          rw [hc9]
          cbv
          obtain ⟨l125, hi, h0⟩ := bindS h0
          obtain ⟨I1, hI1, hi⟩ := loopS hi
          refine loop1 tab_holds eqs_holds mixed [(6, (.seg 1 [0, 1, 2, 3, 4, 5, 6, 7, 8, 9, 10, 11, 12, 13, 14, 15, 16, 17, 18, 19] .fin), []), (10, (.seg 1 [0, 1, 2, 3, 4, 5, 6, 7, 8, 9] .fin), []), (12, (.seg 1 [0, 1, 2] (.seg 2 [3] (.seg 2 [4] (.seg 1 [5] .fin)))), [])] hO hX I1 (fun y => [(17, .junk), (19, .junk), (28, .junk), (32, .junk), (38, .junk), (42, .junk), (10, .c (.sl 5)), (11, .c (.int .i64 y.2.1))]) (fun y => [(5, .own 49 .i2 y.2.2)]) (fun y => y.1) _ (by kernel_rfl) hi (by cbv; try simp) ?_
          rintro ⟨n1, k8, l119⟩ hi
          cbv
          rw [hI1] at hi
          obtain ⟨n1, rfl, x1, h1, hi1⟩ := iterS hi
          unfold m_ref16_Inside_L1 at h1
          try dsimp only at h1
          obtain ⟨hg10, h1⟩ := grdS h1
          refine ⟨nz_of hO hg10, ?_⟩
          obtain ⟨hg10, h1⟩ := grdS h1
          refine ⟨inr_of hO hg10, ?_⟩
          obtain ⟨hg10, h1⟩ := grdS h1
          refine ⟨inr_of hO hg10, ?_⟩
          rcases condS h1 with ⟨hc10, h1⟩ | ⟨hc10, h1⟩
          · as_aux_lemma =>
            rw [hc10]
            cbv
            obtain ⟨⟨n281, n282⟩, hv, h1⟩ := bindS h1
            try dsimp only at h1
            refine call_go hO hX (fn_ref16_Granule hO hv) (by kernel_rfl) [1] rfl ⟨rfl, rfl, trivial⟩ rfl ?_
            rintro _ _ ⟨rfl, rfl⟩
            cbv
            obtain ⟨l120, hv, h1⟩ := bindS h1
            refine call_go hO hX (fn_ref16_within hO hv) (by kernel_rfl) [0] rfl ⟨rfl, rfl, trivial⟩ rfl ?_
            rintro _ _ ⟨rfl, rfl⟩
            cbv
            obtain ⟨x209, h2, h1⟩ := bindS h1
            rcases condS h2 with ⟨hc11, h2⟩ | ⟨hc11, h2⟩
            · as_aux_lemma =>
              rw [hc11]
              cbv
              cases h2
              try dsimp only at h1
              obtain ⟨l122, h2, h1⟩ := bindS h1
              rcases condS h2 with ⟨hc12, h2⟩ | ⟨hc12, h2⟩
              · as_aux_lemma =>
                rw [hc12]
                cbv
                obtain ⟨hg13, h2⟩ := grdS h2
                refine ⟨inr_of hO hg13, ?_⟩
                obtain ⟨hg14, h2⟩ := grdS h2
                refine ⟨idx_of hO hg14, ?_⟩
                obtain ⟨hg15, h2⟩ := grdS h2
                refine ⟨kin_of hO hg15, ?_⟩
                obtain ⟨hg16, h2⟩ := grdS h2
                refine ⟨room_of hO hg16, ?_⟩
                obtain ⟨hg17, h2⟩ := grdS h2
                refine ⟨room_of hO hg17, ?_⟩
                cases h2
                try dsimp only at h1
                obtain ⟨x211, h2, h1⟩ := bindS h1
                rcases condS h2 with ⟨hc18, h2⟩ | ⟨hc18, h2⟩
                · rw [hc18]
                  cbv
                  obtain ⟨hg19, h2⟩ := grdS h2
                  refine ⟨inr_of hO hg19, ?_⟩
                  cases h2
                  try dsimp only at h1
                  obtain ⟨l124, h2, h1⟩ := bindS h1
                  rcases condS h2 with ⟨hc20, h2⟩ | ⟨hc20, h2⟩
                  · rw [hc20]
                    cbv
                    obtain ⟨hg21, h2⟩ := grdS h2
                    refine ⟨inr_of hO hg21, ?_⟩
                    obtain ⟨hg22, h2⟩ := grdS h2
                    refine ⟨idx_of hO hg22, ?_⟩
                    obtain ⟨hg23, h2⟩ := grdS h2
                    refine ⟨kin_of hO hg23, ?_⟩
                    obtain ⟨hg24, h2⟩ := grdS h2
                    refine ⟨room_of hO hg24, ?_⟩
                    obtain ⟨hg25, h2⟩ := grdS h2
                    refine ⟨room_of hO hg25, ?_⟩
                    cases h2
                    try dsimp only at h1
                    obtain ⟨hg26, h1⟩ := grdS h1
                    refine ⟨inr_of hO hg26, ?_⟩
                    cases h1
                    exact ⟨_, [0, 1, 2, 3, 4, 10], nextI hI1 hi1, by cbv; try simp, by first | exact Nat.lt_succ_self _ | omega⟩
                  · rw [hc20]
                    cbv
                    cases h2
                    try dsimp only at h1
                    obtain ⟨hg21, h1⟩ := grdS h1
                    refine ⟨inr_of hO hg21, ?_⟩
                    cases h1
                    exact ⟨_, [0, 1, 2, 3, 4, 8], nextI hI1 hi1, by cbv; try simp, by first | exact Nat.lt_succ_self _ | omega⟩
                · rw [hc18]
                  cbv
                  cases h2
                  try dsimp only at h1
                  obtain ⟨l124, h2, h1⟩ := bindS h1
                  replace h2 := condF h2 rfl
                  cases h2
                  try dsimp only at h1
                  obtain ⟨hg19, h1⟩ := grdS h1
                  refine ⟨inr_of hO hg19, ?_⟩
                  cases h1
                  exact ⟨_, [0, 1, 2, 3, 4, 8], nextI hI1 hi1, by cbv; try simp, by first | exact Nat.lt_succ_self _ | omega⟩
              · as_aux_lemma =>
                rw [hc12]
                cbv
                cases h2
                try dsimp only at h1
                obtain ⟨x211, h2, h1⟩ := bindS h1
                rcases condS h2 with ⟨hc13, h2⟩ | ⟨hc13, h2⟩
                · rw [hc13]
                  cbv
                  obtain ⟨hg14, h2⟩ := grdS h2
                  refine ⟨inr_of hO hg14, ?_⟩
                  cases h2
                  try dsimp only at h1
                  obtain ⟨l124, h2, h1⟩ := bindS h1
                  rcases condS h2 with ⟨hc15, h2⟩ | ⟨hc15, h2⟩
                  · rw [hc15]
                    cbv
                    obtain ⟨hg16, h2⟩ := grdS h2
                    refine ⟨inr_of hO hg16, ?_⟩
                    obtain ⟨hg17, h2⟩ := grdS h2
                    refine ⟨idx_of hO hg17, ?_⟩
                    obtain ⟨hg18, h2⟩ := grdS h2
                    refine ⟨kin_of hO hg18, ?_⟩
                    obtain ⟨hg19, h2⟩ := grdS h2
                    refine ⟨room_of hO hg19, ?_⟩
                    obtain ⟨hg20, h2⟩ := grdS h2
                    refine ⟨room_of hO hg20, ?_⟩
                    cases h2
                    try dsimp only at h1
                    obtain ⟨hg21, h1⟩ := grdS h1
                    refine ⟨inr_of hO hg21, ?_⟩
                    cases h1
                    exact ⟨_, [0, 1, 2, 3, 4, 8], nextI hI1 hi1, by cbv; try simp, by first | exact Nat.lt_succ_self _ | omega⟩
                  · rw [hc15]
                    cbv
                    cases h2
                    try dsimp only at h1
                    obtain ⟨hg16, h1⟩ := grdS h1
                    refine ⟨inr_of hO hg16, ?_⟩
                    cases h1
                    exact ⟨_, [0, 1, 2, 3, 4, 5], nextI hI1 hi1, by cbv; try simp, by first | exact Nat.lt_succ_self _ | omega⟩
                · rw [hc13]
                  cbv
                  cases h2
                  try dsimp only at h1
                  obtain ⟨l124, h2, h1⟩ := bindS h1
                  replace h2 := condF h2 rfl
                  cases h2
                  try dsimp only at h1
                  obtain ⟨hg14, h1⟩ := grdS h1
                  refine ⟨inr_of hO hg14, ?_⟩
                  cases h1
                  exact ⟨_, [0, 1, 2, 3, 4, 5], nextI hI1 hi1, by cbv; try simp, by first | exact Nat.lt_succ_self _ | omega⟩
            · as_aux_lemma =>
              rw [hc11]
              cbv
              cases h2
              try dsimp only at h1
              obtain ⟨l122, h2, h1⟩ := bindS h1
              replace h2 := condF h2 rfl
              cases h2
              try dsimp only at h1
              obtain ⟨x211, h2, h1⟩ := bindS h1
              rcases condS h2 with ⟨hc12, h2⟩ | ⟨hc12, h2⟩
              · rw [hc12]
                cbv
                obtain ⟨hg13, h2⟩ := grdS h2
                refine ⟨inr_of hO hg13, ?_⟩
                cases h2
                try dsimp only at h1
                obtain ⟨l124, h2, h1⟩ := bindS h1
                rcases condS h2 with ⟨hc14, h2⟩ | ⟨hc14, h2⟩
                · rw [hc14]
                  cbv
                  obtain ⟨hg15, h2⟩ := grdS h2
                  refine ⟨inr_of hO hg15, ?_⟩
                  obtain ⟨hg16, h2⟩ := grdS h2
                  refine ⟨idx_of hO hg16, ?_⟩
                  obtain ⟨hg17, h2⟩ := grdS h2
                  refine ⟨kin_of hO hg17, ?_⟩
                  obtain ⟨hg18, h2⟩ := grdS h2
                  refine ⟨room_of hO hg18, ?_⟩
                  obtain ⟨hg19, h2⟩ := grdS h2
                  refine ⟨room_of hO hg19, ?_⟩
                  cases h2
                  try dsimp only at h1
                  obtain ⟨hg20, h1⟩ := grdS h1
                  refine ⟨inr_of hO hg20, ?_⟩
                  cases h1
                  exact ⟨_, [0, 1, 2, 3, 4, 8], nextI hI1 hi1, by cbv; try simp, by first | exact Nat.lt_succ_self _ | omega⟩
                · rw [hc14]
                  cbv
                  cases h2
                  try dsimp only at h1
                  obtain ⟨hg15, h1⟩ := grdS h1
                  refine ⟨inr_of hO hg15, ?_⟩
                  cases h1
                  exact ⟨_, [0, 1, 2, 3, 4, 5], nextI hI1 hi1, by cbv; try simp, by first | exact Nat.lt_succ_self _ | omega⟩
              · rw [hc12]
                cbv
                cases h2
                try dsimp only at h1
                obtain ⟨l124, h2, h1⟩ := bindS h1
                replace h2 := condF h2 rfl
                cases h2
                try dsimp only at h1
                obtain ⟨hg13, h1⟩ := grdS h1
                refine ⟨inr_of hO hg13, ?_⟩
                cases h1
                exact ⟨_, [0, 1, 2, 3, 4, 5], nextI hI1 hi1, by cbv; try simp, by first | exact Nat.lt_succ_self _ | omega⟩
          · rw [hc10]
            cbv
            cases h1
            cases exitI hi1
            try dsimp only at h0
            rcases condS h0 with ⟨hc11, h0⟩ | ⟨hc11, h0⟩
            · rw [hc11]
              cbv
              cases h0
              refine fin_nil hX .i2 6 rfl ?_
              cbv
              exact fin_ok hX rfl ⟨[6], _, _, ⟨rfl, rfl⟩, rfl, rfl, rfl, rfl, by cbv; try simp⟩
            · rw [hc11]
              cbv
              obtain ⟨⟨n283, n284, l126, n285⟩, hv, h0⟩ := bindS h0
              try dsimp only at h0
              refine call_go hO hX (fn_ref16_Make hO hv) (by kernel_rfl) [5] rfl ⟨rfl, rfl, trivial⟩ rfl ?_
              rintro _ _ ⟨rfl, rfl⟩
              cbv
              cases h0
              exact fin_ok hX rfl ⟨[6], _, _, ⟨rfl, rfl⟩, rfl, rfl, rfl, rfl, by cbv; try simp⟩
set_option maxHeartbeats 4000000 in
theorem fn_law16_GroupInside {O0 : Ops} (hO0 : O0 = std) {c_1 : Int} {c_2 : Int} {in_1 : Int} {in_2 : Int} {m_1 : Int} {c_3 : List (Int × Int)} {in_3 : List (Int × Int)} {r1 : Bool} (h : m_law16_GroupInside O0 c_1 c_2 in_1 in_2 m_1 c_3 in_3 = some r1) :
    Fn Try.prog 9 [.agg [.int .i64 c_1, .int .i64 c_2, .sl 0], .agg [.int .i64 in_1, .int .i64 in_2, .sl 1], .c (.int .i64 m_1)] [.arr false .i2 c_3, .arr false .i2 in_3] (fun v c => v = .c (.bool r1) ∧ c = []) := by
  refine fn_run tab_holds eqs_holds mixed [] Try.func9 (by kernel_rfl) (by kernel_rfl) (Nat.le_of_ble_eq_true rfl) ?_
  intro O X hO hX
  rw [hO0, ← hO] at h
  unfold m_law16_GroupInside at h
  have h0 := h; clear h
  cbv
  obtain ⟨b73, hv, h0⟩ := bindS h0
  refine call_go hO hX (fn_law16_awake hO hv) (by kernel_rfl) [] rfl trivial rfl ?_
  rintro _ _ ⟨rfl, rfl⟩
  cbv
  rcases condS h0 with ⟨hc0, h0⟩ | ⟨hc0, h0⟩
  · rw [hc0]
    cbv
    cases h0
    exact fin_ok hX rfl ⟨[], _, _, ⟨rfl, rfl⟩, rfl, rfl, rfl, rfl, by cbv; try simp⟩
  · as_aux_lemma =>
    rw [hc0]
    cbv
    obtain ⟨b77, hv, h0⟩ := bindS h0
    refine call_go hO hX (fn_law16_great_2 hO hv) (by kernel_rfl) [4, 0, 1] rfl ⟨rfl, rfl, rfl, rfl, rfl, rfl, trivial⟩ rfl ?_
    rintro _ _ ⟨rfl, rfl⟩
    cbv
    rcases condS h0 with ⟨hc1, h0⟩ | ⟨hc1, h0⟩
    · rw [hc1]
      cbv
      cases h0
      exact fin_ok hX rfl ⟨[], _, _, ⟨rfl, rfl⟩, rfl, rfl, rfl, rfl, by cbv; try simp⟩
    · as_aux_lemma =>
      rw [hc1]
      cbv
      obtain ⟨x173, h1, h0⟩ := bindS h0
      obtain ⟨b78, hv, h1⟩ := bindS h1
      refine call_go hO hX (fn_ref16_Valid hO hv) (by kernel_rfl) [0] rfl ⟨rfl, rfl, trivial⟩ rfl ?_
      rintro _ _ ⟨rfl, rfl⟩
      cbv
      rcases condS h1 with ⟨hc2, h1⟩ | ⟨hc2, h1⟩
      · rw [hc2]
        cbv
        cases h1
        try dsimp only at h0
        replace h0 := condT h0 rfl
        obtain ⟨⟨n261, n262, l106, n263⟩, hv, h0⟩ := bindS h0
        try dsimp only at h0
        refine call_go hO hX (fn_group_Inside hO hv) (by kernel_rfl) [0, 1] rfl ⟨rfl, rfl, rfl, rfl, trivial⟩ rfl ?_
        rintro _ _ ⟨rfl, rfl⟩
        cbv
        refine call_nil hO hX .i2 7 rfl ?_
        cbv
        obtain ⟨b87, hv, h0⟩ := bindS h0
        refine call_go hO hX (fn_law16_is hO hv) (by kernel_rfl) [5, 7] rfl ⟨rfl, rfl, rfl, rfl, trivial⟩ rfl ?_
        rintro _ _ ⟨rfl, rfl⟩
        cbv
        cases h0
        exact fin_ok hX rfl ⟨[], _, _, ⟨rfl, rfl⟩, rfl, rfl, rfl, rfl, by cbv; try simp⟩
      · as_aux_lemma =>
        rw [hc2]
        cbv
        obtain ⟨b79, hv, h1⟩ := bindS h1
        refine call_go hO hX (fn_ref16_Valid hO hv) (by kernel_rfl) [1] rfl ⟨rfl, rfl, trivial⟩ rfl ?_
        rintro _ _ ⟨rfl, rfl⟩
        cbv
        cases h1
        try dsimp only at h0
        rcases condS h0 with ⟨hc3, h0⟩ | ⟨hc3, h0⟩
        · rw [hc3]
          cbv
          obtain ⟨⟨n261, n262, l106, n263⟩, hv, h0⟩ := bindS h0
          try dsimp only at h0
          refine call_go hO hX (fn_group_Inside hO hv) (by kernel_rfl) [0, 1] rfl ⟨rfl, rfl, rfl, rfl, trivial⟩ rfl ?_
          rintro _ _ ⟨rfl, rfl⟩
          cbv
          refine call_nil hO hX .i2 7 rfl ?_
          cbv
          obtain ⟨b87, hv, h0⟩ := bindS h0
          refine call_go hO hX (fn_law16_is hO hv) (by kernel_rfl) [5, 7] rfl ⟨rfl, rfl, rfl, rfl, trivial⟩ rfl ?_
          rintro _ _ ⟨rfl, rfl⟩
          cbv
          cases h0
          exact fin_ok hX rfl ⟨[], _, _, ⟨rfl, rfl⟩, rfl, rfl, rfl, rfl, by cbv; try simp⟩
        · rw [hc3]
          cbv
          obtain ⟨b88, hv, h0⟩ := bindS h0
          refine call_go hO hX (fn_law16_few hO hv) (by kernel_rfl) [0, 1] rfl ⟨rfl, rfl, rfl, rfl, trivial⟩ rfl ?_
          rintro _ _ ⟨rfl, rfl⟩
          cbv
          rcases condS h0 with ⟨hc4, h0⟩ | ⟨hc4, h0⟩
          · rw [hc4]
            cbv
            cases h0
            exact fin_ok hX rfl ⟨[], _, _, ⟨rfl, rfl⟩, rfl, rfl, rfl, rfl, by cbv; try simp⟩
          · rw [hc4]
            cbv
            obtain ⟨⟨n264, n265, l107, n266⟩, hv, h0⟩ := bindS h0
            try dsimp only at h0
            refine call_go hO hX (fn_group_Inside hO hv) (by kernel_rfl) [0, 1] rfl ⟨rfl, rfl, rfl, rfl, trivial⟩ rfl ?_
            rintro _ _ ⟨rfl, rfl⟩
            cbv
            obtain ⟨⟨n286, n287, l127, n288⟩, hv, h0⟩ := bindS h0
            try dsimp only at h0
            refine call_go hO hX (fn_ref16_Inside hO hv) (by kernel_rfl) [0, 1] rfl ⟨rfl, rfl, rfl, rfl, trivial⟩ rfl ?_
            rintro _ _ ⟨rfl, rfl⟩
            cbv
            obtain ⟨b89, hv, h0⟩ := bindS h0
            refine call_go hO hX (fn_law16_is hO hv) (by kernel_rfl) [5, 7] rfl ⟨rfl, rfl, rfl, rfl, trivial⟩ rfl ?_
            rintro _ _ ⟨rfl, rfl⟩
            cbv
            cases h0
            exact fin_ok hX rfl ⟨[], _, _, ⟨rfl, rfl⟩, rfl, rfl, rfl, rfl, by cbv; try simp⟩
set_option maxHeartbeats 4000000 in
theorem fn_group_Merge {O0 : Ops} (hO0 : O0 = std) {a_1 : Int} {a_2 : Int} {b_1 : Int} {b_2 : Int} {a_3 : List (Int × Int)} {b_3 : List (Int × Int)} {r1 : Int} {r2 : Int} {r3 : List (Int × Int)} {r4 : Int} (h : m_group_Merge O0 a_1 a_2 b_1 b_2 a_3 b_3 = some (r1, r2, r3, r4)) :
    Fn Try.prog 36 [.agg [.int .i64 a_1, .int .i64 a_2, .sl 0], .agg [.int .i64 b_1, .int .i64 b_2, .sl 1]] [.arr false .i2 a_3, .arr false .i2 b_3] (fun v c => v = .tup [.many [.int .i64 r1, .int .i64 r2, .sl 2], .one (.int .i64 r4)] ∧ c = [.arr true .i2 r3]) := by
  refine fn_run tab_holds eqs_holds mixed [(6, (.seg 1 [0, 3] (.seg 2 [1] (.seg 1 [2] (.seg 2 [4] (.seg 1 [5, 6, 7] .fin))))), []), (11, (.seg 1 [0, 1, 2, 3, 4, 5, 6, 7, 8] .fin), [])] Try.func36 (by kernel_rfl) (by kernel_rfl) (Nat.le_of_ble_eq_true rfl) ?_
  intro O X hO hX
  rw [hO0, ← hO] at h
  unfold m_group_Merge at h
  have h0 := h; clear h
  cbv
  obtain ⟨x215, h1, h0⟩ := bindS h0
  obtain ⟨b94, hv, h1⟩ := bindS h1
  refine call_go hO hX (fn_granule_Valid hO hv) (by kernel_rfl) [0] rfl ⟨rfl, rfl, trivial⟩ rfl ?_
  rintro _ _ ⟨rfl, rfl⟩
  cbv
  rcases condS h1 with ⟨hc0, h1⟩ | ⟨hc0, h1⟩
  · rw [hc0]
    cbv
    cases h1
    try dsimp only at h0
    replace h0 := condT h0 rfl
    cases h0
    refine fin_nil hX .i2 5 rfl ?_
    cbv
    exact fin_ok hX rfl ⟨[5], _, _, ⟨rfl, rfl⟩, rfl, rfl, rfl, rfl, by cbv; try simp⟩
  · as_aux_lemma =>
    rw [hc0]
    cbv
    obtain ⟨b95, hv, h1⟩ := bindS h1
    refine call_go hO hX (fn_granule_Valid hO hv) (by kernel_rfl) [1] rfl ⟨rfl, rfl, trivial⟩ rfl ?_
    rintro _ _ ⟨rfl, rfl⟩
    cbv
    cases h1
    try dsimp only at h0
    rcases condS h0 with ⟨hc1, h0⟩ | ⟨hc1, h0⟩
    · rw [hc1]
      cbv
      cases h0
      refine fin_nil hX .i2 5 rfl ?_
      cbv
      exact fin_ok hX rfl ⟨[5], _, _, ⟨rfl, rfl⟩, rfl, rfl, rfl, rfl, by cbv; try simp⟩
    · as_aux_lemma =>
      rw [hc1]
      cbv
      obtain ⟨⟨n289, n290⟩, hv, h0⟩ := bindS h0
      try dsimp only at h0
      refine call_go hO hX (fn_group_common hO hv) (by kernel_rfl) [] rfl trivial rfl ?_
      rintro _ _ ⟨rfl, rfl⟩
      cbv
      rcases condS h0 with ⟨hc2, h0⟩ | ⟨hc2, h0⟩
      · rw [hc2]
        cbv
        cases h0
        refine fin_nil hX .i2 5 rfl ?_
        cbv
        exact fin_ok hX rfl ⟨[5], _, _, ⟨rfl, rfl⟩, rfl, rfl, rfl, rfl, by cbv; try simp⟩
      · as_aux_lemma =>
        rw [hc2]
        cbv
        obtain ⟨⟨n291, n292⟩, hv, h0⟩ := bindS h0
        try dsimp only at h0
        refine call_go hO hX (fn_group_at hO hv) (by kernel_rfl) [0] rfl ⟨rfl, rfl, trivial⟩ rfl ?_
        rintro _ _ ⟨rfl, rfl⟩
        cbv
        obtain ⟨⟨n293, n294⟩, hv, h0⟩ := bindS h0
        try dsimp only at h0
        refine call_go hO hX (fn_group_at hO hv) (by kernel_rfl) [1] rfl ⟨rfl, rfl, trivial⟩ rfl ?_
        rintro _ _ ⟨rfl, rfl⟩
        cbv
        refine loop_unroll tab_holds eqs_holds mixed [(6, (.seg 1 [0, 3] (.seg 2 [1] (.seg 1 [2] (.seg 2 [4] (.seg 1 [5, 6, 7] .fin))))), []), (11, (.seg 1 [0, 1, 2, 3, 4, 5, 6, 7, 8] .fin), [])] hO hX 3 (by kernel_rfl) ?_
        cbv
        rw [show (O .lt 0 (Int.ofNat 2)) = true from by subst hO; rfl]
        cbv
        obtain ⟨hg3, h0⟩ := grdS h0
        refine ⟨nz_of hO hg3, ?_⟩
        obtain ⟨hg4, h0⟩ := grdS h0
        refine ⟨inr_of hO hg4, ?_⟩
        obtain ⟨hg5, h0⟩ := grdS h0
        refine ⟨inr_of hO hg5, ?_⟩
        obtain ⟨hg6, h0⟩ := grdS h0
        refine ⟨inr_of hO hg6, ?_⟩
        rcases condS h0 with ⟨hc7, h0⟩ | ⟨hc7, h0⟩
        · rw [hc7]
          cbv
          cases h0
          refine fin_nil hX .i2 8 rfl ?_
          cbv
          exact fin_ok hX rfl ⟨[8], _, _, ⟨rfl, rfl⟩, rfl, rfl, rfl, rfl, by cbv; try simp⟩
        · as_aux_lemma =>
          rw [hc7]
          cbv
          obtain ⟨l129, hi, h0⟩ := bindS h0
          obtain ⟨I1, hI1, hi⟩ := loopS hi
          refine loop1 tab_holds eqs_holds mixed [(6, (.seg 1 [0, 3] (.seg 2 [1] (.seg 1 [2] (.seg 2 [4] (.seg 1 [5, 6, 7] .fin))))), []), (11, (.seg 1 [0, 1, 2, 3, 4, 5, 6, 7, 8] .fin), [])] hO hX I1 (fun y => [(2, .junk), (3, .junk), (29, .junk), (31, .junk), (53, .junk), (55, .junk), (59, .junk), (63, .junk), (9, .c (.sl 5)), (70, .c (.int .i64 y.2.1))]) (fun y => [(5, .own 49 .i2 y.2.2)]) (fun y => y.1) _ (by kernel_rfl) hi (by cbv; try simp) ?_
          rintro ⟨n1, x217, l128⟩ hi
          cbv
          rw [hI1] at hi
          obtain ⟨n1, rfl, x1, h1, hi1⟩ := iterS hi
          unfold m_group_Merge_L1 at h1
          try dsimp only at h1
          rcases condS h1 with ⟨hc8, h1⟩ | ⟨hc8, h1⟩
          · rw [hc8]
            cbv
            obtain ⟨⟨n298, n299⟩, hv, h1⟩ := bindS h1
            try dsimp only at h1
            refine call_go hO hX (fn_group_at hO hv) (by kernel_rfl) [0] rfl ⟨rfl, rfl, trivial⟩ rfl ?_
            rintro _ _ ⟨rfl, rfl⟩
            cbv
            obtain ⟨hg9, h1⟩ := grdS h1
            refine ⟨inr_of hO hg9, ?_⟩
            obtain ⟨n300, hv, h1⟩ := bindS h1
            refine call_go hO hX (fn_integer_Mod hO hv) (by kernel_rfl) [] rfl trivial rfl ?_
            rintro _ _ ⟨rfl, rfl⟩
            cbv
            obtain ⟨hg10, h1⟩ := grdS h1
            refine ⟨inr_of hO hg10, ?_⟩
            obtain ⟨hg11, h1⟩ := grdS h1
            refine ⟨inr_of hO hg11, ?_⟩
            obtain ⟨hg12, h1⟩ := grdS h1
            refine ⟨inr_of hO hg12, ?_⟩
            obtain ⟨hg13, h1⟩ := grdS h1
            refine ⟨room_of hO hg13, ?_⟩
            obtain ⟨hg14, h1⟩ := grdS h1
            refine ⟨room_of hO hg14, ?_⟩
            obtain ⟨hg15, h1⟩ := grdS h1
            refine ⟨inr_of hO hg15, ?_⟩
            cases h1
            exact ⟨_, [0, 1, 2, 3, 4, 10, 6, 7], nextI hI1 hi1, by cbv; try simp, by first | exact Nat.lt_succ_self _ | omega⟩
          · as_aux_lemma =>
            rw [hc8]
            cbv
            cases h1
            cases exitI hi1
            try dsimp only at h0
            obtain ⟨hg9, h0⟩ := grdS h0
            refine ⟨inr_of hO hg9, ?_⟩
            try (rw [show (O .add 0 1) = 1 from by subst hO; rfl]; try cbv)
            try (rw [show (O .add 0 1) = 1 from by subst hO; rfl]; try cbv)
            rw [show (O .lt 1 (Int.ofNat 2)) = true from by subst hO; rfl]
            cbv
            obtain ⟨hg10, h0⟩ := grdS h0
            refine ⟨nz_of hO hg10, ?_⟩
            obtain ⟨hg11, h0⟩ := grdS h0
            refine ⟨inr_of hO hg11, ?_⟩
            obtain ⟨hg12, h0⟩ := grdS h0
            refine ⟨inr_of hO hg12, ?_⟩
            obtain ⟨hg13, h0⟩ := grdS h0
            refine ⟨inr_of hO hg13, ?_⟩
            rcases condS h0 with ⟨hc14, h0⟩ | ⟨hc14, h0⟩
            · rw [hc14]
              cbv
              cases h0
              refine fin_nil hX .i2 9 rfl ?_
              cbv
              exact fin_ok hX rfl ⟨[9], _, _, ⟨rfl, rfl⟩, rfl, rfl, rfl, rfl, by cbv; try simp⟩
            · as_aux_lemma =>
              rw [hc14]
              cbv
              obtain ⟨l131, hi, h0⟩ := bindS h0
              obtain ⟨I2, hI2, hi⟩ := loopS hi
              refine loop1 tab_holds eqs_holds mixed [(6, (.seg 1 [0, 3] (.seg 2 [1] (.seg 1 [2] (.seg 2 [4] (.seg 1 [5, 6, 7] .fin))))), []), (11, (.seg 1 [0, 1, 2, 3, 4, 5, 6, 7, 8] .fin), [])] hO hX I2 (fun y => [(53, .junk), (55, .junk), (59, .junk), (63, .junk), (9, .c (.sl 5)), (70, .c (.int .i64 y.2.1))]) (fun y => [(5, .own 49 .i2 y.2.2)]) (fun y => y.1) _ (by kernel_rfl) hi (by cbv; try simp) ?_
              rintro ⟨n2, x219, l130⟩ hi
              cbv
              rw [hI2] at hi
              obtain ⟨n2, rfl, x2, h1, hi2⟩ := iterS hi
              unfold m_group_Merge_L2 at h1
              try dsimp only at h1
              rcases condS h1 with ⟨hc15, h1⟩ | ⟨hc15, h1⟩
              · rw [hc15]
                cbv
                obtain ⟨⟨n304, n305⟩, hv, h1⟩ := bindS h1
                try dsimp only at h1
                refine call_go hO hX (fn_group_at hO hv) (by kernel_rfl) [1] rfl ⟨rfl, rfl, trivial⟩ rfl ?_
                rintro _ _ ⟨rfl, rfl⟩
                cbv
                obtain ⟨hg16, h1⟩ := grdS h1
                refine ⟨inr_of hO hg16, ?_⟩
                obtain ⟨n306, hv, h1⟩ := bindS h1
                refine call_go hO hX (fn_integer_Mod hO hv) (by kernel_rfl) [] rfl trivial rfl ?_
                rintro _ _ ⟨rfl, rfl⟩
                cbv
                obtain ⟨hg17, h1⟩ := grdS h1
                refine ⟨inr_of hO hg17, ?_⟩
                obtain ⟨hg18, h1⟩ := grdS h1
                refine ⟨inr_of hO hg18, ?_⟩
                obtain ⟨hg19, h1⟩ := grdS h1
                refine ⟨inr_of hO hg19, ?_⟩
                obtain ⟨hg20, h1⟩ := grdS h1
                refine ⟨room_of hO hg20, ?_⟩
                obtain ⟨hg21, h1⟩ := grdS h1
                refine ⟨room_of hO hg21, ?_⟩
                obtain ⟨hg22, h1⟩ := grdS h1
                refine ⟨inr_of hO hg22, ?_⟩
                cases h1
                exact ⟨_, [0, 1, 2, 3, 4, 11, 6, 7, 8], nextI hI2 hi2, by cbv; try simp, by first | exact Nat.lt_succ_self _ | omega⟩
              · as_aux_lemma =>
                rw [hc15]
                cbv
                cases h1
                cases exitI hi2
                try dsimp only at h0
                obtain ⟨hg16, h0⟩ := grdS h0
                refine ⟨inr_of hO hg16, ?_⟩
                try (rw [show (O .add 1 1) = 2 from by subst hO; rfl]; try cbv)
                try (rw [show (O .add 1 1) = 2 from by subst hO; rfl]; try cbv)
                rw [show (O .lt 2 (Int.ofNat 2)) = false from by subst hO; rfl]
                cbv
                obtain ⟨l132, hv, h0⟩ := bindS h0
                refine srt_Merge hO hX (i := 5) rfl hv ?_
                cbv
                obtain ⟨e1, hi, h0⟩ := bindS h0
                obtain ⟨I3, hI3, hi⟩ := loopS hi
                refine loop1 tab_holds eqs_holds mixed [(6, (.seg 1 [0, 3] (.seg 2 [1] (.seg 1 [2] (.seg 2 [4] (.seg 1 [5, 6, 7] .fin))))), []), (11, (.seg 1 [0, 1, 2, 3, 4, 5, 6, 7, 8] .fin), [])] hO hX I3 (fun y => [(11, .junk), (49, .junk), (98, .junk), (102, .c (.int .i64 y.2))]) (fun _ => []) (fun y => y.1) _ (by kernel_rfl) hi (by cbv; try simp) ?_
                rintro ⟨n3, x221⟩ hi
                cbv
                rw [hI3] at hi
                obtain ⟨n3, rfl, x3, h1, hi3⟩ := iterS hi
                unfold m_group_Merge_L3 at h1
                try dsimp only at h1
                rcases condS h1 with ⟨hc17, h1⟩ | ⟨hc17, h1⟩
                · as_aux_lemma =>
                  rw [hc17]
                  cbv
                  obtain ⟨hg18, h1⟩ := grdS h1
                  refine ⟨idx_of hO hg18, ?_⟩
                  obtain ⟨hg19, h1⟩ := grdS h1
                  refine ⟨kin_of hO hg19, ?_⟩
                  obtain ⟨hg20, h1⟩ := grdS h1
                  refine ⟨idx_of hO hg20, ?_⟩
                  obtain ⟨hg21, h1⟩ := grdS h1
                  refine ⟨kin_of hO hg21, ?_⟩
                  obtain ⟨hg22, h1⟩ := grdS h1
                  refine ⟨inr_of hO hg22, ?_⟩
                  obtain ⟨hg23, h1⟩ := grdS h1
                  refine ⟨inr_of hO hg23, ?_⟩
                  obtain ⟨next6, h2, h1⟩ := bindS h1
                  rcases condS h2 with ⟨hc24, h2⟩ | ⟨hc24, h2⟩
                  · rw [hc24]
                    cbv
                    refine ⟨inr_of hO hg23, ?_⟩
                    obtain ⟨hg25, h2⟩ := grdS h2
                    refine ⟨idx_of hO hg25, ?_⟩
                    obtain ⟨hg26, h2⟩ := grdS h2
                    refine ⟨kin_of hO hg26, ?_⟩
                    cases h2
                    try dsimp only at h1
                    rcases condS h1 with ⟨hc27, h1⟩ | ⟨hc27, h1⟩
                    · rw [hc27]
                      cbv
                      cases h1
                      cases exitI hi3
                      try dsimp only at h0
                      cases h0
                      refine fin_nil hX .i2 10 rfl ?_
                      cbv
                      exact fin_ok hX rfl ⟨[10], _, _, ⟨rfl, rfl⟩, rfl, rfl, rfl, rfl, by cbv; try simp⟩
                    · rw [hc27]
                      cbv
                      refine ⟨inr_of hO hg23, ?_⟩
                      cases h1
                      exact ⟨_, [0, 1, 2, 3, 4, 5, 6, 7, 8], nextI hI3 hi3, by cbv; try simp, by first | exact Nat.lt_succ_self _ | omega⟩
                  · rw [hc24]
                    cbv
                    cases h2
                    try dsimp only at h1
                    rcases condS h1 with ⟨hc25, h1⟩ | ⟨hc25, h1⟩
                    · rw [hc25]
                      cbv
                      cases h1
                      cases exitI hi3
                      try dsimp only at h0
                      cases h0
                      refine fin_nil hX .i2 10 rfl ?_
                      cbv
                      exact fin_ok hX rfl ⟨[10], _, _, ⟨rfl, rfl⟩, rfl, rfl, rfl, rfl, by cbv; try simp⟩
                    · rw [hc25]
                      cbv
                      refine ⟨inr_of hO hg23, ?_⟩
                      cases h1
                      exact ⟨_, [0, 1, 2, 3, 4, 5, 6, 7, 8], nextI hI3 hi3, by cbv; try simp, by first | exact Nat.lt_succ_self _ | omega⟩
                · rw [hc17]
                  cbv
                  cases h1
                  cases exitI hi3
                  try dsimp only at h0
                  obtain ⟨⟨n307, n308, l133, n309⟩, hv, h0⟩ := bindS h0
                  try dsimp only at h0
                  refine call_go hO hX (fn_group_made hO hv) (by kernel_rfl) [5] rfl ⟨rfl, rfl, trivial⟩ rfl ?_
                  rintro _ _ ⟨rfl, rfl⟩
                  cbv
                  cases h0
                  exact fin_ok hX rfl ⟨[9], _, _, ⟨rfl, rfl⟩, rfl, rfl, rfl, rfl, by cbv; try simp⟩
set_option maxHeartbeats 4000000 in
theorem fn_ref16_start {O0 : Ops} (hO0 : O0 = std) {c_1 : Int} {c_2 : Int} {x_1 : Int} {c_3 : List (Int × Int)} {r1 : Int} (h : m_ref16_start O0 c_1 c_2 x_1 c_3 = some r1) :
    Fn Try.prog 79 [.agg [.int .i64 c_1, .int .i64 c_2, .sl 0], .c (.int .i64 x_1)] [.arr false .i2 c_3] (fun v c => v = .c (.int .i64 r1) ∧ c = []) := by
  refine fn_run tab_holds eqs_holds mixed [(1, (.seg 1 [0, 1, 2, 3, 4, 5, 6, 7, 8] (.seg 2 [9] (.seg 1 [10, 11, 12] .fin))), [])] Try.func79 (by kernel_rfl) (by kernel_rfl) (Nat.le_of_ble_eq_true rfl) ?_
  intro O X hO hX
  rw [hO0, ← hO] at h
  unfold m_ref16_start at h
  have h0 := h; clear h
  cbv
  obtain ⟨hg0, h0⟩ := grdS h0
  refine ⟨inr_of hO hg0, ?_⟩
  obtain ⟨n327, hv, h0⟩ := bindS h0
  refine call_go hO hX (fn_ref01_Floor hO hv) (by kernel_rfl) [] rfl trivial rfl ?_
  rintro _ _ ⟨rfl, rfl⟩
  cbv
  obtain ⟨hg1, h0⟩ := grdS h0
  refine ⟨inr_of hO hg1, ?_⟩
  obtain ⟨hg2, h0⟩ := grdS h0
  refine ⟨inr_of hO hg2, ?_⟩
  obtain ⟨k10, hi, h0⟩ := bindS h0
  obtain ⟨I1, hI1, hi⟩ := loopS hi
  refine loop1 tab_holds eqs_holds mixed [(1, (.seg 1 [0, 1, 2, 3, 4, 5, 6, 7, 8] (.seg 2 [9] (.seg 1 [10, 11, 12] .fin))), [])] hO hX I1 (fun y => [(6, .junk), (10, .junk), (13, .junk), (5, .c (.int .i64 y.2))]) (fun _ => []) (fun y => y.1) _ (by kernel_rfl) hi (by cbv; try simp) ?_
  rintro ⟨n1, k9⟩ hi
  cbv
  rw [hI1] at hi
  obtain ⟨n1, rfl, x1, h1, hi1⟩ := iterS hi
  unfold m_ref16_start_L1 at h1
  try dsimp only at h1
  obtain ⟨⟨n328, n329⟩, hv, h1⟩ := bindS h1
  try dsimp only at h1
  refine call_go hO hX (fn_ref16_Granule hO hv) (by kernel_rfl) [0] rfl ⟨rfl, rfl, trivial⟩ rfl ?_
  rintro _ _ ⟨rfl, rfl⟩
  cbv
  rcases condS h1 with ⟨hc3, h1⟩ | ⟨hc3, h1⟩
  · rw [hc3]
    cbv
    obtain ⟨hg4, h1⟩ := grdS h1
    refine ⟨inr_of hO hg4, ?_⟩
    cases h1
    exact ⟨_, [0, 1], nextI hI1 hi1, by cbv; try simp, by first | exact Nat.lt_succ_self _ | omega⟩
  · rw [hc3]
    cbv
    cases h1
    cases exitI hi1
    try dsimp only at h0
    cases h0
    exact fin_ok hX rfl ⟨[], _, _, ⟨rfl, rfl⟩, rfl, rfl, rfl, rfl, by cbv; try simp⟩
end Go.Proofs.Ytoklfjkanipjkaa
