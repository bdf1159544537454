/-
  The code does what its models say (printed by lift.py).
-/
import Derived.Test.YtoklfjkanipjkaaGM
import Derived.Test.YtoklfjkanipjkaaManW
import Derived.Test.YtoklfjkanipjkaaGW2
import Derived.Test.YtoklfjkanipjkaaGW3
import Derived.Test.YtoklfjkanipjkaaGW20
namespace Go.Proofs.Ytoklfjkanipjkaa
open Go.RowKit
set_option maxRecDepth 100000

set_option maxHeartbeats 4000000 in
theorem fn_group_Inside_1 {O0 : Ops} (hO0 : O0 = std) {l_1 : Int} {x_1 : Int} {x_2 : Int} {x_3 : Int} {x_4 : Int} {x_5 : Int} {x_6 : List (Int × Int)} {x_7 : List (Int × Int)} {r1 : Int} {r2 : Int} {r3 : Bool} (h : m_group_Inside_1 O0 l_1 x_1 x_2 x_3 x_4 x_5 x_6 x_7 = some (r1, r2, r3)) :
    Fn Try.prog 71 [.c (.int .i64 l_1), .c (.ptr 0 0), .c (.ptr 1 0), .c (.ptr 2 0)] [.ro 24 [.int .i64 x_1, .int .i64 x_2, .sl 3], .ro 24 [.int .i64 x_3, .int .i64 x_4, .sl 4], .ro 3 [.int .i64 x_5], .arr false .i2 x_6, .arr false .i2 x_7] (fun v c => v = .tup [.many [.int .i64 r1, .int .i64 r2], .one (.bool r3)] ∧ c = []) := by
  refine fn_run tab_holds eqs_holds mixed [(2, (.seg 1 [0, 1, 2, 3, 6, 7, 8, 9] (.seg 2 [4] (.seg 1 [5] (.seg 2 [10] (.seg 1 [11, 12] .fin))))), []), (3, (.seg 1 [0, 1, 4, 5] (.seg 2 [2] (.seg 1 [3, 6] .fin))), [])] Try.func71 (by kernel_rfl) (by kernel_rfl) (Nat.le_of_ble_eq_true rfl) ?_
  intro O X hO hX
  rw [hO0, ← hO] at h
  unfold m_group_Inside_1 at h
  have h0 := h; clear h
  cbv
  obtain ⟨⟨n239, n240⟩, hv, h0⟩ := bindS h0
  try dsimp only at h0
  refine call_go hO hX (fn_group_at hO hv) (by kernel_rfl) [3] rfl ⟨rfl, rfl, trivial⟩ rfl ?_
  rintro _ _ ⟨rfl, rfl⟩
  cbv
  obtain ⟨hg0, h0⟩ := grdS h0
  refine ⟨inr_of hO hg0, ?_⟩
  obtain ⟨hg1, h0⟩ := grdS h0
  refine ⟨inr_of hO hg1, ?_⟩
  obtain ⟨n243, hv, h0⟩ := bindS h0
  refine call_go hO hX (fn_granule_Near hO hv) (by kernel_rfl) [4] rfl ⟨rfl, rfl, trivial⟩ rfl ?_
  rintro _ _ ⟨rfl, rfl⟩
  cbv
  obtain ⟨hg2, h0⟩ := grdS h0
  refine ⟨inr_of hO hg2, ?_⟩
  obtain ⟨n244, hv, h0⟩ := bindS h0
  refine call_go hO hX (fn_granule_Near hO hv) (by kernel_rfl) [4] rfl ⟨rfl, rfl, trivial⟩ rfl ?_
  rintro _ _ ⟨rfl, rfl⟩
  cbv
  obtain ⟨⟨n245, n246⟩, hv, h0⟩ := bindS h0
  try dsimp only at h0
  refine call_go hO hX (fn_group_at hO hv) (by kernel_rfl) [4] rfl ⟨rfl, rfl, trivial⟩ rfl ?_
  rintro _ _ ⟨rfl, rfl⟩
  cbv
  obtain ⟨last2, h1, h0⟩ := bindS h0
  rcases condS h1 with ⟨hc3, h1⟩ | ⟨hc3, h1⟩
  · rw [hc3]
    cbv
    obtain ⟨hg4, h1⟩ := grdS h1
    refine ⟨inr_of hO hg4, ?_⟩
    cases h1
    try dsimp only at h0
    obtain ⟨hg5, h0⟩ := grdS h0
    refine ⟨inr_of hO hg5, ?_⟩
    obtain ⟨hg6, h0⟩ := grdS h0
    refine ⟨inr_of hO hg6, ?_⟩
    obtain ⟨x186, h1, h0⟩ := bindS h0
    rcases condS h1 with ⟨hc7, h1⟩ | ⟨hc7, h1⟩
    · rw [hc7]
      cbv
      cases h1
      try dsimp only at h0
      obtain ⟨e1, h1, h0⟩ := bindS h0
      rcases condS h1 with ⟨hc8, h1⟩ | ⟨hc8, h1⟩
      · rw [hc8]
        cbv
        obtain ⟨hg9, h1⟩ := grdS h1
        refine ⟨inr_of hO hg9, ?_⟩
        obtain ⟨hg10, h1⟩ := grdS h1
        refine ⟨inr_of hO hg10, ?_⟩
        obtain ⟨⟨n247, n248⟩, hv, h1⟩ := bindS h1
        try dsimp only at h1
        refine call_go hO hX (fn_group_at hO hv) (by kernel_rfl) [4] rfl ⟨rfl, rfl, trivial⟩ rfl ?_
        rintro _ _ ⟨rfl, rfl⟩
        cbv
        cases h1
        try dsimp only at h0
        cases h0
        exact fin_ok hX rfl ⟨[], _, _, ⟨rfl, rfl⟩, rfl, rfl, rfl, rfl, by cbv; try simp⟩
      · rw [hc8]
        cbv
        obtain ⟨x188, h2, h1⟩ := bindS h1
        rcases condS h2 with ⟨hc9, h2⟩ | ⟨hc9, h2⟩
        · rw [hc9]
          cbv
          obtain ⟨hg10, h2⟩ := grdS h2
          refine ⟨inr_of hO hg10, ?_⟩
          cases h2
          try dsimp only at h1
          rcases condS h1 with ⟨hc11, h1⟩ | ⟨hc11, h1⟩
          · rw [hc11]
            cbv
            obtain ⟨hg12, h1⟩ := grdS h1
            refine ⟨inr_of hO hg12, ?_⟩
            obtain ⟨hg13, h1⟩ := grdS h1
            refine ⟨inr_of hO hg13, ?_⟩
            obtain ⟨⟨n249, n250⟩, hv, h1⟩ := bindS h1
            try dsimp only at h1
            refine call_go hO hX (fn_group_at hO hv) (by kernel_rfl) [4] rfl ⟨rfl, rfl, trivial⟩ rfl ?_
            rintro _ _ ⟨rfl, rfl⟩
            cbv
            cases h1
            try dsimp only at h0
            cases h0
            exact fin_ok hX rfl ⟨[], _, _, ⟨rfl, rfl⟩, rfl, rfl, rfl, rfl, by cbv; try simp⟩
          · rw [hc11]
            cbv
            cases h1
            try dsimp only at h0
            cases h0
            exact fin_ok hX rfl ⟨[], _, _, ⟨rfl, rfl⟩, rfl, rfl, rfl, rfl, by cbv; try simp⟩
        · rw [hc9]
          cbv
          cases h2
          try dsimp only at h1
          replace h1 := condF h1 rfl
          cases h1
          try dsimp only at h0
          cases h0
          exact fin_ok hX rfl ⟨[], _, _, ⟨rfl, rfl⟩, rfl, rfl, rfl, rfl, by cbv; try simp⟩
    · rw [hc7]
      cbv
      cases h1
      try dsimp only at h0
      obtain ⟨e1, h1, h0⟩ := bindS h0
      replace h1 := condF h1 rfl
      obtain ⟨x188, h2, h1⟩ := bindS h1
      rcases condS h2 with ⟨hc8, h2⟩ | ⟨hc8, h2⟩
      · rw [hc8]
        cbv
        obtain ⟨hg9, h2⟩ := grdS h2
        refine ⟨inr_of hO hg9, ?_⟩
        cases h2
        try dsimp only at h1
        rcases condS h1 with ⟨hc10, h1⟩ | ⟨hc10, h1⟩
        · rw [hc10]
          cbv
          obtain ⟨hg11, h1⟩ := grdS h1
          refine ⟨inr_of hO hg11, ?_⟩
          obtain ⟨hg12, h1⟩ := grdS h1
          refine ⟨inr_of hO hg12, ?_⟩
          obtain ⟨⟨n249, n250⟩, hv, h1⟩ := bindS h1
          try dsimp only at h1
          refine call_go hO hX (fn_group_at hO hv) (by kernel_rfl) [4] rfl ⟨rfl, rfl, trivial⟩ rfl ?_
          rintro _ _ ⟨rfl, rfl⟩
          cbv
          cases h1
          try dsimp only at h0
          cases h0
          exact fin_ok hX rfl ⟨[], _, _, ⟨rfl, rfl⟩, rfl, rfl, rfl, rfl, by cbv; try simp⟩
        · rw [hc10]
          cbv
          cases h1
          try dsimp only at h0
          cases h0
          exact fin_ok hX rfl ⟨[], _, _, ⟨rfl, rfl⟩, rfl, rfl, rfl, rfl, by cbv; try simp⟩
      · rw [hc8]
        cbv
        cases h2
        try dsimp only at h1
        replace h1 := condF h1 rfl
        cases h1
        try dsimp only at h0
        cases h0
        exact fin_ok hX rfl ⟨[], _, _, ⟨rfl, rfl⟩, rfl, rfl, rfl, rfl, by cbv; try simp⟩
  · rw [hc3]
    cbv
    cases h1
    try dsimp only at h0
    obtain ⟨hg4, h0⟩ := grdS h0
    refine ⟨inr_of hO hg4, ?_⟩
    obtain ⟨hg5, h0⟩ := grdS h0
    refine ⟨inr_of hO hg5, ?_⟩
    obtain ⟨x186, h1, h0⟩ := bindS h0
    rcases condS h1 with ⟨hc6, h1⟩ | ⟨hc6, h1⟩
    · rw [hc6]
      cbv
      cases h1
      try dsimp only at h0
      obtain ⟨e1, h1, h0⟩ := bindS h0
      rcases condS h1 with ⟨hc7, h1⟩ | ⟨hc7, h1⟩
      · rw [hc7]
        cbv
        obtain ⟨hg8, h1⟩ := grdS h1
        refine ⟨inr_of hO hg8, ?_⟩
        obtain ⟨hg9, h1⟩ := grdS h1
        refine ⟨inr_of hO hg9, ?_⟩
        obtain ⟨⟨n247, n248⟩, hv, h1⟩ := bindS h1
        try dsimp only at h1
        refine call_go hO hX (fn_group_at hO hv) (by kernel_rfl) [4] rfl ⟨rfl, rfl, trivial⟩ rfl ?_
        rintro _ _ ⟨rfl, rfl⟩
        cbv
        cases h1
        try dsimp only at h0
        cases h0
        exact fin_ok hX rfl ⟨[], _, _, ⟨rfl, rfl⟩, rfl, rfl, rfl, rfl, by cbv; try simp⟩
      · rw [hc7]
        cbv
        obtain ⟨x188, h2, h1⟩ := bindS h1
        rcases condS h2 with ⟨hc8, h2⟩ | ⟨hc8, h2⟩
        · rw [hc8]
          cbv
          obtain ⟨hg9, h2⟩ := grdS h2
          refine ⟨inr_of hO hg9, ?_⟩
          cases h2
          try dsimp only at h1
          rcases condS h1 with ⟨hc10, h1⟩ | ⟨hc10, h1⟩
          · rw [hc10]
            cbv
            obtain ⟨hg11, h1⟩ := grdS h1
            refine ⟨inr_of hO hg11, ?_⟩
            obtain ⟨hg12, h1⟩ := grdS h1
            refine ⟨inr_of hO hg12, ?_⟩
            obtain ⟨⟨n249, n250⟩, hv, h1⟩ := bindS h1
            try dsimp only at h1
            refine call_go hO hX (fn_group_at hO hv) (by kernel_rfl) [4] rfl ⟨rfl, rfl, trivial⟩ rfl ?_
            rintro _ _ ⟨rfl, rfl⟩
            cbv
            cases h1
            try dsimp only at h0
            cases h0
            exact fin_ok hX rfl ⟨[], _, _, ⟨rfl, rfl⟩, rfl, rfl, rfl, rfl, by cbv; try simp⟩
          · rw [hc10]
            cbv
            cases h1
            try dsimp only at h0
            cases h0
            exact fin_ok hX rfl ⟨[], _, _, ⟨rfl, rfl⟩, rfl, rfl, rfl, rfl, by cbv; try simp⟩
        · rw [hc8]
          cbv
          cases h2
          try dsimp only at h1
          replace h1 := condF h1 rfl
          cases h1
          try dsimp only at h0
          cases h0
          exact fin_ok hX rfl ⟨[], _, _, ⟨rfl, rfl⟩, rfl, rfl, rfl, rfl, by cbv; try simp⟩
    · rw [hc6]
      cbv
      cases h1
      try dsimp only at h0
      obtain ⟨e1, h1, h0⟩ := bindS h0
      replace h1 := condF h1 rfl
      obtain ⟨x188, h2, h1⟩ := bindS h1
      rcases condS h2 with ⟨hc7, h2⟩ | ⟨hc7, h2⟩
      · rw [hc7]
        cbv
        obtain ⟨hg8, h2⟩ := grdS h2
        refine ⟨inr_of hO hg8, ?_⟩
        cases h2
        try dsimp only at h1
        rcases condS h1 with ⟨hc9, h1⟩ | ⟨hc9, h1⟩
        · rw [hc9]
          cbv
          obtain ⟨hg10, h1⟩ := grdS h1
          refine ⟨inr_of hO hg10, ?_⟩
          obtain ⟨hg11, h1⟩ := grdS h1
          refine ⟨inr_of hO hg11, ?_⟩
          obtain ⟨⟨n249, n250⟩, hv, h1⟩ := bindS h1
          try dsimp only at h1
          refine call_go hO hX (fn_group_at hO hv) (by kernel_rfl) [4] rfl ⟨rfl, rfl, trivial⟩ rfl ?_
          rintro _ _ ⟨rfl, rfl⟩
          cbv
          cases h1
          try dsimp only at h0
          cases h0
          exact fin_ok hX rfl ⟨[], _, _, ⟨rfl, rfl⟩, rfl, rfl, rfl, rfl, by cbv; try simp⟩
        · rw [hc9]
          cbv
          cases h1
          try dsimp only at h0
          cases h0
          exact fin_ok hX rfl ⟨[], _, _, ⟨rfl, rfl⟩, rfl, rfl, rfl, rfl, by cbv; try simp⟩
      · rw [hc7]
        cbv
        cases h2
        try dsimp only at h1
        replace h1 := condF h1 rfl
        cases h1
        try dsimp only at h0
        cases h0
        exact fin_ok hX rfl ⟨[], _, _, ⟨rfl, rfl⟩, rfl, rfl, rfl, rfl, by cbv; try simp⟩
set_option maxHeartbeats 4000000 in
theorem fn_group_collect_5 {O0 : Ops} (hO0 : O0 = std) {period_1 : Int} {n_1 : Int} {c_1 : Int} {c_2 : Int} {c_3 : Int} {c_4 : Int} {c_5 : Int} {c_6 : List (Int × Int)} {c_7 : List (Int × Int)} {r1 : Int} {r2 : Int} {r3 : List (Int × Int)} {r4 : Int} (h : m_group_collect_5 O0 period_1 n_1 c_1 c_2 c_3 c_4 c_5 c_6 c_7 = some (r1, r2, r3, r4)) :
    Fn Try.prog 48 [.c (.int .i64 period_1), .c (.int .i64 n_1), .c (.fn 71 [0, 1, 2])] [.ro 24 [.int .i64 c_1, .int .i64 c_2, .sl 3], .ro 24 [.int .i64 c_3, .int .i64 c_4, .sl 4], .ro 3 [.int .i64 c_5], .arr false .i2 c_6, .arr false .i2 c_7] (fun v c => v = .tup [.many [.int .i64 r1, .int .i64 r2, .sl 5], .one (.int .i64 r4)] ∧ c = [.arr true .i2 r3]) := by
  refine fn_run tab_holds eqs_holds mixed [] Try.func48 (by kernel_rfl) (by kernel_rfl) (Nat.le_of_ble_eq_true rfl) ?_
  intro O X hO hX
  rw [hO0, ← hO] at h
  unfold m_group_collect_5 at h
  have h0 := h; clear h
  cbv
  obtain ⟨l103, hi, h0⟩ := bindS h0
  obtain ⟨I1, hI1, hi⟩ := loopS hi
  refine loop1 tab_holds eqs_holds mixed [] hO hX I1 (fun y => [(8, .c (.sl 6)), (13, .c (.int .i64 y.2.1))]) (fun y => [(6, .own 49 .i2 y.2.2)]) (fun y => y.1) _ (by kernel_rfl) hi (by cbv; try simp) ?_
  rintro ⟨n1, x193, l100⟩ hi
  cbv
  rw [hI1] at hi
  obtain ⟨n1, rfl, x1, h1, hi1⟩ := iterS hi
  unfold m_group_collect_5_L1 at h1
  try dsimp only at h1
  rcases condS h1 with ⟨hc0, h1⟩ | ⟨hc0, h1⟩
  · rw [hc0]
    cbv
    obtain ⟨⟨n253, n254, b86⟩, hv, h1⟩ := bindS h1
    try dsimp only at h1
    refine call_go hO hX (fn_group_Inside_1 hO hv) (by kernel_rfl) [0, 1, 2, 3, 4] rfl ⟨rfl, rfl, rfl, rfl, rfl, rfl, rfl, rfl, rfl, rfl, trivial⟩ rfl ?_
    rintro _ _ ⟨rfl, rfl⟩
    cbv
    obtain ⟨l102, h2, h1⟩ := bindS h1
    rcases condS h2 with ⟨hc1, h2⟩ | ⟨hc1, h2⟩
    · rw [hc1]
      cbv
      obtain ⟨hg2, h2⟩ := grdS h2
      refine ⟨room_of hO hg2, ?_⟩
      obtain ⟨hg3, h2⟩ := grdS h2
      refine ⟨room_of hO hg3, ?_⟩
      cases h2
      try dsimp only at h1
      obtain ⟨hg4, h1⟩ := grdS h1
      refine ⟨inr_of hO hg4, ?_⟩
      cases h1
      exact ⟨_, [0, 1, 2, 3, 4, 5, 9], nextI hI1 hi1, by cbv; try simp, by first | exact Nat.lt_succ_self _ | omega⟩
    · rw [hc1]
      cbv
      cases h2
      try dsimp only at h1
      obtain ⟨hg2, h1⟩ := grdS h1
      refine ⟨inr_of hO hg2, ?_⟩
      cases h1
      exact ⟨_, [0, 1, 2, 3, 4, 5, 6], nextI hI1 hi1, by cbv; try simp, by first | exact Nat.lt_succ_self _ | omega⟩
  · rw [hc0]
    cbv
    cases h1
    cases exitI hi1
    try dsimp only at h0
    rcases condS h0 with ⟨hc1, h0⟩ | ⟨hc1, h0⟩
    · rw [hc1]
      cbv
      cases h0
      refine fin_nil hX .i2 7 rfl ?_
      cbv
      exact fin_ok hX rfl ⟨[7], _, _, ⟨rfl, rfl⟩, rfl, rfl, rfl, rfl, by cbv; try simp⟩
    · rw [hc1]
      cbv
      obtain ⟨⟨n255, n256, l104, n257⟩, hv, h0⟩ := bindS h0
      try dsimp only at h0
      refine call_go hO hX (fn_group_made hO hv) (by kernel_rfl) [6] rfl ⟨rfl, rfl, trivial⟩ rfl ?_
      rintro _ _ ⟨rfl, rfl⟩
      cbv
      cases h0
      exact fin_ok hX rfl ⟨[7], _, _, ⟨rfl, rfl⟩, rfl, rfl, rfl, rfl, by cbv; try simp⟩
end Go.Proofs.Ytoklfjkanipjkaa
