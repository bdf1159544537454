/-
  The code does what its models say (printed by lift.py).
-/
import Derived.Test.YtebkfbkgmbgobaaKM
import Derived.Test.YtebkfbkgmbgobaaManW
import Derived.Test.YtebkfbkgmbgobaaKW0
import Derived.Test.YtebkfbkgmbgobaaKW1
import Derived.Test.YtebkfbkgmbgobaaKW5
import Derived.Test.YtebkfbkgmbgobaaKW12
namespace Go.Proofs.Ytebkfbkgmbgobaa
open Go.RowKit
set_option maxRecDepth 100000

set_option maxHeartbeats 40000000 in
theorem fn_group_Inside_1 {O0 : Ops} (hO0 : O0 = std) {l_1 : Int} {x_1 : Int} {x_2 : Int} {x_3 : Int} {x_4 : Int} {x_5 : Int} {x_6 : List (Int × Int)} {x_7 : List (Int × Int)} {r1 : Int} {r2 : Int} {r3 : Bool} (h : m_group_Inside_1 O0 l_1 x_1 x_2 x_3 x_4 x_5 x_6 x_7 = some (r1, r2, r3)) :
    Fn Try.prog 46 [.c (.int .i64 l_1), .c (.ptr 0 0), .c (.ptr 1 0), .c (.ptr 2 0)] [.ro 24 [.int .i64 x_1, .int .i64 x_2, .sl 3], .ro 24 [.int .i64 x_3, .int .i64 x_4, .sl 4], .ro 3 [.int .i64 x_5], .arr false .i2 x_6, .arr false .i2 x_7] (fun v c => v = .tup [.many [.int .i64 r1, .int .i64 r2], .one (.bool r3)] ∧ c = []) := by
  refine fn_run tab_holds eqs_holds mixed [(2, (.seg 1 [0, 1, 2, 3, 6, 7, 8, 9] (.seg 2 [4] (.seg 1 [5] (.seg 2 [10] (.seg 1 [11, 12] .fin))))), []), (3, (.seg 1 [0, 1, 4, 5] (.seg 2 [2] (.seg 1 [3, 6] .fin))), [])] Try.func46 (by kernel_rfl) (by kernel_rfl) (Nat.le_of_ble_eq_true rfl) ?_
  intro O X hO hX
  rw [hO0, ← hO] at h
  unfold m_group_Inside_1 at h
  have h0 := h; clear h
  cbv
  obtain ⟨⟨n140, n141⟩, hv, h0⟩ := bindS h0
  try dsimp only at h0
  refine call_is hO hX (fn_group_at hO hv) (by kernel_rfl) [3] rfl ⟨rfl, rfl, trivial⟩ rfl ?_
  cbv
  obtain ⟨hg1, h0⟩ := grdS h0
  refine ⟨inr_of hO hg1, ?_⟩
  obtain ⟨hg2, h0⟩ := grdS h0
  refine ⟨inr_of hO hg2, ?_⟩
  obtain ⟨n142, hv, h0⟩ := bindS h0
  refine call_is hO hX (fn_granule_Near hO hv) (by kernel_rfl) [4] rfl ⟨rfl, rfl, trivial⟩ rfl ?_
  cbv
  obtain ⟨hg3, h0⟩ := grdS h0
  refine ⟨inr_of hO hg3, ?_⟩
  obtain ⟨n143, hv, h0⟩ := bindS h0
  refine call_is hO hX (fn_granule_Near hO hv) (by kernel_rfl) [4] rfl ⟨rfl, rfl, trivial⟩ rfl ?_
  cbv
  obtain ⟨⟨n144, n145⟩, hv, h0⟩ := bindS h0
  try dsimp only at h0
  refine call_is hO hX (fn_group_at hO hv) (by kernel_rfl) [4] rfl ⟨rfl, rfl, trivial⟩ rfl ?_
  cbv
  obtain ⟨last2, h1, h0⟩ := bindS h0
  rcases condS h1 with ⟨hc4, h1⟩ | ⟨hc4, h1⟩
  · as_aux_lemma =>
    rw [hc4]
    cbv
    obtain ⟨hg5, h1⟩ := grdS h1
    refine ⟨inr_of hO hg5, ?_⟩
    cases h1
    try dsimp only at h0
    obtain ⟨hg6, h0⟩ := grdS h0
    refine ⟨inr_of hO hg6, ?_⟩
    obtain ⟨hg7, h0⟩ := grdS h0
    refine ⟨inr_of hO hg7, ?_⟩
    obtain ⟨x228, h1, h0⟩ := bindS h0
    rcases condS h1 with ⟨hc8, h1⟩ | ⟨hc8, h1⟩
    · as_aux_lemma =>
      rw [hc8]
      cbv
      cases h1
      try dsimp only at h0
      obtain ⟨e1, h1, h0⟩ := bindS h0
      rcases condS h1 with ⟨hc9, h1⟩ | ⟨hc9, h1⟩
      · rw [hc9]
        cbv
        obtain ⟨hg10, h1⟩ := grdS h1
        refine ⟨inr_of hO hg10, ?_⟩
        obtain ⟨hg11, h1⟩ := grdS h1
        refine ⟨inr_of hO hg11, ?_⟩
        obtain ⟨⟨n146, n147⟩, hv, h1⟩ := bindS h1
        try dsimp only at h1
        refine call_is hO hX (fn_group_at hO hv) (by kernel_rfl) [4] rfl ⟨rfl, rfl, trivial⟩ rfl ?_
        cbv
        cases h1
        try dsimp only at h0
        cases h0
        exact fin_ok hX rfl ⟨[], _, _, ⟨rfl, rfl⟩, rfl, rfl, rfl, rfl, by cbv; try simp⟩
      · rw [hc9]
        cbv
        obtain ⟨x230, h2, h1⟩ := bindS h1
        rcases condS h2 with ⟨hc12, h2⟩ | ⟨hc12, h2⟩
        · rw [hc12]
          cbv
          obtain ⟨hg13, h2⟩ := grdS h2
          refine ⟨inr_of hO hg13, ?_⟩
          cases h2
          try dsimp only at h1
          rcases condS h1 with ⟨hc14, h1⟩ | ⟨hc14, h1⟩
          · rw [hc14]
            cbv
            obtain ⟨hg15, h1⟩ := grdS h1
            refine ⟨inr_of hO hg15, ?_⟩
            obtain ⟨hg16, h1⟩ := grdS h1
            refine ⟨inr_of hO hg16, ?_⟩
            obtain ⟨⟨n148, n149⟩, hv, h1⟩ := bindS h1
            try dsimp only at h1
            refine call_is hO hX (fn_group_at hO hv) (by kernel_rfl) [4] rfl ⟨rfl, rfl, trivial⟩ rfl ?_
            cbv
            cases h1
            try dsimp only at h0
            cases h0
            exact fin_ok hX rfl ⟨[], _, _, ⟨rfl, rfl⟩, rfl, rfl, rfl, rfl, by cbv; try simp⟩
          · rw [hc14]
            cbv
            cases h1
            try dsimp only at h0
            cases h0
            exact fin_ok hX rfl ⟨[], _, _, ⟨rfl, rfl⟩, rfl, rfl, rfl, rfl, by cbv; try simp⟩
        · rw [hc12]
          cbv
          cases h2
          try dsimp only at h1
          replace h1 := condF h1 rfl
          cases h1
          try dsimp only at h0
          cases h0
          exact fin_ok hX rfl ⟨[], _, _, ⟨rfl, rfl⟩, rfl, rfl, rfl, rfl, by cbv; try simp⟩
    · as_aux_lemma =>
      rw [hc8]
      cbv
      cases h1
      try dsimp only at h0
      obtain ⟨e1, h1, h0⟩ := bindS h0
      replace h1 := condF h1 rfl
      obtain ⟨x230, h2, h1⟩ := bindS h1
      rcases condS h2 with ⟨hc17, h2⟩ | ⟨hc17, h2⟩
      · rw [hc17]
        cbv
        obtain ⟨hg18, h2⟩ := grdS h2
        refine ⟨inr_of hO hg18, ?_⟩
        cases h2
        try dsimp only at h1
        rcases condS h1 with ⟨hc19, h1⟩ | ⟨hc19, h1⟩
        · rw [hc19]
          cbv
          obtain ⟨hg20, h1⟩ := grdS h1
          refine ⟨inr_of hO hg20, ?_⟩
          obtain ⟨hg21, h1⟩ := grdS h1
          refine ⟨inr_of hO hg21, ?_⟩
          obtain ⟨⟨n148, n149⟩, hv, h1⟩ := bindS h1
          try dsimp only at h1
          refine call_is hO hX (fn_group_at hO hv) (by kernel_rfl) [4] rfl ⟨rfl, rfl, trivial⟩ rfl ?_
          cbv
          cases h1
          try dsimp only at h0
          cases h0
          exact fin_ok hX rfl ⟨[], _, _, ⟨rfl, rfl⟩, rfl, rfl, rfl, rfl, by cbv; try simp⟩
        · rw [hc19]
          cbv
          cases h1
          try dsimp only at h0
          cases h0
          exact fin_ok hX rfl ⟨[], _, _, ⟨rfl, rfl⟩, rfl, rfl, rfl, rfl, by cbv; try simp⟩
      · rw [hc17]
        cbv
        cases h2
        try dsimp only at h1
        replace h1 := condF h1 rfl
        cases h1
        try dsimp only at h0
        cases h0
        exact fin_ok hX rfl ⟨[], _, _, ⟨rfl, rfl⟩, rfl, rfl, rfl, rfl, by cbv; try simp⟩
  · as_aux_lemma =>
    rw [hc4]
    cbv
    cases h1
    try dsimp only at h0
    obtain ⟨hg22, h0⟩ := grdS h0
    refine ⟨inr_of hO hg22, ?_⟩
    obtain ⟨hg23, h0⟩ := grdS h0
    refine ⟨inr_of hO hg23, ?_⟩
    obtain ⟨x228, h1, h0⟩ := bindS h0
    rcases condS h1 with ⟨hc24, h1⟩ | ⟨hc24, h1⟩
    · as_aux_lemma =>
      rw [hc24]
      cbv
      cases h1
      try dsimp only at h0
      obtain ⟨e1, h1, h0⟩ := bindS h0
      rcases condS h1 with ⟨hc25, h1⟩ | ⟨hc25, h1⟩
      · rw [hc25]
        cbv
        obtain ⟨hg26, h1⟩ := grdS h1
        refine ⟨inr_of hO hg26, ?_⟩
        obtain ⟨hg27, h1⟩ := grdS h1
        refine ⟨inr_of hO hg27, ?_⟩
        obtain ⟨⟨n146, n147⟩, hv, h1⟩ := bindS h1
        try dsimp only at h1
        refine call_is hO hX (fn_group_at hO hv) (by kernel_rfl) [4] rfl ⟨rfl, rfl, trivial⟩ rfl ?_
        cbv
        cases h1
        try dsimp only at h0
        cases h0
        exact fin_ok hX rfl ⟨[], _, _, ⟨rfl, rfl⟩, rfl, rfl, rfl, rfl, by cbv; try simp⟩
      · rw [hc25]
        cbv
        obtain ⟨x230, h2, h1⟩ := bindS h1
        rcases condS h2 with ⟨hc28, h2⟩ | ⟨hc28, h2⟩
        · rw [hc28]
          cbv
          obtain ⟨hg29, h2⟩ := grdS h2
          refine ⟨inr_of hO hg29, ?_⟩
          cases h2
          try dsimp only at h1
          rcases condS h1 with ⟨hc30, h1⟩ | ⟨hc30, h1⟩
          · rw [hc30]
            cbv
            obtain ⟨hg31, h1⟩ := grdS h1
            refine ⟨inr_of hO hg31, ?_⟩
            obtain ⟨hg32, h1⟩ := grdS h1
            refine ⟨inr_of hO hg32, ?_⟩
            obtain ⟨⟨n148, n149⟩, hv, h1⟩ := bindS h1
            try dsimp only at h1
            refine call_is hO hX (fn_group_at hO hv) (by kernel_rfl) [4] rfl ⟨rfl, rfl, trivial⟩ rfl ?_
            cbv
            cases h1
            try dsimp only at h0
            cases h0
            exact fin_ok hX rfl ⟨[], _, _, ⟨rfl, rfl⟩, rfl, rfl, rfl, rfl, by cbv; try simp⟩
          · rw [hc30]
            cbv
            cases h1
            try dsimp only at h0
            cases h0
            exact fin_ok hX rfl ⟨[], _, _, ⟨rfl, rfl⟩, rfl, rfl, rfl, rfl, by cbv; try simp⟩
        · rw [hc28]
          cbv
          cases h2
          try dsimp only at h1
          replace h1 := condF h1 rfl
          cases h1
          try dsimp only at h0
          cases h0
          exact fin_ok hX rfl ⟨[], _, _, ⟨rfl, rfl⟩, rfl, rfl, rfl, rfl, by cbv; try simp⟩
    · as_aux_lemma =>
      rw [hc24]
      cbv
      cases h1
      try dsimp only at h0
      obtain ⟨e1, h1, h0⟩ := bindS h0
      replace h1 := condF h1 rfl
      obtain ⟨x230, h2, h1⟩ := bindS h1
      rcases condS h2 with ⟨hc33, h2⟩ | ⟨hc33, h2⟩
      · rw [hc33]
        cbv
        obtain ⟨hg34, h2⟩ := grdS h2
        refine ⟨inr_of hO hg34, ?_⟩
        cases h2
        try dsimp only at h1
        rcases condS h1 with ⟨hc35, h1⟩ | ⟨hc35, h1⟩
        · rw [hc35]
          cbv
          obtain ⟨hg36, h1⟩ := grdS h1
          refine ⟨inr_of hO hg36, ?_⟩
          obtain ⟨hg37, h1⟩ := grdS h1
          refine ⟨inr_of hO hg37, ?_⟩
          obtain ⟨⟨n148, n149⟩, hv, h1⟩ := bindS h1
          try dsimp only at h1
          refine call_is hO hX (fn_group_at hO hv) (by kernel_rfl) [4] rfl ⟨rfl, rfl, trivial⟩ rfl ?_
          cbv
          cases h1
          try dsimp only at h0
          cases h0
          exact fin_ok hX rfl ⟨[], _, _, ⟨rfl, rfl⟩, rfl, rfl, rfl, rfl, by cbv; try simp⟩
        · rw [hc35]
          cbv
          cases h1
          try dsimp only at h0
          cases h0
          exact fin_ok hX rfl ⟨[], _, _, ⟨rfl, rfl⟩, rfl, rfl, rfl, rfl, by cbv; try simp⟩
      · rw [hc33]
        cbv
        cases h2
        try dsimp only at h1
        replace h1 := condF h1 rfl
        cases h1
        try dsimp only at h0
        cases h0
        exact fin_ok hX rfl ⟨[], _, _, ⟨rfl, rfl⟩, rfl, rfl, rfl, rfl, by cbv; try simp⟩
set_option maxHeartbeats 40000000 in
theorem fn_group_collect_3 {O0 : Ops} (hO0 : O0 = std) {period_1 : Int} {n_1 : Int} {c_1 : Int} {c_2 : Int} {c_3 : Int} {c_4 : Int} {c_5 : Int} {c_6 : List (Int × Int)} {c_7 : List (Int × Int)} {r1 : Int} {r2 : Int} {r3 : List (Int × Int)} {r4 : Int} (h : m_group_collect_3 O0 period_1 n_1 c_1 c_2 c_3 c_4 c_5 c_6 c_7 = some (r1, r2, r3, r4)) :
    Fn Try.prog 27 [.c (.int .i64 period_1), .c (.int .i64 n_1), .c (.fn 46 [0, 1, 2])] [.ro 24 [.int .i64 c_1, .int .i64 c_2, .sl 3], .ro 24 [.int .i64 c_3, .int .i64 c_4, .sl 4], .ro 3 [.int .i64 c_5], .arr false .i2 c_6, .arr false .i2 c_7] (fun v c => v = .tup [.many [.int .i64 r1, .int .i64 r2, .sl 5], .one (.int .i64 r4)] ∧ c = [.arr true .i2 r3]) := by
  refine fn_run tab_holds eqs_holds mixed [] Try.func27 (by kernel_rfl) (by kernel_rfl) (Nat.le_of_ble_eq_true rfl) ?_
  intro O X hO hX
  rw [hO0, ← hO] at h
  unfold m_group_collect_3 at h
  have h0 := h; clear h
  cbv
  obtain ⟨l103, hi, h0⟩ := bindS h0
  obtain ⟨I1, hI1, hi⟩ := loopS hi
  refine loop1 tab_holds eqs_holds mixed [] hO hX I1 (fun y => [(8, .c (.sl 6)), (13, .c (.int .i64 y.2.1))]) (fun y => [(6, .own 40 .i2 y.2.2)]) (fun y => y.1) _ (by kernel_rfl) hi (by cbv; try simp) ?_
  refine allp ?_
  intro n1
  refine allp ?_
  intro x235
  intro l100 hi
  cbv
  rw [hI1] at hi
  obtain ⟨n1, rfl, x1, h1, hi1⟩ := iterS hi
  unfold m_group_collect_3_L1 at h1
  try dsimp only at h1
  rcases condS h1 with ⟨hc1, h1⟩ | ⟨hc1, h1⟩
  · rw [hc1]
    cbv
    obtain ⟨⟨n152, n153, b80⟩, hv, h1⟩ := bindS h1
    try dsimp only at h1
    refine call_is hO hX (fn_group_Inside_1 hO hv) (by kernel_rfl) [0, 1, 2, 3, 4] rfl ⟨rfl, rfl, rfl, rfl, rfl, rfl, rfl, rfl, rfl, rfl, trivial⟩ rfl ?_
    cbv
    obtain ⟨l102, h2, h1⟩ := bindS h1
    rcases condS h2 with ⟨hc2, h2⟩ | ⟨hc2, h2⟩
    · rw [hc2]
      cbv
      obtain ⟨hg3, h2⟩ := grdS h2
      refine ⟨room_of hO hg3, ?_⟩
      obtain ⟨hg4, h2⟩ := grdS h2
      refine ⟨room_of hO hg4, ?_⟩
      cases h2
      try dsimp only at h1
      obtain ⟨hg5, h1⟩ := grdS h1
      refine ⟨inr_of hO hg5, ?_⟩
      cases h1
      exact ⟨_, [0, 1, 2, 3, 4, 5, 9], nextI hI1 hi1, by cbv; try simp, by first | exact Nat.lt_succ_self _ | omega⟩
    · rw [hc2]
      cbv
      cases h2
      try dsimp only at h1
      obtain ⟨hg6, h1⟩ := grdS h1
      refine ⟨inr_of hO hg6, ?_⟩
      cases h1
      exact ⟨_, [0, 1, 2, 3, 4, 5, 6], nextI hI1 hi1, by cbv; try simp, by first | exact Nat.lt_succ_self _ | omega⟩
  · rw [hc1]
    cbv
    cases h1
    cases exitI hi1
    try dsimp only at h0
    rcases condS h0 with ⟨hc7, h0⟩ | ⟨hc7, h0⟩
    · rw [hc7]
      cbv
      cases h0
      refine fin_nil hX .i2 7 rfl ?_
      cbv
      exact fin_ok hX rfl ⟨[7], _, _, ⟨rfl, rfl⟩, rfl, rfl, rfl, rfl, by cbv; try simp⟩
    · rw [hc7]
      cbv
      obtain ⟨⟨n154, n155, l104, n156⟩, hv, h0⟩ := bindS h0
      try dsimp only at h0
      refine call_is hO hX (fn_group_made hO hv) (by kernel_rfl) [6] rfl ⟨rfl, rfl, trivial⟩ rfl ?_
      cbv
      cases h0
      exact fin_ok hX rfl ⟨[7], _, _, ⟨rfl, rfl⟩, rfl, rfl, rfl, rfl, by cbv; try simp⟩
set_option maxHeartbeats 40000000 in
theorem fn_group_Inside {O0 : Ops} (hO0 : O0 = std) {c_1 : Int} {c_2 : Int} {in_1 : Int} {in_2 : Int} {m_1 : Int} {c_3 : List (Int × Int)} {in_3 : List (Int × Int)} {r1 : Int} {r2 : Int} {r3 : List (Int × Int)} {r4 : Int} (h : m_group_Inside O0 c_1 c_2 in_1 in_2 m_1 c_3 in_3 = some (r1, r2, r3, r4)) :
    Fn Try.prog 18 [.agg [.int .i64 c_1, .int .i64 c_2, .sl 0], .agg [.int .i64 in_1, .int .i64 in_2, .sl 1], .c (.int .i64 m_1)] [.arr false .i2 c_3, .arr false .i2 in_3] (fun v c => v = .tup [.many [.int .i64 r1, .int .i64 r2, .sl 2], .one (.int .i64 r4)] ∧ c = [.arr true .i2 r3]) := by
  refine fn_run tab_holds eqs_holds mixed [(6, (.seg 1 [0, 1, 2, 3, 4, 5, 6, 7, 8] .fin), []), (7, (.seg 1 [0, 1, 2, 3, 4, 5, 6, 7, 8, 9, 10, 11, 12] .fin), [])] Try.func18 (by kernel_rfl) (by kernel_rfl) (Nat.le_of_ble_eq_true rfl) ?_
  intro O X hO hX
  rw [hO0, ← hO] at h
  unfold m_group_Inside at h
  have h0 := h; clear h
  cbv
  obtain ⟨x223, h1, h0⟩ := bindS h0
  obtain ⟨b77, hv, h1⟩ := bindS h1
  refine call_is hO hX (fn_granule_Valid hO hv) (by kernel_rfl) [0] rfl ⟨rfl, rfl, trivial⟩ rfl ?_
  cbv
  rcases condS h1 with ⟨hc1, h1⟩ | ⟨hc1, h1⟩
  · rw [hc1]
    cbv
    cases h1
    try dsimp only at h0
    replace h0 := condT h0 rfl
    cases h0
    refine fin_nil hX .i2 6 rfl ?_
    cbv
    exact fin_ok hX rfl ⟨[6], _, _, ⟨rfl, rfl⟩, rfl, rfl, rfl, rfl, by cbv; try simp⟩
  · as_aux_lemma =>
    rw [hc1]
    cbv
    obtain ⟨b78, hv, h1⟩ := bindS h1
    refine call_is hO hX (fn_granule_Valid hO hv) (by kernel_rfl) [1] rfl ⟨rfl, rfl, trivial⟩ rfl ?_
    cbv
    rcases condS h1 with ⟨hc2, h1⟩ | ⟨hc2, h1⟩
    · rw [hc2]
      cbv
      cases h1
      try dsimp only at h0
      replace h0 := condT h0 rfl
      cases h0
      refine fin_nil hX .i2 6 rfl ?_
      cbv
      exact fin_ok hX rfl ⟨[6], _, _, ⟨rfl, rfl⟩, rfl, rfl, rfl, rfl, by cbv; try simp⟩
    · as_aux_lemma =>
      rw [hc2]
      cbv
      cases h1
      try dsimp only at h0
      rcases condS h0 with ⟨hc3, h0⟩ | ⟨hc3, h0⟩
      · rw [hc3]
        cbv
        cases h0
        refine fin_nil hX .i2 6 rfl ?_
        cbv
        exact fin_ok hX rfl ⟨[6], _, _, ⟨rfl, rfl⟩, rfl, rfl, rfl, rfl, by cbv; try simp⟩
      · as_aux_lemma =>
        rw [hc3]
        cbv
        obtain ⟨⟨n138, n139⟩, hv, h0⟩ := bindS h0
        try dsimp only at h0
        refine call_is hO hX (fn_group_common hO hv) (by kernel_rfl) [] rfl trivial rfl ?_
        cbv
        rcases condS h0 with ⟨hc4, h0⟩ | ⟨hc4, h0⟩
        · rw [hc4]
          cbv
          cases h0
          refine fin_nil hX .i2 6 rfl ?_
          cbv
          exact fin_ok hX rfl ⟨[6], _, _, ⟨rfl, rfl⟩, rfl, rfl, rfl, rfl, by cbv; try simp⟩
        · as_aux_lemma =>
          rw [hc4]
          cbv
          obtain ⟨hg5, h0⟩ := grdS h0
          refine ⟨nz_of hO hg5, ?_⟩
          obtain ⟨hg6, h0⟩ := grdS h0
          refine ⟨inr_of hO hg6, ?_⟩
          obtain ⟨hg7, h0⟩ := grdS h0
          refine ⟨inr_of hO hg7, ?_⟩
          obtain ⟨x225, h1, h0⟩ := bindS h0
          rcases condS h1 with ⟨hc8, h1⟩ | ⟨hc8, h1⟩
          · rw [hc8]
            cbv
            cases h1
            try dsimp only at h0
            replace h0 := condT h0 rfl
            cases h0
            refine fin_nil hX .i2 6 rfl ?_
            cbv
            exact fin_ok hX rfl ⟨[6], _, _, ⟨rfl, rfl⟩, rfl, rfl, rfl, rfl, by cbv; try simp⟩
          · rw [hc8]
            cbv
            obtain ⟨hg9, h1⟩ := grdS h1
            refine ⟨nz_of hO hg9, ?_⟩
            obtain ⟨hg10, h1⟩ := grdS h1
            refine ⟨inr_of hO hg10, ?_⟩
            obtain ⟨hg11, h1⟩ := grdS h1
            refine ⟨inr_of hO hg11, ?_⟩
            cases h1
            try dsimp only at h0
            rcases condS h0 with ⟨hc12, h0⟩ | ⟨hc12, h0⟩
            · rw [hc12]
              cbv
              cases h0
              refine fin_nil hX .i2 6 rfl ?_
              cbv
              exact fin_ok hX rfl ⟨[6], _, _, ⟨rfl, rfl⟩, rfl, rfl, rfl, rfl, by cbv; try simp⟩
            · rw [hc12]
              cbv
              obtain ⟨⟨n157, n158, l105, n159⟩, hv, h0⟩ := bindS h0
              try dsimp only at h0
              refine call_is hO hX (fn_group_collect_3 hO hv) (by kernel_rfl) [3, 2, 4, 1, 0] rfl ⟨rfl, rfl, rfl, rfl, rfl, rfl, rfl, rfl, rfl, rfl, trivial⟩ rfl ?_
              cbv
              cases h0
              exact fin_ok hX rfl ⟨[6], _, _, ⟨rfl, rfl⟩, rfl, rfl, rfl, rfl, by cbv; try simp⟩
end Go.Proofs.Ytebkfbkgmbgobaa
