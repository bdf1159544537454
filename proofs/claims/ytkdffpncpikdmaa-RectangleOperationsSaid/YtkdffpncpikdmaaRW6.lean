/-
  The code does what its models say (printed by lift.py).
-/
import Derived.Test.YtkdffpncpikdmaaRM
import Derived.Test.YtkdffpncpikdmaaSrtR
namespace Go.Proofs.Ytkdffpncpikdmaa
open Go.RowKit
set_option maxRecDepth 100000

set_option maxHeartbeats 40000000 in
theorem fn_ref35_put {O0 : Ops} (hO0 : O0 = std) {x_1 : Int} {l_1 : List Int} {r1 : List Int} (h : m_ref35_put O0 x_1 l_1 = some r1) :
    Fn Try.prog 67 [.c (.sl 0), .c (.int .i64 x_1)] [.arr false .i1 l_1] (fun v c => v = .c (.sl 1) ∧ c = [.own 3 .i1 r1]) := by
  refine fn_run tab_holds eqs_holds mixed [] Try.func67 (by kernel_rfl) (by kernel_rfl) (Nat.le_of_ble_eq_true rfl) ?_
  intro O X hO hX
  rw [hO0, ← hO] at h
  unfold m_ref35_put at h
  have h0 := h; clear h
  cbv
  obtain ⟨⟨done7, l64⟩, hi, h0⟩ := bindS h0
  obtain ⟨I1, hI1, hi⟩ := loopS hi
  refine loop1 tab_holds eqs_holds mixed [] hO hX I1 (fun y => [(4, .junk), (5, .c (.sl 2)), (6, .c (.bool y.2.1)), (7, .c (.int .i64 y.2.2.1))]) (fun y => [(2, .own 3 .i1 y.2.2.2)]) (fun y => y.1) _ (by kernel_rfl) hi (by cbv; try simp) ?_
  refine allp ?_
  intro n1
  refine allp ?_
  intro done4
  refine allp ?_
  intro i12
  intro l59 hi
  cbv
  rw [hI1] at hi
  obtain ⟨n1, rfl, x1, h1, hi1⟩ := iterS hi
  unfold m_ref35_put_L1 at h1
  try dsimp only at h1
  rcases condS h1 with ⟨hc1, h1⟩ | ⟨hc1, h1⟩
  · as_aux_lemma =>
    rw [hc1]
    cbv
    obtain ⟨x67, h2, h1⟩ := bindS h1
    rcases condS h2 with ⟨hc2, h2⟩ | ⟨hc2, h2⟩
    · as_aux_lemma =>
      rw [hc2]
      cbv
      obtain ⟨hg3, h2⟩ := grdS h2
      refine ⟨idx_of hO hg3, ?_⟩
      obtain ⟨hg4, h2⟩ := grdS h2
      refine ⟨kin_of hO hg4, ?_⟩
      cases h2
      try dsimp only at h1
      obtain ⟨⟨done6, l63⟩, h2, h1⟩ := bindS h1
      rcases condS h2 with ⟨hc5, h2⟩ | ⟨hc5, h2⟩
      · as_aux_lemma =>
        rw [hc5]
        cbv
        obtain ⟨hg6, h2⟩ := grdS h2
        refine ⟨idx_of hO hg6, ?_⟩
        obtain ⟨hg7, h2⟩ := grdS h2
        refine ⟨kin_of hO hg7, ?_⟩
        obtain ⟨l61, h3, h2⟩ := bindS h2
        rcases condS h3 with ⟨hc8, h3⟩ | ⟨hc8, h3⟩
        · rw [hc8]
          cbv
          obtain ⟨hg9, h3⟩ := grdS h3
          refine ⟨room_of hO hg9, ?_⟩
          obtain ⟨hg10, h3⟩ := grdS h3
          refine ⟨room_of hO hg10, ?_⟩
          cases h3
          try dsimp only at h2
          cases h2
          try dsimp only at h1
          obtain ⟨hg11, h1⟩ := grdS h1
          refine ⟨idx_of hO hg11, ?_⟩
          obtain ⟨hg12, h1⟩ := grdS h1
          refine ⟨kin_of hO hg12, ?_⟩
          obtain ⟨hg13, h1⟩ := grdS h1
          refine ⟨room_of hO hg13, ?_⟩
          obtain ⟨hg14, h1⟩ := grdS h1
          refine ⟨room_of hO hg14, ?_⟩
          obtain ⟨hg15, h1⟩ := grdS h1
          refine ⟨inr_of hO hg15, ?_⟩
          cases h1
          exact ⟨_, [0, 1, 6], nextI hI1 hi1, by cbv; try simp, by first | exact Nat.lt_succ_self _ | omega⟩
        · rw [hc8]
          cbv
          cases h3
          try dsimp only at h2
          cases h2
          try dsimp only at h1
          obtain ⟨hg16, h1⟩ := grdS h1
          refine ⟨idx_of hO hg16, ?_⟩
          obtain ⟨hg17, h1⟩ := grdS h1
          refine ⟨kin_of hO hg17, ?_⟩
          obtain ⟨hg18, h1⟩ := grdS h1
          refine ⟨room_of hO hg18, ?_⟩
          obtain ⟨hg19, h1⟩ := grdS h1
          refine ⟨room_of hO hg19, ?_⟩
          obtain ⟨hg20, h1⟩ := grdS h1
          refine ⟨inr_of hO hg20, ?_⟩
          cases h1
          exact ⟨_, [0, 1, 4], nextI hI1 hi1, by cbv; try simp, by first | exact Nat.lt_succ_self _ | omega⟩
      · rw [hc5]
        cbv
        cases h2
        try dsimp only at h1
        obtain ⟨hg21, h1⟩ := grdS h1
        refine ⟨idx_of hO hg21, ?_⟩
        obtain ⟨hg22, h1⟩ := grdS h1
        refine ⟨kin_of hO hg22, ?_⟩
        obtain ⟨hg23, h1⟩ := grdS h1
        refine ⟨room_of hO hg23, ?_⟩
        obtain ⟨hg24, h1⟩ := grdS h1
        refine ⟨room_of hO hg24, ?_⟩
        obtain ⟨hg25, h1⟩ := grdS h1
        refine ⟨inr_of hO hg25, ?_⟩
        cases h1
        exact ⟨_, [0, 1, 4], nextI hI1 hi1, by cbv; try simp, by first | exact Nat.lt_succ_self _ | omega⟩
    · rw [hc2]
      cbv
      cases h2
      try dsimp only at h1
      obtain ⟨⟨done6, l63⟩, h2, h1⟩ := bindS h1
      replace h2 := condF h2 rfl
      cases h2
      try dsimp only at h1
      obtain ⟨hg26, h1⟩ := grdS h1
      refine ⟨idx_of hO hg26, ?_⟩
      obtain ⟨hg27, h1⟩ := grdS h1
      refine ⟨kin_of hO hg27, ?_⟩
      obtain ⟨hg28, h1⟩ := grdS h1
      refine ⟨room_of hO hg28, ?_⟩
      obtain ⟨hg29, h1⟩ := grdS h1
      refine ⟨room_of hO hg29, ?_⟩
      obtain ⟨hg30, h1⟩ := grdS h1
      refine ⟨inr_of hO hg30, ?_⟩
      cases h1
      exact ⟨_, [0, 1, 4], nextI hI1 hi1, by cbv; try simp, by first | exact Nat.lt_succ_self _ | omega⟩
  · rw [hc1]
    cbv
    cases h1
    cases exitI hi1
    try dsimp only at h0
    obtain ⟨l66, h1, h0⟩ := bindS h0
    rcases condS h1 with ⟨hc31, h1⟩ | ⟨hc31, h1⟩
    · rw [hc31]
      cbv
      obtain ⟨hg32, h1⟩ := grdS h1
      refine ⟨room_of hO hg32, ?_⟩
      obtain ⟨hg33, h1⟩ := grdS h1
      refine ⟨room_of hO hg33, ?_⟩
      cases h1
      try dsimp only at h0
      cases h0
      exact fin_ok hX rfl ⟨[4], _, _, ⟨rfl, rfl⟩, rfl, rfl, rfl, rfl, by cbv; try simp⟩
    · rw [hc31]
      cbv
      cases h1
      try dsimp only at h0
      cases h0
      exact fin_ok hX rfl ⟨[2], _, _, ⟨rfl, rfl⟩, rfl, rfl, rfl, rfl, by cbv; try simp⟩
set_option maxHeartbeats 40000000 in
theorem fn_ref35_ends {O0 : Ops} (hO0 : O0 = std) {a_1 : List (Int × Int × Int × Int)} {b_1 : List (Int × Int × Int × Int)} {r1 : List Int} (h : m_ref35_ends O0 a_1 b_1 = some r1) :
    Fn Try.prog 43 [.c (.sl 0), .c (.sl 1)] [.arr false .i4 a_1, .arr false .i4 b_1] (fun v c => v = .c (.sl 2) ∧ c = [.own 3 .i1 r1]) := by
  refine fn_run tab_holds eqs_holds mixed [(5, (.seg 1 [0, 1, 2, 3, 4, 5, 6, 8, 9, 10, 11, 12, 13] (.seg 2 [7] (.seg 2 [14] (.seg 1 [15] .fin)))), []), (9, (.seg 1 [0, 1, 2, 3, 4, 5, 6, 8, 9, 10, 11, 12, 13] (.seg 2 [7] (.seg 2 [14] (.seg 1 [15] .fin)))), [])] Try.func43 (by kernel_rfl) (by kernel_rfl) (Nat.le_of_ble_eq_true rfl) ?_
  intro O X hO hX
  rw [hO0, ← hO] at h
  unfold m_ref35_ends at h
  have h0 := h; clear h
  cbv
  obtain ⟨l72, hi, h0⟩ := bindS h0
  obtain ⟨I1, hI1, hi⟩ := loopS hi
  refine loop1 tab_holds eqs_holds mixed [(5, (.seg 1 [0, 1, 2, 3, 4, 5, 6, 8, 9, 10, 11, 12, 13] (.seg 2 [7] (.seg 2 [14] (.seg 1 [15] .fin)))), []), (9, (.seg 1 [0, 1, 2, 3, 4, 5, 6, 8, 9, 10, 11, 12, 13] (.seg 2 [7] (.seg 2 [14] (.seg 1 [15] .fin)))), [])] hO hX I1 (fun y => [(4, .junk), (5, .c (.sl 3)), (6, .c (.int .i64 y.2.1))]) (fun y => [(3, .own 3 .i1 y.2.2)]) (fun y => y.1) _ (by kernel_rfl) hi (by cbv; try simp) ?_
  refine allp ?_
  intro n1
  refine allp ?_
  intro i13
  intro l69 hi
  cbv
  rw [hI1] at hi
  obtain ⟨n1, rfl, x1, h1, hi1⟩ := iterS hi
  unfold m_ref35_ends_L1 at h1
  try dsimp only at h1
  rcases condS h1 with ⟨hc1, h1⟩ | ⟨hc1, h1⟩
  · rw [hc1]
    cbv
    obtain ⟨hg2, h1⟩ := grdS h1
    refine ⟨idx_of hO hg2, ?_⟩
    obtain ⟨hg3, h1⟩ := grdS h1
    refine ⟨kin_of hO hg3, ?_⟩
    refine ⟨idx_of hO hg2, ?_⟩
    refine ⟨kin_of hO hg3, ?_⟩
    obtain ⟨l70, hv, h1⟩ := bindS h1
    refine call_is hO hX (fn_ref35_put hO hv) (by kernel_rfl) [3] rfl ⟨rfl, rfl, trivial⟩ rfl ?_
    cbv
    obtain ⟨l71, hv, h1⟩ := bindS h1
    refine call_is hO hX (fn_ref35_put hO hv) (by kernel_rfl) [4] rfl ⟨rfl, rfl, trivial⟩ rfl ?_
    cbv
    obtain ⟨hg4, h1⟩ := grdS h1
    refine ⟨inr_of hO hg4, ?_⟩
    cases h1
    exact ⟨_, [0, 1, 2, 5], nextI hI1 hi1, by cbv; try simp, by first | exact Nat.lt_succ_self _ | omega⟩
  · as_aux_lemma =>
    rw [hc1]
    cbv
    cases h1
    cases exitI hi1
    try dsimp only at h0
    obtain ⟨l78, hi, h0⟩ := bindS h0
    obtain ⟨I2, hI2, hi⟩ := loopS hi
    refine loop1 tab_holds eqs_holds mixed [(5, (.seg 1 [0, 1, 2, 3, 4, 5, 6, 8, 9, 10, 11, 12, 13] (.seg 2 [7] (.seg 2 [14] (.seg 1 [15] .fin)))), []), (9, (.seg 1 [0, 1, 2, 3, 4, 5, 6, 8, 9, 10, 11, 12, 13] (.seg 2 [7] (.seg 2 [14] (.seg 1 [15] .fin)))), [])] hO hX I2 (fun y => [(5, .c (.sl 3)), (7, .c (.int .i64 y.2.1))]) (fun y => [(3, .own 3 .i1 y.2.2)]) (fun y => y.1) _ (by kernel_rfl) hi (by cbv; try simp) ?_
    refine allp ?_
    intro n2
    refine allp ?_
    intro i15
    intro l75 hi
    cbv
    rw [hI2] at hi
    obtain ⟨n2, rfl, x2, h1, hi2⟩ := iterS hi
    unfold m_ref35_ends_L2 at h1
    try dsimp only at h1
    rcases condS h1 with ⟨hc5, h1⟩ | ⟨hc5, h1⟩
    · rw [hc5]
      cbv
      obtain ⟨hg6, h1⟩ := grdS h1
      refine ⟨idx_of hO hg6, ?_⟩
      obtain ⟨hg7, h1⟩ := grdS h1
      refine ⟨kin_of hO hg7, ?_⟩
      refine ⟨idx_of hO hg6, ?_⟩
      refine ⟨kin_of hO hg7, ?_⟩
      obtain ⟨l76, hv, h1⟩ := bindS h1
      refine call_is hO hX (fn_ref35_put hO hv) (by kernel_rfl) [3] rfl ⟨rfl, rfl, trivial⟩ rfl ?_
      cbv
      obtain ⟨l77, hv, h1⟩ := bindS h1
      refine call_is hO hX (fn_ref35_put hO hv) (by kernel_rfl) [4] rfl ⟨rfl, rfl, trivial⟩ rfl ?_
      cbv
      obtain ⟨hg8, h1⟩ := grdS h1
      refine ⟨inr_of hO hg8, ?_⟩
      cases h1
      exact ⟨_, [0, 1, 2, 5], nextI hI2 hi2, by cbv; try simp, by first | exact Nat.lt_succ_self _ | omega⟩
    · rw [hc5]
      cbv
      cases h1
      cases exitI hi2
      try dsimp only at h0
      cases h0
      exact fin_ok hX rfl ⟨[3], _, _, ⟨rfl, rfl⟩, rfl, rfl, rfl, rfl, by cbv; try simp⟩
set_option maxHeartbeats 40000000 in
theorem fn_ref12_Number {O0 : Ops} (hO0 : O0 = std) {x_1 : Int} {r1 : Bool} (h : m_ref12_Number O0 x_1 = some r1) :
    Fn Try.prog 113 [.c (.int .i64 x_1)] [] (fun v c => v = .c (.bool r1) ∧ c = []) := by
  refine fn_run tab_holds eqs_holds mixed [] Try.func113 (by kernel_rfl) (by kernel_rfl) (Nat.le_of_ble_eq_true rfl) ?_
  intro O X hO hX
  rw [hO0, ← hO] at h
  unfold m_ref12_Number at h
  have h0 := h; clear h
  cbv
  obtain ⟨x73, h1, h0⟩ := bindS h0
  rcases condS h1 with ⟨hc1, h1⟩ | ⟨hc1, h1⟩
  · rw [hc1]
    cbv
    cases h1
    try dsimp only at h0
    cases h0
    exact fin_ok hX rfl ⟨[], _, _, ⟨rfl, rfl⟩, rfl, rfl, rfl, rfl, by cbv; try simp⟩
  · rw [hc1]
    cbv
    cases h1
    try dsimp only at h0
    cases h0
    exact fin_ok hX rfl ⟨[], _, _, ⟨rfl, rfl⟩, rfl, rfl, rfl, rfl, by cbv; try simp⟩
set_option maxHeartbeats 40000000 in
theorem fn_ref12_Span {O0 : Ops} (hO0 : O0 = std) {s_1 : Int} {s_2 : Int} {r1 : Bool} (h : m_ref12_Span O0 s_1 s_2 = some r1) :
    Fn Try.prog 101 [.agg [.int .i64 s_1, .int .i64 s_2]] [] (fun v c => v = .c (.bool r1) ∧ c = []) := by
  refine fn_run tab_holds eqs_holds mixed [] Try.func101 (by kernel_rfl) (by kernel_rfl) (Nat.le_of_ble_eq_true rfl) ?_
  intro O X hO hX
  rw [hO0, ← hO] at h
  unfold m_ref12_Span at h
  have h0 := h; clear h
  cbv
  obtain ⟨x76, h1, h0⟩ := bindS h0
  obtain ⟨b29, hv, h1⟩ := bindS h1
  refine call_is hO hX (fn_ref12_Number hO hv) (by kernel_rfl) [] rfl trivial rfl ?_
  cbv
  rcases condS h1 with ⟨hc1, h1⟩ | ⟨hc1, h1⟩
  · rw [hc1]
    cbv
    obtain ⟨b30, hv, h1⟩ := bindS h1
    refine call_is hO hX (fn_ref12_Number hO hv) (by kernel_rfl) [] rfl trivial rfl ?_
    cbv
    rcases condS h1 with ⟨hc2, h1⟩ | ⟨hc2, h1⟩
    · rw [hc2]
      cbv
      cases h1
      try dsimp only at h0
      cases h0
      exact fin_ok hX rfl ⟨[], _, _, ⟨rfl, rfl⟩, rfl, rfl, rfl, rfl, by cbv; try simp⟩
    · rw [hc2]
      cbv
      cases h1
      try dsimp only at h0
      cases h0
      exact fin_ok hX rfl ⟨[], _, _, ⟨rfl, rfl⟩, rfl, rfl, rfl, rfl, by cbv; try simp⟩
  · rw [hc1]
    cbv
    cases h1
    try dsimp only at h0
    cases h0
    exact fin_ok hX rfl ⟨[], _, _, ⟨rfl, rfl⟩, rfl, rfl, rfl, rfl, by cbv; try simp⟩
set_option maxHeartbeats 40000000 in
theorem fn_ref12_Spans {O0 : Ops} (hO0 : O0 = std) {l_1 : List (Int × Int)} {r1 : Bool} (h : m_ref12_Spans O0 l_1 = some r1) :
    Fn Try.prog 82 [.c (.sl 0)] [.arr false .i2 l_1] (fun v c => v = .c (.bool r1) ∧ c = []) := by
  refine fn_run tab_holds eqs_holds mixed [] Try.func82 (by kernel_rfl) (by kernel_rfl) (Nat.le_of_ble_eq_true rfl) ?_
  intro O X hO hX
  rw [hO0, ← hO] at h
  unfold m_ref12_Spans at h
  have h0 := h; clear h
  cbv
  obtain ⟨e1, hi, h0⟩ := bindS h0
  obtain ⟨I1, hI1, hi⟩ := loopS hi
  refine loop1 tab_holds eqs_holds mixed [] hO hX I1 (fun y => [(3, .c (.int .i64 y.2))]) (fun _ => []) (fun y => y.1) _ (by kernel_rfl) hi (by cbv; try simp) ?_
  refine allp ?_
  intro n1
  intro i19 hi
  cbv
  rw [hI1] at hi
  obtain ⟨n1, rfl, x1, h1, hi1⟩ := iterS hi
  unfold m_ref12_Spans_L1 at h1
  try dsimp only at h1
  rcases condS h1 with ⟨hc1, h1⟩ | ⟨hc1, h1⟩
  · rw [hc1]
    cbv
    obtain ⟨hg2, h1⟩ := grdS h1
    refine ⟨idx_of hO hg2, ?_⟩
    obtain ⟨hg3, h1⟩ := grdS h1
    refine ⟨kin_of hO hg3, ?_⟩
    obtain ⟨b31, hv, h1⟩ := bindS h1
    refine call_is hO hX (fn_ref12_Span hO hv) (by kernel_rfl) [] rfl trivial rfl ?_
    cbv
    rcases condS h1 with ⟨hc4, h1⟩ | ⟨hc4, h1⟩
    · rw [hc4]
      cbv
      cases h1
      cases exitI hi1
      try dsimp only at h0
      cases h0
      exact fin_ok hX rfl ⟨[], _, _, ⟨rfl, rfl⟩, rfl, rfl, rfl, rfl, by cbv; try simp⟩
    · rw [hc4]
      cbv
      obtain ⟨hg5, h1⟩ := grdS h1
      refine ⟨inr_of hO hg5, ?_⟩
      cases h1
      exact ⟨_, [0], nextI hI1 hi1, by cbv; try simp, by first | exact Nat.lt_succ_self _ | omega⟩
  · rw [hc1]
    cbv
    cases h1
    cases exitI hi1
    try dsimp only at h0
    cases h0
    exact fin_ok hX rfl ⟨[], _, _, ⟨rfl, rfl⟩, rfl, rfl, rfl, rfl, by cbv; try simp⟩
end Go.Proofs.Ytkdffpncpikdmaa
