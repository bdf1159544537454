/-
  The code does what its models say (printed by lift.py).
-/
import Derived.Test.YtebkfbkgmbgobaaKM
import Derived.Test.YtebkfbkgmbgobaaManW
import Derived.Test.YtebkfbkgmbgobaaKW2
import Derived.Test.YtebkfbkgmbgobaaKW7
namespace Go.Proofs.Ytebkfbkgmbgobaa
open Go.RowKit
set_option maxRecDepth 100000

set_option maxHeartbeats 40000000 in
theorem fn_ref12_In {O0 : Ops} (hO0 : O0 = std) {x_1 : Int} {l_1 : List (Int × Int)} {r1 : Bool} (h : m_ref12_In O0 x_1 l_1 = some r1) :
    Fn Try.prog 79 [.c (.sl 0), .c (.int .i64 x_1)] [.arr false .i2 l_1] (fun v c => v = .c (.bool r1) ∧ c = []) := by
  refine fn_run tab_holds eqs_holds mixed [] Try.func79 (by kernel_rfl) (by kernel_rfl) (Nat.le_of_ble_eq_true rfl) ?_
  intro O X hO hX
  rw [hO0, ← hO] at h
  unfold m_ref12_In at h
  have h0 := h; clear h
  cbv
  obtain ⟨e1, hi, h0⟩ := bindS h0
  obtain ⟨I1, hI1, hi⟩ := loopS hi
  refine loop1 tab_holds eqs_holds mixed [] hO hX I1 (fun y => [(5, .c (.int .i64 y.2))]) (fun _ => []) (fun y => y.1) _ (by kernel_rfl) hi (by cbv; try simp) ?_
  refine allp ?_
  intro n1
  intro i25 hi
  cbv
  rw [hI1] at hi
  obtain ⟨n1, rfl, x1, h1, hi1⟩ := iterS hi
  unfold m_ref12_In_L1 at h1
  try dsimp only at h1
  rcases condS h1 with ⟨hc1, h1⟩ | ⟨hc1, h1⟩
  · as_aux_lemma =>
    rw [hc1]
    cbv
    obtain ⟨x165, h2, h1⟩ := bindS h1
    rcases condS h2 with ⟨hc2, h2⟩ | ⟨hc2, h2⟩
    · rw [hc2]
      cbv
      obtain ⟨hg3, h2⟩ := grdS h2
      refine ⟨idx_of hO hg3, ?_⟩
      obtain ⟨hg4, h2⟩ := grdS h2
      refine ⟨kin_of hO hg4, ?_⟩
      cases h2
      try dsimp only at h1
      refine ⟨idx_of hO hg3, ?_⟩
      refine ⟨kin_of hO hg4, ?_⟩
      rcases condS h1 with ⟨hc5, h1⟩ | ⟨hc5, h1⟩
      · rw [hc5]
        cbv
        cases h1
        cases exitI hi1
        try dsimp only at h0
        cases h0
        exact fin_ok hX rfl ⟨[], _, _, ⟨rfl, rfl⟩, rfl, rfl, rfl, rfl, by cbv; try simp⟩
      · rw [hc5]
        cbv
        obtain ⟨hg6, h1⟩ := grdS h1
        refine ⟨inr_of hO hg6, ?_⟩
        cases h1
        exact ⟨_, [0], nextI hI1 hi1, by cbv; try simp, by first | exact Nat.lt_succ_self _ | omega⟩
    · rw [hc2]
      cbv
      obtain ⟨hg7, h2⟩ := grdS h2
      refine ⟨idx_of hO hg7, ?_⟩
      obtain ⟨hg8, h2⟩ := grdS h2
      refine ⟨kin_of hO hg8, ?_⟩
      cases h2
      try dsimp only at h1
      replace h1 := condF h1 rfl
      obtain ⟨hg9, h1⟩ := grdS h1
      refine ⟨inr_of hO hg9, ?_⟩
      cases h1
      exact ⟨_, [0], nextI hI1 hi1, by cbv; try simp, by first | exact Nat.lt_succ_self _ | omega⟩
  · rw [hc1]
    cbv
    cases h1
    cases exitI hi1
    try dsimp only at h0
    cases h0
    exact fin_ok hX rfl ⟨[], _, _, ⟨rfl, rfl⟩, rfl, rfl, rfl, rfl, by cbv; try simp⟩
set_option maxHeartbeats 40000000 in
theorem fn_ref12_keep {O0 : Ops} (hO0 : O0 = std) {kind_1 : Int} {a_1 : Bool} {b_1 : Bool} {r1 : Bool} (h : m_ref12_keep O0 kind_1 a_1 b_1 = some r1) :
    Fn Try.prog 78 [.c (.int .i64 kind_1), .c (.bool a_1), .c (.bool b_1)] [] (fun v c => v = .c (.bool r1) ∧ c = []) := by
  refine fn_run tab_holds eqs_holds mixed [] Try.func78 (by kernel_rfl) (by kernel_rfl) (Nat.le_of_ble_eq_true rfl) ?_
  intro O X hO hX
  rw [hO0, ← hO] at h
  unfold m_ref12_keep at h
  have h0 := h; clear h
  cbv
  obtain ⟨e1, h1, h0⟩ := bindS h0
  rcases condS h1 with ⟨hc1, h1⟩ | ⟨hc1, h1⟩
  · rw [hc1]
    cbv
    obtain ⟨x167, h2, h1⟩ := bindS h1
    rcases condS h2 with ⟨hc2, h2⟩ | ⟨hc2, h2⟩
    · rw [hc2]
      cbv
      cases h2
      try dsimp only at h1
      cases h1
      try dsimp only at h0
      cases h0
      exact fin_ok hX rfl ⟨[], _, _, ⟨rfl, rfl⟩, rfl, rfl, rfl, rfl, by cbv; try simp⟩
    · rw [hc2]
      cbv
      cases h2
      try dsimp only at h1
      cases h1
      try dsimp only at h0
      cases h0
      exact fin_ok hX rfl ⟨[], _, _, ⟨rfl, rfl⟩, rfl, rfl, rfl, rfl, by cbv; try simp⟩
  · as_aux_lemma =>
    rw [hc1]
    cbv
    obtain ⟨e2, h2, h1⟩ := bindS h1
    rcases condS h2 with ⟨hc3, h2⟩ | ⟨hc3, h2⟩
    · rw [hc3]
      cbv
      obtain ⟨x169, h3, h2⟩ := bindS h2
      rcases condS h3 with ⟨hc4, h3⟩ | ⟨hc4, h3⟩
      · rw [hc4]
        cbv
        cases h3
        try dsimp only at h2
        cases h2
        try dsimp only at h1
        cases h1
        try dsimp only at h0
        cases h0
        exact fin_ok hX rfl ⟨[], _, _, ⟨rfl, rfl⟩, rfl, rfl, rfl, rfl, by cbv; try simp⟩
      · rw [hc4]
        cbv
        cases h3
        try dsimp only at h2
        cases h2
        try dsimp only at h1
        cases h1
        try dsimp only at h0
        cases h0
        exact fin_ok hX rfl ⟨[], _, _, ⟨rfl, rfl⟩, rfl, rfl, rfl, rfl, by cbv; try simp⟩
    · rw [hc3]
      cbv
      rcases condS h2 with ⟨hc5, h2⟩ | ⟨hc5, h2⟩
      · rw [hc5]
        cbv
        obtain ⟨x171, h3, h2⟩ := bindS h2
        rcases condS h3 with ⟨hc6, h3⟩ | ⟨hc6, h3⟩
        · rw [hc6]
          cbv
          cases h3
          try dsimp only at h2
          cases h2
          try dsimp only at h1
          cases h1
          try dsimp only at h0
          cases h0
          exact fin_ok hX rfl ⟨[], _, _, ⟨rfl, rfl⟩, rfl, rfl, rfl, rfl, by cbv; try simp⟩
        · rw [hc6]
          cbv
          cases h3
          try dsimp only at h2
          cases h2
          try dsimp only at h1
          cases h1
          try dsimp only at h0
          cases h0
          exact fin_ok hX rfl ⟨[], _, _, ⟨rfl, rfl⟩, rfl, rfl, rfl, rfl, by cbv; try simp⟩
      · rw [hc5]
        cbv
        cases h2
        try dsimp only at h1
        cases h1
        try dsimp only at h0
        cases h0
        exact fin_ok hX rfl ⟨[], _, _, ⟨rfl, rfl⟩, rfl, rfl, rfl, rfl, by cbv; try simp⟩
set_option maxHeartbeats 40000000 in
theorem fn_ref12_Combine {O0 : Ops} (hO0 : O0 = std) {kind_1 : Int} {a_1 : List (Int × Int)} {b_1 : List (Int × Int)} {r1 : List (Int × Int)} (h : m_ref12_Combine O0 kind_1 a_1 b_1 = some r1) :
    Fn Try.prog 60 [.c (.int .i64 kind_1), .c (.sl 0), .c (.sl 1)] [.arr false .i2 a_1, .arr false .i2 b_1] (fun v c => v = .c (.sl 2) ∧ c = [.own 40 .i2 r1]) := by
  refine fn_run tab_holds eqs_holds mixed [(6, (.seg 1 [0, 1, 2, 3, 4, 5, 7, 8, 9, 10, 11] (.seg 2 [6] (.seg 2 [12] (.seg 2 [13] .fin)))), []), (7, (.seg 1 [0, 1, 2, 3, 4, 5, 6, 7, 8, 9, 10] .fin), [11, 12])] Try.func60 (by kernel_rfl) (by kernel_rfl) (Nat.le_of_ble_eq_true rfl) ?_
  intro O X hO hX
  rw [hO0, ← hO] at h
  unfold m_ref12_Combine at h
  have h0 := h; clear h
  cbv
  obtain ⟨hg1, h0⟩ := grdS h0
  refine ⟨room_of hO hg1, ?_⟩
  obtain ⟨hg2, h0⟩ := grdS h0
  refine ⟨room_of hO hg2, ?_⟩
  obtain ⟨hg3, h0⟩ := grdS h0
  refine ⟨room_of hO hg3, ?_⟩
  obtain ⟨hg4, h0⟩ := grdS h0
  refine ⟨room_of hO hg4, ?_⟩
  obtain ⟨l74, hv, h0⟩ := bindS h0
  refine call_is hO hX (fn_ref12_Ends hO hv) (by kernel_rfl) [5] rfl ⟨rfl, rfl, trivial⟩ rfl ?_
  cbv
  obtain ⟨l84, hi, h0⟩ := bindS h0
  obtain ⟨I1, hI1, hi⟩ := loopS hi
  refine loop1 tab_holds eqs_holds mixed [(6, (.seg 1 [0, 1, 2, 3, 4, 5, 7, 8, 9, 10, 11] (.seg 2 [6] (.seg 2 [12] (.seg 2 [13] .fin)))), []), (7, (.seg 1 [0, 1, 2, 3, 4, 5, 6, 7, 8, 9, 10] .fin), [11, 12])] hO hX I1 (fun y => [(6, .junk), (10, .junk), (12, .junk), (14, .junk), (15, .junk), (8, .c (.sl 7)), (9, .c (.int .i64 y.2.1))]) (fun y => [(7, .own 40 .i2 y.2.2)]) (fun y => y.1) _ (by kernel_rfl) hi (by cbv; try simp) ?_
  refine allp ?_
  intro n1
  refine allp ?_
  intro i26
  intro l79 hi
  cbv
  rw [hI1] at hi
  obtain ⟨n1, rfl, x1, h1, hi1⟩ := iterS hi
  unfold m_ref12_Combine_L1 at h1
  try dsimp only at h1
  obtain ⟨hg5, h1⟩ := grdS h1
  refine ⟨inr_of hO hg5, ?_⟩
  rcases condS h1 with ⟨hc6, h1⟩ | ⟨hc6, h1⟩
  · as_aux_lemma =>
    rw [hc6]
    cbv
    obtain ⟨hg7, h1⟩ := grdS h1
    refine ⟨idx_of hO hg7, ?_⟩
    obtain ⟨hg8, h1⟩ := grdS h1
    refine ⟨kin_of hO hg8, ?_⟩
    refine ⟨idx_of hO hg7, ?_⟩
    refine ⟨kin_of hO hg8, ?_⟩
    obtain ⟨b45, hv, h1⟩ := bindS h1
    refine call_is hO hX (fn_ref12_In hO hv) (by kernel_rfl) [0] rfl ⟨rfl, rfl, trivial⟩ rfl ?_
    cbv
    obtain ⟨b46, hv, h1⟩ := bindS h1
    refine call_is hO hX (fn_ref12_In hO hv) (by kernel_rfl) [1] rfl ⟨rfl, rfl, trivial⟩ rfl ?_
    cbv
    obtain ⟨b47, hv, h1⟩ := bindS h1
    refine call_is hO hX (fn_ref12_keep hO hv) (by kernel_rfl) [] rfl trivial rfl ?_
    cbv
    obtain ⟨l83, h2, h1⟩ := bindS h1
    rcases condS h2 with ⟨hc9, h2⟩ | ⟨hc9, h2⟩
    · as_aux_lemma =>
      rw [hc9]
      cbv
      obtain ⟨l81, h3, h2⟩ := bindS h2
      refine ⟨idx_of hO hg7, ?_⟩
      refine ⟨kin_of hO hg8, ?_⟩
      refine ⟨inr_of hO hg5, ?_⟩
      obtain ⟨hg10, h3⟩ := grdS h3
      refine ⟨idx_of hO hg10, ?_⟩
      obtain ⟨hg11, h3⟩ := grdS h3
      refine ⟨kin_of hO hg11, ?_⟩
      refine call_inline tab_holds eqs_holds mixed [(1, (.seg 1 [0, 1, 2, 3, 4, 5, 6, 7, 8, 9, 10, 11, 12, 13, 14] .fin), [])] hO hX (by kernel_rfl) Try.func80 (by kernel_rfl) (by kernel_rfl) rfl ?_
      intro X1 hX1 hF1
      cbv
      obtain ⟨x179, h4, h3⟩ := bindS h3
      rcases condS h4 with ⟨hc12, h4⟩ | ⟨hc12, h4⟩
      · as_aux_lemma =>
        rw [hc12]
        cbv
        obtain ⟨hg13, h4⟩ := grdS h4
        refine ⟨inr_of hO hg13, ?_⟩
        obtain ⟨hg14, h4⟩ := grdS h4
        refine ⟨idx_of hO hg14, ?_⟩
        obtain ⟨hg15, h4⟩ := grdS h4
        refine ⟨kin_of hO hg15, ?_⟩
        cases h4
        try dsimp only at h3
        rcases condS h3 with ⟨hc16, h3⟩ | ⟨hc16, h3⟩
        · rw [hc16]
          cbv
          obtain ⟨hg17, h3⟩ := grdS h3
          refine ⟨inr_of hO hg17, ?_⟩
          obtain ⟨hg18, h3⟩ := grdS h3
          refine ⟨idx_of hO hg18, ?_⟩
          obtain ⟨hg19, h3⟩ := grdS h3
          refine ⟨kin_of hO hg19, ?_⟩
          refine hF1 _ _ ?_
          cbv
          cases h3
          try dsimp only at h2
          cases h2
          try dsimp only at h1
          refine ⟨inr_of hO hg5, ?_⟩
          cases h1
          exact ⟨_, [0, 1, 2, 3, 4, 5, 6, 7], nextI hI1 hi1, by cbv; try simp, by first | exact Nat.lt_succ_self _ | omega⟩
        · rw [hc16]
          cbv
          obtain ⟨hg20, h3⟩ := grdS h3
          refine ⟨room_of hO hg20, ?_⟩
          obtain ⟨hg21, h3⟩ := grdS h3
          refine ⟨room_of hO hg21, ?_⟩
          refine hF1 _ _ ?_
          cbv
          cases h3
          try dsimp only at h2
          cases h2
          try dsimp only at h1
          refine ⟨inr_of hO hg5, ?_⟩
          cases h1
          exact ⟨_, [0, 1, 2, 3, 4, 5, 6, 11], nextI hI1 hi1, by cbv; try simp, by first | exact Nat.lt_succ_self _ | omega⟩
      · rw [hc12]
        cbv
        cases h4
        try dsimp only at h3
        replace h3 := condF h3 rfl
        obtain ⟨hg22, h3⟩ := grdS h3
        refine ⟨room_of hO hg22, ?_⟩
        obtain ⟨hg23, h3⟩ := grdS h3
        refine ⟨room_of hO hg23, ?_⟩
        refine hF1 _ _ ?_
        cbv
        cases h3
        try dsimp only at h2
        cases h2
        try dsimp only at h1
        refine ⟨inr_of hO hg5, ?_⟩
        cases h1
        exact ⟨_, [0, 1, 2, 3, 4, 5, 6, 11], nextI hI1 hi1, by cbv; try simp, by first | exact Nat.lt_succ_self _ | omega⟩
    · rw [hc9]
      cbv
      cases h2
      try dsimp only at h1
      refine ⟨inr_of hO hg5, ?_⟩
      cases h1
      exact ⟨_, [0, 1, 2, 3, 4, 5, 6, 7], nextI hI1 hi1, by cbv; try simp, by first | exact Nat.lt_succ_self _ | omega⟩
  · rw [hc6]
    cbv
    cases h1
    cases exitI hi1
    try dsimp only at h0
    cases h0
    exact fin_ok hX rfl ⟨[7], _, _, ⟨rfl, rfl⟩, rfl, rfl, rfl, rfl, by cbv; try simp⟩
set_option maxHeartbeats 40000000 in
theorem fn_ref16_again {O0 : Ops} (hO0 : O0 = std) {p_1 : Int} {part_1 : Int} {p_2 : List (Int × Int)} {r1 : Bool} (h : m_ref16_again O0 p_1 part_1 p_2 = some r1) :
    Fn Try.prog 33 [.agg [.int .i64 p_1, .sl 0], .c (.int .i64 part_1)] [.arr false .i2 p_2] (fun v c => v = .c (.bool r1) ∧ c = []) := by
  refine fn_run tab_holds eqs_holds mixed [(5, (.seg 1 [0, 1, 2, 3, 4, 5, 6, 7, 8, 9, 10, 11, 12, 13, 14, 15, 16] (.seg 2 [17] (.seg 3 [18] .fin))), []), (12, (.seg 1 [0, 2, 3] (.seg 2 [1] (.seg 2 [4] (.seg 1 [5] .fin)))), [])] Try.func33 (by kernel_rfl) (by kernel_rfl) (Nat.le_of_ble_eq_true rfl) ?_
  intro O X hO hX
  rw [hO0, ← hO] at h
  unfold m_ref16_again at h
  have h0 := h; clear h
  cbv
  obtain ⟨l63, hi, h0⟩ := bindS h0
  obtain ⟨I1, hI1, hi⟩ := loopS hi
  refine loop1 tab_holds eqs_holds mixed [(5, (.seg 1 [0, 1, 2, 3, 4, 5, 6, 7, 8, 9, 10, 11, 12, 13, 14, 15, 16] (.seg 2 [17] (.seg 3 [18] .fin))), []), (12, (.seg 1 [0, 2, 3] (.seg 2 [1] (.seg 2 [4] (.seg 1 [5] .fin)))), [])] hO hX I1 (fun y => [(5, .c (.sl 2)), (6, .c (.int .i64 y.2.1))]) (fun y => [(2, .own 40 .i2 y.2.2)]) (fun y => y.1) _ (by kernel_rfl) hi (by cbv; try simp) ?_
  refine allp ?_
  intro n1
  refine allp ?_
  intro i9
  intro l58 hi
  cbv
  rw [hI1] at hi
  obtain ⟨n1, rfl, x1, h1, hi1⟩ := iterS hi
  unfold m_ref16_again_L1 at h1
  try dsimp only at h1
  rcases condS h1 with ⟨hc1, h1⟩ | ⟨hc1, h1⟩
  · as_aux_lemma =>
    rw [hc1]
    cbv
    obtain ⟨hg2, h1⟩ := grdS h1
    refine ⟨idx_of hO hg2, ?_⟩
    obtain ⟨hg3, h1⟩ := grdS h1
    refine ⟨kin_of hO hg3, ?_⟩
    obtain ⟨hg4, h1⟩ := grdS h1
    refine ⟨inr_of hO hg4, ?_⟩
    refine ⟨idx_of hO hg2, ?_⟩
    refine ⟨kin_of hO hg3, ?_⟩
    obtain ⟨hg5, h1⟩ := grdS h1
    refine ⟨inr_of hO hg5, ?_⟩
    obtain ⟨l62, h2, h1⟩ := bindS h1
    rcases condS h2 with ⟨hc6, h2⟩ | ⟨hc6, h2⟩
    · rw [hc6]
      cbv
      obtain ⟨hg7, h2⟩ := grdS h2
      refine ⟨room_of hO hg7, ?_⟩
      obtain ⟨hg8, h2⟩ := grdS h2
      refine ⟨room_of hO hg8, ?_⟩
      cases h2
      try dsimp only at h1
      obtain ⟨hg9, h1⟩ := grdS h1
      refine ⟨inr_of hO hg9, ?_⟩
      cases h1
      exact ⟨_, [0, 1, 5], nextI hI1 hi1, by cbv; try simp, by first | exact Nat.lt_succ_self _ | omega⟩
    · as_aux_lemma =>
      rw [hc6]
      cbv
      obtain ⟨l60, h3, h2⟩ := bindS h2
      rcases condS h3 with ⟨hc10, h3⟩ | ⟨hc10, h3⟩
      · rw [hc10]
        cbv
        obtain ⟨hg11, h3⟩ := grdS h3
        refine ⟨inr_of hO hg11, ?_⟩
        obtain ⟨hg12, h3⟩ := grdS h3
        refine ⟨inr_of hO hg12, ?_⟩
        obtain ⟨hg13, h3⟩ := grdS h3
        refine ⟨room_of hO hg13, ?_⟩
        obtain ⟨hg14, h3⟩ := grdS h3
        refine ⟨room_of hO hg14, ?_⟩
        cases h3
        try dsimp only at h2
        cases h2
        try dsimp only at h1
        obtain ⟨hg15, h1⟩ := grdS h1
        refine ⟨inr_of hO hg15, ?_⟩
        cases h1
        exact ⟨_, [0, 1, 5], nextI hI1 hi1, by cbv; try simp, by first | exact Nat.lt_succ_self _ | omega⟩
      · rw [hc10]
        cbv
        obtain ⟨hg16, h3⟩ := grdS h3
        refine ⟨room_of hO hg16, ?_⟩
        obtain ⟨hg17, h3⟩ := grdS h3
        refine ⟨room_of hO hg17, ?_⟩
        obtain ⟨hg18, h3⟩ := grdS h3
        refine ⟨inr_of hO hg18, ?_⟩
        obtain ⟨hg19, h3⟩ := grdS h3
        refine ⟨room_of hO hg19, ?_⟩
        obtain ⟨hg20, h3⟩ := grdS h3
        refine ⟨room_of hO hg20, ?_⟩
        cases h3
        try dsimp only at h2
        cases h2
        try dsimp only at h1
        obtain ⟨hg21, h1⟩ := grdS h1
        refine ⟨inr_of hO hg21, ?_⟩
        cases h1
        exact ⟨_, [0, 1, 7], nextI hI1 hi1, by cbv; try simp, by first | exact Nat.lt_succ_self _ | omega⟩
  · rw [hc1]
    cbv
    cases h1
    cases exitI hi1
    try dsimp only at h0
    refine call_nil hO hX .i2 3 rfl ?_
    cbv
    obtain ⟨l85, hv, h0⟩ := bindS h0
    refine call_is hO hX (fn_ref12_Combine hO hv) (by kernel_rfl) [2, 3] rfl ⟨rfl, rfl, rfl, rfl, trivial⟩ rfl ?_
    cbv
    obtain ⟨b48, hv, h0⟩ := bindS h0
    refine call_is hO hX (fn_ref12_Same hO hv) (by kernel_rfl) [4, 0] rfl ⟨rfl, rfl, rfl, rfl, trivial⟩ rfl ?_
    cbv
    cases h0
    exact fin_ok hX rfl ⟨[], _, _, ⟨rfl, rfl⟩, rfl, rfl, rfl, rfl, by cbv; try simp⟩
end Go.Proofs.Ytebkfbkgmbgobaa
