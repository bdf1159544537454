/-
  The code does what its models say (printed by lift.py).
-/
import Derived.Test.YtkdffpncpikdmaaGreatZM
import Derived.Test.YtkdffpncpikdmaaGreatSrtZ
import Derived.Test.YtkdffpncpikdmaaGreatZW5
import Derived.Test.YtkdffpncpikdmaaGreatZW6
namespace Go.Proofs.YtkdffpncpikdmaaGreat
open Go.RowKit
set_option maxRecDepth 100000

set_option maxHeartbeats 40000000 in
theorem fn_ref12_In {O0 : Ops} (hO0 : O0 = std) {x_1 : Int} {l_1 : List (Int × Int)} {r1 : Bool} (h : m_ref12_In O0 x_1 l_1 = some r1) :
    Fn Tryz.prog 69 [.c (.sl 0), .c (.int .i64 x_1)] [.arr false .i2 l_1] (fun v c => v = .c (.bool r1) ∧ c = []) := by
  refine fn_run tab_holds eqs_holds mixed [] Tryz.func69 (by kernel_rfl) (by kernel_rfl) (Nat.le_of_ble_eq_true rfl) ?_
  intro O X hO hX
  rw [hO0, ← hO] at h
  unfold m_ref12_In at h
  have h0 := h; clear h
  cbv
  obtain ⟨e1, hi, h0⟩ := bindS h0
  obtain ⟨I1, hI1, hi⟩ := loopS hi
  refine loop1 tab_holds eqs_holds mixed [] hO hX I1 (fun y => [(5, .c (.int .i64 y.2))]) (fun _ => []) (fun y => y.1) _ (by kernel_rfl) hi (by cbv; try simp) ?_
  refine allp ?_
  intro n1
  intro i31 hi
  cbv
  rw [hI1] at hi
  obtain ⟨n1, rfl, x1, h1, hi1⟩ := iterS hi
  unfold m_ref12_In_L1 at h1
  try dsimp only at h1
  rcases condS h1 with ⟨hc1, h1⟩ | ⟨hc1, h1⟩
  · as_aux_lemma =>
    rw [hc1]
    cbv
    obtain ⟨x119, h2, h1⟩ := bindS h1
    rcases condS h2 with ⟨hc2, h2⟩ | ⟨hc2, h2⟩
    · rw [hc2]
      cbv
      obtain ⟨hg3, h2⟩ := grdS h2
      refine ⟨idx_of hO hg3, ?_⟩
      obtain ⟨hg4, h2⟩ := grdS h2
      refine ⟨kin_of hO hg4, ?_⟩
      cases h2
      try dsimp only at h1
      refine ⟨idx_of hO hg3, ?_⟩
      refine ⟨kin_of hO hg4, ?_⟩
      rcases condS h1 with ⟨hc5, h1⟩ | ⟨hc5, h1⟩
      · rw [hc5]
        cbv
        cases h1
        cases exitI hi1
        try dsimp only at h0
        cases h0
        exact fin_ok hX rfl ⟨[], _, _, ⟨rfl, rfl⟩, rfl, rfl, rfl, rfl, by cbv; try simp⟩
      · rw [hc5]
        cbv
        obtain ⟨hg6, h1⟩ := grdS h1
        refine ⟨inr_of hO hg6, ?_⟩
        cases h1
        exact ⟨_, [0], nextI hI1 hi1, by cbv; try simp, by first | exact Nat.lt_succ_self _ | omega⟩
    · rw [hc2]
      cbv
      obtain ⟨hg7, h2⟩ := grdS h2
      refine ⟨idx_of hO hg7, ?_⟩
      obtain ⟨hg8, h2⟩ := grdS h2
      refine ⟨kin_of hO hg8, ?_⟩
      cases h2
      try dsimp only at h1
      replace h1 := condF h1 rfl
      obtain ⟨hg9, h1⟩ := grdS h1
      refine ⟨inr_of hO hg9, ?_⟩
      cases h1
      exact ⟨_, [0], nextI hI1 hi1, by cbv; try simp, by first | exact Nat.lt_succ_self _ | omega⟩
  · rw [hc1]
    cbv
    cases h1
    cases exitI hi1
    try dsimp only at h0
    cases h0
    exact fin_ok hX rfl ⟨[], _, _, ⟨rfl, rfl⟩, rfl, rfl, rfl, rfl, by cbv; try simp⟩
set_option maxHeartbeats 40000000 in
theorem fn_ref12_keep {O0 : Ops} (hO0 : O0 = std) {kind_1 : Int} {a_1 : Bool} {b_1 : Bool} {r1 : Bool} (h : m_ref12_keep O0 kind_1 a_1 b_1 = some r1) :
    Fn Tryz.prog 68 [.c (.int .i64 kind_1), .c (.bool a_1), .c (.bool b_1)] [] (fun v c => v = .c (.bool r1) ∧ c = []) := by
  refine fn_run tab_holds eqs_holds mixed [] Tryz.func68 (by kernel_rfl) (by kernel_rfl) (Nat.le_of_ble_eq_true rfl) ?_
  intro O X hO hX
  rw [hO0, ← hO] at h
  unfold m_ref12_keep at h
  have h0 := h; clear h
  cbv
  obtain ⟨e1, h1, h0⟩ := bindS h0
  rcases condS h1 with ⟨hc1, h1⟩ | ⟨hc1, h1⟩
  · rw [hc1]
    cbv
    obtain ⟨x121, h2, h1⟩ := bindS h1
    rcases condS h2 with ⟨hc2, h2⟩ | ⟨hc2, h2⟩
    · rw [hc2]
      cbv
      cases h2
      try dsimp only at h1
      cases h1
      try dsimp only at h0
      cases h0
      exact fin_ok hX rfl ⟨[], _, _, ⟨rfl, rfl⟩, rfl, rfl, rfl, rfl, by cbv; try simp⟩
    · rw [hc2]
      cbv
      cases h2
      try dsimp only at h1
      cases h1
      try dsimp only at h0
      cases h0
      exact fin_ok hX rfl ⟨[], _, _, ⟨rfl, rfl⟩, rfl, rfl, rfl, rfl, by cbv; try simp⟩
  · as_aux_lemma =>
    rw [hc1]
    cbv
    obtain ⟨e2, h2, h1⟩ := bindS h1
    rcases condS h2 with ⟨hc3, h2⟩ | ⟨hc3, h2⟩
    · rw [hc3]
      cbv
      obtain ⟨x123, h3, h2⟩ := bindS h2
      rcases condS h3 with ⟨hc4, h3⟩ | ⟨hc4, h3⟩
      · rw [hc4]
        cbv
        cases h3
        try dsimp only at h2
        cases h2
        try dsimp only at h1
        cases h1
        try dsimp only at h0
        cases h0
        exact fin_ok hX rfl ⟨[], _, _, ⟨rfl, rfl⟩, rfl, rfl, rfl, rfl, by cbv; try simp⟩
      · rw [hc4]
        cbv
        cases h3
        try dsimp only at h2
        cases h2
        try dsimp only at h1
        cases h1
        try dsimp only at h0
        cases h0
        exact fin_ok hX rfl ⟨[], _, _, ⟨rfl, rfl⟩, rfl, rfl, rfl, rfl, by cbv; try simp⟩
    · rw [hc3]
      cbv
      rcases condS h2 with ⟨hc5, h2⟩ | ⟨hc5, h2⟩
      · rw [hc5]
        cbv
        obtain ⟨x125, h3, h2⟩ := bindS h2
        rcases condS h3 with ⟨hc6, h3⟩ | ⟨hc6, h3⟩
        · rw [hc6]
          cbv
          cases h3
          try dsimp only at h2
          cases h2
          try dsimp only at h1
          cases h1
          try dsimp only at h0
          cases h0
          exact fin_ok hX rfl ⟨[], _, _, ⟨rfl, rfl⟩, rfl, rfl, rfl, rfl, by cbv; try simp⟩
        · rw [hc6]
          cbv
          cases h3
          try dsimp only at h2
          cases h2
          try dsimp only at h1
          cases h1
          try dsimp only at h0
          cases h0
          exact fin_ok hX rfl ⟨[], _, _, ⟨rfl, rfl⟩, rfl, rfl, rfl, rfl, by cbv; try simp⟩
      · rw [hc5]
        cbv
        cases h2
        try dsimp only at h1
        cases h1
        try dsimp only at h0
        cases h0
        exact fin_ok hX rfl ⟨[], _, _, ⟨rfl, rfl⟩, rfl, rfl, rfl, rfl, by cbv; try simp⟩
set_option maxHeartbeats 40000000 in
theorem fn_ref12_Combine {O0 : Ops} (hO0 : O0 = std) {kind_1 : Int} {a_1 : List (Int × Int)} {b_1 : List (Int × Int)} {r1 : List (Int × Int)} (h : m_ref12_Combine O0 kind_1 a_1 b_1 = some r1) :
    Fn Tryz.prog 50 [.c (.int .i64 kind_1), .c (.sl 0), .c (.sl 1)] [.arr false .i2 a_1, .arr false .i2 b_1] (fun v c => v = .c (.sl 2) ∧ c = [.own 32 .i2 r1]) := by
  refine fn_run tab_holds eqs_holds mixed [(6, (.seg 1 [0, 1, 2, 3, 4, 5, 7, 8, 9, 10, 11] (.seg 2 [6] (.seg 2 [12] (.seg 2 [13] .fin)))), []), (7, (.seg 1 [0, 1, 2, 3, 4, 5, 6, 7, 8, 9, 10] .fin), [11, 12])] Tryz.func50 (by kernel_rfl) (by kernel_rfl) (Nat.le_of_ble_eq_true rfl) ?_
  intro O X hO hX
  rw [hO0, ← hO] at h
  unfold m_ref12_Combine at h
  have h0 := h; clear h
  cbv
  obtain ⟨hg1, h0⟩ := grdS h0
  refine ⟨room_of hO hg1, ?_⟩
  obtain ⟨hg2, h0⟩ := grdS h0
  refine ⟨room_of hO hg2, ?_⟩
  obtain ⟨hg3, h0⟩ := grdS h0
  refine ⟨room_of hO hg3, ?_⟩
  obtain ⟨hg4, h0⟩ := grdS h0
  refine ⟨room_of hO hg4, ?_⟩
  obtain ⟨l83, hv, h0⟩ := bindS h0
  refine call_is hO hX (fn_ref12_Ends hO hv) (by kernel_rfl) [5] rfl ⟨rfl, rfl, trivial⟩ rfl ?_
  cbv
  obtain ⟨l93, hi, h0⟩ := bindS h0
  obtain ⟨I1, hI1, hi⟩ := loopS hi
  refine loop1 tab_holds eqs_holds mixed [(6, (.seg 1 [0, 1, 2, 3, 4, 5, 7, 8, 9, 10, 11] (.seg 2 [6] (.seg 2 [12] (.seg 2 [13] .fin)))), []), (7, (.seg 1 [0, 1, 2, 3, 4, 5, 6, 7, 8, 9, 10] .fin), [11, 12])] hO hX I1 (fun y => [(6, .junk), (10, .junk), (12, .junk), (14, .junk), (15, .junk), (8, .c (.sl 7)), (9, .c (.int .i64 y.2.1))]) (fun y => [(7, .own 32 .i2 y.2.2)]) (fun y => y.1) _ (by kernel_rfl) hi (by cbv; try simp) ?_
  refine allp ?_
  intro n1
  refine allp ?_
  intro i32
  intro l88 hi
  cbv
  rw [hI1] at hi
  obtain ⟨n1, rfl, x1, h1, hi1⟩ := iterS hi
  unfold m_ref12_Combine_L1 at h1
  try dsimp only at h1
  obtain ⟨hg5, h1⟩ := grdS h1
  refine ⟨inr_of hO hg5, ?_⟩
  rcases condS h1 with ⟨hc6, h1⟩ | ⟨hc6, h1⟩
  · as_aux_lemma =>
    rw [hc6]
    cbv
    obtain ⟨hg7, h1⟩ := grdS h1
    refine ⟨idx_of hO hg7, ?_⟩
    obtain ⟨hg8, h1⟩ := grdS h1
    refine ⟨kin_of hO hg8, ?_⟩
    refine ⟨idx_of hO hg7, ?_⟩
    refine ⟨kin_of hO hg8, ?_⟩
    obtain ⟨b42, hv, h1⟩ := bindS h1
    refine call_is hO hX (fn_ref12_In hO hv) (by kernel_rfl) [0] rfl ⟨rfl, rfl, trivial⟩ rfl ?_
    cbv
    obtain ⟨b43, hv, h1⟩ := bindS h1
    refine call_is hO hX (fn_ref12_In hO hv) (by kernel_rfl) [1] rfl ⟨rfl, rfl, trivial⟩ rfl ?_
    cbv
    obtain ⟨b44, hv, h1⟩ := bindS h1
    refine call_is hO hX (fn_ref12_keep hO hv) (by kernel_rfl) [] rfl trivial rfl ?_
    cbv
    obtain ⟨l92, h2, h1⟩ := bindS h1
    rcases condS h2 with ⟨hc9, h2⟩ | ⟨hc9, h2⟩
    · as_aux_lemma =>
      rw [hc9]
      cbv
      obtain ⟨l90, h3, h2⟩ := bindS h2
      refine ⟨idx_of hO hg7, ?_⟩
      refine ⟨kin_of hO hg8, ?_⟩
      refine ⟨inr_of hO hg5, ?_⟩
      obtain ⟨hg10, h3⟩ := grdS h3
      refine ⟨idx_of hO hg10, ?_⟩
      obtain ⟨hg11, h3⟩ := grdS h3
      refine ⟨kin_of hO hg11, ?_⟩
      refine call_inline tab_holds eqs_holds mixed [(1, (.seg 1 [0, 1, 2, 3, 4, 5, 6, 7, 8, 9, 10, 11, 12, 13, 14] .fin), [])] hO hX (by kernel_rfl) Tryz.func70 (by kernel_rfl) (by kernel_rfl) rfl ?_
      intro X1 hX1 hF1
      cbv
      obtain ⟨x133, h4, h3⟩ := bindS h3
      rcases condS h4 with ⟨hc12, h4⟩ | ⟨hc12, h4⟩
      · as_aux_lemma =>
        rw [hc12]
        cbv
        obtain ⟨hg13, h4⟩ := grdS h4
        refine ⟨inr_of hO hg13, ?_⟩
        obtain ⟨hg14, h4⟩ := grdS h4
        refine ⟨idx_of hO hg14, ?_⟩
        obtain ⟨hg15, h4⟩ := grdS h4
        refine ⟨kin_of hO hg15, ?_⟩
        cases h4
        try dsimp only at h3
        rcases condS h3 with ⟨hc16, h3⟩ | ⟨hc16, h3⟩
        · rw [hc16]
          cbv
          obtain ⟨hg17, h3⟩ := grdS h3
          refine ⟨inr_of hO hg17, ?_⟩
          obtain ⟨hg18, h3⟩ := grdS h3
          refine ⟨idx_of hO hg18, ?_⟩
          obtain ⟨hg19, h3⟩ := grdS h3
          refine ⟨kin_of hO hg19, ?_⟩
          refine hF1 _ _ ?_
          cbv
          cases h3
          try dsimp only at h2
          cases h2
          try dsimp only at h1
          refine ⟨inr_of hO hg5, ?_⟩
          cases h1
          exact ⟨_, [0, 1, 2, 3, 4, 5, 6, 7], nextI hI1 hi1, by cbv; try simp, by first | exact Nat.lt_succ_self _ | omega⟩
        · rw [hc16]
          cbv
          obtain ⟨hg20, h3⟩ := grdS h3
          refine ⟨room_of hO hg20, ?_⟩
          obtain ⟨hg21, h3⟩ := grdS h3
          refine ⟨room_of hO hg21, ?_⟩
          refine hF1 _ _ ?_
          cbv
          cases h3
          try dsimp only at h2
          cases h2
          try dsimp only at h1
          refine ⟨inr_of hO hg5, ?_⟩
          cases h1
          exact ⟨_, [0, 1, 2, 3, 4, 5, 6, 11], nextI hI1 hi1, by cbv; try simp, by first | exact Nat.lt_succ_self _ | omega⟩
      · rw [hc12]
        cbv
        cases h4
        try dsimp only at h3
        replace h3 := condF h3 rfl
        obtain ⟨hg22, h3⟩ := grdS h3
        refine ⟨room_of hO hg22, ?_⟩
        obtain ⟨hg23, h3⟩ := grdS h3
        refine ⟨room_of hO hg23, ?_⟩
        refine hF1 _ _ ?_
        cbv
        cases h3
        try dsimp only at h2
        cases h2
        try dsimp only at h1
        refine ⟨inr_of hO hg5, ?_⟩
        cases h1
        exact ⟨_, [0, 1, 2, 3, 4, 5, 6, 11], nextI hI1 hi1, by cbv; try simp, by first | exact Nat.lt_succ_self _ | omega⟩
    · rw [hc9]
      cbv
      cases h2
      try dsimp only at h1
      refine ⟨inr_of hO hg5, ?_⟩
      cases h1
      exact ⟨_, [0, 1, 2, 3, 4, 5, 6, 7], nextI hI1 hi1, by cbv; try simp, by first | exact Nat.lt_succ_self _ | omega⟩
  · rw [hc6]
    cbv
    cases h1
    cases exitI hi1
    try dsimp only at h0
    cases h0
    exact fin_ok hX rfl ⟨[7], _, _, ⟨rfl, rfl⟩, rfl, rfl, rfl, rfl, by cbv; try simp⟩
set_option maxHeartbeats 40000000 in
theorem fn_ref12_full {O0 : Ops} (hO0 : O0 = std) {l_1 : List (Int × Int)} {e : ((List (Int × Int) × Int) ⊕ (Int))} (h : m_ref12_full O0 l_1 = some e) :
    Fn Tryz.prog 49 [.c (.sl 0)] [.arr false .i2 l_1] (fun v c => match e with | .inl (r1, r2) => v = .tup [.one (.sl 1), .one (.int .i64 r2)] ∧ c = [.own 32 .i2 r1] | .inr (r1) => v = .tup [.one (.sl 0), .one (.int .i64 r1)] ∧ c = []) := by
  refine fn_run tab_holds eqs_holds mixed [] Tryz.func49 (by kernel_rfl) (by kernel_rfl) (Nat.le_of_ble_eq_true rfl) ?_
  intro O X hO hX
  rw [hO0, ← hO] at h
  unfold m_ref12_full at h
  have h0 := h; clear h
  cbv
  rcases condS h0 with ⟨hc1, h0⟩ | ⟨hc1, h0⟩
  · rw [hc1]
    cbv
    cases h0
    exact fin_ok hX rfl ⟨[2], _, _, ⟨rfl, rfl⟩, rfl, rfl, rfl, rfl, by cbv; try simp⟩
  · rw [hc1]
    cbv
    cases h0
    exact fin_ok hX rfl ⟨[], _, _, ⟨rfl, rfl⟩, rfl, rfl, rfl, rfl, by cbv; try simp⟩
set_option maxHeartbeats 40000000 in
theorem fn_ref12_Of {O0 : Ops} (hO0 : O0 = std) {l_1 : List (Int × Int)} {r1 : List (Int × Int)} {r2 : Int} (h : m_ref12_Of O0 l_1 = some (r1, r2)) :
    Fn Tryz.prog 31 [.c (.sl 0)] [.arr false .i2 l_1] (fun v c => v = .tup [.one (.sl 1), .one (.int .i64 r2)] ∧ c = [.own 32 .i2 r1]) := by
  refine fn_run tab_holds eqs_holds mixed [] Tryz.func31 (by kernel_rfl) (by kernel_rfl) (Nat.le_of_ble_eq_true rfl) ?_
  intro O X hO hX
  rw [hO0, ← hO] at h
  unfold m_ref12_Of at h
  have h0 := h; clear h
  cbv
  obtain ⟨b38, hv, h0⟩ := bindS h0
  refine call_is hO hX (fn_ref12_Spans hO hv) (by kernel_rfl) [0] rfl ⟨rfl, rfl, trivial⟩ rfl ?_
  cbv
  rcases condS h0 with ⟨hc1, h0⟩ | ⟨hc1, h0⟩
  · rw [hc1]
    cbv
    cases h0
    exact fin_ok hX rfl ⟨[2], _, _, ⟨rfl, rfl⟩, rfl, rfl, rfl, rfl, by cbv; try simp⟩
  · rw [hc1]
    cbv
    refine call_nil hO hX .i2 2 rfl ?_
    cbv
    obtain ⟨⟨x135, l97⟩, h1, h0⟩ := bindS h0
    obtain ⟨l94, hv, h1⟩ := bindS h1
    refine call_is hO hX (fn_ref12_Combine hO hv) (by kernel_rfl) [0, 2] rfl ⟨rfl, rfl, rfl, rfl, trivial⟩ rfl ?_
    cbv
    obtain ⟨e1, hv, h1⟩ := bindS h1
    rcases e1 with ⟨l95, n57⟩ | n58
    · try dsimp only at h1
      refine call_is hO hX (fn_ref12_full hO hv) (by kernel_rfl) [3] rfl ⟨rfl, rfl, trivial⟩ rfl ?_
      cbv
      cases h1
      try dsimp only at h0
      cases h0
      exact fin_ok hX rfl ⟨[4], _, _, ⟨rfl, rfl⟩, rfl, rfl, rfl, rfl, by cbv; try simp⟩
    · try dsimp only at h1
      refine call_is hO hX (fn_ref12_full hO hv) (by kernel_rfl) [3] rfl ⟨rfl, rfl, trivial⟩ rfl ?_
      cbv
      cases h1
      try dsimp only at h0
      cases h0
      exact fin_ok hX rfl ⟨[3], _, _, ⟨rfl, rfl⟩, rfl, rfl, rfl, rfl, by cbv; try simp⟩
set_option maxHeartbeats 40000000 in
theorem fn_ref35_At {O0 : Ops} (hO0 : O0 = std) {tx_1 : Int} {l_1 : List (Int × Int × Int × Int)} {r1 : List (Int × Int)} (h : m_ref35_At O0 tx_1 l_1 = some r1) :
    Fn Tryz.prog 13 [.c (.sl 0), .c (.int .i64 tx_1)] [.arr false .i4 l_1] (fun v c => v = .c (.sl 1) ∧ c = [.own 32 .i2 r1]) := by
  refine fn_run tab_holds eqs_holds mixed [] Tryz.func13 (by kernel_rfl) (by kernel_rfl) (Nat.le_of_ble_eq_true rfl) ?_
  intro O X hO hX
  rw [hO0, ← hO] at h
  unfold m_ref35_At at h
  have h0 := h; clear h
  cbv
  obtain ⟨l72, hi, h0⟩ := bindS h0
  obtain ⟨I1, hI1, hi⟩ := loopS hi
  refine loop1 tab_holds eqs_holds mixed [] hO hX I1 (fun y => [(4, .junk), (5, .c (.sl 2)), (6, .c (.int .i64 y.2.1))]) (fun y => [(2, .own 32 .i2 y.2.2)]) (fun y => y.1) _ (by kernel_rfl) hi (by cbv; try simp) ?_
  refine allp ?_
  intro n1
  refine allp ?_
  intro i14
  intro l69 hi
  cbv
  rw [hI1] at hi
  obtain ⟨n1, rfl, x1, h1, hi1⟩ := iterS hi
  unfold m_ref35_At_L1 at h1
  try dsimp only at h1
  rcases condS h1 with ⟨hc1, h1⟩ | ⟨hc1, h1⟩
  · as_aux_lemma =>
    rw [hc1]
    cbv
    obtain ⟨x88, h2, h1⟩ := bindS h1
    rcases condS h2 with ⟨hc2, h2⟩ | ⟨hc2, h2⟩
    · rw [hc2]
      cbv
      obtain ⟨hg3, h2⟩ := grdS h2
      refine ⟨idx_of hO hg3, ?_⟩
      obtain ⟨hg4, h2⟩ := grdS h2
      refine ⟨kin_of hO hg4, ?_⟩
      cases h2
      try dsimp only at h1
      obtain ⟨l71, h2, h1⟩ := bindS h1
      refine ⟨idx_of hO hg3, ?_⟩
      refine ⟨kin_of hO hg4, ?_⟩
      rcases condS h2 with ⟨hc5, h2⟩ | ⟨hc5, h2⟩
      · rw [hc5]
        cbv
        refine ⟨idx_of hO hg3, ?_⟩
        refine ⟨kin_of hO hg4, ?_⟩
        obtain ⟨hg6, h2⟩ := grdS h2
        refine ⟨room_of hO hg6, ?_⟩
        obtain ⟨hg7, h2⟩ := grdS h2
        refine ⟨room_of hO hg7, ?_⟩
        cases h2
        try dsimp only at h1
        obtain ⟨hg8, h1⟩ := grdS h1
        refine ⟨inr_of hO hg8, ?_⟩
        cases h1
        exact ⟨_, [0, 1, 4], nextI hI1 hi1, by cbv; try simp, by first | exact Nat.lt_succ_self _ | omega⟩
      · rw [hc5]
        cbv
        cases h2
        try dsimp only at h1
        obtain ⟨hg9, h1⟩ := grdS h1
        refine ⟨inr_of hO hg9, ?_⟩
        cases h1
        exact ⟨_, [0, 1, 2], nextI hI1 hi1, by cbv; try simp, by first | exact Nat.lt_succ_self _ | omega⟩
    · rw [hc2]
      cbv
      obtain ⟨hg10, h2⟩ := grdS h2
      refine ⟨idx_of hO hg10, ?_⟩
      obtain ⟨hg11, h2⟩ := grdS h2
      refine ⟨kin_of hO hg11, ?_⟩
      cases h2
      try dsimp only at h1
      obtain ⟨l71, h2, h1⟩ := bindS h1
      replace h2 := condF h2 rfl
      cases h2
      try dsimp only at h1
      obtain ⟨hg12, h1⟩ := grdS h1
      refine ⟨inr_of hO hg12, ?_⟩
      cases h1
      exact ⟨_, [0, 1, 2], nextI hI1 hi1, by cbv; try simp, by first | exact Nat.lt_succ_self _ | omega⟩
  · rw [hc1]
    cbv
    cases h1
    cases exitI hi1
    try dsimp only at h0
    obtain ⟨⟨l98, n59⟩, hv, h0⟩ := bindS h0
    try dsimp only at h0
    refine call_is hO hX (fn_ref12_Of hO hv) (by kernel_rfl) [2] rfl ⟨rfl, rfl, trivial⟩ rfl ?_
    cbv
    cases h0
    exact fin_ok hX rfl ⟨[3], _, _, ⟨rfl, rfl⟩, rfl, rfl, rfl, rfl, by cbv; try simp⟩
set_option maxHeartbeats 40000000 in
theorem fn_ref35_During {O0 : Ops} (hO0 : O0 = std) {valid_1 : Int} {l_1 : List (Int × Int × Int × Int)} {r1 : List (Int × Int)} (h : m_ref35_During O0 valid_1 l_1 = some r1) :
    Fn Tryz.prog 14 [.c (.sl 0), .c (.int .i64 valid_1)] [.arr false .i4 l_1] (fun v c => v = .c (.sl 1) ∧ c = [.own 32 .i2 r1]) := by
  refine fn_run tab_holds eqs_holds mixed [] Tryz.func14 (by kernel_rfl) (by kernel_rfl) (Nat.le_of_ble_eq_true rfl) ?_
  intro O X hO hX
  rw [hO0, ← hO] at h
  unfold m_ref35_During at h
  have h0 := h; clear h
  cbv
  obtain ⟨l106, hi, h0⟩ := bindS h0
  obtain ⟨I1, hI1, hi⟩ := loopS hi
  refine loop1 tab_holds eqs_holds mixed [] hO hX I1 (fun y => [(4, .junk), (5, .c (.sl 2)), (6, .c (.int .i64 y.2.1))]) (fun y => [(2, .own 32 .i2 y.2.2)]) (fun y => y.1) _ (by kernel_rfl) hi (by cbv; try simp) ?_
  refine allp ?_
  intro n1
  refine allp ?_
  intro i34
  intro l103 hi
  cbv
  rw [hI1] at hi
  obtain ⟨n1, rfl, x1, h1, hi1⟩ := iterS hi
  unfold m_ref35_During_L1 at h1
  try dsimp only at h1
  rcases condS h1 with ⟨hc1, h1⟩ | ⟨hc1, h1⟩
  · as_aux_lemma =>
    rw [hc1]
    cbv
    obtain ⟨x139, h2, h1⟩ := bindS h1
    rcases condS h2 with ⟨hc2, h2⟩ | ⟨hc2, h2⟩
    · rw [hc2]
      cbv
      obtain ⟨hg3, h2⟩ := grdS h2
      refine ⟨idx_of hO hg3, ?_⟩
      obtain ⟨hg4, h2⟩ := grdS h2
      refine ⟨kin_of hO hg4, ?_⟩
      cases h2
      try dsimp only at h1
      obtain ⟨l105, h2, h1⟩ := bindS h1
      refine ⟨idx_of hO hg3, ?_⟩
      refine ⟨kin_of hO hg4, ?_⟩
      rcases condS h2 with ⟨hc5, h2⟩ | ⟨hc5, h2⟩
      · rw [hc5]
        cbv
        refine ⟨idx_of hO hg3, ?_⟩
        refine ⟨kin_of hO hg4, ?_⟩
        obtain ⟨hg6, h2⟩ := grdS h2
        refine ⟨room_of hO hg6, ?_⟩
        obtain ⟨hg7, h2⟩ := grdS h2
        refine ⟨room_of hO hg7, ?_⟩
        cases h2
        try dsimp only at h1
        obtain ⟨hg8, h1⟩ := grdS h1
        refine ⟨inr_of hO hg8, ?_⟩
        cases h1
        exact ⟨_, [0, 1, 4], nextI hI1 hi1, by cbv; try simp, by first | exact Nat.lt_succ_self _ | omega⟩
      · rw [hc5]
        cbv
        cases h2
        try dsimp only at h1
        obtain ⟨hg9, h1⟩ := grdS h1
        refine ⟨inr_of hO hg9, ?_⟩
        cases h1
        exact ⟨_, [0, 1, 2], nextI hI1 hi1, by cbv; try simp, by first | exact Nat.lt_succ_self _ | omega⟩
    · rw [hc2]
      cbv
      obtain ⟨hg10, h2⟩ := grdS h2
      refine ⟨idx_of hO hg10, ?_⟩
      obtain ⟨hg11, h2⟩ := grdS h2
      refine ⟨kin_of hO hg11, ?_⟩
      cases h2
      try dsimp only at h1
      obtain ⟨l105, h2, h1⟩ := bindS h1
      replace h2 := condF h2 rfl
      cases h2
      try dsimp only at h1
      obtain ⟨hg12, h1⟩ := grdS h1
      refine ⟨inr_of hO hg12, ?_⟩
      cases h1
      exact ⟨_, [0, 1, 2], nextI hI1 hi1, by cbv; try simp, by first | exact Nat.lt_succ_self _ | omega⟩
  · rw [hc1]
    cbv
    cases h1
    cases exitI hi1
    try dsimp only at h0
    obtain ⟨⟨l107, n60⟩, hv, h0⟩ := bindS h0
    try dsimp only at h0
    refine call_is hO hX (fn_ref12_Of hO hv) (by kernel_rfl) [2] rfl ⟨rfl, rfl, trivial⟩ rfl ?_
    cbv
    cases h0
    exact fin_ok hX rfl ⟨[3], _, _, ⟨rfl, rfl⟩, rfl, rfl, rfl, rfl, by cbv; try simp⟩
set_option maxHeartbeats 40000000 in
theorem fn_ref35_put {O0 : Ops} (hO0 : O0 = std) {x_1 : Int} {l_1 : List Int} {r1 : List Int} (h : m_ref35_put O0 x_1 l_1 = some r1) :
    Fn Tryz.prog 51 [.c (.sl 0), .c (.int .i64 x_1)] [.arr false .i1 l_1] (fun v c => v = .c (.sl 1) ∧ c = [.own 3 .i1 r1]) := by
  refine fn_run tab_holds eqs_holds mixed [] Tryz.func51 (by kernel_rfl) (by kernel_rfl) (Nat.le_of_ble_eq_true rfl) ?_
  intro O X hO hX
  rw [hO0, ← hO] at h
  unfold m_ref35_put at h
  have h0 := h; clear h
  cbv
  obtain ⟨⟨done7, l118⟩, hi, h0⟩ := bindS h0
  obtain ⟨I1, hI1, hi⟩ := loopS hi
  refine loop1 tab_holds eqs_holds mixed [] hO hX I1 (fun y => [(4, .junk), (5, .c (.sl 2)), (6, .c (.bool y.2.1)), (7, .c (.int .i64 y.2.2.1))]) (fun y => [(2, .own 3 .i1 y.2.2.2)]) (fun y => y.1) _ (by kernel_rfl) hi (by cbv; try simp) ?_
  refine allp ?_
  intro n1
  refine allp ?_
  intro done4
  refine allp ?_
  intro i37
  intro l113 hi
  cbv
  rw [hI1] at hi
  obtain ⟨n1, rfl, x1, h1, hi1⟩ := iterS hi
  unfold m_ref35_put_L1 at h1
  try dsimp only at h1
  rcases condS h1 with ⟨hc1, h1⟩ | ⟨hc1, h1⟩
  · as_aux_lemma =>
    rw [hc1]
    cbv
    obtain ⟨x149, h2, h1⟩ := bindS h1
    rcases condS h2 with ⟨hc2, h2⟩ | ⟨hc2, h2⟩
    · as_aux_lemma =>
      rw [hc2]
      cbv
      obtain ⟨hg3, h2⟩ := grdS h2
      refine ⟨idx_of hO hg3, ?_⟩
      obtain ⟨hg4, h2⟩ := grdS h2
      refine ⟨kin_of hO hg4, ?_⟩
      cases h2
      try dsimp only at h1
      obtain ⟨⟨done6, l117⟩, h2, h1⟩ := bindS h1
      rcases condS h2 with ⟨hc5, h2⟩ | ⟨hc5, h2⟩
      · as_aux_lemma =>
        rw [hc5]
        cbv
        obtain ⟨hg6, h2⟩ := grdS h2
        refine ⟨idx_of hO hg6, ?_⟩
        obtain ⟨hg7, h2⟩ := grdS h2
        refine ⟨kin_of hO hg7, ?_⟩
        obtain ⟨l115, h3, h2⟩ := bindS h2
        rcases condS h3 with ⟨hc8, h3⟩ | ⟨hc8, h3⟩
        · rw [hc8]
          cbv
          obtain ⟨hg9, h3⟩ := grdS h3
          refine ⟨room_of hO hg9, ?_⟩
          obtain ⟨hg10, h3⟩ := grdS h3
          refine ⟨room_of hO hg10, ?_⟩
          cases h3
          try dsimp only at h2
          cases h2
          try dsimp only at h1
          obtain ⟨hg11, h1⟩ := grdS h1
          refine ⟨idx_of hO hg11, ?_⟩
          obtain ⟨hg12, h1⟩ := grdS h1
          refine ⟨kin_of hO hg12, ?_⟩
          obtain ⟨hg13, h1⟩ := grdS h1
          refine ⟨room_of hO hg13, ?_⟩
          obtain ⟨hg14, h1⟩ := grdS h1
          refine ⟨room_of hO hg14, ?_⟩
          obtain ⟨hg15, h1⟩ := grdS h1
          refine ⟨inr_of hO hg15, ?_⟩
          cases h1
          exact ⟨_, [0, 1, 6], nextI hI1 hi1, by cbv; try simp, by first | exact Nat.lt_succ_self _ | omega⟩
        · rw [hc8]
          cbv
          cases h3
          try dsimp only at h2
          cases h2
          try dsimp only at h1
          obtain ⟨hg16, h1⟩ := grdS h1
          refine ⟨idx_of hO hg16, ?_⟩
          obtain ⟨hg17, h1⟩ := grdS h1
          refine ⟨kin_of hO hg17, ?_⟩
          obtain ⟨hg18, h1⟩ := grdS h1
          refine ⟨room_of hO hg18, ?_⟩
          obtain ⟨hg19, h1⟩ := grdS h1
          refine ⟨room_of hO hg19, ?_⟩
          obtain ⟨hg20, h1⟩ := grdS h1
          refine ⟨inr_of hO hg20, ?_⟩
          cases h1
          exact ⟨_, [0, 1, 4], nextI hI1 hi1, by cbv; try simp, by first | exact Nat.lt_succ_self _ | omega⟩
      · rw [hc5]
        cbv
        cases h2
        try dsimp only at h1
        obtain ⟨hg21, h1⟩ := grdS h1
        refine ⟨idx_of hO hg21, ?_⟩
        obtain ⟨hg22, h1⟩ := grdS h1
        refine ⟨kin_of hO hg22, ?_⟩
        obtain ⟨hg23, h1⟩ := grdS h1
        refine ⟨room_of hO hg23, ?_⟩
        obtain ⟨hg24, h1⟩ := grdS h1
        refine ⟨room_of hO hg24, ?_⟩
        obtain ⟨hg25, h1⟩ := grdS h1
        refine ⟨inr_of hO hg25, ?_⟩
        cases h1
        exact ⟨_, [0, 1, 4], nextI hI1 hi1, by cbv; try simp, by first | exact Nat.lt_succ_self _ | omega⟩
    · rw [hc2]
      cbv
      cases h2
      try dsimp only at h1
      obtain ⟨⟨done6, l117⟩, h2, h1⟩ := bindS h1
      replace h2 := condF h2 rfl
      cases h2
      try dsimp only at h1
      obtain ⟨hg26, h1⟩ := grdS h1
      refine ⟨idx_of hO hg26, ?_⟩
      obtain ⟨hg27, h1⟩ := grdS h1
      refine ⟨kin_of hO hg27, ?_⟩
      obtain ⟨hg28, h1⟩ := grdS h1
      refine ⟨room_of hO hg28, ?_⟩
      obtain ⟨hg29, h1⟩ := grdS h1
      refine ⟨room_of hO hg29, ?_⟩
      obtain ⟨hg30, h1⟩ := grdS h1
      refine ⟨inr_of hO hg30, ?_⟩
      cases h1
      exact ⟨_, [0, 1, 4], nextI hI1 hi1, by cbv; try simp, by first | exact Nat.lt_succ_self _ | omega⟩
  · rw [hc1]
    cbv
    cases h1
    cases exitI hi1
    try dsimp only at h0
    obtain ⟨l120, h1, h0⟩ := bindS h0
    rcases condS h1 with ⟨hc31, h1⟩ | ⟨hc31, h1⟩
    · rw [hc31]
      cbv
      obtain ⟨hg32, h1⟩ := grdS h1
      refine ⟨room_of hO hg32, ?_⟩
      obtain ⟨hg33, h1⟩ := grdS h1
      refine ⟨room_of hO hg33, ?_⟩
      cases h1
      try dsimp only at h0
      cases h0
      exact fin_ok hX rfl ⟨[4], _, _, ⟨rfl, rfl⟩, rfl, rfl, rfl, rfl, by cbv; try simp⟩
    · rw [hc31]
      cbv
      cases h1
      try dsimp only at h0
      cases h0
      exact fin_ok hX rfl ⟨[2], _, _, ⟨rfl, rfl⟩, rfl, rfl, rfl, rfl, by cbv; try simp⟩
end Go.Proofs.YtkdffpncpikdmaaGreat
