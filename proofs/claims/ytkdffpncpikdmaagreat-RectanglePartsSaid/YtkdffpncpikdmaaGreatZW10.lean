/-
  The code does what its models say (printed by lift.py).
-/
import Derived.Test.YtkdffpncpikdmaaGreatZM
import Derived.Test.YtkdffpncpikdmaaGreatSrtZ
import Derived.Test.YtkdffpncpikdmaaGreatZW2
import Derived.Test.YtkdffpncpikdmaaGreatZW3
import Derived.Test.YtkdffpncpikdmaaGreatZW4
import Derived.Test.YtkdffpncpikdmaaGreatZW7
import Derived.Test.YtkdffpncpikdmaaGreatZW8
import Derived.Test.YtkdffpncpikdmaaGreatZW9
namespace Go.Proofs.YtkdffpncpikdmaaGreat
open Go.RowKit
set_option maxRecDepth 100000

set_option maxHeartbeats 40000000 in
theorem fn_ref12_Same {O0 : Ops} (hO0 : O0 = std) {a_1 : List (Int × Int)} {b_1 : List (Int × Int)} {r1 : Bool} (h : m_ref12_Same O0 a_1 b_1 = some r1) :
    Fn Tryz.prog 34 [.c (.sl 0), .c (.sl 1)] [.arr false .i2 a_1, .arr false .i2 b_1] (fun v c => v = .c (.bool r1) ∧ c = []) := by
  refine fn_run tab_holds eqs_holds mixed [(6, (.seg 1 [0, 1, 2, 3, 4, 5, 6, 7, 8, 9, 10, 11, 12, 13, 14, 15, 16, 17, 18, 19, 20, 21, 22, 23] .fin), [])] Tryz.func34 (by kernel_rfl) (by kernel_rfl) (Nat.le_of_ble_eq_true rfl) ?_
  intro O X hO hX
  rw [hO0, ← hO] at h
  unfold m_ref12_Same at h
  have h0 := h; clear h
  cbv
  rcases condS h0 with ⟨hc1, h0⟩ | ⟨hc1, h0⟩
  · rw [hc1]
    cbv
    cases h0
    exact fin_ok hX rfl ⟨[], _, _, ⟨rfl, rfl⟩, rfl, rfl, rfl, rfl, by cbv; try simp⟩
  · as_aux_lemma =>
    rw [hc1]
    cbv
    obtain ⟨e1, hi, h0⟩ := bindS h0
    obtain ⟨I1, hI1, hi⟩ := loopS hi
    refine loop1 tab_holds eqs_holds mixed [(6, (.seg 1 [0, 1, 2, 3, 4, 5, 6, 7, 8, 9, 10, 11, 12, 13, 14, 15, 16, 17, 18, 19, 20, 21, 22, 23] .fin), [])] hO hX I1 (fun y => [(5, .c (.int .i64 y.2))]) (fun _ => []) (fun y => y.1) _ (by kernel_rfl) hi (by cbv; try simp) ?_
    refine allp ?_
    intro n1
    intro i48 hi
    cbv
    rw [hI1] at hi
    obtain ⟨n1, rfl, x1, h1, hi1⟩ := iterS hi
    unfold m_ref12_Same_L1 at h1
    try dsimp only at h1
    rcases condS h1 with ⟨hc2, h1⟩ | ⟨hc2, h1⟩
    · as_aux_lemma =>
      rw [hc2]
      cbv
      obtain ⟨x181, h2, h1⟩ := bindS h1
      rcases condS h2 with ⟨hc3, h2⟩ | ⟨hc3, h2⟩
      · rw [hc3]
        cbv
        obtain ⟨hg4, h2⟩ := grdS h2
        refine ⟨idx_of hO hg4, ?_⟩
        obtain ⟨hg5, h2⟩ := grdS h2
        refine ⟨kin_of hO hg5, ?_⟩
        obtain ⟨hg6, h2⟩ := grdS h2
        refine ⟨idx_of hO hg6, ?_⟩
        obtain ⟨hg7, h2⟩ := grdS h2
        refine ⟨kin_of hO hg7, ?_⟩
        cases h2
        try dsimp only at h1
        replace h1 := condT h1 rfl
        cases h1
        cases exitI hi1
        try dsimp only at h0
        cases h0
        exact fin_ok hX rfl ⟨[], _, _, ⟨rfl, rfl⟩, rfl, rfl, rfl, rfl, by cbv; try simp⟩
      · rw [hc3]
        cbv
        obtain ⟨hg8, h2⟩ := grdS h2
        refine ⟨idx_of hO hg8, ?_⟩
        obtain ⟨hg9, h2⟩ := grdS h2
        refine ⟨kin_of hO hg9, ?_⟩
        obtain ⟨hg10, h2⟩ := grdS h2
        refine ⟨idx_of hO hg10, ?_⟩
        obtain ⟨hg11, h2⟩ := grdS h2
        refine ⟨kin_of hO hg11, ?_⟩
        cases h2
        try dsimp only at h1
        refine ⟨idx_of hO hg8, ?_⟩
        refine ⟨kin_of hO hg9, ?_⟩
        refine ⟨idx_of hO hg10, ?_⟩
        refine ⟨kin_of hO hg11, ?_⟩
        rcases condS h1 with ⟨hc12, h1⟩ | ⟨hc12, h1⟩
        · rw [hc12]
          cbv
          cases h1
          cases exitI hi1
          try dsimp only at h0
          cases h0
          exact fin_ok hX rfl ⟨[], _, _, ⟨rfl, rfl⟩, rfl, rfl, rfl, rfl, by cbv; try simp⟩
        · rw [hc12]
          cbv
          obtain ⟨hg13, h1⟩ := grdS h1
          refine ⟨inr_of hO hg13, ?_⟩
          cases h1
          exact ⟨_, [0, 1], nextI hI1 hi1, by cbv; try simp, by first | exact Nat.lt_succ_self _ | omega⟩
    · rw [hc2]
      cbv
      cases h1
      cases exitI hi1
      try dsimp only at h0
      cases h0
      exact fin_ok hX rfl ⟨[], _, _, ⟨rfl, rfl⟩, rfl, rfl, rfl, rfl, by cbv; try simp⟩
set_option maxHeartbeats 40000000 in
theorem fn_ref35_Combine {O0 : Ops} (hO0 : O0 = std) {kind_1 : Int} {a_1 : List (Int × Int × Int × Int)} {b_1 : List (Int × Int × Int × Int)} {r1 : List (Int × Int × Int × Int)} {r2 : Int} (h : m_ref35_Combine O0 kind_1 a_1 b_1 = some (r1, r2)) :
    Fn Tryz.prog 15 [.c (.int .i64 kind_1), .c (.sl 0), .c (.sl 1)] [.arr false .i4 a_1, .arr false .i4 b_1] (fun v c => v = .tup [.one (.sl 2), .one (.int .i64 r2)] ∧ c = [.own 39 .i4 r1]) := by
  refine fn_run tab_holds eqs_holds mixed [(14, (.seg 1 [0, 1, 2, 3, 4, 5, 7, 8, 9, 10, 11] (.seg 2 [6] (.seg 2 [12] (.seg 2 [13] (.seg 1 [14] .fin))))), []), (19, (.seg 1 [0, 1, 2, 3, 4, 5, 6, 7, 8, 9, 10, 11] (.seg 2 [12] .fin)), [13, 14]), (20, (.seg 1 [0, 1, 2, 3, 4, 5, 6] .fin), [])] Tryz.func15 (by kernel_rfl) (by kernel_rfl) (Nat.le_of_ble_eq_true rfl) ?_
  intro O X hO hX
  rw [hO0, ← hO] at h
  unfold m_ref35_Combine at h
  have h0 := h; clear h
  cbv
  obtain ⟨x143, h1, h0⟩ := bindS h0
  obtain ⟨b47, hv, h1⟩ := bindS h1
  refine call_is hO hX (fn_ref35_List hO hv) (by kernel_rfl) [0] rfl ⟨rfl, rfl, trivial⟩ rfl ?_
  cbv
  rcases condS h1 with ⟨hc1, h1⟩ | ⟨hc1, h1⟩
  · rw [hc1]
    cbv
    cases h1
    try dsimp only at h0
    replace h0 := condT h0 rfl
    cases h0
    exact fin_ok hX rfl ⟨[3], _, _, ⟨rfl, rfl⟩, rfl, rfl, rfl, rfl, by cbv; try simp⟩
  · as_aux_lemma =>
    rw [hc1]
    cbv
    obtain ⟨b48, hv, h1⟩ := bindS h1
    refine call_is hO hX (fn_ref35_List hO hv) (by kernel_rfl) [1] rfl ⟨rfl, rfl, trivial⟩ rfl ?_
    cbv
    cases h1
    try dsimp only at h0
    rcases condS h0 with ⟨hc2, h0⟩ | ⟨hc2, h0⟩
    · rw [hc2]
      cbv
      cases h0
      exact fin_ok hX rfl ⟨[3], _, _, ⟨rfl, rfl⟩, rfl, rfl, rfl, rfl, by cbv; try simp⟩
    · as_aux_lemma =>
      rw [hc2]
      cbv
      obtain ⟨x145, h1, h0⟩ := bindS h0
      rcases condS h1 with ⟨hc3, h1⟩ | ⟨hc3, h1⟩
      · rw [hc3]
        cbv
        cases h1
        try dsimp only at h0
        replace h0 := condT h0 rfl
        cases h0
        exact fin_ok hX rfl ⟨[3], _, _, ⟨rfl, rfl⟩, rfl, rfl, rfl, rfl, by cbv; try simp⟩
      · as_aux_lemma =>
        rw [hc3]
        cbv
        cases h1
        try dsimp only at h0
        rcases condS h0 with ⟨hc4, h0⟩ | ⟨hc4, h0⟩
        · rw [hc4]
          cbv
          cases h0
          exact fin_ok hX rfl ⟨[3], _, _, ⟨rfl, rfl⟩, rfl, rfl, rfl, rfl, by cbv; try simp⟩
        · as_aux_lemma =>
          rw [hc4]
          cbv
          obtain ⟨l133, hv, h0⟩ := bindS h0
          refine call_is hO hX (fn_ref35_ends hO hv) (by kernel_rfl) [0, 1] rfl ⟨rfl, rfl, rfl, rfl, trivial⟩ rfl ?_
          cbv
          obtain ⟨l172, hi, h0⟩ := bindS h0
          obtain ⟨I2, hI2, hi⟩ := loopS hi
          refine loop1 tab_holds eqs_holds mixed [(14, (.seg 1 [0, 1, 2, 3, 4, 5, 7, 8, 9, 10, 11] (.seg 2 [6] (.seg 2 [12] (.seg 2 [13] (.seg 1 [14] .fin))))), []), (19, (.seg 1 [0, 1, 2, 3, 4, 5, 6, 7, 8, 9, 10, 11] (.seg 2 [12] .fin)), [13, 14]), (20, (.seg 1 [0, 1, 2, 3, 4, 5, 6] .fin), [])] hO hX I2 (fun y => [(6, .junk), (33, .junk), (9, .c (.sl 4)), (10, .c (.sl 5)), (11, .c (.int .i64 y.2.1)), (12, .c (.int .i64 y.2.2.1))]) (fun y => [(4, .own 39 .i4 y.2.2.2.1), (5, .own 32 .i2 y.2.2.2.2)]) (fun y => y.1) _ (by kernel_rfl) hi (by cbv; try simp) ?_
          refine allp ?_
          intro n2
          refine allp ?_
          intro from4
          refine allp ?_
          intro i49
          refine allp ?_
          intro l163
          intro l164 hi
          cbv
          rw [hI2] at hi
          obtain ⟨n2, rfl, x2, h1, hi2⟩ := iterS hi
          unfold m_ref35_Combine_L2 at h1
          try dsimp only at h1
          rcases condS h1 with ⟨hc5, h1⟩ | ⟨hc5, h1⟩
          · as_aux_lemma =>
            rw [hc5]
            cbv
            obtain ⟨hg6, h1⟩ := grdS h1
            refine ⟨inr_of hO hg6, ?_⟩
            obtain ⟨l169, h2, h1⟩ := bindS h1
            rcases condS h2 with ⟨hc7, h2⟩ | ⟨hc7, h2⟩
            · as_aux_lemma =>
              rw [hc7]
              cbv
              obtain ⟨hg8, h2⟩ := grdS h2
              refine ⟨idx_of hO hg8, ?_⟩
              obtain ⟨hg9, h2⟩ := grdS h2
              refine ⟨kin_of hO hg9, ?_⟩
              refine ⟨idx_of hO hg8, ?_⟩
              refine ⟨kin_of hO hg9, ?_⟩
              obtain ⟨l165, hv, h2⟩ := bindS h2
              refine call_is hO hX (fn_ref35_At hO hv) (by kernel_rfl) [0] rfl ⟨rfl, rfl, trivial⟩ rfl ?_
              cbv
              obtain ⟨l166, hv, h2⟩ := bindS h2
              refine call_is hO hX (fn_ref35_At hO hv) (by kernel_rfl) [1] rfl ⟨rfl, rfl, trivial⟩ rfl ?_
              cbv
              obtain ⟨l167, hv, h2⟩ := bindS h2
              refine call_is hO hX (fn_ref35_mix hO hv) (by kernel_rfl) [7, 8] rfl ⟨rfl, rfl, rfl, rfl, trivial⟩ rfl ?_
              cbv
              cases h2
              try dsimp only at h1
              obtain ⟨b55, hv, h1⟩ := bindS h1
              refine call_is hO hX (fn_ref12_Same hO hv) (by kernel_rfl) [9, 5] rfl ⟨rfl, rfl, rfl, rfl, trivial⟩ rfl ?_
              cbv
              rcases condS h1 with ⟨hc10, h1⟩ | ⟨hc10, h1⟩
              · rw [hc10]
                cbv
                refine ⟨inr_of hO hg6, ?_⟩
                cases h1
                exact ⟨_, [0, 1, 2, 3, 4, 5], nextI hI2 hi2, by cbv; try simp, by first | exact Nat.lt_succ_self _ | omega⟩
              · as_aux_lemma =>
                rw [hc10]
                cbv
                obtain ⟨l171, hi, h1⟩ := bindS h1
                obtain ⟨I1, hI1, hi⟩ := loopS hi
                refine loop1 tab_holds eqs_holds mixed [(14, (.seg 1 [0, 1, 2, 3, 4, 5, 7, 8, 9, 10, 11] (.seg 2 [6] (.seg 2 [12] (.seg 2 [13] (.seg 1 [14] .fin))))), []), (19, (.seg 1 [0, 1, 2, 3, 4, 5, 6, 7, 8, 9, 10, 11] (.seg 2 [12] .fin)), [13, 14]), (20, (.seg 1 [0, 1, 2, 3, 4, 5, 6] .fin), [])] hO hX I1 (fun y => [(35, .junk), (42, .junk), (47, .junk), (49, .junk), (51, .junk), (53, .junk), (55, .junk), (57, .junk), (58, .junk), (59, .junk), (60, .junk), (9, .c (.sl 4)), (14, .c (.int .i64 y.2.1))]) (fun y => [(4, .own 39 .i4 y.2.2)]) (fun y => y.1) _ (by kernel_rfl) hi (by cbv; try simp) ?_
                refine allp ?_
                intro n1
                refine allp ?_
                intro k14
                intro l170 hi
                cbv
                rw [hI1] at hi
                obtain ⟨n1, rfl, x1, h2, hi1⟩ := iterS hi
                unfold m_ref35_Combine_L1 at h2
                try dsimp only at h2
                rcases condS h2 with ⟨hc11, h2⟩ | ⟨hc11, h2⟩
                · rw [hc11]
                  cbv
                  obtain ⟨hg12, h2⟩ := grdS h2
                  refine ⟨idx_of hO hg12, ?_⟩
                  obtain ⟨hg13, h2⟩ := grdS h2
                  refine ⟨kin_of hO hg13, ?_⟩
                  obtain ⟨hg14, h2⟩ := grdS h2
                  refine ⟨idx_of hO hg14, ?_⟩
                  obtain ⟨hg15, h2⟩ := grdS h2
                  refine ⟨kin_of hO hg15, ?_⟩
                  obtain ⟨hg16, h2⟩ := grdS h2
                  refine ⟨room_of hO hg16, ?_⟩
                  obtain ⟨hg17, h2⟩ := grdS h2
                  refine ⟨room_of hO hg17, ?_⟩
                  obtain ⟨hg18, h2⟩ := grdS h2
                  refine ⟨inr_of hO hg18, ?_⟩
                  cases h2
                  exact ⟨_, [0, 1, 2, 3, 11, 5, 6, 7, 8, 9], nextI hI1 hi1, by cbv; try simp, by first | exact Nat.lt_succ_self _ | omega⟩
                · rw [hc11]
                  cbv
                  cases h2
                  cases exitI hi1
                  try dsimp only at h1
                  obtain ⟨hg19, h1⟩ := grdS h1
                  refine ⟨idx_of hO hg19, ?_⟩
                  obtain ⟨hg20, h1⟩ := grdS h1
                  refine ⟨kin_of hO hg20, ?_⟩
                  refine ⟨inr_of hO hg6, ?_⟩
                  cases h1
                  exact ⟨_, [0, 1, 2, 3, 4, 9], nextI hI2 hi2, by cbv; try simp, by first | exact Nat.lt_succ_self _ | omega⟩
            · as_aux_lemma =>
              rw [hc7]
              cbv
              cases h2
              try dsimp only at h1
              obtain ⟨b55, hv, h1⟩ := bindS h1
              refine call_is hO hX (fn_ref12_Same hO hv) (by kernel_rfl) [6, 5] rfl ⟨rfl, rfl, rfl, rfl, trivial⟩ rfl ?_
              cbv
              rcases condS h1 with ⟨hc21, h1⟩ | ⟨hc21, h1⟩
              · rw [hc21]
                cbv
                refine ⟨inr_of hO hg6, ?_⟩
                cases h1
                exact ⟨_, [0, 1, 2, 3, 4, 5], nextI hI2 hi2, by cbv; try simp, by first | exact Nat.lt_succ_self _ | omega⟩
              · as_aux_lemma =>
                rw [hc21]
                cbv
                obtain ⟨l171, hi, h1⟩ := bindS h1
                obtain ⟨I1, hI1, hi⟩ := loopS hi
                refine loop1 tab_holds eqs_holds mixed [(14, (.seg 1 [0, 1, 2, 3, 4, 5, 7, 8, 9, 10, 11] (.seg 2 [6] (.seg 2 [12] (.seg 2 [13] (.seg 1 [14] .fin))))), []), (19, (.seg 1 [0, 1, 2, 3, 4, 5, 6, 7, 8, 9, 10, 11] (.seg 2 [12] .fin)), [13, 14]), (20, (.seg 1 [0, 1, 2, 3, 4, 5, 6] .fin), [])] hO hX I1 (fun y => [(35, .junk), (42, .junk), (59, .junk), (60, .junk), (9, .c (.sl 4)), (14, .c (.int .i64 y.2.1))]) (fun y => [(4, .own 39 .i4 y.2.2)]) (fun y => y.1) _ (by kernel_rfl) hi (by cbv; try simp) ?_
                refine allp ?_
                intro n1
                refine allp ?_
                intro k14
                intro l170 hi
                cbv
                rw [hI1] at hi
                obtain ⟨n1, rfl, x1, h2, hi1⟩ := iterS hi
                unfold m_ref35_Combine_L1 at h2
                try dsimp only at h2
                rcases condS h2 with ⟨hc22, h2⟩ | ⟨hc22, h2⟩
                · rw [hc22]
                  cbv
                  obtain ⟨hg23, h2⟩ := grdS h2
                  refine ⟨idx_of hO hg23, ?_⟩
                  obtain ⟨hg24, h2⟩ := grdS h2
                  refine ⟨kin_of hO hg24, ?_⟩
                  obtain ⟨hg25, h2⟩ := grdS h2
                  refine ⟨idx_of hO hg25, ?_⟩
                  obtain ⟨hg26, h2⟩ := grdS h2
                  refine ⟨kin_of hO hg26, ?_⟩
                  obtain ⟨hg27, h2⟩ := grdS h2
                  refine ⟨room_of hO hg27, ?_⟩
                  obtain ⟨hg28, h2⟩ := grdS h2
                  refine ⟨room_of hO hg28, ?_⟩
                  obtain ⟨hg29, h2⟩ := grdS h2
                  refine ⟨inr_of hO hg29, ?_⟩
                  cases h2
                  exact ⟨_, [0, 1, 2, 3, 8, 5, 6], nextI hI1 hi1, by cbv; try simp, by first | exact Nat.lt_succ_self _ | omega⟩
                · rw [hc22]
                  cbv
                  cases h2
                  cases exitI hi1
                  try dsimp only at h1
                  obtain ⟨hg30, h1⟩ := grdS h1
                  refine ⟨idx_of hO hg30, ?_⟩
                  obtain ⟨hg31, h1⟩ := grdS h1
                  refine ⟨kin_of hO hg31, ?_⟩
                  refine ⟨inr_of hO hg6, ?_⟩
                  cases h1
                  exact ⟨_, [0, 1, 2, 3, 4, 6], nextI hI2 hi2, by cbv; try simp, by first | exact Nat.lt_succ_self _ | omega⟩
          · rw [hc5]
            cbv
            cases h1
            cases exitI hi2
            try dsimp only at h0
            rcases condS h0 with ⟨hc32, h0⟩ | ⟨hc32, h0⟩
            · rw [hc32]
              cbv
              cases h0
              exact fin_ok hX rfl ⟨[6], _, _, ⟨rfl, rfl⟩, rfl, rfl, rfl, rfl, by cbv; try simp⟩
            · rw [hc32]
              cbv
              cases h0
              exact fin_ok hX rfl ⟨[4], _, _, ⟨rfl, rfl⟩, rfl, rfl, rfl, rfl, by cbv; try simp⟩
set_option maxHeartbeats 40000000 in
theorem fn_ref35_Area {O0 : Ops} (hO0 : O0 = std) {l_1 : List (Int × Int × Int × Int)} {r1 : Int} (h : m_ref35_Area O0 l_1 = some r1) :
    Fn Tryz.prog 16 [.c (.sl 0)] [.arr false .i4 l_1] (fun v c => v = .c (.int .i64 r1) ∧ c = []) := by
  refine fn_run tab_holds eqs_holds mixed [(6, (.seg 1 [0, 1, 2, 3, 4, 5, 6, 7, 8, 9, 10, 11, 12, 13, 14, 15, 16, 17, 18, 19, 20, 21, 22, 23, 24, 25] (.seg 2 [26] (.seg 1 [27, 28, 29, 30, 31] .fin))), [])] Tryz.func16 (by kernel_rfl) (by kernel_rfl) (Nat.le_of_ble_eq_true rfl) ?_
  intro O X hO hX
  rw [hO0, ← hO] at h
  unfold m_ref35_Area at h
  have h0 := h; clear h
  cbv
  refine call_nil hO hX .i4 1 rfl ?_
  cbv
  obtain ⟨⟨l174, n63⟩, hv, h0⟩ := bindS h0
  try dsimp only at h0
  refine call_is hO hX (fn_ref35_Combine hO hv) (by kernel_rfl) [0, 1] rfl ⟨rfl, rfl, rfl, rfl, trivial⟩ rfl ?_
  cbv
  obtain ⟨e1, hi, h0⟩ := bindS h0
  obtain ⟨I1, hI1, hi⟩ := loopS hi
  refine loop1 tab_holds eqs_holds mixed [(6, (.seg 1 [0, 1, 2, 3, 4, 5, 6, 7, 8, 9, 10, 11, 12, 13, 14, 15, 16, 17, 18, 19, 20, 21, 22, 23, 24, 25] (.seg 2 [26] (.seg 1 [27, 28, 29, 30, 31] .fin))), [])] hO hX I1 (fun y => [(11, .junk), (13, .junk), (14, .junk), (5, .c (.int .i64 y.2.1)), (6, .c (.int .i64 y.2.2))]) (fun _ => []) (fun y => y.1) _ (by kernel_rfl) hi (by cbv; try simp) ?_
  refine allp ?_
  intro n1
  refine allp ?_
  intro sum5
  intro i51 hi
  cbv
  rw [hI1] at hi
  obtain ⟨n1, rfl, x1, h1, hi1⟩ := iterS hi
  unfold m_ref35_Area_L1 at h1
  try dsimp only at h1
  rcases condS h1 with ⟨hc1, h1⟩ | ⟨hc1, h1⟩
  · as_aux_lemma =>
    rw [hc1]
    cbv
    obtain ⟨hg2, h1⟩ := grdS h1
    refine ⟨idx_of hO hg2, ?_⟩
    obtain ⟨hg3, h1⟩ := grdS h1
    refine ⟨kin_of hO hg3, ?_⟩
    refine ⟨idx_of hO hg2, ?_⟩
    refine ⟨kin_of hO hg3, ?_⟩
    obtain ⟨hg4, h1⟩ := grdS h1
    refine ⟨inr_of hO hg4, ?_⟩
    refine ⟨idx_of hO hg2, ?_⟩
    refine ⟨kin_of hO hg3, ?_⟩
    refine ⟨idx_of hO hg2, ?_⟩
    refine ⟨kin_of hO hg3, ?_⟩
    obtain ⟨hg5, h1⟩ := grdS h1
    refine ⟨inr_of hO hg5, ?_⟩
    obtain ⟨⟨n68, n69⟩, hv, h1⟩ := bindS h1
    try dsimp only at h1
    refine call_is hO hX (fn_ref01_Mul hO hv) (by kernel_rfl) [] rfl trivial rfl ?_
    cbv
    obtain ⟨⟨n70, n71⟩, hv, h1⟩ := bindS h1
    try dsimp only at h1
    refine call_is hO hX (fn_ref01_Add hO hv) (by kernel_rfl) [] rfl trivial rfl ?_
    cbv
    obtain ⟨x185, h2, h1⟩ := bindS h1
    rcases condS h2 with ⟨hc6, h2⟩ | ⟨hc6, h2⟩
    · rw [hc6]
      cbv
      cases h2
      try dsimp only at h1
      replace h1 := condT h1 rfl
      cases h1
      cases exitI hi1
      try dsimp only at h0
      cases h0
      exact fin_ok hX rfl ⟨[], _, _, ⟨rfl, rfl⟩, rfl, rfl, rfl, rfl, by cbv; try simp⟩
    · rw [hc6]
      cbv
      cases h2
      try dsimp only at h1
      rcases condS h1 with ⟨hc7, h1⟩ | ⟨hc7, h1⟩
      · rw [hc7]
        cbv
        cases h1
        cases exitI hi1
        try dsimp only at h0
        cases h0
        exact fin_ok hX rfl ⟨[], _, _, ⟨rfl, rfl⟩, rfl, rfl, rfl, rfl, by cbv; try simp⟩
      · rw [hc7]
        cbv
        obtain ⟨hg8, h1⟩ := grdS h1
        refine ⟨inr_of hO hg8, ?_⟩
        cases h1
        exact ⟨_, [0, 1, 2], nextI hI1 hi1, by cbv; try simp, by first | exact Nat.lt_succ_self _ | omega⟩
  · rw [hc1]
    cbv
    cases h1
    cases exitI hi1
    try dsimp only at h0
    cases h0
    exact fin_ok hX rfl ⟨[], _, _, ⟨rfl, rfl⟩, rfl, rfl, rfl, rfl, by cbv; try simp⟩
set_option maxHeartbeats 40000000 in
theorem fn_law35_RectangleParts {O0 : Ops} (hO0 : O0 = std) {valid_1 : Int} {tx_1 : Int} {l_1 : List (Int × Int × Int × Int)} {r1 : Bool} (h : m_law35_RectangleParts O0 valid_1 tx_1 l_1 = some r1) :
    Fn Tryz.prog 3 [.c (.sl 0), .c (.int .i64 valid_1), .c (.int .i64 tx_1)] [.arr false .i4 l_1] (fun v c => v = .c (.bool r1) ∧ c = []) := by
  refine fn_run tab_holds eqs_holds mixed [] Tryz.func3 (by kernel_rfl) (by kernel_rfl) (Nat.le_of_ble_eq_true rfl) ?_
  intro O X hO hX
  rw [hO0, ← hO] at h
  unfold m_law35_RectangleParts at h
  have h0 := h; clear h
  cbv
  obtain ⟨b20, hv, h0⟩ := bindS h0
  refine call_is hO hX (fn_law35_awake hO hv) (by kernel_rfl) [] rfl trivial rfl ?_
  cbv
  rcases condS h0 with ⟨hc1, h0⟩ | ⟨hc1, h0⟩
  · rw [hc1]
    cbv
    cases h0
    exact fin_ok hX rfl ⟨[], _, _, ⟨rfl, rfl⟩, rfl, rfl, rfl, rfl, by cbv; try simp⟩
  · as_aux_lemma =>
    rw [hc1]
    cbv
    obtain ⟨b23, hv, h0⟩ := bindS h0
    refine call_is hO hX (fn_law35_few hO hv) (by kernel_rfl) [1, 0] rfl ⟨rfl, rfl, rfl, rfl, trivial⟩ rfl ?_
    cbv
    rcases condS h0 with ⟨hc2, h0⟩ | ⟨hc2, h0⟩
    · rw [hc2]
      cbv
      cases h0
      exact fin_ok hX rfl ⟨[], _, _, ⟨rfl, rfl⟩, rfl, rfl, rfl, rfl, by cbv; try simp⟩
    · as_aux_lemma =>
      rw [hc2]
      cbv
      obtain ⟨b27, hv, h0⟩ := bindS h0
      refine call_is hO hX (fn_ref35_List hO hv) (by kernel_rfl) [0] rfl ⟨rfl, rfl, trivial⟩ rfl ?_
      cbv
      rcases condS h0 with ⟨hc3, h0⟩ | ⟨hc3, h0⟩
      · as_aux_lemma =>
        rw [hc3]
        cbv
        obtain ⟨x80, h1, h0⟩ := bindS h0
        obtain ⟨b31, hv, h1⟩ := bindS h1
        refine call_is hO hX (fn_rectangle_Has hO hv) (by kernel_rfl) [0] rfl ⟨rfl, rfl, trivial⟩ rfl ?_
        cbv
        rcases condS h1 with ⟨hc4, h1⟩ | ⟨hc4, h1⟩
        · rw [hc4]
          cbv
          obtain ⟨l55, hv, h1⟩ := bindS h1
          refine call_is hO hX (fn_rectangle_At hO hv) (by kernel_rfl) [0] rfl ⟨rfl, rfl, trivial⟩ rfl ?_
          cbv
          rcases condS h1 with ⟨hc5, h1⟩ | ⟨hc5, h1⟩
          · rw [hc5]
            cbv
            obtain ⟨l59, hv, h1⟩ := bindS h1
            refine call_is hO hX (fn_rectangle_During hO hv) (by kernel_rfl) [0] rfl ⟨rfl, rfl, trivial⟩ rfl ?_
            cbv
            rcases condS h1 with ⟨hc6, h1⟩ | ⟨hc6, h1⟩
            · rw [hc6]
              cbv
              obtain ⟨n56, hv, h1⟩ := bindS h1
              refine call_is hO hX (fn_rectangle_Area hO hv) (by kernel_rfl) [0] rfl ⟨rfl, rfl, trivial⟩ rfl ?_
              cbv
              cases h1
              try dsimp only at h0
              cases h0
              exact fin_ok hX rfl ⟨[], _, _, ⟨rfl, rfl⟩, rfl, rfl, rfl, rfl, by cbv; try simp⟩
            · rw [hc6]
              cbv
              cases h1
              try dsimp only at h0
              cases h0
              exact fin_ok hX rfl ⟨[], _, _, ⟨rfl, rfl⟩, rfl, rfl, rfl, rfl, by cbv; try simp⟩
          · rw [hc5]
            cbv
            cases h1
            try dsimp only at h0
            cases h0
            exact fin_ok hX rfl ⟨[], _, _, ⟨rfl, rfl⟩, rfl, rfl, rfl, rfl, by cbv; try simp⟩
        · rw [hc4]
          cbv
          cases h1
          try dsimp only at h0
          cases h0
          exact fin_ok hX rfl ⟨[], _, _, ⟨rfl, rfl⟩, rfl, rfl, rfl, rfl, by cbv; try simp⟩
      · as_aux_lemma =>
        rw [hc3]
        cbv
        obtain ⟨x141, h1, h0⟩ := bindS h0
        obtain ⟨b33, hv, h1⟩ := bindS h1
        refine call_is hO hX (fn_rectangle_Has hO hv) (by kernel_rfl) [0] rfl ⟨rfl, rfl, trivial⟩ rfl ?_
        cbv
        obtain ⟨b34, hv, h1⟩ := bindS h1
        refine call_is hO hX (fn_ref35_Has hO hv) (by kernel_rfl) [0] rfl ⟨rfl, rfl, trivial⟩ rfl ?_
        cbv
        rcases condS h1 with ⟨hc7, h1⟩ | ⟨hc7, h1⟩
        · rw [hc7]
          cbv
          cases h1
          try dsimp only at h0
          replace h0 := condT h0 rfl
          cases h0
          exact fin_ok hX rfl ⟨[], _, _, ⟨rfl, rfl⟩, rfl, rfl, rfl, rfl, by cbv; try simp⟩
        · as_aux_lemma =>
          rw [hc7]
          cbv
          obtain ⟨l66, hv, h1⟩ := bindS h1
          refine call_is hO hX (fn_rectangle_At hO hv) (by kernel_rfl) [0] rfl ⟨rfl, rfl, trivial⟩ rfl ?_
          cbv
          obtain ⟨l99, hv, h1⟩ := bindS h1
          refine call_is hO hX (fn_ref35_At hO hv) (by kernel_rfl) [0] rfl ⟨rfl, rfl, trivial⟩ rfl ?_
          cbv
          obtain ⟨b45, hv, h1⟩ := bindS h1
          refine call_is hO hX (fn_slices_Equal hO hv) (by kernel_rfl) [2, 3] rfl ⟨rfl, rfl, rfl, rfl, trivial⟩ rfl ?_
          cbv
          rcases condS h1 with ⟨hc8, h1⟩ | ⟨hc8, h1⟩
          · rw [hc8]
            cbv
            cases h1
            try dsimp only at h0
            replace h0 := condT h0 rfl
            cases h0
            exact fin_ok hX rfl ⟨[], _, _, ⟨rfl, rfl⟩, rfl, rfl, rfl, rfl, by cbv; try simp⟩
          · as_aux_lemma =>
            rw [hc8]
            cbv
            obtain ⟨l100, hv, h1⟩ := bindS h1
            refine call_is hO hX (fn_rectangle_During hO hv) (by kernel_rfl) [0] rfl ⟨rfl, rfl, trivial⟩ rfl ?_
            cbv
            obtain ⟨l108, hv, h1⟩ := bindS h1
            refine call_is hO hX (fn_ref35_During hO hv) (by kernel_rfl) [0] rfl ⟨rfl, rfl, trivial⟩ rfl ?_
            cbv
            obtain ⟨b46, hv, h1⟩ := bindS h1
            refine call_is hO hX (fn_slices_Equal hO hv) (by kernel_rfl) [4, 5] rfl ⟨rfl, rfl, rfl, rfl, trivial⟩ rfl ?_
            cbv
            cases h1
            try dsimp only at h0
            rcases condS h0 with ⟨hc9, h0⟩ | ⟨hc9, h0⟩
            · rw [hc9]
              cbv
              cases h0
              exact fin_ok hX rfl ⟨[], _, _, ⟨rfl, rfl⟩, rfl, rfl, rfl, rfl, by cbv; try simp⟩
            · rw [hc9]
              cbv
              refine call_nil hO hX .i4 6 rfl ?_
              cbv
              obtain ⟨⟨l173, n61⟩, hv, h0⟩ := bindS h0
              try dsimp only at h0
              refine call_is hO hX (fn_ref35_Combine hO hv) (by kernel_rfl) [0, 6] rfl ⟨rfl, rfl, rfl, rfl, trivial⟩ rfl ?_
              cbv
              obtain ⟨x187, h1, h0⟩ := bindS h0
              rcases condS h1 with ⟨hc10, h1⟩ | ⟨hc10, h1⟩
              · rw [hc10]
                cbv
                cases h1
                try dsimp only at h0
                cases h0
                exact fin_ok hX rfl ⟨[], _, _, ⟨rfl, rfl⟩, rfl, rfl, rfl, rfl, by cbv; try simp⟩
              · rw [hc10]
                cbv
                obtain ⟨n62, hv, h1⟩ := bindS h1
                refine call_is hO hX (fn_rectangle_Area hO hv) (by kernel_rfl) [0] rfl ⟨rfl, rfl, trivial⟩ rfl ?_
                cbv
                obtain ⟨n72, hv, h1⟩ := bindS h1
                refine call_is hO hX (fn_ref35_Area hO hv) (by kernel_rfl) [0] rfl ⟨rfl, rfl, trivial⟩ rfl ?_
                cbv
                cases h1
                try dsimp only at h0
                cases h0
                exact fin_ok hX rfl ⟨[], _, _, ⟨rfl, rfl⟩, rfl, rfl, rfl, rfl, by cbv; try simp⟩
end Go.Proofs.YtkdffpncpikdmaaGreat
