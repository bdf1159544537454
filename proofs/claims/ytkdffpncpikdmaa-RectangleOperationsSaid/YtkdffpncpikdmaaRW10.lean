/-
  The code does what its models say (printed by lift.py).
-/
import Derived.Test.YtkdffpncpikdmaaRM
import Derived.Test.YtkdffpncpikdmaaSrtR
import Derived.Test.YtkdffpncpikdmaaRW3
import Derived.Test.YtkdffpncpikdmaaRW6
import Derived.Test.YtkdffpncpikdmaaRW8
import Derived.Test.YtkdffpncpikdmaaRW9
namespace Go.Proofs.Ytkdffpncpikdmaa
open Go.RowKit
set_option maxRecDepth 100000

set_option maxHeartbeats 40000000 in
theorem fn_ref12_Same {O0 : Ops} (hO0 : O0 = std) {a_1 : List (Int × Int)} {b_1 : List (Int × Int)} {r1 : Bool} (h : m_ref12_Same O0 a_1 b_1 = some r1) :
    Fn Try.prog 46 [.c (.sl 0), .c (.sl 1)] [.arr false .i2 a_1, .arr false .i2 b_1] (fun v c => v = .c (.bool r1) ∧ c = []) := by
  refine fn_run tab_holds eqs_holds mixed [(6, (.seg 1 [0, 1, 2, 3, 4, 5, 6, 7, 8, 9, 10, 11, 12, 13, 14, 15, 16, 17, 18, 19, 20, 21, 22, 23] .fin), [])] Try.func46 (by kernel_rfl) (by kernel_rfl) (Nat.le_of_ble_eq_true rfl) ?_
  intro O X hO hX
  rw [hO0, ← hO] at h
  unfold m_ref12_Same at h
  have h0 := h; clear h
  cbv
  rcases condS h0 with ⟨hc1, h0⟩ | ⟨hc1, h0⟩
  · rw [hc1]
    cbv
    cases h0
    exact fin_ok hX rfl ⟨[], _, _, ⟨rfl, rfl⟩, rfl, rfl, rfl, rfl, by cbv; try simp⟩
  · as_aux_lemma =>
    rw [hc1]
    cbv
    obtain ⟨e1, hi, h0⟩ := bindS h0
    obtain ⟨I1, hI1, hi⟩ := loopS hi
    refine loop1 tab_holds eqs_holds mixed [(6, (.seg 1 [0, 1, 2, 3, 4, 5, 6, 7, 8, 9, 10, 11, 12, 13, 14, 15, 16, 17, 18, 19, 20, 21, 22, 23] .fin), [])] hO hX I1 (fun y => [(5, .c (.int .i64 y.2))]) (fun _ => []) (fun y => y.1) _ (by kernel_rfl) hi (by cbv; try simp) ?_
    refine allp ?_
    intro n1
    intro i43 hi
    cbv
    rw [hI1] at hi
    obtain ⟨n1, rfl, x1, h1, hi1⟩ := iterS hi
    unfold m_ref12_Same_L1 at h1
    try dsimp only at h1
    rcases condS h1 with ⟨hc2, h1⟩ | ⟨hc2, h1⟩
    · as_aux_lemma =>
      rw [hc2]
      cbv
      obtain ⟨x150, h2, h1⟩ := bindS h1
      rcases condS h2 with ⟨hc3, h2⟩ | ⟨hc3, h2⟩
      · rw [hc3]
        cbv
        obtain ⟨hg4, h2⟩ := grdS h2
        refine ⟨idx_of hO hg4, ?_⟩
        obtain ⟨hg5, h2⟩ := grdS h2
        refine ⟨kin_of hO hg5, ?_⟩
        obtain ⟨hg6, h2⟩ := grdS h2
        refine ⟨idx_of hO hg6, ?_⟩
        obtain ⟨hg7, h2⟩ := grdS h2
        refine ⟨kin_of hO hg7, ?_⟩
        cases h2
        try dsimp only at h1
        replace h1 := condT h1 rfl
        cases h1
        cases exitI hi1
        try dsimp only at h0
        cases h0
        exact fin_ok hX rfl ⟨[], _, _, ⟨rfl, rfl⟩, rfl, rfl, rfl, rfl, by cbv; try simp⟩
      · rw [hc3]
        cbv
        obtain ⟨hg8, h2⟩ := grdS h2
        refine ⟨idx_of hO hg8, ?_⟩
        obtain ⟨hg9, h2⟩ := grdS h2
        refine ⟨kin_of hO hg9, ?_⟩
        obtain ⟨hg10, h2⟩ := grdS h2
        refine ⟨idx_of hO hg10, ?_⟩
        obtain ⟨hg11, h2⟩ := grdS h2
        refine ⟨kin_of hO hg11, ?_⟩
        cases h2
        try dsimp only at h1
        refine ⟨idx_of hO hg8, ?_⟩
        refine ⟨kin_of hO hg9, ?_⟩
        refine ⟨idx_of hO hg10, ?_⟩
        refine ⟨kin_of hO hg11, ?_⟩
        rcases condS h1 with ⟨hc12, h1⟩ | ⟨hc12, h1⟩
        · rw [hc12]
          cbv
          cases h1
          cases exitI hi1
          try dsimp only at h0
          cases h0
          exact fin_ok hX rfl ⟨[], _, _, ⟨rfl, rfl⟩, rfl, rfl, rfl, rfl, by cbv; try simp⟩
        · rw [hc12]
          cbv
          obtain ⟨hg13, h1⟩ := grdS h1
          refine ⟨inr_of hO hg13, ?_⟩
          cases h1
          exact ⟨_, [0, 1], nextI hI1 hi1, by cbv; try simp, by first | exact Nat.lt_succ_self _ | omega⟩
    · rw [hc2]
      cbv
      cases h1
      cases exitI hi1
      try dsimp only at h0
      cases h0
      exact fin_ok hX rfl ⟨[], _, _, ⟨rfl, rfl⟩, rfl, rfl, rfl, rfl, by cbv; try simp⟩
set_option maxHeartbeats 40000000 in
theorem fn_ref35_Combine {O0 : Ops} (hO0 : O0 = std) {kind_1 : Int} {a_1 : List (Int × Int × Int × Int)} {b_1 : List (Int × Int × Int × Int)} {r1 : List (Int × Int × Int × Int)} {r2 : Int} (h : m_ref35_Combine O0 kind_1 a_1 b_1 = some (r1, r2)) :
    Fn Try.prog 14 [.c (.int .i64 kind_1), .c (.sl 0), .c (.sl 1)] [.arr false .i4 a_1, .arr false .i4 b_1] (fun v c => v = .tup [.one (.sl 2), .one (.int .i64 r2)] ∧ c = [.own 34 .i4 r1]) := by
  refine fn_run tab_holds eqs_holds mixed [(14, (.seg 1 [0, 1, 2, 3, 4, 5, 7, 8, 9, 10, 11] (.seg 2 [6] (.seg 2 [12] (.seg 2 [13] (.seg 1 [14] .fin))))), []), (19, (.seg 1 [0, 1, 2, 3, 4, 5, 6, 7, 8, 9, 10, 11] (.seg 2 [12] .fin)), [13, 14]), (20, (.seg 1 [0, 1, 2, 3, 4, 5, 6] .fin), [])] Try.func14 (by kernel_rfl) (by kernel_rfl) (Nat.le_of_ble_eq_true rfl) ?_
  intro O X hO hX
  rw [hO0, ← hO] at h
  unfold m_ref35_Combine at h
  have h0 := h; clear h
  cbv
  obtain ⟨x61, h1, h0⟩ := bindS h0
  obtain ⟨b27, hv, h1⟩ := bindS h1
  refine call_is hO hX (fn_ref35_List hO hv) (by kernel_rfl) [0] rfl ⟨rfl, rfl, trivial⟩ rfl ?_
  cbv
  rcases condS h1 with ⟨hc1, h1⟩ | ⟨hc1, h1⟩
  · rw [hc1]
    cbv
    cases h1
    try dsimp only at h0
    replace h0 := condT h0 rfl
    cases h0
    exact fin_ok hX rfl ⟨[3], _, _, ⟨rfl, rfl⟩, rfl, rfl, rfl, rfl, by cbv; try simp⟩
  · as_aux_lemma =>
    rw [hc1]
    cbv
    obtain ⟨b28, hv, h1⟩ := bindS h1
    refine call_is hO hX (fn_ref35_List hO hv) (by kernel_rfl) [1] rfl ⟨rfl, rfl, trivial⟩ rfl ?_
    cbv
    cases h1
    try dsimp only at h0
    rcases condS h0 with ⟨hc2, h0⟩ | ⟨hc2, h0⟩
    · rw [hc2]
      cbv
      cases h0
      exact fin_ok hX rfl ⟨[3], _, _, ⟨rfl, rfl⟩, rfl, rfl, rfl, rfl, by cbv; try simp⟩
    · as_aux_lemma =>
      rw [hc2]
      cbv
      obtain ⟨x63, h1, h0⟩ := bindS h0
      rcases condS h1 with ⟨hc3, h1⟩ | ⟨hc3, h1⟩
      · rw [hc3]
        cbv
        cases h1
        try dsimp only at h0
        replace h0 := condT h0 rfl
        cases h0
        exact fin_ok hX rfl ⟨[3], _, _, ⟨rfl, rfl⟩, rfl, rfl, rfl, rfl, by cbv; try simp⟩
      · as_aux_lemma =>
        rw [hc3]
        cbv
        cases h1
        try dsimp only at h0
        rcases condS h0 with ⟨hc4, h0⟩ | ⟨hc4, h0⟩
        · rw [hc4]
          cbv
          cases h0
          exact fin_ok hX rfl ⟨[3], _, _, ⟨rfl, rfl⟩, rfl, rfl, rfl, rfl, by cbv; try simp⟩
        · as_aux_lemma =>
          rw [hc4]
          cbv
          obtain ⟨l79, hv, h0⟩ := bindS h0
          refine call_is hO hX (fn_ref35_ends hO hv) (by kernel_rfl) [0, 1] rfl ⟨rfl, rfl, rfl, rfl, trivial⟩ rfl ?_
          cbv
          obtain ⟨l150, hi, h0⟩ := bindS h0
          obtain ⟨I2, hI2, hi⟩ := loopS hi
          refine loop1 tab_holds eqs_holds mixed [(14, (.seg 1 [0, 1, 2, 3, 4, 5, 7, 8, 9, 10, 11] (.seg 2 [6] (.seg 2 [12] (.seg 2 [13] (.seg 1 [14] .fin))))), []), (19, (.seg 1 [0, 1, 2, 3, 4, 5, 6, 7, 8, 9, 10, 11] (.seg 2 [12] .fin)), [13, 14]), (20, (.seg 1 [0, 1, 2, 3, 4, 5, 6] .fin), [])] hO hX I2 (fun y => [(6, .junk), (33, .junk), (9, .c (.sl 4)), (10, .c (.sl 5)), (11, .c (.int .i64 y.2.1)), (12, .c (.int .i64 y.2.2.1))]) (fun y => [(4, .own 34 .i4 y.2.2.2.1), (5, .own 32 .i2 y.2.2.2.2)]) (fun y => y.1) _ (by kernel_rfl) hi (by cbv; try simp) ?_
          refine allp ?_
          intro n2
          refine allp ?_
          intro from4
          refine allp ?_
          intro i44
          refine allp ?_
          intro l141
          intro l142 hi
          cbv
          rw [hI2] at hi
          obtain ⟨n2, rfl, x2, h1, hi2⟩ := iterS hi
          unfold m_ref35_Combine_L2 at h1
          try dsimp only at h1
          rcases condS h1 with ⟨hc5, h1⟩ | ⟨hc5, h1⟩
          · as_aux_lemma =>
            rw [hc5]
            cbv
            obtain ⟨hg6, h1⟩ := grdS h1
            refine ⟨inr_of hO hg6, ?_⟩
            obtain ⟨l147, h2, h1⟩ := bindS h1
            rcases condS h2 with ⟨hc7, h2⟩ | ⟨hc7, h2⟩
            · as_aux_lemma =>
              rw [hc7]
              cbv
              obtain ⟨hg8, h2⟩ := grdS h2
              refine ⟨idx_of hO hg8, ?_⟩
              obtain ⟨hg9, h2⟩ := grdS h2
              refine ⟨kin_of hO hg9, ?_⟩
              refine ⟨idx_of hO hg8, ?_⟩
              refine ⟨kin_of hO hg9, ?_⟩
              obtain ⟨l143, hv, h2⟩ := bindS h2
              refine call_is hO hX (fn_ref35_At hO hv) (by kernel_rfl) [0] rfl ⟨rfl, rfl, trivial⟩ rfl ?_
              cbv
              obtain ⟨l144, hv, h2⟩ := bindS h2
              refine call_is hO hX (fn_ref35_At hO hv) (by kernel_rfl) [1] rfl ⟨rfl, rfl, trivial⟩ rfl ?_
              cbv
              obtain ⟨l145, hv, h2⟩ := bindS h2
              refine call_is hO hX (fn_ref35_mix hO hv) (by kernel_rfl) [7, 8] rfl ⟨rfl, rfl, rfl, rfl, trivial⟩ rfl ?_
              cbv
              cases h2
              try dsimp only at h1
              obtain ⟨b45, hv, h1⟩ := bindS h1
              refine call_is hO hX (fn_ref12_Same hO hv) (by kernel_rfl) [9, 5] rfl ⟨rfl, rfl, rfl, rfl, trivial⟩ rfl ?_
              cbv
              rcases condS h1 with ⟨hc10, h1⟩ | ⟨hc10, h1⟩
              · rw [hc10]
                cbv
                refine ⟨inr_of hO hg6, ?_⟩
                cases h1
                exact ⟨_, [0, 1, 2, 3, 4, 5], nextI hI2 hi2, by cbv; try simp, by first | exact Nat.lt_succ_self _ | omega⟩
              · as_aux_lemma =>
                rw [hc10]
                cbv
                obtain ⟨l149, hi, h1⟩ := bindS h1
                obtain ⟨I1, hI1, hi⟩ := loopS hi
                refine loop1 tab_holds eqs_holds mixed [(14, (.seg 1 [0, 1, 2, 3, 4, 5, 7, 8, 9, 10, 11] (.seg 2 [6] (.seg 2 [12] (.seg 2 [13] (.seg 1 [14] .fin))))), []), (19, (.seg 1 [0, 1, 2, 3, 4, 5, 6, 7, 8, 9, 10, 11] (.seg 2 [12] .fin)), [13, 14]), (20, (.seg 1 [0, 1, 2, 3, 4, 5, 6] .fin), [])] hO hX I1 (fun y => [(35, .junk), (42, .junk), (47, .junk), (49, .junk), (51, .junk), (53, .junk), (55, .junk), (57, .junk), (58, .junk), (59, .junk), (60, .junk), (9, .c (.sl 4)), (14, .c (.int .i64 y.2.1))]) (fun y => [(4, .own 34 .i4 y.2.2)]) (fun y => y.1) _ (by kernel_rfl) hi (by cbv; try simp) ?_
                refine allp ?_
                intro n1
                refine allp ?_
                intro k14
                intro l148 hi
                cbv
                rw [hI1] at hi
                obtain ⟨n1, rfl, x1, h2, hi1⟩ := iterS hi
                unfold m_ref35_Combine_L1 at h2
                try dsimp only at h2
                rcases condS h2 with ⟨hc11, h2⟩ | ⟨hc11, h2⟩
                · rw [hc11]
                  cbv
                  obtain ⟨hg12, h2⟩ := grdS h2
                  refine ⟨idx_of hO hg12, ?_⟩
                  obtain ⟨hg13, h2⟩ := grdS h2
                  refine ⟨kin_of hO hg13, ?_⟩
                  obtain ⟨hg14, h2⟩ := grdS h2
                  refine ⟨idx_of hO hg14, ?_⟩
                  obtain ⟨hg15, h2⟩ := grdS h2
                  refine ⟨kin_of hO hg15, ?_⟩
                  obtain ⟨hg16, h2⟩ := grdS h2
                  refine ⟨room_of hO hg16, ?_⟩
                  obtain ⟨hg17, h2⟩ := grdS h2
                  refine ⟨room_of hO hg17, ?_⟩
                  obtain ⟨hg18, h2⟩ := grdS h2
                  refine ⟨inr_of hO hg18, ?_⟩
                  cases h2
                  exact ⟨_, [0, 1, 2, 3, 11, 5, 6, 7, 8, 9], nextI hI1 hi1, by cbv; try simp, by first | exact Nat.lt_succ_self _ | omega⟩
                · rw [hc11]
                  cbv
                  cases h2
                  cases exitI hi1
                  try dsimp only at h1
                  obtain ⟨hg19, h1⟩ := grdS h1
                  refine ⟨idx_of hO hg19, ?_⟩
                  obtain ⟨hg20, h1⟩ := grdS h1
                  refine ⟨kin_of hO hg20, ?_⟩
                  refine ⟨inr_of hO hg6, ?_⟩
                  cases h1
                  exact ⟨_, [0, 1, 2, 3, 4, 9], nextI hI2 hi2, by cbv; try simp, by first | exact Nat.lt_succ_self _ | omega⟩
            · as_aux_lemma =>
              rw [hc7]
              cbv
              cases h2
              try dsimp only at h1
              obtain ⟨b45, hv, h1⟩ := bindS h1
              refine call_is hO hX (fn_ref12_Same hO hv) (by kernel_rfl) [6, 5] rfl ⟨rfl, rfl, rfl, rfl, trivial⟩ rfl ?_
              cbv
              rcases condS h1 with ⟨hc21, h1⟩ | ⟨hc21, h1⟩
              · rw [hc21]
                cbv
                refine ⟨inr_of hO hg6, ?_⟩
                cases h1
                exact ⟨_, [0, 1, 2, 3, 4, 5], nextI hI2 hi2, by cbv; try simp, by first | exact Nat.lt_succ_self _ | omega⟩
              · as_aux_lemma =>
                rw [hc21]
                cbv
                obtain ⟨l149, hi, h1⟩ := bindS h1
                obtain ⟨I1, hI1, hi⟩ := loopS hi
                refine loop1 tab_holds eqs_holds mixed [(14, (.seg 1 [0, 1, 2, 3, 4, 5, 7, 8, 9, 10, 11] (.seg 2 [6] (.seg 2 [12] (.seg 2 [13] (.seg 1 [14] .fin))))), []), (19, (.seg 1 [0, 1, 2, 3, 4, 5, 6, 7, 8, 9, 10, 11] (.seg 2 [12] .fin)), [13, 14]), (20, (.seg 1 [0, 1, 2, 3, 4, 5, 6] .fin), [])] hO hX I1 (fun y => [(35, .junk), (42, .junk), (59, .junk), (60, .junk), (9, .c (.sl 4)), (14, .c (.int .i64 y.2.1))]) (fun y => [(4, .own 34 .i4 y.2.2)]) (fun y => y.1) _ (by kernel_rfl) hi (by cbv; try simp) ?_
                refine allp ?_
                intro n1
                refine allp ?_
                intro k14
                intro l148 hi
                cbv
                rw [hI1] at hi
                obtain ⟨n1, rfl, x1, h2, hi1⟩ := iterS hi
                unfold m_ref35_Combine_L1 at h2
                try dsimp only at h2
                rcases condS h2 with ⟨hc22, h2⟩ | ⟨hc22, h2⟩
                · rw [hc22]
                  cbv
                  obtain ⟨hg23, h2⟩ := grdS h2
                  refine ⟨idx_of hO hg23, ?_⟩
                  obtain ⟨hg24, h2⟩ := grdS h2
                  refine ⟨kin_of hO hg24, ?_⟩
                  obtain ⟨hg25, h2⟩ := grdS h2
                  refine ⟨idx_of hO hg25, ?_⟩
                  obtain ⟨hg26, h2⟩ := grdS h2
                  refine ⟨kin_of hO hg26, ?_⟩
                  obtain ⟨hg27, h2⟩ := grdS h2
                  refine ⟨room_of hO hg27, ?_⟩
                  obtain ⟨hg28, h2⟩ := grdS h2
                  refine ⟨room_of hO hg28, ?_⟩
                  obtain ⟨hg29, h2⟩ := grdS h2
                  refine ⟨inr_of hO hg29, ?_⟩
                  cases h2
                  exact ⟨_, [0, 1, 2, 3, 8, 5, 6], nextI hI1 hi1, by cbv; try simp, by first | exact Nat.lt_succ_self _ | omega⟩
                · rw [hc22]
                  cbv
                  cases h2
                  cases exitI hi1
                  try dsimp only at h1
                  obtain ⟨hg30, h1⟩ := grdS h1
                  refine ⟨idx_of hO hg30, ?_⟩
                  obtain ⟨hg31, h1⟩ := grdS h1
                  refine ⟨kin_of hO hg31, ?_⟩
                  refine ⟨inr_of hO hg6, ?_⟩
                  cases h1
                  exact ⟨_, [0, 1, 2, 3, 4, 6], nextI hI2 hi2, by cbv; try simp, by first | exact Nat.lt_succ_self _ | omega⟩
          · rw [hc5]
            cbv
            cases h1
            cases exitI hi2
            try dsimp only at h0
            rcases condS h0 with ⟨hc32, h0⟩ | ⟨hc32, h0⟩
            · rw [hc32]
              cbv
              cases h0
              exact fin_ok hX rfl ⟨[6], _, _, ⟨rfl, rfl⟩, rfl, rfl, rfl, rfl, by cbv; try simp⟩
            · rw [hc32]
              cbv
              cases h0
              exact fin_ok hX rfl ⟨[4], _, _, ⟨rfl, rfl⟩, rfl, rfl, rfl, rfl, by cbv; try simp⟩
end Go.Proofs.Ytkdffpncpikdmaa
