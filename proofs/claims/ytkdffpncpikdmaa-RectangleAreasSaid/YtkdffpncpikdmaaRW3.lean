/-
  The code does what its models say (printed by lift.py).
-/
import Derived.Test.YtkdffpncpikdmaaRM
import Derived.Test.YtkdffpncpikdmaaSrtR
import Derived.Test.YtkdffpncpikdmaaSrtR
import Derived.Test.YtkdffpncpikdmaaRW0
import Derived.Test.YtkdffpncpikdmaaRW1
import Derived.Test.YtkdffpncpikdmaaRW2
namespace Go.Proofs.Ytkdffpncpikdmaa
open Go.RowKit
set_option maxRecDepth 100000

set_option maxHeartbeats 40000000 in
theorem fn_rectangle_combine {O0 : Ops} (hO0 : O0 = std) {a_1 : List (Int × Int × Int × Int)} {b_1 : List (Int × Int × Int × Int)} {r1 : List (Int × Int × Int × Int)} {r2 : Int} (h : m_rectangle_combine O0 a_1 b_1 = some (r1, r2)) :
    Fn Try.prog 41 [.c (.sl 0), .c (.sl 1), .c (.fn 42 [])] [.arr false .i4 a_1, .arr false .i4 b_1] (fun v c => v = .tup [.one (.sl 2), .one (.int .i64 r2)] ∧ c = [.own 34 .i4 r1]) := by
  refine fn_run tab_holds eqs_holds mixed [(17, (.seg 1 [0, 1, 2, 3, 4, 5, 7, 8, 9, 10, 11] (.seg 2 [6] (.seg 2 [12] (.seg 2 [13] (.seg 1 [14, 15, 16, 17, 18] .fin))))), []), (29, (.seg 1 [0, 1, 2, 3, 4, 5, 6, 7, 8, 9, 10, 11, 12, 13, 14, 15, 16, 17] (.seg 2 [18] .fin)), [19, 20])] Try.func41 (by kernel_rfl) (by kernel_rfl) (Nat.le_of_ble_eq_true rfl) ?_
  intro O X hO hX
  rw [hO0, ← hO] at h
  unfold m_rectangle_combine at h
  have h0 := h; clear h
  cbv
  obtain ⟨n10, hv, h0⟩ := bindS h0
  refine call_is hO hX (fn_rectangle_check hO hv) (by kernel_rfl) [3, 0, 1] rfl ⟨rfl, rfl, rfl, rfl, rfl, rfl, trivial⟩ rfl ?_
  cbv
  rcases condS h0 with ⟨hc1, h0⟩ | ⟨hc1, h0⟩
  · rw [hc1]
    cbv
    cases h0
    exact fin_ok hX rfl ⟨[4], _, _, ⟨rfl, rfl⟩, rfl, rfl, rfl, rfl, by cbv; try simp⟩
  · as_aux_lemma =>
    rw [hc1]
    cbv
    obtain ⟨l2, hv, h0⟩ := bindS h0
    refine call_is hO hX (fn_slices_Concat hO hv) (by kernel_rfl) [5, 0, 1] rfl ⟨rfl, rfl, rfl, rfl, rfl, rfl, trivial⟩ rfl ?_
    cbv
    obtain ⟨l4, hi, h0⟩ := bindS h0
    obtain ⟨I1, hI1, hi⟩ := loopS hi
    refine loop1 tab_holds eqs_holds mixed [(17, (.seg 1 [0, 1, 2, 3, 4, 5, 7, 8, 9, 10, 11] (.seg 2 [6] (.seg 2 [12] (.seg 2 [13] (.seg 1 [14, 15, 16, 17, 18] .fin))))), []), (29, (.seg 1 [0, 1, 2, 3, 4, 5, 6, 7, 8, 9, 10, 11, 12, 13, 14, 15, 16, 17] (.seg 2 [18] .fin)), [19, 20])] hO hX I1 (fun y => [(6, .junk), (23, .junk), (30, .junk), (9, .c (.sl 4)), (33, .c (.int .i64 y.2.1))]) (fun y => [(4, .own 3 .i1 y.2.2)]) (fun y => y.1) _ (by kernel_rfl) hi (by cbv; try simp) ?_
    refine allp ?_
    intro n1
    refine allp ?_
    intro x9
    intro l3 hi
    cbv
    rw [hI1] at hi
    obtain ⟨n1, rfl, x1, h1, hi1⟩ := iterS hi
    unfold m_rectangle_combine_L1 at h1
    try dsimp only at h1
    rcases condS h1 with ⟨hc2, h1⟩ | ⟨hc2, h1⟩
    · rw [hc2]
      cbv
      obtain ⟨hg3, h1⟩ := grdS h1
      refine ⟨idx_of hO hg3, ?_⟩
      obtain ⟨hg4, h1⟩ := grdS h1
      refine ⟨kin_of hO hg4, ?_⟩
      obtain ⟨hg5, h1⟩ := grdS h1
      refine ⟨room_of hO hg5, ?_⟩
      obtain ⟨hg6, h1⟩ := grdS h1
      refine ⟨room_of hO hg6, ?_⟩
      obtain ⟨hg7, h1⟩ := grdS h1
      refine ⟨inr_of hO hg7, ?_⟩
      cases h1
      exact ⟨_, [0, 1, 2, 3, 9, 5, 6], nextI hI1 hi1, by cbv; try simp, by first | exact Nat.lt_succ_self _ | omega⟩
    · as_aux_lemma =>
      rw [hc2]
      cbv
      cases h1
      cases exitI hi1
      try dsimp only at h0
      refine call_inline tab_holds eqs_holds mixed [] hO hX (by kernel_rfl) Try.func60 (by kernel_rfl) (by kernel_rfl) rfl ?_
      intro X1 hX1 hF1
      cbv
      obtain ⟨l5, hv, h0⟩ := bindS h0
      refine srt_int hO hX1 (i := 4) rfl hv ?_
      cbv
      obtain ⟨l6, hv, h0⟩ := bindS h0
      refine cpt_int hO hX1 (i := 4) rfl hv ?_
      cbv
      refine hF1 _ _ ?_
      cbv
      obtain ⟨e1, hi, h0⟩ := bindS h0
      obtain ⟨I4, hI4, hi⟩ := loopS hi
      refine loop1 tab_holds eqs_holds mixed [(17, (.seg 1 [0, 1, 2, 3, 4, 5, 7, 8, 9, 10, 11] (.seg 2 [6] (.seg 2 [12] (.seg 2 [13] (.seg 1 [14, 15, 16, 17, 18] .fin))))), []), (29, (.seg 1 [0, 1, 2, 3, 4, 5, 6, 7, 8, 9, 10, 11, 12, 13, 14, 15, 16, 17] (.seg 2 [18] .fin)), [19, 20])] hO hX I4 (fun y => [(31, .junk), (47, .junk), (48, .junk), (12, .c (.sl 9)), (13, .c (.int .i64 y.2.1)), (14, .c (.sl 10)), (15, .c (.int .i64 y.2.2.1))]) (fun y => [(9, .own 34 .i4 y.2.2.2.1), (10, .own 32 .i2 y.2.2.2.2)]) (fun y => y.1) _ (by kernel_rfl) hi (by cbv; try simp) ?_
      refine allp ?_
      intro n4
      refine allp ?_
      intro start2
      refine allp ?_
      intro i8
      refine allp ?_
      intro l42
      intro l43 hi
      cbv
      rw [hI4] at hi
      obtain ⟨n4, rfl, x4, h1, hi4⟩ := iterS hi
      unfold m_rectangle_combine_L4 at h1
      try dsimp only at h1
      obtain ⟨hg8, h1⟩ := grdS h1
      refine ⟨inr_of hO hg8, ?_⟩
      rcases condS h1 with ⟨hc9, h1⟩ | ⟨hc9, h1⟩
      · as_aux_lemma =>
        rw [hc9]
        cbv
        obtain ⟨hg10, h1⟩ := grdS h1
        refine ⟨idx_of hO hg10, ?_⟩
        obtain ⟨hg11, h1⟩ := grdS h1
        refine ⟨kin_of hO hg11, ?_⟩
        refine ⟨idx_of hO hg10, ?_⟩
        refine ⟨kin_of hO hg11, ?_⟩
        obtain ⟨l44, hv, h1⟩ := bindS h1
        refine call_is hO hX (fn_rectangle_times hO hv) (by kernel_rfl) [0] rfl ⟨rfl, rfl, trivial⟩ rfl ?_
        cbv
        obtain ⟨l45, hv, h1⟩ := bindS h1
        refine call_is hO hX (fn_rectangle_times hO hv) (by kernel_rfl) [1] rfl ⟨rfl, rfl, trivial⟩ rfl ?_
        cbv
        obtain ⟨⟨l46, n27⟩, hv, h1⟩ := bindS h1
        try dsimp only at h1
        refine call_is hO hX (fn_runs_Union hO hv) (by kernel_rfl) [11, 12] rfl ⟨rfl, rfl, rfl, rfl, trivial⟩ rfl ?_
        cbv
        rcases condS h1 with ⟨hc12, h1⟩ | ⟨hc12, h1⟩
        · rw [hc12]
          cbv
          cases h1
          cases exitI hi4
          try dsimp only at h0
          cases h0
          exact fin_ok hX rfl ⟨[14], _, _, ⟨rfl, rfl⟩, rfl, rfl, rfl, rfl, by cbv; try simp⟩
        · as_aux_lemma =>
          rw [hc12]
          cbv
          obtain ⟨b18, hv, h1⟩ := bindS h1
          refine call_is hO hX (fn_slices_Equal hO hv) (by kernel_rfl) [13, 10] rfl ⟨rfl, rfl, rfl, rfl, trivial⟩ rfl ?_
          cbv
          rcases condS h1 with ⟨hc13, h1⟩ | ⟨hc13, h1⟩
          · rw [hc13]
            cbv
            obtain ⟨l48, hi, h1⟩ := bindS h1
            obtain ⟨I2, hI2, hi⟩ := loopS hi
            refine loop1 tab_holds eqs_holds mixed [(17, (.seg 1 [0, 1, 2, 3, 4, 5, 7, 8, 9, 10, 11] (.seg 2 [6] (.seg 2 [12] (.seg 2 [13] (.seg 1 [14, 15, 16, 17, 18] .fin))))), []), (29, (.seg 1 [0, 1, 2, 3, 4, 5, 6, 7, 8, 9, 10, 11, 12, 13, 14, 15, 16, 17] (.seg 2 [18] .fin)), [19, 20])] hO hX I2 (fun y => [(16, .junk), (51, .junk), (56, .junk), (59, .junk), (61, .junk), (63, .junk), (65, .junk), (67, .junk), (69, .junk), (70, .junk), (71, .junk), (76, .junk), (77, .junk), (18, .c (.int .i64 y.2.1))]) (fun y => [(9, .own 34 .i4 y.2.2)]) (fun y => y.1) _ (by kernel_rfl) hi (by cbv; try simp) ?_
            refine allp ?_
            intro n2
            refine allp ?_
            intro k10
            intro l47 hi
            cbv
            rw [hI2] at hi
            obtain ⟨n2, rfl, x2, h2, hi2⟩ := iterS hi
            unfold m_rectangle_combine_L2 at h2
            try dsimp only at h2
            rcases condS h2 with ⟨hc14, h2⟩ | ⟨hc14, h2⟩
            · rw [hc14]
              cbv
              refine ⟨inr_of hO hg8, ?_⟩
              obtain ⟨hg15, h2⟩ := grdS h2
              refine ⟨idx_of hO hg15, ?_⟩
              obtain ⟨hg16, h2⟩ := grdS h2
              refine ⟨kin_of hO hg16, ?_⟩
              obtain ⟨hg17, h2⟩ := grdS h2
              refine ⟨idx_of hO hg17, ?_⟩
              obtain ⟨hg18, h2⟩ := grdS h2
              refine ⟨kin_of hO hg18, ?_⟩
              obtain ⟨hg19, h2⟩ := grdS h2
              refine ⟨inr_of hO hg19, ?_⟩
              cases h2
              exact ⟨_, [0, 1, 2, 3, 4, 5, 6, 7, 8, 9, 10, 11, 12, 13], nextI hI2 hi2, by cbv; try simp, by first | exact Nat.lt_succ_self _ | omega⟩
            · rw [hc14]
              cbv
              cases h2
              cases exitI hi2
              try dsimp only at h1
              refine ⟨inr_of hO hg8, ?_⟩
              cases h1
              exact ⟨_, [0, 1, 2, 3, 4, 5, 6, 7, 8, 9, 10], nextI hI4 hi4, by cbv; try simp, by first | exact Nat.lt_succ_self _ | omega⟩
          · as_aux_lemma =>
            rw [hc13]
            cbv
            obtain ⟨l50, hi, h1⟩ := bindS h1
            obtain ⟨I3, hI3, hi⟩ := loopS hi
            refine loop1 tab_holds eqs_holds mixed [(17, (.seg 1 [0, 1, 2, 3, 4, 5, 7, 8, 9, 10, 11] (.seg 2 [6] (.seg 2 [12] (.seg 2 [13] (.seg 1 [14, 15, 16, 17, 18] .fin))))), []), (29, (.seg 1 [0, 1, 2, 3, 4, 5, 6, 7, 8, 9, 10, 11, 12, 13, 14, 15, 16, 17] (.seg 2 [18] .fin)), [19, 20])] hO hX I3 (fun y => [(16, .junk), (51, .junk), (56, .junk), (59, .junk), (61, .junk), (63, .junk), (65, .junk), (67, .junk), (69, .junk), (70, .junk), (71, .junk), (76, .junk), (77, .junk), (96, .junk), (97, .junk), (12, .c (.sl 9)), (101, .c (.int .i64 y.2.1))]) (fun y => [(9, .own 34 .i4 y.2.2)]) (fun y => y.1) _ (by kernel_rfl) hi (by cbv; try simp) ?_
            refine allp ?_
            intro n3
            refine allp ?_
            intro x49
            intro l49 hi
            cbv
            rw [hI3] at hi
            obtain ⟨n3, rfl, x3, h2, hi3⟩ := iterS hi
            unfold m_rectangle_combine_L3 at h2
            try dsimp only at h2
            rcases condS h2 with ⟨hc20, h2⟩ | ⟨hc20, h2⟩
            · rw [hc20]
              cbv
              obtain ⟨hg21, h2⟩ := grdS h2
              refine ⟨idx_of hO hg21, ?_⟩
              obtain ⟨hg22, h2⟩ := grdS h2
              refine ⟨kin_of hO hg22, ?_⟩
              obtain ⟨hg23, h2⟩ := grdS h2
              refine ⟨rng_of hO hg23, ?_⟩
              obtain ⟨hg24, h2⟩ := grdS h2
              refine ⟨rng_of hO hg24, ?_⟩
              refine ⟨rng_of hO hg24, ?_⟩
              refine ⟨idx_of hO hg10, ?_⟩
              refine ⟨kin_of hO hg11, ?_⟩
              refine ⟨inr_of hO hg8, ?_⟩
              obtain ⟨hg25, h2⟩ := grdS h2
              refine ⟨idx_of hO hg25, ?_⟩
              obtain ⟨hg26, h2⟩ := grdS h2
              refine ⟨kin_of hO hg26, ?_⟩
              obtain ⟨hg27, h2⟩ := grdS h2
              refine ⟨room_of hO hg27, ?_⟩
              obtain ⟨hg28, h2⟩ := grdS h2
              refine ⟨room_of hO hg28, ?_⟩
              obtain ⟨hg29, h2⟩ := grdS h2
              refine ⟨kin_of hO hg29, ?_⟩
              obtain ⟨hg30, h2⟩ := grdS h2
              refine ⟨inr_of hO hg30, ?_⟩
              cases h2
              exact ⟨_, [0, 1, 2, 3, 4, 5, 6, 7, 8, 17, 10, 11, 12, 13], nextI hI3 hi3, by cbv; try simp, by first | exact Nat.lt_succ_self _ | omega⟩
            · rw [hc20]
              cbv
              cases h2
              cases exitI hi3
              try dsimp only at h1
              rcases condS h1 with ⟨hc31, h1⟩ | ⟨hc31, h1⟩
              · rw [hc31]
                cbv
                cases h1
                cases exitI hi4
                try dsimp only at h0
                cases h0
                exact fin_ok hX rfl ⟨[14], _, _, ⟨rfl, rfl⟩, rfl, rfl, rfl, rfl, by cbv; try simp⟩
              · rw [hc31]
                cbv
                refine ⟨inr_of hO hg8, ?_⟩
                cases h1
                exact ⟨_, [0, 1, 2, 3, 4, 5, 6, 7, 8, 9, 13], nextI hI4 hi4, by cbv; try simp, by first | exact Nat.lt_succ_self _ | omega⟩
      · rw [hc9]
        cbv
        cases h1
        cases exitI hi4
        try dsimp only at h0
        cases h0
        exact fin_ok hX rfl ⟨[9], _, _, ⟨rfl, rfl⟩, rfl, rfl, rfl, rfl, by cbv; try simp⟩
set_option maxHeartbeats 40000000 in
theorem fn_rectangle_Canonical {O0 : Ops} (hO0 : O0 = std) {l_1 : List (Int × Int × Int × Int)} {r1 : List (Int × Int × Int × Int)} {r2 : Int} (h : m_rectangle_Canonical O0 l_1 = some (r1, r2)) :
    Fn Try.prog 13 [.c (.sl 0)] [.arr false .i4 l_1] (fun v c => v = .tup [.one (.sl 1), .one (.int .i64 r2)] ∧ c = [.own 34 .i4 r1]) := by
  refine fn_run tab_holds eqs_holds mixed [] Try.func13 (by kernel_rfl) (by kernel_rfl) (Nat.le_of_ble_eq_true rfl) ?_
  intro O X hO hX
  rw [hO0, ← hO] at h
  unfold m_rectangle_Canonical at h
  have h0 := h; clear h
  cbv
  refine call_nil hO hX .i4 2 rfl ?_
  cbv
  obtain ⟨⟨l52, n28⟩, hv, h0⟩ := bindS h0
  try dsimp only at h0
  refine call_is hO hX (fn_rectangle_combine hO hv) (by kernel_rfl) [0, 2] rfl ⟨rfl, rfl, rfl, rfl, trivial⟩ rfl ?_
  cbv
  cases h0
  exact fin_ok hX rfl ⟨[3], _, _, ⟨rfl, rfl⟩, rfl, rfl, rfl, rfl, by cbv; try simp⟩
set_option maxHeartbeats 40000000 in
theorem fn_slices_Equal_2 {O0 : Ops} (hO0 : O0 = std) {s1_1 : List (Int × Int × Int × Int)} {s2_1 : List (Int × Int × Int × Int)} {r1 : Bool} (h : m_slices_Equal_2 O0 s1_1 s2_1 = some r1) :
    Fn Try.prog 15 [.c (.sl 0), .c (.sl 1)] [.arr false .i4 s1_1, .arr false .i4 s2_1] (fun v c => v = .c (.bool r1) ∧ c = []) := by
  refine fn_run tab_holds eqs_holds mixed [(6, (.seg 1 [0, 1, 2, 3, 4, 5, 6, 7, 8] .fin), [])] Try.func15 (by kernel_rfl) (by kernel_rfl) (Nat.le_of_ble_eq_true rfl) ?_
  intro O X hO hX
  rw [hO0, ← hO] at h
  unfold m_slices_Equal_2 at h
  have h0 := h; clear h
  cbv
  rcases condS h0 with ⟨hc1, h0⟩ | ⟨hc1, h0⟩
  · rw [hc1]
    cbv
    cases h0
    exact fin_ok hX rfl ⟨[], _, _, ⟨rfl, rfl⟩, rfl, rfl, rfl, rfl, by cbv; try simp⟩
  · as_aux_lemma =>
    rw [hc1]
    cbv
    obtain ⟨e1, hi, h0⟩ := bindS h0
    obtain ⟨I1, hI1, hi⟩ := loopS hi
    refine loop1 tab_holds eqs_holds mixed [(6, (.seg 1 [0, 1, 2, 3, 4, 5, 6, 7, 8] .fin), [])] hO hX I1 (fun y => [(13, .c (.int .i64 y.2))]) (fun _ => []) (fun y => y.1) _ (by kernel_rfl) hi (by cbv; try simp) ?_
    refine allp ?_
    intro n1
    intro x52 hi
    cbv
    rw [hI1] at hi
    obtain ⟨n1, rfl, x1, h1, hi1⟩ := iterS hi
    unfold m_slices_Equal_2_L1 at h1
    try dsimp only at h1
    rcases condS h1 with ⟨hc2, h1⟩ | ⟨hc2, h1⟩
    · rw [hc2]
      cbv
      obtain ⟨hg3, h1⟩ := grdS h1
      refine ⟨idx_of hO hg3, ?_⟩
      obtain ⟨hg4, h1⟩ := grdS h1
      refine ⟨kin_of hO hg4, ?_⟩
      obtain ⟨hg5, h1⟩ := grdS h1
      refine ⟨idx_of hO hg5, ?_⟩
      obtain ⟨hg6, h1⟩ := grdS h1
      refine ⟨kin_of hO hg6, ?_⟩
      rcases condS h1 with ⟨hc7, h1⟩ | ⟨hc7, h1⟩
      · rw [hc7]
        cbv
        cases h1
        cases exitI hi1
        try dsimp only at h0
        cases h0
        exact fin_ok hX rfl ⟨[], _, _, ⟨rfl, rfl⟩, rfl, rfl, rfl, rfl, by cbv; try simp⟩
      · rw [hc7]
        cbv
        obtain ⟨hg8, h1⟩ := grdS h1
        refine ⟨inr_of hO hg8, ?_⟩
        cases h1
        exact ⟨_, [0, 1], nextI hI1 hi1, by cbv; try simp, by first | exact Nat.lt_succ_self _ | omega⟩
    · rw [hc2]
      cbv
      cases h1
      cases exitI hi1
      try dsimp only at h0
      cases h0
      exact fin_ok hX rfl ⟨[], _, _, ⟨rfl, rfl⟩, rfl, rfl, rfl, rfl, by cbv; try simp⟩
set_option maxHeartbeats 40000000 in
theorem fn_law35_awake {O0 : Ops} (hO0 : O0 = std) {r1 : Bool} (h : m_law35_awake O0 = some r1) :
    Fn Try.prog 11 [] [] (fun v c => v = .c (.bool r1) ∧ c = []) := by
  refine fn_run tab_holds eqs_holds mixed [] Try.func11 (by kernel_rfl) (by kernel_rfl) (Nat.le_of_ble_eq_true rfl) ?_
  intro O X hO hX
  rw [hO0, ← hO] at h
  unfold m_law35_awake at h
  have h0 := h; clear h
  cbv
  obtain ⟨⟨n1, n2, n3, n4⟩, hv, h0⟩ := bindS h0
  try dsimp only at h0
  refine call_is hO hX (fn_law35_rect hO hv) (by kernel_rfl) [] rfl trivial rfl ?_
  cbv
  obtain ⟨⟨n5, n6, n7, n8⟩, hv, h0⟩ := bindS h0
  try dsimp only at h0
  refine call_is hO hX (fn_law35_rect hO hv) (by kernel_rfl) [] rfl trivial rfl ?_
  cbv
  obtain ⟨⟨l53, n29⟩, hv, h0⟩ := bindS h0
  try dsimp only at h0
  refine call_is hO hX (fn_rectangle_Canonical hO hv) (by kernel_rfl) [0] rfl ⟨rfl, rfl, trivial⟩ rfl ?_
  cbv
  obtain ⟨x54, h1, h0⟩ := bindS h0
  rcases condS h1 with ⟨hc1, h1⟩ | ⟨hc1, h1⟩
  · rw [hc1]
    cbv
    obtain ⟨⟨n30, n31, n32, n33⟩, hv, h1⟩ := bindS h1
    try dsimp only at h1
    refine call_is hO hX (fn_law35_rect hO hv) (by kernel_rfl) [] rfl trivial rfl ?_
    cbv
    obtain ⟨⟨n34, n35, n36, n37⟩, hv, h1⟩ := bindS h1
    try dsimp only at h1
    refine call_is hO hX (fn_law35_rect hO hv) (by kernel_rfl) [] rfl trivial rfl ?_
    cbv
    obtain ⟨b19, hv, h1⟩ := bindS h1
    refine call_is hO hX (fn_slices_Equal_2 hO hv) (by kernel_rfl) [1, 2] rfl ⟨rfl, rfl, rfl, rfl, trivial⟩ rfl ?_
    cbv
    cases h1
    try dsimp only at h0
    cases h0
    exact fin_ok hX rfl ⟨[], _, _, ⟨rfl, rfl⟩, rfl, rfl, rfl, rfl, by cbv; try simp⟩
  · rw [hc1]
    cbv
    cases h1
    try dsimp only at h0
    cases h0
    exact fin_ok hX rfl ⟨[], _, _, ⟨rfl, rfl⟩, rfl, rfl, rfl, rfl, by cbv; try simp⟩
set_option maxHeartbeats 40000000 in
theorem fn_ref35_Span {O0 : Ops} (hO0 : O0 = std) {s_1 : Int} {s_2 : Int} {r1 : Bool} (h : m_ref35_Span O0 s_1 s_2 = some r1) :
    Fn Try.prog 22 [.agg [.int .i64 s_1, .int .i64 s_2]] [] (fun v c => v = .c (.bool r1) ∧ c = []) := by
  refine fn_run tab_holds eqs_holds mixed [] Try.func22 (by kernel_rfl) (by kernel_rfl) (Nat.le_of_ble_eq_true rfl) ?_
  intro O X hO hX
  rw [hO0, ← hO] at h
  unfold m_ref35_Span at h
  have h0 := h; clear h
  cbv
  obtain ⟨x57, h1, h0⟩ := bindS h0
  rcases condS h1 with ⟨hc1, h1⟩ | ⟨hc1, h1⟩
  · rw [hc1]
    cbv
    rcases condS h1 with ⟨hc2, h1⟩ | ⟨hc2, h1⟩
    · rw [hc2]
      cbv
      cases h1
      try dsimp only at h0
      cases h0
      exact fin_ok hX rfl ⟨[], _, _, ⟨rfl, rfl⟩, rfl, rfl, rfl, rfl, by cbv; try simp⟩
    · rw [hc2]
      cbv
      cases h1
      try dsimp only at h0
      cases h0
      exact fin_ok hX rfl ⟨[], _, _, ⟨rfl, rfl⟩, rfl, rfl, rfl, rfl, by cbv; try simp⟩
  · rw [hc1]
    cbv
    cases h1
    try dsimp only at h0
    cases h0
    exact fin_ok hX rfl ⟨[], _, _, ⟨rfl, rfl⟩, rfl, rfl, rfl, rfl, by cbv; try simp⟩
set_option maxHeartbeats 40000000 in
theorem fn_ref35_Valid {O0 : Ops} (hO0 : O0 = std) {r_1 : Int} {r_2 : Int} {r_3 : Int} {r_4 : Int} {r1 : Bool} (h : m_ref35_Valid O0 r_1 r_2 r_3 r_4 = some r1) :
    Fn Try.prog 19 [.agg [.int .i64 r_1, .int .i64 r_2, .int .i64 r_3, .int .i64 r_4]] [] (fun v c => v = .c (.bool r1) ∧ c = []) := by
  refine fn_run tab_holds eqs_holds mixed [] Try.func19 (by kernel_rfl) (by kernel_rfl) (Nat.le_of_ble_eq_true rfl) ?_
  intro O X hO hX
  rw [hO0, ← hO] at h
  unfold m_ref35_Valid at h
  have h0 := h; clear h
  cbv
  obtain ⟨x59, h1, h0⟩ := bindS h0
  obtain ⟨b24, hv, h1⟩ := bindS h1
  refine call_is hO hX (fn_ref35_Span hO hv) (by kernel_rfl) [] rfl trivial rfl ?_
  cbv
  rcases condS h1 with ⟨hc1, h1⟩ | ⟨hc1, h1⟩
  · rw [hc1]
    cbv
    obtain ⟨b25, hv, h1⟩ := bindS h1
    refine call_is hO hX (fn_ref35_Span hO hv) (by kernel_rfl) [] rfl trivial rfl ?_
    cbv
    cases h1
    try dsimp only at h0
    cases h0
    exact fin_ok hX rfl ⟨[], _, _, ⟨rfl, rfl⟩, rfl, rfl, rfl, rfl, by cbv; try simp⟩
  · rw [hc1]
    cbv
    cases h1
    try dsimp only at h0
    cases h0
    exact fin_ok hX rfl ⟨[], _, _, ⟨rfl, rfl⟩, rfl, rfl, rfl, rfl, by cbv; try simp⟩
set_option maxHeartbeats 40000000 in
theorem fn_ref35_List {O0 : Ops} (hO0 : O0 = std) {l_1 : List (Int × Int × Int × Int)} {r1 : Bool} (h : m_ref35_List O0 l_1 = some r1) :
    Fn Try.prog 20 [.c (.sl 0)] [.arr false .i4 l_1] (fun v c => v = .c (.bool r1) ∧ c = []) := by
  refine fn_run tab_holds eqs_holds mixed [] Try.func20 (by kernel_rfl) (by kernel_rfl) (Nat.le_of_ble_eq_true rfl) ?_
  intro O X hO hX
  rw [hO0, ← hO] at h
  unfold m_ref35_List at h
  have h0 := h; clear h
  cbv
  obtain ⟨e1, hi, h0⟩ := bindS h0
  obtain ⟨I1, hI1, hi⟩ := loopS hi
  refine loop1 tab_holds eqs_holds mixed [] hO hX I1 (fun y => [(3, .c (.int .i64 y.2))]) (fun _ => []) (fun y => y.1) _ (by kernel_rfl) hi (by cbv; try simp) ?_
  refine allp ?_
  intro n1
  intro i9 hi
  cbv
  rw [hI1] at hi
  obtain ⟨n1, rfl, x1, h1, hi1⟩ := iterS hi
  unfold m_ref35_List_L1 at h1
  try dsimp only at h1
  rcases condS h1 with ⟨hc1, h1⟩ | ⟨hc1, h1⟩
  · rw [hc1]
    cbv
    obtain ⟨hg2, h1⟩ := grdS h1
    refine ⟨idx_of hO hg2, ?_⟩
    obtain ⟨hg3, h1⟩ := grdS h1
    refine ⟨kin_of hO hg3, ?_⟩
    obtain ⟨b26, hv, h1⟩ := bindS h1
    refine call_is hO hX (fn_ref35_Valid hO hv) (by kernel_rfl) [] rfl trivial rfl ?_
    cbv
    rcases condS h1 with ⟨hc4, h1⟩ | ⟨hc4, h1⟩
    · rw [hc4]
      cbv
      cases h1
      cases exitI hi1
      try dsimp only at h0
      cases h0
      exact fin_ok hX rfl ⟨[], _, _, ⟨rfl, rfl⟩, rfl, rfl, rfl, rfl, by cbv; try simp⟩
    · rw [hc4]
      cbv
      obtain ⟨hg5, h1⟩ := grdS h1
      refine ⟨inr_of hO hg5, ?_⟩
      cases h1
      exact ⟨_, [0], nextI hI1 hi1, by cbv; try simp, by first | exact Nat.lt_succ_self _ | omega⟩
  · rw [hc1]
    cbv
    cases h1
    cases exitI hi1
    try dsimp only at h0
    cases h0
    exact fin_ok hX rfl ⟨[], _, _, ⟨rfl, rfl⟩, rfl, rfl, rfl, rfl, by cbv; try simp⟩
end Go.Proofs.Ytkdffpncpikdmaa
