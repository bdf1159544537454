/-
  The code does what its models say (printed by lift.py).
-/
import Derived.Test.YtkdffpncpikdmaaRM
import Derived.Test.YtkdffpncpikdmaaSrtR
import Derived.Test.YtkdffpncpikdmaaSrtR
import Derived.Test.YtkdffpncpikdmaaRW0
import Derived.Test.YtkdffpncpikdmaaRW1
import Derived.Test.YtkdffpncpikdmaaRW2
import Derived.Test.YtkdffpncpikdmaaRW13
namespace Go.Proofs.Ytkdffpncpikdmaa
open Go.RowKit
set_option maxRecDepth 100000

set_option maxHeartbeats 40000000 in
theorem fn_rectangle_combine_2 {O0 : Ops} (hO0 : O0 = std) {a_1 : List (Int × Int × Int × Int)} {b_1 : List (Int × Int × Int × Int)} {r1 : List (Int × Int × Int × Int)} {r2 : Int} (h : m_rectangle_combine_2 O0 a_1 b_1 = some (r1, r2)) :
    Fn Try.prog 41 [.c (.sl 0), .c (.sl 1), .c (.fn 50 [])] [.arr false .i4 a_1, .arr false .i4 b_1] (fun v c => v = .tup [.one (.sl 2), .one (.int .i64 r2)] ∧ c = [.own 34 .i4 r1]) := by
  refine fn_run tab_holds eqs_holds mixed [(17, (.seg 1 [0, 1, 2, 3, 4, 5, 7, 8, 9, 10, 11] (.seg 2 [6] (.seg 2 [12] (.seg 2 [13] (.seg 1 [14, 15, 16, 17, 18] .fin))))), []), (29, (.seg 1 [0, 1, 2, 3, 4, 5, 6, 7, 8, 9, 10, 11, 12, 13, 14, 15, 16, 17] (.seg 2 [18] .fin)), [19, 20])] Try.func41 (by kernel_rfl) (by kernel_rfl) (Nat.le_of_ble_eq_true rfl) ?_
  intro O X hO hX
  rw [hO0, ← hO] at h
  unfold m_rectangle_combine_2 at h
  have h0 := h; clear h
  cbv
  obtain ⟨n49, hv, h0⟩ := bindS h0
  refine call_is hO hX (fn_rectangle_check hO hv) (by kernel_rfl) [3, 0, 1] rfl ⟨rfl, rfl, rfl, rfl, rfl, rfl, trivial⟩ rfl ?_
  cbv
  rcases condS h0 with ⟨hc1, h0⟩ | ⟨hc1, h0⟩
  · rw [hc1]
    cbv
    cases h0
    exact fin_ok hX rfl ⟨[4], _, _, ⟨rfl, rfl⟩, rfl, rfl, rfl, rfl, by cbv; try simp⟩
  · as_aux_lemma =>
    rw [hc1]
    cbv
    obtain ⟨l155, hv, h0⟩ := bindS h0
    refine call_is hO hX (fn_slices_Concat hO hv) (by kernel_rfl) [5, 0, 1] rfl ⟨rfl, rfl, rfl, rfl, rfl, rfl, trivial⟩ rfl ?_
    cbv
    obtain ⟨l157, hi, h0⟩ := bindS h0
    obtain ⟨I1, hI1, hi⟩ := loopS hi
    refine loop1 tab_holds eqs_holds mixed [(17, (.seg 1 [0, 1, 2, 3, 4, 5, 7, 8, 9, 10, 11] (.seg 2 [6] (.seg 2 [12] (.seg 2 [13] (.seg 1 [14, 15, 16, 17, 18] .fin))))), []), (29, (.seg 1 [0, 1, 2, 3, 4, 5, 6, 7, 8, 9, 10, 11, 12, 13, 14, 15, 16, 17] (.seg 2 [18] .fin)), [19, 20])] hO hX I1 (fun y => [(6, .junk), (23, .junk), (30, .junk), (9, .c (.sl 4)), (33, .c (.int .i64 y.2.1))]) (fun y => [(4, .own 3 .i1 y.2.2)]) (fun y => y.1) _ (by kernel_rfl) hi (by cbv; try simp) ?_
    refine allp ?_
    intro n1
    refine allp ?_
    intro x159
    intro l156 hi
    cbv
    rw [hI1] at hi
    obtain ⟨n1, rfl, x1, h1, hi1⟩ := iterS hi
    unfold m_rectangle_combine_2_L1 at h1
    try dsimp only at h1
    rcases condS h1 with ⟨hc2, h1⟩ | ⟨hc2, h1⟩
    · rw [hc2]
      cbv
      obtain ⟨hg3, h1⟩ := grdS h1
      refine ⟨idx_of hO hg3, ?_⟩
      obtain ⟨hg4, h1⟩ := grdS h1
      refine ⟨kin_of hO hg4, ?_⟩
      obtain ⟨hg5, h1⟩ := grdS h1
      refine ⟨room_of hO hg5, ?_⟩
      obtain ⟨hg6, h1⟩ := grdS h1
      refine ⟨room_of hO hg6, ?_⟩
      obtain ⟨hg7, h1⟩ := grdS h1
      refine ⟨inr_of hO hg7, ?_⟩
      cases h1
      exact ⟨_, [0, 1, 2, 3, 9, 5, 6], nextI hI1 hi1, by cbv; try simp, by first | exact Nat.lt_succ_self _ | omega⟩
    · as_aux_lemma =>
      rw [hc2]
      cbv
      cases h1
      cases exitI hi1
      try dsimp only at h0
      refine call_inline tab_holds eqs_holds mixed [] hO hX (by kernel_rfl) Try.func60 (by kernel_rfl) (by kernel_rfl) rfl ?_
      intro X1 hX1 hF1
      cbv
      obtain ⟨l158, hv, h0⟩ := bindS h0
      refine srt_int hO hX1 (i := 4) rfl hv ?_
      cbv
      obtain ⟨l159, hv, h0⟩ := bindS h0
      refine cpt_int hO hX1 (i := 4) rfl hv ?_
      cbv
      refine hF1 _ _ ?_
      cbv
      obtain ⟨e1, hi, h0⟩ := bindS h0
      obtain ⟨I4, hI4, hi⟩ := loopS hi
      refine loop1 tab_holds eqs_holds mixed [(17, (.seg 1 [0, 1, 2, 3, 4, 5, 7, 8, 9, 10, 11] (.seg 2 [6] (.seg 2 [12] (.seg 2 [13] (.seg 1 [14, 15, 16, 17, 18] .fin))))), []), (29, (.seg 1 [0, 1, 2, 3, 4, 5, 6, 7, 8, 9, 10, 11, 12, 13, 14, 15, 16, 17] (.seg 2 [18] .fin)), [19, 20])] hO hX I4 (fun y => [(31, .junk), (47, .junk), (48, .junk), (12, .c (.sl 9)), (13, .c (.int .i64 y.2.1)), (14, .c (.sl 10)), (15, .c (.int .i64 y.2.2.1))]) (fun y => [(9, .own 34 .i4 y.2.2.2.1), (10, .own 32 .i2 y.2.2.2.2)]) (fun y => y.1) _ (by kernel_rfl) hi (by cbv; try simp) ?_
      refine allp ?_
      intro n4
      refine allp ?_
      intro start4
      refine allp ?_
      intro i52
      refine allp ?_
      intro l177
      intro l178 hi
      cbv
      rw [hI4] at hi
      obtain ⟨n4, rfl, x4, h1, hi4⟩ := iterS hi
      unfold m_rectangle_combine_2_L4 at h1
      try dsimp only at h1
      obtain ⟨hg8, h1⟩ := grdS h1
      refine ⟨inr_of hO hg8, ?_⟩
      rcases condS h1 with ⟨hc9, h1⟩ | ⟨hc9, h1⟩
      · as_aux_lemma =>
        rw [hc9]
        cbv
        obtain ⟨hg10, h1⟩ := grdS h1
        refine ⟨idx_of hO hg10, ?_⟩
        obtain ⟨hg11, h1⟩ := grdS h1
        refine ⟨kin_of hO hg11, ?_⟩
        refine ⟨idx_of hO hg10, ?_⟩
        refine ⟨kin_of hO hg11, ?_⟩
        obtain ⟨l179, hv, h1⟩ := bindS h1
        refine call_is hO hX (fn_rectangle_times hO hv) (by kernel_rfl) [0] rfl ⟨rfl, rfl, trivial⟩ rfl ?_
        cbv
        obtain ⟨l180, hv, h1⟩ := bindS h1
        refine call_is hO hX (fn_rectangle_times hO hv) (by kernel_rfl) [1] rfl ⟨rfl, rfl, trivial⟩ rfl ?_
        cbv
        obtain ⟨⟨l181, n62⟩, hv, h1⟩ := bindS h1
        try dsimp only at h1
        refine call_is hO hX (fn_runs_Meet hO hv) (by kernel_rfl) [11, 12] rfl ⟨rfl, rfl, rfl, rfl, trivial⟩ rfl ?_
        cbv
        rcases condS h1 with ⟨hc12, h1⟩ | ⟨hc12, h1⟩
        · rw [hc12]
          cbv
          cases h1
          cases exitI hi4
          try dsimp only at h0
          cases h0
          exact fin_ok hX rfl ⟨[14], _, _, ⟨rfl, rfl⟩, rfl, rfl, rfl, rfl, by cbv; try simp⟩
        · as_aux_lemma =>
          rw [hc12]
          cbv
          obtain ⟨b62, hv, h1⟩ := bindS h1
          refine call_is hO hX (fn_slices_Equal hO hv) (by kernel_rfl) [13, 10] rfl ⟨rfl, rfl, rfl, rfl, trivial⟩ rfl ?_
          cbv
          rcases condS h1 with ⟨hc13, h1⟩ | ⟨hc13, h1⟩
          · rw [hc13]
            cbv
            obtain ⟨l183, hi, h1⟩ := bindS h1
            obtain ⟨I2, hI2, hi⟩ := loopS hi
            refine loop1 tab_holds eqs_holds mixed [(17, (.seg 1 [0, 1, 2, 3, 4, 5, 7, 8, 9, 10, 11] (.seg 2 [6] (.seg 2 [12] (.seg 2 [13] (.seg 1 [14, 15, 16, 17, 18] .fin))))), []), (29, (.seg 1 [0, 1, 2, 3, 4, 5, 6, 7, 8, 9, 10, 11, 12, 13, 14, 15, 16, 17] (.seg 2 [18] .fin)), [19, 20])] hO hX I2 (fun y => [(16, .junk), (51, .junk), (56, .junk), (59, .junk), (61, .junk), (63, .junk), (65, .junk), (67, .junk), (69, .junk), (70, .junk), (71, .junk), (76, .junk), (77, .junk), (18, .c (.int .i64 y.2.1))]) (fun y => [(9, .own 34 .i4 y.2.2)]) (fun y => y.1) _ (by kernel_rfl) hi (by cbv; try simp) ?_
            refine allp ?_
            intro n2
            refine allp ?_
            intro k24
            intro l182 hi
            cbv
            rw [hI2] at hi
            obtain ⟨n2, rfl, x2, h2, hi2⟩ := iterS hi
            unfold m_rectangle_combine_2_L2 at h2
            try dsimp only at h2
            rcases condS h2 with ⟨hc14, h2⟩ | ⟨hc14, h2⟩
            · rw [hc14]
              cbv
              refine ⟨inr_of hO hg8, ?_⟩
              obtain ⟨hg15, h2⟩ := grdS h2
              refine ⟨idx_of hO hg15, ?_⟩
              obtain ⟨hg16, h2⟩ := grdS h2
              refine ⟨kin_of hO hg16, ?_⟩
              obtain ⟨hg17, h2⟩ := grdS h2
              refine ⟨idx_of hO hg17, ?_⟩
              obtain ⟨hg18, h2⟩ := grdS h2
              refine ⟨kin_of hO hg18, ?_⟩
              obtain ⟨hg19, h2⟩ := grdS h2
              refine ⟨inr_of hO hg19, ?_⟩
              cases h2
              exact ⟨_, [0, 1, 2, 3, 4, 5, 6, 7, 8, 9, 10, 11, 12, 13], nextI hI2 hi2, by cbv; try simp, by first | exact Nat.lt_succ_self _ | omega⟩
            · rw [hc14]
              cbv
              cases h2
              cases exitI hi2
              try dsimp only at h1
              refine ⟨inr_of hO hg8, ?_⟩
              cases h1
              exact ⟨_, [0, 1, 2, 3, 4, 5, 6, 7, 8, 9, 10], nextI hI4 hi4, by cbv; try simp, by first | exact Nat.lt_succ_self _ | omega⟩
          · as_aux_lemma =>
            rw [hc13]
            cbv
            obtain ⟨l185, hi, h1⟩ := bindS h1
            obtain ⟨I3, hI3, hi⟩ := loopS hi
            refine loop1 tab_holds eqs_holds mixed [(17, (.seg 1 [0, 1, 2, 3, 4, 5, 7, 8, 9, 10, 11] (.seg 2 [6] (.seg 2 [12] (.seg 2 [13] (.seg 1 [14, 15, 16, 17, 18] .fin))))), []), (29, (.seg 1 [0, 1, 2, 3, 4, 5, 6, 7, 8, 9, 10, 11, 12, 13, 14, 15, 16, 17] (.seg 2 [18] .fin)), [19, 20])] hO hX I3 (fun y => [(16, .junk), (51, .junk), (56, .junk), (59, .junk), (61, .junk), (63, .junk), (65, .junk), (67, .junk), (69, .junk), (70, .junk), (71, .junk), (76, .junk), (77, .junk), (96, .junk), (97, .junk), (12, .c (.sl 9)), (101, .c (.int .i64 y.2.1))]) (fun y => [(9, .own 34 .i4 y.2.2)]) (fun y => y.1) _ (by kernel_rfl) hi (by cbv; try simp) ?_
            refine allp ?_
            intro n3
            refine allp ?_
            intro x173
            intro l184 hi
            cbv
            rw [hI3] at hi
            obtain ⟨n3, rfl, x3, h2, hi3⟩ := iterS hi
            unfold m_rectangle_combine_2_L3 at h2
            try dsimp only at h2
            rcases condS h2 with ⟨hc20, h2⟩ | ⟨hc20, h2⟩
            · rw [hc20]
              cbv
              obtain ⟨hg21, h2⟩ := grdS h2
              refine ⟨idx_of hO hg21, ?_⟩
              obtain ⟨hg22, h2⟩ := grdS h2
              refine ⟨kin_of hO hg22, ?_⟩
              obtain ⟨hg23, h2⟩ := grdS h2
              refine ⟨rng_of hO hg23, ?_⟩
              obtain ⟨hg24, h2⟩ := grdS h2
              refine ⟨rng_of hO hg24, ?_⟩
              refine ⟨rng_of hO hg24, ?_⟩
              refine ⟨idx_of hO hg10, ?_⟩
              refine ⟨kin_of hO hg11, ?_⟩
              refine ⟨inr_of hO hg8, ?_⟩
              obtain ⟨hg25, h2⟩ := grdS h2
              refine ⟨idx_of hO hg25, ?_⟩
              obtain ⟨hg26, h2⟩ := grdS h2
              refine ⟨kin_of hO hg26, ?_⟩
              obtain ⟨hg27, h2⟩ := grdS h2
              refine ⟨room_of hO hg27, ?_⟩
              obtain ⟨hg28, h2⟩ := grdS h2
              refine ⟨room_of hO hg28, ?_⟩
              obtain ⟨hg29, h2⟩ := grdS h2
              refine ⟨kin_of hO hg29, ?_⟩
              obtain ⟨hg30, h2⟩ := grdS h2
              refine ⟨inr_of hO hg30, ?_⟩
              cases h2
              exact ⟨_, [0, 1, 2, 3, 4, 5, 6, 7, 8, 17, 10, 11, 12, 13], nextI hI3 hi3, by cbv; try simp, by first | exact Nat.lt_succ_self _ | omega⟩
            · rw [hc20]
              cbv
              cases h2
              cases exitI hi3
              try dsimp only at h1
              rcases condS h1 with ⟨hc31, h1⟩ | ⟨hc31, h1⟩
              · rw [hc31]
                cbv
                cases h1
                cases exitI hi4
                try dsimp only at h0
                cases h0
                exact fin_ok hX rfl ⟨[14], _, _, ⟨rfl, rfl⟩, rfl, rfl, rfl, rfl, by cbv; try simp⟩
              · rw [hc31]
                cbv
                refine ⟨inr_of hO hg8, ?_⟩
                cases h1
                exact ⟨_, [0, 1, 2, 3, 4, 5, 6, 7, 8, 9, 13], nextI hI4 hi4, by cbv; try simp, by first | exact Nat.lt_succ_self _ | omega⟩
      · rw [hc9]
        cbv
        cases h1
        cases exitI hi4
        try dsimp only at h0
        cases h0
        exact fin_ok hX rfl ⟨[9], _, _, ⟨rfl, rfl⟩, rfl, rfl, rfl, rfl, by cbv; try simp⟩
set_option maxHeartbeats 40000000 in
theorem fn_rectangle_Meet {O0 : Ops} (hO0 : O0 = std) {a_1 : List (Int × Int × Int × Int)} {b_1 : List (Int × Int × Int × Int)} {r1 : List (Int × Int × Int × Int)} {r2 : Int} (h : m_rectangle_Meet O0 a_1 b_1 = some (r1, r2)) :
    Fn Try.prog 25 [.c (.sl 0), .c (.sl 1)] [.arr false .i4 a_1, .arr false .i4 b_1] (fun v c => v = .tup [.one (.sl 2), .one (.int .i64 r2)] ∧ c = [.own 34 .i4 r1]) := by
  refine fn_run tab_holds eqs_holds mixed [] Try.func25 (by kernel_rfl) (by kernel_rfl) (Nat.le_of_ble_eq_true rfl) ?_
  intro O X hO hX
  rw [hO0, ← hO] at h
  unfold m_rectangle_Meet at h
  have h0 := h; clear h
  cbv
  obtain ⟨⟨l187, n63⟩, hv, h0⟩ := bindS h0
  try dsimp only at h0
  refine call_is hO hX (fn_rectangle_combine_2 hO hv) (by kernel_rfl) [0, 1] rfl ⟨rfl, rfl, rfl, rfl, trivial⟩ rfl ?_
  cbv
  cases h0
  exact fin_ok hX rfl ⟨[3], _, _, ⟨rfl, rfl⟩, rfl, rfl, rfl, rfl, by cbv; try simp⟩
end Go.Proofs.Ytkdffpncpikdmaa
