/-
  The code does what its models say (printed by lift.py).
-/
import Derived.Test.YtebkfbkgmbgobaaKM
import Derived.Test.YtebkfbkgmbgobaaManW
import Derived.Test.YtebkfbkgmbgobaaKW3
import Derived.Test.YtebkfbkgmbgobaaKW9
namespace Go.Proofs.Ytebkfbkgmbgobaa
open Go.RowKit
set_option maxRecDepth 100000

set_option maxHeartbeats 40000000 in
theorem fn_ref16_Granule {O0 : Ops} (hO0 : O0 = std) {c_1 : Int} {c_2 : Int} {k_1 : Int} {c_3 : List (Int × Int)} {r1 : Int} {r2 : Int} (h : m_ref16_Granule O0 c_1 c_2 k_1 c_3 = some (r1, r2)) :
    Fn Try.prog 36 [.agg [.int .i64 c_1, .int .i64 c_2, .sl 0], .c (.int .i64 k_1)] [.arr false .i2 c_3] (fun v c => v = .agg [.int .i64 r1, .int .i64 r2] ∧ c = []) := by
  refine fn_run tab_holds eqs_holds mixed [] Try.func36 (by kernel_rfl) (by kernel_rfl) (Nat.le_of_ble_eq_true rfl) ?_
  intro O X hO hX
  rw [hO0, ← hO] at h
  unfold m_ref16_Granule at h
  have h0 := h; clear h
  cbv
  obtain ⟨n98, hv, h0⟩ := bindS h0
  refine call_is hO hX (fn_ref01_Floor hO hv) (by kernel_rfl) [] rfl trivial rfl ?_
  cbv
  obtain ⟨hg1, h0⟩ := grdS h0
  refine ⟨inr_of hO hg1, ?_⟩
  obtain ⟨hg2, h0⟩ := grdS h0
  refine ⟨inr_of hO hg2, ?_⟩
  obtain ⟨hg3, h0⟩ := grdS h0
  refine ⟨idx_of hO hg3, ?_⟩
  obtain ⟨hg4, h0⟩ := grdS h0
  refine ⟨kin_of hO hg4, ?_⟩
  obtain ⟨hg5, h0⟩ := grdS h0
  refine ⟨inr_of hO hg5, ?_⟩
  obtain ⟨hg6, h0⟩ := grdS h0
  refine ⟨inr_of hO hg6, ?_⟩
  obtain ⟨hg7, h0⟩ := grdS h0
  refine ⟨inr_of hO hg7, ?_⟩
  obtain ⟨hg8, h0⟩ := grdS h0
  refine ⟨inr_of hO hg8, ?_⟩
  cases h0
  exact fin_ok hX rfl ⟨[], _, _, ⟨rfl, rfl⟩, rfl, rfl, rfl, rfl, by cbv; try simp⟩
set_option maxHeartbeats 40000000 in
theorem fn_ref16_covered {O0 : Ops} (hO0 : O0 = std) {p_1 : Int} {s_1 : Int} {s_2 : Int} {p_2 : List (Int × Int)} {r1 : Bool} (h : m_ref16_covered O0 p_1 s_1 s_2 p_2 = some r1) :
    Fn Try.prog 35 [.agg [.int .i64 p_1, .sl 0], .agg [.int .i64 s_1, .int .i64 s_2]] [.arr false .i2 p_2] (fun v c => v = .c (.bool r1) ∧ c = []) := by
  refine fn_run tab_holds eqs_holds mixed [(1, (.seg 1 [0, 1, 2, 3, 4, 5, 6, 7, 8, 9, 10, 11, 12, 13, 14, 15, 16, 17, 18, 19, 20, 21] .fin), [])] Try.func35 (by kernel_rfl) (by kernel_rfl) (Nat.le_of_ble_eq_true rfl) ?_
  intro O X hO hX
  rw [hO0, ← hO] at h
  unfold m_ref16_covered at h
  have h0 := h; clear h
  cbv
  obtain ⟨x194, h1, h0⟩ := bindS h0
  rcases condS h1 with ⟨hc1, h1⟩ | ⟨hc1, h1⟩
  · as_aux_lemma =>
    rw [hc1]
    cbv
    rcases condS h1 with ⟨hc2, h1⟩ | ⟨hc2, h1⟩
    · as_aux_lemma =>
      rw [hc2]
      cbv
      obtain ⟨hg3, h1⟩ := grdS h1
      refine ⟨idx_of hO hg3, ?_⟩
      obtain ⟨hg4, h1⟩ := grdS h1
      refine ⟨kin_of hO hg4, ?_⟩
      cases h1
      try dsimp only at h0
      refine ⟨idx_of hO hg3, ?_⟩
      refine ⟨kin_of hO hg4, ?_⟩
      rcases condS h0 with ⟨hc5, h0⟩ | ⟨hc5, h0⟩
      · rw [hc5]
        cbv
        cases h0
        exact fin_ok hX rfl ⟨[], _, _, ⟨rfl, rfl⟩, rfl, rfl, rfl, rfl, by cbv; try simp⟩
      · as_aux_lemma =>
        rw [hc5]
        cbv
        obtain ⟨n101, hv, h0⟩ := bindS h0
        refine call_is hO hX (fn_ref01_Floor hO hv) (by kernel_rfl) [] rfl trivial rfl ?_
        cbv
        obtain ⟨hg6, h0⟩ := grdS h0
        refine ⟨inr_of hO hg6, ?_⟩
        obtain ⟨hg7, h0⟩ := grdS h0
        refine ⟨inr_of hO hg7, ?_⟩
        obtain ⟨hg8, h0⟩ := grdS h0
        refine ⟨inr_of hO hg8, ?_⟩
        obtain ⟨e1, hi, h0⟩ := bindS h0
        obtain ⟨I2, hI2, hi⟩ := loopS hi
        refine loop1 tab_holds eqs_holds mixed [(1, (.seg 1 [0, 1, 2, 3, 4, 5, 6, 7, 8, 9, 10, 11, 12, 13, 14, 15, 16, 17, 18, 19, 20, 21] .fin), [])] hO hX I2 (fun y => [(3, .junk), (10, .junk), (15, .junk), (23, .junk), (28, .junk), (32, .junk), (34, .junk), (37, .junk), (39, .junk), (44, .junk), (46, .junk), (6, .c (.int .i64 y.2.1)), (7, .c (.int .i64 y.2.2))]) (fun _ => []) (fun y => y.1) _ (by kernel_rfl) hi (by cbv; try simp) ?_
        refine allp ?_
        intro n2
        refine allp ?_
        intro at2
        intro rest2 hi
        cbv
        rw [hI2] at hi
        obtain ⟨n2, rfl, x2, h1, hi2⟩ := iterS hi
        unfold m_ref16_covered_L2 at h1
        try dsimp only at h1
        rcases condS h1 with ⟨hc9, h1⟩ | ⟨hc9, h1⟩
        · as_aux_lemma =>
          rw [hc9]
          cbv
          obtain ⟨to11, hi, h1⟩ := bindS h1
          obtain ⟨I1, hI1, hi⟩ := loopS hi
          refine loop1 tab_holds eqs_holds mixed [(1, (.seg 1 [0, 1, 2, 3, 4, 5, 6, 7, 8, 9, 10, 11, 12, 13, 14, 15, 16, 17, 18, 19, 20, 21] .fin), [])] hO hX I1 (fun y => [(8, .c (.int .i64 y.2.1)), (9, .c (.int .i64 y.2.2))]) (fun _ => []) (fun y => y.1) _ (by kernel_rfl) hi (by cbv; try simp) ?_
          refine allp ?_
          intro n1
          refine allp ?_
          intro to8
          intro i29 hi
          cbv
          rw [hI1] at hi
          obtain ⟨n1, rfl, x1, h2, hi1⟩ := iterS hi
          unfold m_ref16_covered_L1 at h2
          try dsimp only at h2
          rcases condS h2 with ⟨hc10, h2⟩ | ⟨hc10, h2⟩
          · as_aux_lemma =>
            rw [hc10]
            cbv
            obtain ⟨x200, h3, h2⟩ := bindS h2
            rcases condS h3 with ⟨hc11, h3⟩ | ⟨hc11, h3⟩
            · rw [hc11]
              cbv
              obtain ⟨hg12, h3⟩ := grdS h3
              refine ⟨idx_of hO hg12, ?_⟩
              obtain ⟨hg13, h3⟩ := grdS h3
              refine ⟨kin_of hO hg13, ?_⟩
              cases h3
              try dsimp only at h2
              obtain ⟨to10, h3, h2⟩ := bindS h2
              refine ⟨idx_of hO hg12, ?_⟩
              refine ⟨kin_of hO hg13, ?_⟩
              rcases condS h3 with ⟨hc14, h3⟩ | ⟨hc14, h3⟩
              · rw [hc14]
                cbv
                cases h3
                try dsimp only at h2
                refine ⟨idx_of hO hg12, ?_⟩
                refine ⟨kin_of hO hg13, ?_⟩
                obtain ⟨hg15, h2⟩ := grdS h2
                refine ⟨inr_of hO hg15, ?_⟩
                cases h2
                exact ⟨_, [0, 1, 2], nextI hI1 hi1, by cbv; try simp, by first | exact Nat.lt_succ_self _ | omega⟩
              · rw [hc14]
                cbv
                cases h3
                try dsimp only at h2
                obtain ⟨hg16, h2⟩ := grdS h2
                refine ⟨inr_of hO hg16, ?_⟩
                cases h2
                exact ⟨_, [0, 1, 2], nextI hI1 hi1, by cbv; try simp, by first | exact Nat.lt_succ_self _ | omega⟩
            · rw [hc11]
              cbv
              obtain ⟨hg17, h3⟩ := grdS h3
              refine ⟨idx_of hO hg17, ?_⟩
              obtain ⟨hg18, h3⟩ := grdS h3
              refine ⟨kin_of hO hg18, ?_⟩
              cases h3
              try dsimp only at h2
              obtain ⟨to10, h3, h2⟩ := bindS h2
              replace h3 := condF h3 rfl
              cases h3
              try dsimp only at h2
              obtain ⟨hg19, h2⟩ := grdS h2
              refine ⟨inr_of hO hg19, ?_⟩
              cases h2
              exact ⟨_, [0, 1, 2], nextI hI1 hi1, by cbv; try simp, by first | exact Nat.lt_succ_self _ | omega⟩
          · rw [hc10]
            cbv
            cases h2
            cases exitI hi1
            try dsimp only at h1
            rcases condS h1 with ⟨hc20, h1⟩ | ⟨hc20, h1⟩
            · rw [hc20]
              cbv
              cases h1
              cases exitI hi2
              try dsimp only at h0
              cases h0
              exact fin_ok hX rfl ⟨[], _, _, ⟨rfl, rfl⟩, rfl, rfl, rfl, rfl, by cbv; try simp⟩
            · rw [hc20]
              cbv
              obtain ⟨hg21, h1⟩ := grdS h1
              refine ⟨inr_of hO hg21, ?_⟩
              obtain ⟨hg22, h1⟩ := grdS h1
              refine ⟨inr_of hO hg22, ?_⟩
              obtain ⟨hg23, h1⟩ := grdS h1
              refine ⟨nz_of hO hg23, ?_⟩
              cases h1
              exact ⟨_, [0, 1, 2], nextI hI2 hi2, by cbv; try simp, by first | exact Nat.lt_succ_self _ | omega⟩
        · rw [hc9]
          cbv
          cases h1
          cases exitI hi2
          try dsimp only at h0
          cases h0
          exact fin_ok hX rfl ⟨[], _, _, ⟨rfl, rfl⟩, rfl, rfl, rfl, rfl, by cbv; try simp⟩
    · as_aux_lemma =>
      rw [hc2]
      cbv
      obtain ⟨hg24, h1⟩ := grdS h1
      refine ⟨idx_of hO hg24, ?_⟩
      obtain ⟨hg25, h1⟩ := grdS h1
      refine ⟨kin_of hO hg25, ?_⟩
      cases h1
      try dsimp only at h0
      replace h0 := condF h0 rfl
      obtain ⟨n101, hv, h0⟩ := bindS h0
      refine call_is hO hX (fn_ref01_Floor hO hv) (by kernel_rfl) [] rfl trivial rfl ?_
      cbv
      obtain ⟨hg26, h0⟩ := grdS h0
      refine ⟨inr_of hO hg26, ?_⟩
      obtain ⟨hg27, h0⟩ := grdS h0
      refine ⟨inr_of hO hg27, ?_⟩
      obtain ⟨hg28, h0⟩ := grdS h0
      refine ⟨inr_of hO hg28, ?_⟩
      obtain ⟨e1, hi, h0⟩ := bindS h0
      obtain ⟨I2, hI2, hi⟩ := loopS hi
      refine loop1 tab_holds eqs_holds mixed [(1, (.seg 1 [0, 1, 2, 3, 4, 5, 6, 7, 8, 9, 10, 11, 12, 13, 14, 15, 16, 17, 18, 19, 20, 21] .fin), [])] hO hX I2 (fun y => [(3, .junk), (10, .junk), (15, .junk), (32, .junk), (34, .junk), (37, .junk), (39, .junk), (44, .junk), (46, .junk), (6, .c (.int .i64 y.2.1)), (7, .c (.int .i64 y.2.2))]) (fun _ => []) (fun y => y.1) _ (by kernel_rfl) hi (by cbv; try simp) ?_
      refine allp ?_
      intro n2
      refine allp ?_
      intro at2
      intro rest2 hi
      cbv
      rw [hI2] at hi
      obtain ⟨n2, rfl, x2, h1, hi2⟩ := iterS hi
      unfold m_ref16_covered_L2 at h1
      try dsimp only at h1
      rcases condS h1 with ⟨hc29, h1⟩ | ⟨hc29, h1⟩
      · as_aux_lemma =>
        rw [hc29]
        cbv
        obtain ⟨to11, hi, h1⟩ := bindS h1
        obtain ⟨I1, hI1, hi⟩ := loopS hi
        refine loop1 tab_holds eqs_holds mixed [(1, (.seg 1 [0, 1, 2, 3, 4, 5, 6, 7, 8, 9, 10, 11, 12, 13, 14, 15, 16, 17, 18, 19, 20, 21] .fin), [])] hO hX I1 (fun y => [(8, .c (.int .i64 y.2.1)), (9, .c (.int .i64 y.2.2))]) (fun _ => []) (fun y => y.1) _ (by kernel_rfl) hi (by cbv; try simp) ?_
        refine allp ?_
        intro n1
        refine allp ?_
        intro to8
        intro i29 hi
        cbv
        rw [hI1] at hi
        obtain ⟨n1, rfl, x1, h2, hi1⟩ := iterS hi
        unfold m_ref16_covered_L1 at h2
        try dsimp only at h2
        rcases condS h2 with ⟨hc30, h2⟩ | ⟨hc30, h2⟩
        · as_aux_lemma =>
          rw [hc30]
          cbv
          obtain ⟨x200, h3, h2⟩ := bindS h2
          rcases condS h3 with ⟨hc31, h3⟩ | ⟨hc31, h3⟩
          · rw [hc31]
            cbv
            obtain ⟨hg32, h3⟩ := grdS h3
            refine ⟨idx_of hO hg32, ?_⟩
            obtain ⟨hg33, h3⟩ := grdS h3
            refine ⟨kin_of hO hg33, ?_⟩
            cases h3
            try dsimp only at h2
            obtain ⟨to10, h3, h2⟩ := bindS h2
            refine ⟨idx_of hO hg32, ?_⟩
            refine ⟨kin_of hO hg33, ?_⟩
            rcases condS h3 with ⟨hc34, h3⟩ | ⟨hc34, h3⟩
            · rw [hc34]
              cbv
              cases h3
              try dsimp only at h2
              refine ⟨idx_of hO hg32, ?_⟩
              refine ⟨kin_of hO hg33, ?_⟩
              obtain ⟨hg35, h2⟩ := grdS h2
              refine ⟨inr_of hO hg35, ?_⟩
              cases h2
              exact ⟨_, [0, 1, 2], nextI hI1 hi1, by cbv; try simp, by first | exact Nat.lt_succ_self _ | omega⟩
            · rw [hc34]
              cbv
              cases h3
              try dsimp only at h2
              obtain ⟨hg36, h2⟩ := grdS h2
              refine ⟨inr_of hO hg36, ?_⟩
              cases h2
              exact ⟨_, [0, 1, 2], nextI hI1 hi1, by cbv; try simp, by first | exact Nat.lt_succ_self _ | omega⟩
          · rw [hc31]
            cbv
            obtain ⟨hg37, h3⟩ := grdS h3
            refine ⟨idx_of hO hg37, ?_⟩
            obtain ⟨hg38, h3⟩ := grdS h3
            refine ⟨kin_of hO hg38, ?_⟩
            cases h3
            try dsimp only at h2
            obtain ⟨to10, h3, h2⟩ := bindS h2
            replace h3 := condF h3 rfl
            cases h3
            try dsimp only at h2
            obtain ⟨hg39, h2⟩ := grdS h2
            refine ⟨inr_of hO hg39, ?_⟩
            cases h2
            exact ⟨_, [0, 1, 2], nextI hI1 hi1, by cbv; try simp, by first | exact Nat.lt_succ_self _ | omega⟩
        · rw [hc30]
          cbv
          cases h2
          cases exitI hi1
          try dsimp only at h1
          rcases condS h1 with ⟨hc40, h1⟩ | ⟨hc40, h1⟩
          · rw [hc40]
            cbv
            cases h1
            cases exitI hi2
            try dsimp only at h0
            cases h0
            exact fin_ok hX rfl ⟨[], _, _, ⟨rfl, rfl⟩, rfl, rfl, rfl, rfl, by cbv; try simp⟩
          · rw [hc40]
            cbv
            obtain ⟨hg41, h1⟩ := grdS h1
            refine ⟨inr_of hO hg41, ?_⟩
            obtain ⟨hg42, h1⟩ := grdS h1
            refine ⟨inr_of hO hg42, ?_⟩
            obtain ⟨hg43, h1⟩ := grdS h1
            refine ⟨nz_of hO hg43, ?_⟩
            cases h1
            exact ⟨_, [0, 1, 2], nextI hI2 hi2, by cbv; try simp, by first | exact Nat.lt_succ_self _ | omega⟩
      · rw [hc29]
        cbv
        cases h1
        cases exitI hi2
        try dsimp only at h0
        cases h0
        exact fin_ok hX rfl ⟨[], _, _, ⟨rfl, rfl⟩, rfl, rfl, rfl, rfl, by cbv; try simp⟩
  · as_aux_lemma =>
    rw [hc1]
    cbv
    cases h1
    try dsimp only at h0
    replace h0 := condF h0 rfl
    obtain ⟨n101, hv, h0⟩ := bindS h0
    refine call_is hO hX (fn_ref01_Floor hO hv) (by kernel_rfl) [] rfl trivial rfl ?_
    cbv
    obtain ⟨hg44, h0⟩ := grdS h0
    refine ⟨inr_of hO hg44, ?_⟩
    obtain ⟨hg45, h0⟩ := grdS h0
    refine ⟨inr_of hO hg45, ?_⟩
    obtain ⟨hg46, h0⟩ := grdS h0
    refine ⟨inr_of hO hg46, ?_⟩
    obtain ⟨e1, hi, h0⟩ := bindS h0
    obtain ⟨I2, hI2, hi⟩ := loopS hi
    refine loop1 tab_holds eqs_holds mixed [(1, (.seg 1 [0, 1, 2, 3, 4, 5, 6, 7, 8, 9, 10, 11, 12, 13, 14, 15, 16, 17, 18, 19, 20, 21] .fin), [])] hO hX I2 (fun y => [(3, .junk), (10, .junk), (32, .junk), (34, .junk), (37, .junk), (39, .junk), (44, .junk), (46, .junk), (6, .c (.int .i64 y.2.1)), (7, .c (.int .i64 y.2.2))]) (fun _ => []) (fun y => y.1) _ (by kernel_rfl) hi (by cbv; try simp) ?_
    refine allp ?_
    intro n2
    refine allp ?_
    intro at2
    intro rest2 hi
    cbv
    rw [hI2] at hi
    obtain ⟨n2, rfl, x2, h1, hi2⟩ := iterS hi
    unfold m_ref16_covered_L2 at h1
    try dsimp only at h1
    rcases condS h1 with ⟨hc47, h1⟩ | ⟨hc47, h1⟩
    · as_aux_lemma =>
      rw [hc47]
      cbv
      obtain ⟨to11, hi, h1⟩ := bindS h1
      obtain ⟨I1, hI1, hi⟩ := loopS hi
      refine loop1 tab_holds eqs_holds mixed [(1, (.seg 1 [0, 1, 2, 3, 4, 5, 6, 7, 8, 9, 10, 11, 12, 13, 14, 15, 16, 17, 18, 19, 20, 21] .fin), [])] hO hX I1 (fun y => [(8, .c (.int .i64 y.2.1)), (9, .c (.int .i64 y.2.2))]) (fun _ => []) (fun y => y.1) _ (by kernel_rfl) hi (by cbv; try simp) ?_
      refine allp ?_
      intro n1
      refine allp ?_
      intro to8
      intro i29 hi
      cbv
      rw [hI1] at hi
      obtain ⟨n1, rfl, x1, h2, hi1⟩ := iterS hi
      unfold m_ref16_covered_L1 at h2
      try dsimp only at h2
      rcases condS h2 with ⟨hc48, h2⟩ | ⟨hc48, h2⟩
      · as_aux_lemma =>
        rw [hc48]
        cbv
        obtain ⟨x200, h3, h2⟩ := bindS h2
        rcases condS h3 with ⟨hc49, h3⟩ | ⟨hc49, h3⟩
        · rw [hc49]
          cbv
          obtain ⟨hg50, h3⟩ := grdS h3
          refine ⟨idx_of hO hg50, ?_⟩
          obtain ⟨hg51, h3⟩ := grdS h3
          refine ⟨kin_of hO hg51, ?_⟩
          cases h3
          try dsimp only at h2
          obtain ⟨to10, h3, h2⟩ := bindS h2
          refine ⟨idx_of hO hg50, ?_⟩
          refine ⟨kin_of hO hg51, ?_⟩
          rcases condS h3 with ⟨hc52, h3⟩ | ⟨hc52, h3⟩
          · rw [hc52]
            cbv
            cases h3
            try dsimp only at h2
            refine ⟨idx_of hO hg50, ?_⟩
            refine ⟨kin_of hO hg51, ?_⟩
            obtain ⟨hg53, h2⟩ := grdS h2
            refine ⟨inr_of hO hg53, ?_⟩
            cases h2
            exact ⟨_, [0, 1, 2], nextI hI1 hi1, by cbv; try simp, by first | exact Nat.lt_succ_self _ | omega⟩
          · rw [hc52]
            cbv
            cases h3
            try dsimp only at h2
            obtain ⟨hg54, h2⟩ := grdS h2
            refine ⟨inr_of hO hg54, ?_⟩
            cases h2
            exact ⟨_, [0, 1, 2], nextI hI1 hi1, by cbv; try simp, by first | exact Nat.lt_succ_self _ | omega⟩
        · rw [hc49]
          cbv
          obtain ⟨hg55, h3⟩ := grdS h3
          refine ⟨idx_of hO hg55, ?_⟩
          obtain ⟨hg56, h3⟩ := grdS h3
          refine ⟨kin_of hO hg56, ?_⟩
          cases h3
          try dsimp only at h2
          obtain ⟨to10, h3, h2⟩ := bindS h2
          replace h3 := condF h3 rfl
          cases h3
          try dsimp only at h2
          obtain ⟨hg57, h2⟩ := grdS h2
          refine ⟨inr_of hO hg57, ?_⟩
          cases h2
          exact ⟨_, [0, 1, 2], nextI hI1 hi1, by cbv; try simp, by first | exact Nat.lt_succ_self _ | omega⟩
      · rw [hc48]
        cbv
        cases h2
        cases exitI hi1
        try dsimp only at h1
        rcases condS h1 with ⟨hc58, h1⟩ | ⟨hc58, h1⟩
        · rw [hc58]
          cbv
          cases h1
          cases exitI hi2
          try dsimp only at h0
          cases h0
          exact fin_ok hX rfl ⟨[], _, _, ⟨rfl, rfl⟩, rfl, rfl, rfl, rfl, by cbv; try simp⟩
        · rw [hc58]
          cbv
          obtain ⟨hg59, h1⟩ := grdS h1
          refine ⟨inr_of hO hg59, ?_⟩
          obtain ⟨hg60, h1⟩ := grdS h1
          refine ⟨inr_of hO hg60, ?_⟩
          obtain ⟨hg61, h1⟩ := grdS h1
          refine ⟨nz_of hO hg61, ?_⟩
          cases h1
          exact ⟨_, [0, 1, 2], nextI hI2 hi2, by cbv; try simp, by first | exact Nat.lt_succ_self _ | omega⟩
    · rw [hc47]
      cbv
      cases h1
      cases exitI hi2
      try dsimp only at h0
      cases h0
      exact fin_ok hX rfl ⟨[], _, _, ⟨rfl, rfl⟩, rfl, rfl, rfl, rfl, by cbv; try simp⟩
set_option maxHeartbeats 40000000 in
theorem fn_ref16_Make {O0 : Ops} (hO0 : O0 = std) {period_1 : Int} {l_1 : List (Int × Int)} {r1 : Int} {r2 : Int} {r3 : List (Int × Int)} {r4 : Int} (h : m_ref16_Make O0 period_1 l_1 = some (r1, r2, r3, r4)) :
    Fn Try.prog 37 [.c (.int .i64 period_1), .c (.sl 0)] [.arr false .i2 l_1] (fun v c => v = .tup [.many [.int .i64 r1, .int .i64 r2, .sl 1], .one (.int .i64 r4)] ∧ c = [.arr true .i2 r3]) := by
  refine fn_run tab_holds eqs_holds mixed [(8, (.seg 1 [0, 1, 2, 3, 4, 5, 6, 7, 8, 9, 10, 11, 12, 13, 14, 15] (.seg 2 [16] .fin)), [17, 18]), (10, (.seg 1 [0, 1, 2, 3, 4, 5, 6, 7, 8, 9, 10] .fin), [11, 12])] Try.func37 (by kernel_rfl) (by kernel_rfl) (Nat.le_of_ble_eq_true rfl) ?_
  intro O X hO hX
  rw [hO0, ← hO] at h
  unfold m_ref16_Make at h
  have h0 := h; clear h
  cbv
  obtain ⟨hg1, h0⟩ := grdS h0
  refine ⟨idx_of hO hg1, ?_⟩
  obtain ⟨hg2, h0⟩ := grdS h0
  refine ⟨kin_of hO hg2, ?_⟩
  obtain ⟨x202, h1, h0⟩ := bindS h0
  rcases condS h1 with ⟨hc3, h1⟩ | ⟨hc3, h1⟩
  · rw [hc3]
    cbv
    cases h1
    try dsimp only at h0
    replace h0 := condT h0 rfl
    cases h0
    refine fin_nil hX .i2 2 rfl ?_
    cbv
    exact fin_ok hX rfl ⟨[2], _, _, ⟨rfl, rfl⟩, rfl, rfl, rfl, rfl, by cbv; try simp⟩
  · as_aux_lemma =>
    rw [hc3]
    cbv
    cases h1
    try dsimp only at h0
    rcases condS h0 with ⟨hc4, h0⟩ | ⟨hc4, h0⟩
    · rw [hc4]
      cbv
      cases h0
      refine fin_nil hX .i2 2 rfl ?_
      cbv
      exact fin_ok hX rfl ⟨[2], _, _, ⟨rfl, rfl⟩, rfl, rfl, rfl, rfl, by cbv; try simp⟩
    · as_aux_lemma =>
      rw [hc4]
      cbv
      obtain ⟨l93, hi, h0⟩ := bindS h0
      obtain ⟨I1, hI1, hi⟩ := loopS hi
      refine loop1 tab_holds eqs_holds mixed [(8, (.seg 1 [0, 1, 2, 3, 4, 5, 6, 7, 8, 9, 10, 11, 12, 13, 14, 15] (.seg 2 [16] .fin)), [17, 18]), (10, (.seg 1 [0, 1, 2, 3, 4, 5, 6, 7, 8, 9, 10] .fin), [11, 12])] hO hX I1 (fun y => [(7, .c (.sl 2)), (8, .c (.int .i64 y.2.1))]) (fun y => [(2, .own 40 .i2 y.2.2)]) (fun y => y.1) _ (by kernel_rfl) hi (by cbv; try simp) ?_
      refine allp ?_
      intro n1
      refine allp ?_
      intro i31
      intro l92 hi
      cbv
      rw [hI1] at hi
      obtain ⟨n1, rfl, x1, h1, hi1⟩ := iterS hi
      unfold m_ref16_Make_L1 at h1
      try dsimp only at h1
      rcases condS h1 with ⟨hc5, h1⟩ | ⟨hc5, h1⟩
      · rw [hc5]
        cbv
        obtain ⟨hg6, h1⟩ := grdS h1
        refine ⟨idx_of hO hg6, ?_⟩
        obtain ⟨hg7, h1⟩ := grdS h1
        refine ⟨kin_of hO hg7, ?_⟩
        obtain ⟨hg8, h1⟩ := grdS h1
        refine ⟨inr_of hO hg8, ?_⟩
        refine ⟨idx_of hO hg6, ?_⟩
        refine ⟨kin_of hO hg7, ?_⟩
        obtain ⟨hg9, h1⟩ := grdS h1
        refine ⟨inr_of hO hg9, ?_⟩
        obtain ⟨hg10, h1⟩ := grdS h1
        refine ⟨room_of hO hg10, ?_⟩
        obtain ⟨hg11, h1⟩ := grdS h1
        refine ⟨room_of hO hg11, ?_⟩
        obtain ⟨hg12, h1⟩ := grdS h1
        refine ⟨inr_of hO hg12, ?_⟩
        cases h1
        exact ⟨_, [0, 1, 4], nextI hI1 hi1, by cbv; try simp, by first | exact Nat.lt_succ_self _ | omega⟩
      · rw [hc5]
        cbv
        cases h1
        cases exitI hi1
        try dsimp only at h0
        obtain ⟨n108, hv, h0⟩ := bindS h0
        refine call_is hO hX (fn_ref16_least hO hv) (by kernel_rfl) [2] rfl ⟨rfl, rfl, trivial⟩ rfl ?_
        cbv
        obtain ⟨hg13, h0⟩ := grdS h0
        refine ⟨nz_of hO hg13, ?_⟩
        obtain ⟨hg14, h0⟩ := grdS h0
        refine ⟨inr_of hO hg14, ?_⟩
        obtain ⟨hg15, h0⟩ := grdS h0
        refine ⟨nz_of hO hg15, ?_⟩
        obtain ⟨hg16, h0⟩ := grdS h0
        refine ⟨inr_of hO hg16, ?_⟩
        obtain ⟨hg17, h0⟩ := grdS h0
        refine ⟨rng_of hO hg17, ?_⟩
        cases h0
        exact fin_ok hX rfl ⟨[3], _, _, ⟨rfl, rfl⟩, rfl, rfl, rfl, rfl, by cbv; try simp⟩
set_option maxHeartbeats 40000000 in
theorem fn_ref16_Restrict {O0 : Ops} (hO0 : O0 = std) {c_1 : Int} {c_2 : Int} {p_1 : Int} {c_3 : List (Int × Int)} {p_2 : List (Int × Int)} {r1 : Int} {r2 : Int} {r3 : List (Int × Int)} {r4 : Int} (h : m_ref16_Restrict O0 c_1 c_2 p_1 c_3 p_2 = some (r1, r2, r3, r4)) :
    Fn Try.prog 11 [.agg [.int .i64 c_1, .int .i64 c_2, .sl 0], .agg [.int .i64 p_1, .sl 1]] [.arr false .i2 c_3, .arr false .i2 p_2] (fun v c => v = .tup [.many [.int .i64 r1, .int .i64 r2, .sl 2], .one (.int .i64 r4)] ∧ c = [.arr true .i2 r3]) := by
  refine fn_run tab_holds eqs_holds mixed [(4, (.seg 1 [0, 1, 2, 3, 4, 5, 6, 7, 8] .fin), []), (11, (.seg 1 [0, 1, 2] (.seg 2 [3] (.seg 2 [4] .fin))), [])] Try.func11 (by kernel_rfl) (by kernel_rfl) (Nat.le_of_ble_eq_true rfl) ?_
  intro O X hO hX
  rw [hO0, ← hO] at h
  unfold m_ref16_Restrict at h
  have h0 := h; clear h
  cbv
  obtain ⟨⟨n93, n94⟩, hv, h0⟩ := bindS h0
  try dsimp only at h0
  refine call_is hO hX (fn_ref16_common hO hv) (by kernel_rfl) [] rfl trivial rfl ?_
  cbv
  rcases condS h0 with ⟨hc1, h0⟩ | ⟨hc1, h0⟩
  · rw [hc1]
    cbv
    cases h0
    refine fin_nil hX .i2 5 rfl ?_
    cbv
    exact fin_ok hX rfl ⟨[5], _, _, ⟨rfl, rfl⟩, rfl, rfl, rfl, rfl, by cbv; try simp⟩
  · as_aux_lemma =>
    rw [hc1]
    cbv
    obtain ⟨hg2, h0⟩ := grdS h0
    refine ⟨nz_of hO hg2, ?_⟩
    obtain ⟨hg3, h0⟩ := grdS h0
    refine ⟨inr_of hO hg3, ?_⟩
    obtain ⟨hg4, h0⟩ := grdS h0
    refine ⟨inr_of hO hg4, ?_⟩
    rcases condS h0 with ⟨hc5, h0⟩ | ⟨hc5, h0⟩
    · rw [hc5]
      cbv
      cases h0
      refine fin_nil hX .i2 5 rfl ?_
      cbv
      exact fin_ok hX rfl ⟨[5], _, _, ⟨rfl, rfl⟩, rfl, rfl, rfl, rfl, by cbv; try simp⟩
    · as_aux_lemma =>
      rw [hc5]
      cbv
      obtain ⟨l91, hi, h0⟩ := bindS h0
      obtain ⟨I1, hI1, hi⟩ := loopS hi
      refine loop1 tab_holds eqs_holds mixed [(4, (.seg 1 [0, 1, 2, 3, 4, 5, 6, 7, 8] .fin), []), (11, (.seg 1 [0, 1, 2] (.seg 2 [3] (.seg 2 [4] .fin))), [])] hO hX I1 (fun y => [(12, .junk), (14, .junk), (23, .junk), (27, .junk), (9, .c (.sl 5)), (10, .c (.int .i64 y.2.1))]) (fun y => [(5, .own 40 .i2 y.2.2)]) (fun y => y.1) _ (by kernel_rfl) hi (by cbv; try simp) ?_
      refine allp ?_
      intro n1
      refine allp ?_
      intro k3
      intro l88 hi
      cbv
      rw [hI1] at hi
      obtain ⟨n1, rfl, x1, h1, hi1⟩ := iterS hi
      unfold m_ref16_Restrict_L1 at h1
      try dsimp only at h1
      rcases condS h1 with ⟨hc6, h1⟩ | ⟨hc6, h1⟩
      · rw [hc6]
        cbv
        obtain ⟨⟨n104, n105⟩, hv, h1⟩ := bindS h1
        try dsimp only at h1
        refine call_is hO hX (fn_ref16_Granule hO hv) (by kernel_rfl) [0] rfl ⟨rfl, rfl, trivial⟩ rfl ?_
        cbv
        obtain ⟨b56, hv, h1⟩ := bindS h1
        refine call_is hO hX (fn_ref16_covered hO hv) (by kernel_rfl) [1] rfl ⟨rfl, rfl, trivial⟩ rfl ?_
        cbv
        obtain ⟨l90, h2, h1⟩ := bindS h1
        rcases condS h2 with ⟨hc7, h2⟩ | ⟨hc7, h2⟩
        · rw [hc7]
          cbv
          obtain ⟨⟨n106, n107⟩, hv, h2⟩ := bindS h2
          try dsimp only at h2
          refine call_is hO hX (fn_ref16_Granule hO hv) (by kernel_rfl) [0] rfl ⟨rfl, rfl, trivial⟩ rfl ?_
          cbv
          obtain ⟨hg8, h2⟩ := grdS h2
          refine ⟨room_of hO hg8, ?_⟩
          obtain ⟨hg9, h2⟩ := grdS h2
          refine ⟨room_of hO hg9, ?_⟩
          cases h2
          try dsimp only at h1
          obtain ⟨hg10, h1⟩ := grdS h1
          refine ⟨inr_of hO hg10, ?_⟩
          cases h1
          exact ⟨_, [0, 1, 2, 3, 4, 7], nextI hI1 hi1, by cbv; try simp, by first | exact Nat.lt_succ_self _ | omega⟩
        · rw [hc7]
          cbv
          cases h2
          try dsimp only at h1
          obtain ⟨hg11, h1⟩ := grdS h1
          refine ⟨inr_of hO hg11, ?_⟩
          cases h1
          exact ⟨_, [0, 1, 2, 3, 4, 5], nextI hI1 hi1, by cbv; try simp, by first | exact Nat.lt_succ_self _ | omega⟩
      · rw [hc6]
        cbv
        cases h1
        cases exitI hi1
        try dsimp only at h0
        rcases condS h0 with ⟨hc12, h0⟩ | ⟨hc12, h0⟩
        · rw [hc12]
          cbv
          cases h0
          refine fin_nil hX .i2 6 rfl ?_
          cbv
          exact fin_ok hX rfl ⟨[6], _, _, ⟨rfl, rfl⟩, rfl, rfl, rfl, rfl, by cbv; try simp⟩
        · rw [hc12]
          cbv
          obtain ⟨⟨n109, n110, l94, n111⟩, hv, h0⟩ := bindS h0
          try dsimp only at h0
          refine call_is hO hX (fn_ref16_Make hO hv) (by kernel_rfl) [5] rfl ⟨rfl, rfl, trivial⟩ rfl ?_
          cbv
          cases h0
          exact fin_ok hX rfl ⟨[6], _, _, ⟨rfl, rfl⟩, rfl, rfl, rfl, rfl, by cbv; try simp⟩
end Go.Proofs.Ytebkfbkgmbgobaa
