/-
  The code does what its models say (printed by lift.py).
-/
import Derived.Test.YtebkfbkgmbgobaaKM
import Derived.Test.YtebkfbkgmbgobaaManW
import Derived.Test.YtebkfbkgmbgobaaKW2
namespace Go.Proofs.Ytebkfbkgmbgobaa
open Go.RowKit
set_option maxRecDepth 100000

set_option maxHeartbeats 40000000 in
theorem fn_slices_IndexFunc_2 {O0 : Ops} (hO0 : O0 = std) {s_1 : Int} {s_2 : Int} {s_3 : List (Int × Int)} {r1 : Int} (h : m_slices_IndexFunc_2 O0 s_1 s_2 s_3 = some r1) :
    Fn Try.prog 50 [.c (.asl 0 1), .c (.fn 24 [])] [.ro 24 [.int .i64 s_1, .int .i64 s_2, .sl 1], .arr false .i2 s_3] (fun v c => v = .c (.int .i64 r1) ∧ c = []) := by
  refine fn_run tab_holds eqs_holds mixed [] Try.func50 (by kernel_rfl) (by kernel_rfl) (Nat.le_of_ble_eq_true rfl) ?_
  intro O X hO hX
  rw [hO0, ← hO] at h
  unfold m_slices_IndexFunc_2 at h
  have h0 := h; clear h
  cbv
  refine loop_unroll tab_holds eqs_holds mixed [] hO hX 2 (by kernel_rfl) ?_
  cbv
  rw [show (O .lt 0 (Int.ofNat 1)) = true from by subst hO; rfl]
  cbv
  obtain ⟨b19, hv, h0⟩ := bindS h0
  refine call_is hO hX (fn_law16_great_1 hO hv) (by kernel_rfl) [1] rfl ⟨rfl, rfl, trivial⟩ rfl ?_
  cbv
  rcases condS h0 with ⟨hc1, h0⟩ | ⟨hc1, h0⟩
  · rw [hc1]
    cbv
    cases h0
    exact fin_ok hX rfl ⟨[], _, _, ⟨rfl, rfl⟩, rfl, rfl, rfl, rfl, by cbv; try simp⟩
  · rw [hc1]
    cbv
    obtain ⟨hg2, h0⟩ := grdS h0
    refine ⟨inr_of hO hg2, ?_⟩
    try (rw [show (O .add 0 1) = 1 from by subst hO; rfl]; try cbv)
    try (rw [show (O .add 0 1) = 1 from by subst hO; rfl]; try cbv)
    rw [show (O .lt 1 (Int.ofNat 1)) = false from by subst hO; rfl]
    cbv
    cases h0
    exact fin_ok hX rfl ⟨[], _, _, ⟨rfl, rfl⟩, rfl, rfl, rfl, rfl, by cbv; try simp⟩
set_option maxHeartbeats 40000000 in
theorem fn_slices_ContainsFunc_2 {O0 : Ops} (hO0 : O0 = std) {s_1 : Int} {s_2 : Int} {s_3 : List (Int × Int)} {r1 : Bool} (h : m_slices_ContainsFunc_2 O0 s_1 s_2 s_3 = some r1) :
    Fn Try.prog 23 [.c (.asl 0 1), .c (.fn 24 [])] [.ro 24 [.int .i64 s_1, .int .i64 s_2, .sl 1], .arr false .i2 s_3] (fun v c => v = .c (.bool r1) ∧ c = []) := by
  refine fn_run tab_holds eqs_holds mixed [] Try.func23 (by kernel_rfl) (by kernel_rfl) (Nat.le_of_ble_eq_true rfl) ?_
  intro O X hO hX
  rw [hO0, ← hO] at h
  unfold m_slices_ContainsFunc_2 at h
  have h0 := h; clear h
  cbv
  obtain ⟨n52, hv, h0⟩ := bindS h0
  refine call_is hO hX (fn_slices_IndexFunc_2 hO hv) (by kernel_rfl) [0, 1] rfl ⟨rfl, rfl, rfl, rfl, trivial⟩ rfl ?_
  cbv
  cases h0
  exact fin_ok hX rfl ⟨[], _, _, ⟨rfl, rfl⟩, rfl, rfl, rfl, rfl, by cbv; try simp⟩
set_option maxHeartbeats 40000000 in
theorem fn_law16_great {O0 : Ops} (hO0 : O0 = std) {l_1 : Int} {l_2 : Int} {l_3 : List (Int × Int)} {r1 : Bool} (h : m_law16_great O0 l_1 l_2 l_3 = some r1) :
    Fn Try.prog 6 [.c (.asl 0 1)] [.ro 24 [.int .i64 l_1, .int .i64 l_2, .sl 1], .arr false .i2 l_3] (fun v c => v = .c (.bool r1) ∧ c = []) := by
  refine fn_run tab_holds eqs_holds mixed [] Try.func6 (by kernel_rfl) (by kernel_rfl) (Nat.le_of_ble_eq_true rfl) ?_
  intro O X hO hX
  rw [hO0, ← hO] at h
  unfold m_law16_great at h
  have h0 := h; clear h
  cbv
  obtain ⟨b20, hv, h0⟩ := bindS h0
  refine call_is hO hX (fn_slices_ContainsFunc_2 hO hv) (by kernel_rfl) [0, 1] rfl ⟨rfl, rfl, rfl, rfl, trivial⟩ rfl ?_
  cbv
  cases h0
  exact fin_ok hX rfl ⟨[], _, _, ⟨rfl, rfl⟩, rfl, rfl, rfl, rfl, by cbv; try simp⟩
set_option maxHeartbeats 40000000 in
theorem fn_ref16_repeats {O0 : Ops} (hO0 : O0 = std) {part_1 : Int} {d_1 : Int} {l_1 : List (Int × Int)} {r1 : Bool} (h : m_ref16_repeats O0 part_1 d_1 l_1 = some r1) :
    Fn Try.prog 58 [.c (.int .i64 part_1), .c (.sl 0), .c (.int .i64 d_1)] [.arr false .i2 l_1] (fun v c => v = .c (.bool r1) ∧ c = []) := by
  refine fn_run tab_holds eqs_holds mixed [(4, (.seg 1 [0, 1, 2, 3, 4, 5, 6, 7, 8, 9, 10, 11, 12, 13, 14, 15, 16, 17, 18, 19, 20, 21, 22, 23, 24, 25, 26, 27, 28, 29, 30, 31] .fin), [])] Try.func58 (by kernel_rfl) (by kernel_rfl) (Nat.le_of_ble_eq_true rfl) ?_
  intro O X hO hX
  rw [hO0, ← hO] at h
  unfold m_ref16_repeats at h
  have h0 := h; clear h
  cbv
  obtain ⟨e1, hi, h0⟩ := bindS h0
  obtain ⟨I1, hI1, hi⟩ := loopS hi
  refine loop1 tab_holds eqs_holds mixed [(4, (.seg 1 [0, 1, 2, 3, 4, 5, 6, 7, 8, 9, 10, 11, 12, 13, 14, 15, 16, 17, 18, 19, 20, 21, 22, 23, 24, 25, 26, 27, 28, 29, 30, 31] .fin), [])] hO hX I1 (fun y => [(7, .c (.int .i64 y.2))]) (fun _ => []) (fun y => y.1) _ (by kernel_rfl) hi (by cbv; try simp) ?_
  refine allp ?_
  intro n1
  intro i4 hi
  cbv
  rw [hI1] at hi
  obtain ⟨n1, rfl, x1, h1, hi1⟩ := iterS hi
  unfold m_ref16_repeats_L1 at h1
  try dsimp only at h1
  rcases condS h1 with ⟨hc1, h1⟩ | ⟨hc1, h1⟩
  · as_aux_lemma =>
    rw [hc1]
    cbv
    obtain ⟨x120, h2, h1⟩ := bindS h1
    rcases condS h2 with ⟨hc2, h2⟩ | ⟨hc2, h2⟩
    · rw [hc2]
      cbv
      obtain ⟨hg3, h2⟩ := grdS h2
      refine ⟨idx_of hO hg3, ?_⟩
      obtain ⟨hg4, h2⟩ := grdS h2
      refine ⟨kin_of hO hg4, ?_⟩
      obtain ⟨hg5, h2⟩ := grdS h2
      refine ⟨inr_of hO hg5, ?_⟩
      obtain ⟨hg6, h2⟩ := grdS h2
      refine ⟨idx_of hO hg6, ?_⟩
      obtain ⟨hg7, h2⟩ := grdS h2
      refine ⟨kin_of hO hg7, ?_⟩
      obtain ⟨hg8, h2⟩ := grdS h2
      refine ⟨inr_of hO hg8, ?_⟩
      cases h2
      try dsimp only at h1
      replace h1 := condT h1 rfl
      cases h1
      cases exitI hi1
      try dsimp only at h0
      cases h0
      exact fin_ok hX rfl ⟨[], _, _, ⟨rfl, rfl⟩, rfl, rfl, rfl, rfl, by cbv; try simp⟩
    · rw [hc2]
      cbv
      obtain ⟨hg9, h2⟩ := grdS h2
      refine ⟨idx_of hO hg9, ?_⟩
      obtain ⟨hg10, h2⟩ := grdS h2
      refine ⟨kin_of hO hg10, ?_⟩
      obtain ⟨hg11, h2⟩ := grdS h2
      refine ⟨inr_of hO hg11, ?_⟩
      obtain ⟨hg12, h2⟩ := grdS h2
      refine ⟨idx_of hO hg12, ?_⟩
      obtain ⟨hg13, h2⟩ := grdS h2
      refine ⟨kin_of hO hg13, ?_⟩
      obtain ⟨hg14, h2⟩ := grdS h2
      refine ⟨inr_of hO hg14, ?_⟩
      refine ⟨idx_of hO hg9, ?_⟩
      refine ⟨kin_of hO hg10, ?_⟩
      refine ⟨inr_of hO hg11, ?_⟩
      refine ⟨idx_of hO hg12, ?_⟩
      refine ⟨kin_of hO hg13, ?_⟩
      obtain ⟨hg15, h2⟩ := grdS h2
      refine ⟨inr_of hO hg15, ?_⟩
      cases h2
      try dsimp only at h1
      rcases condS h1 with ⟨hc16, h1⟩ | ⟨hc16, h1⟩
      · rw [hc16]
        cbv
        cases h1
        cases exitI hi1
        try dsimp only at h0
        cases h0
        exact fin_ok hX rfl ⟨[], _, _, ⟨rfl, rfl⟩, rfl, rfl, rfl, rfl, by cbv; try simp⟩
      · rw [hc16]
        cbv
        obtain ⟨hg17, h1⟩ := grdS h1
        refine ⟨inr_of hO hg17, ?_⟩
        cases h1
        exact ⟨_, [0], nextI hI1 hi1, by cbv; try simp, by first | exact Nat.lt_succ_self _ | omega⟩
  · rw [hc1]
    cbv
    cases h1
    cases exitI hi1
    try dsimp only at h0
    cases h0
    exact fin_ok hX rfl ⟨[], _, _, ⟨rfl, rfl⟩, rfl, rfl, rfl, rfl, by cbv; try simp⟩
set_option maxHeartbeats 40000000 in
theorem fn_ref16_least {O0 : Ops} (hO0 : O0 = std) {period_1 : Int} {l_1 : List (Int × Int)} {r1 : Int} (h : m_ref16_least O0 period_1 l_1 = some r1) :
    Fn Try.prog 31 [.c (.int .i64 period_1), .c (.sl 0)] [.arr false .i2 l_1] (fun v c => v = .c (.int .i64 r1) ∧ c = []) := by
  refine fn_run tab_holds eqs_holds mixed [] Try.func31 (by kernel_rfl) (by kernel_rfl) (Nat.le_of_ble_eq_true rfl) ?_
  intro O X hO hX
  rw [hO0, ← hO] at h
  unfold m_ref16_least at h
  have h0 := h; clear h
  cbv
  obtain ⟨e1, hi, h0⟩ := bindS h0
  obtain ⟨I1, hI1, hi⟩ := loopS hi
  refine loop1 tab_holds eqs_holds mixed [] hO hX I1 (fun y => [(6, .c (.int .i64 y.2))]) (fun _ => []) (fun y => y.1) _ (by kernel_rfl) hi (by cbv; try simp) ?_
  refine allp ?_
  intro n1
  intro d1 hi
  cbv
  rw [hI1] at hi
  obtain ⟨n1, rfl, x1, h1, hi1⟩ := iterS hi
  unfold m_ref16_least_L1 at h1
  try dsimp only at h1
  rcases condS h1 with ⟨hc1, h1⟩ | ⟨hc1, h1⟩
  · as_aux_lemma =>
    rw [hc1]
    cbv
    obtain ⟨x123, h2, h1⟩ := bindS h1
    rcases condS h2 with ⟨hc2, h2⟩ | ⟨hc2, h2⟩
    · as_aux_lemma =>
      rw [hc2]
      cbv
      rcases condS h2 with ⟨hc3, h2⟩ | ⟨hc3, h2⟩
      · rw [hc3]
        cbv
        obtain ⟨hg4, h2⟩ := grdS h2
        refine ⟨nz_of hO hg4, ?_⟩
        refine ⟨nz_of hO hg4, ?_⟩
        obtain ⟨hg5, h2⟩ := grdS h2
        refine ⟨inr_of hO hg5, ?_⟩
        obtain ⟨hg6, h2⟩ := grdS h2
        refine ⟨nz_of hO hg6, ?_⟩
        refine ⟨nz_of hO hg4, ?_⟩
        refine ⟨inr_of hO hg5, ?_⟩
        refine ⟨nz_of hO hg6, ?_⟩
        obtain ⟨hg7, h2⟩ := grdS h2
        refine ⟨inr_of hO hg7, ?_⟩
        obtain ⟨b35, hv, h2⟩ := bindS h2
        refine call_is hO hX (fn_ref16_repeats hO hv) (by kernel_rfl) [0] rfl ⟨rfl, rfl, trivial⟩ rfl ?_
        cbv
        cases h2
        try dsimp only at h1
        rcases condS h1 with ⟨hc8, h1⟩ | ⟨hc8, h1⟩
        · rw [hc8]
          cbv
          cases h1
          cases exitI hi1
          try dsimp only at h0
          cases h0
          exact fin_ok hX rfl ⟨[], _, _, ⟨rfl, rfl⟩, rfl, rfl, rfl, rfl, by cbv; try simp⟩
        · rw [hc8]
          cbv
          obtain ⟨hg9, h1⟩ := grdS h1
          refine ⟨inr_of hO hg9, ?_⟩
          cases h1
          exact ⟨_, [0], nextI hI1 hi1, by cbv; try simp, by first | exact Nat.lt_succ_self _ | omega⟩
      · rw [hc3]
        cbv
        obtain ⟨hg10, h2⟩ := grdS h2
        refine ⟨nz_of hO hg10, ?_⟩
        refine ⟨nz_of hO hg10, ?_⟩
        obtain ⟨hg11, h2⟩ := grdS h2
        refine ⟨inr_of hO hg11, ?_⟩
        obtain ⟨hg12, h2⟩ := grdS h2
        refine ⟨nz_of hO hg12, ?_⟩
        cases h2
        try dsimp only at h1
        replace h1 := condF h1 rfl
        obtain ⟨hg13, h1⟩ := grdS h1
        refine ⟨inr_of hO hg13, ?_⟩
        cases h1
        exact ⟨_, [0], nextI hI1 hi1, by cbv; try simp, by first | exact Nat.lt_succ_self _ | omega⟩
    · rw [hc2]
      cbv
      obtain ⟨hg14, h2⟩ := grdS h2
      refine ⟨nz_of hO hg14, ?_⟩
      cases h2
      try dsimp only at h1
      replace h1 := condF h1 rfl
      obtain ⟨hg15, h1⟩ := grdS h1
      refine ⟨inr_of hO hg15, ?_⟩
      cases h1
      exact ⟨_, [0], nextI hI1 hi1, by cbv; try simp, by first | exact Nat.lt_succ_self _ | omega⟩
  · rw [hc1]
    cbv
    cases h1
    cases exitI hi1
    try dsimp only at h0
    cases h0
    exact fin_ok hX rfl ⟨[], _, _, ⟨rfl, rfl⟩, rfl, rfl, rfl, rfl, by cbv; try simp⟩
set_option maxHeartbeats 40000000 in
theorem fn_ref16_Valid {O0 : Ops} (hO0 : O0 = std) {c_1 : Int} {c_2 : Int} {c_3 : List (Int × Int)} {r1 : Bool} (h : m_ref16_Valid O0 c_1 c_2 c_3 = some r1) :
    Fn Try.prog 8 [.agg [.int .i64 c_1, .int .i64 c_2, .sl 0]] [.arr false .i2 c_3] (fun v c => v = .c (.bool r1) ∧ c = []) := by
  refine fn_run tab_holds eqs_holds mixed [(7, (.seg 1 [0, 1, 2, 3, 4, 5, 6, 7, 8, 9, 10, 11, 12, 13, 14, 15, 16, 17, 18, 19, 20, 21, 22, 23, 24, 25, 26, 27, 28, 29, 30, 31, 32, 33, 34, 35, 36, 37, 38, 39, 40, 41, 42, 43, 44, 45, 46, 47, 48, 49, 50, 51, 52] .fin), [])] Try.func8 (by kernel_rfl) (by kernel_rfl) (Nat.le_of_ble_eq_true rfl) ?_
  intro O X hO hX
  rw [hO0, ← hO] at h
  unfold m_ref16_Valid at h
  have h0 := h; clear h
  cbv
  obtain ⟨x115, h1, h0⟩ := bindS h0
  rcases condS h1 with ⟨hc1, h1⟩ | ⟨hc1, h1⟩
  · rw [hc1]
    cbv
    cases h1
    try dsimp only at h0
    replace h0 := condT h0 rfl
    cases h0
    exact fin_ok hX rfl ⟨[], _, _, ⟨rfl, rfl⟩, rfl, rfl, rfl, rfl, by cbv; try simp⟩
  · as_aux_lemma =>
    rw [hc1]
    cbv
    rcases condS h1 with ⟨hc2, h1⟩ | ⟨hc2, h1⟩
    · rw [hc2]
      cbv
      cases h1
      try dsimp only at h0
      replace h0 := condT h0 rfl
      cases h0
      exact fin_ok hX rfl ⟨[], _, _, ⟨rfl, rfl⟩, rfl, rfl, rfl, rfl, by cbv; try simp⟩
    · as_aux_lemma =>
      rw [hc2]
      cbv
      rcases condS h1 with ⟨hc3, h1⟩ | ⟨hc3, h1⟩
      · rw [hc3]
        cbv
        cases h1
        try dsimp only at h0
        replace h0 := condT h0 rfl
        cases h0
        exact fin_ok hX rfl ⟨[], _, _, ⟨rfl, rfl⟩, rfl, rfl, rfl, rfl, by cbv; try simp⟩
      · as_aux_lemma =>
        rw [hc3]
        cbv
        rcases condS h1 with ⟨hc4, h1⟩ | ⟨hc4, h1⟩
        · rw [hc4]
          cbv
          cases h1
          try dsimp only at h0
          replace h0 := condT h0 rfl
          cases h0
          exact fin_ok hX rfl ⟨[], _, _, ⟨rfl, rfl⟩, rfl, rfl, rfl, rfl, by cbv; try simp⟩
        · as_aux_lemma =>
          rw [hc4]
          cbv
          rcases condS h1 with ⟨hc5, h1⟩ | ⟨hc5, h1⟩
          · rw [hc5]
            cbv
            cases h1
            try dsimp only at h0
            replace h0 := condT h0 rfl
            cases h0
            exact fin_ok hX rfl ⟨[], _, _, ⟨rfl, rfl⟩, rfl, rfl, rfl, rfl, by cbv; try simp⟩
          · as_aux_lemma =>
            rw [hc5]
            cbv
            rcases condS h1 with ⟨hc6, h1⟩ | ⟨hc6, h1⟩
            · rw [hc6]
              cbv
              cases h1
              try dsimp only at h0
              replace h0 := condT h0 rfl
              cases h0
              exact fin_ok hX rfl ⟨[], _, _, ⟨rfl, rfl⟩, rfl, rfl, rfl, rfl, by cbv; try simp⟩
            · as_aux_lemma =>
              rw [hc6]
              cbv
              obtain ⟨hg7, h1⟩ := grdS h1
              refine ⟨idx_of hO hg7, ?_⟩
              obtain ⟨hg8, h1⟩ := grdS h1
              refine ⟨kin_of hO hg8, ?_⟩
              cases h1
              try dsimp only at h0
              rcases condS h0 with ⟨hc9, h0⟩ | ⟨hc9, h0⟩
              · rw [hc9]
                cbv
                cases h0
                exact fin_ok hX rfl ⟨[], _, _, ⟨rfl, rfl⟩, rfl, rfl, rfl, rfl, by cbv; try simp⟩
              · as_aux_lemma =>
                rw [hc9]
                cbv
                obtain ⟨e1, hi, h0⟩ := bindS h0
                obtain ⟨I1, hI1, hi⟩ := loopS hi
                refine loop1 tab_holds eqs_holds mixed [(7, (.seg 1 [0, 1, 2, 3, 4, 5, 6, 7, 8, 9, 10, 11, 12, 13, 14, 15, 16, 17, 18, 19, 20, 21, 22, 23, 24, 25, 26, 27, 28, 29, 30, 31, 32, 33, 34, 35, 36, 37, 38, 39, 40, 41, 42, 43, 44, 45, 46, 47, 48, 49, 50, 51, 52] .fin), [])] hO hX I1 (fun y => [(5, .junk), (15, .junk), (20, .junk), (25, .junk), (30, .junk), (35, .junk), (4, .c (.int .i64 y.2))]) (fun _ => []) (fun y => y.1) _ (by kernel_rfl) hi (by cbv; try simp) ?_
                refine allp ?_
                intro n1
                intro i3 hi
                cbv
                rw [hI1] at hi
                obtain ⟨n1, rfl, x1, h1, hi1⟩ := iterS hi
                unfold m_ref16_Valid_L1 at h1
                try dsimp only at h1
                rcases condS h1 with ⟨hc10, h1⟩ | ⟨hc10, h1⟩
                · as_aux_lemma =>
                  rw [hc10]
                  cbv
                  obtain ⟨x118, h2, h1⟩ := bindS h1
                  rcases condS h2 with ⟨hc11, h2⟩ | ⟨hc11, h2⟩
                  · rw [hc11]
                    cbv
                    obtain ⟨hg12, h2⟩ := grdS h2
                    refine ⟨idx_of hO hg12, ?_⟩
                    obtain ⟨hg13, h2⟩ := grdS h2
                    refine ⟨kin_of hO hg13, ?_⟩
                    cases h2
                    try dsimp only at h1
                    replace h1 := condT h1 rfl
                    refine ⟨idx_of hO hg12, ?_⟩
                    refine ⟨kin_of hO hg13, ?_⟩
                    cases h1
                    cases exitI hi1
                    try dsimp only at h0
                    cases h0
                    exact fin_ok hX rfl ⟨[], _, _, ⟨rfl, rfl⟩, rfl, rfl, rfl, rfl, by cbv; try simp⟩
                  · as_aux_lemma =>
                    rw [hc11]
                    cbv
                    rcases condS h2 with ⟨hc14, h2⟩ | ⟨hc14, h2⟩
                    · rw [hc14]
                      cbv
                      obtain ⟨hg15, h2⟩ := grdS h2
                      refine ⟨idx_of hO hg15, ?_⟩
                      obtain ⟨hg16, h2⟩ := grdS h2
                      refine ⟨kin_of hO hg16, ?_⟩
                      cases h2
                      try dsimp only at h1
                      replace h1 := condT h1 rfl
                      refine ⟨idx_of hO hg15, ?_⟩
                      refine ⟨kin_of hO hg16, ?_⟩
                      refine ⟨idx_of hO hg15, ?_⟩
                      refine ⟨kin_of hO hg16, ?_⟩
                      cases h1
                      cases exitI hi1
                      try dsimp only at h0
                      cases h0
                      exact fin_ok hX rfl ⟨[], _, _, ⟨rfl, rfl⟩, rfl, rfl, rfl, rfl, by cbv; try simp⟩
                    · as_aux_lemma =>
                      rw [hc14]
                      cbv
                      rcases condS h2 with ⟨hc17, h2⟩ | ⟨hc17, h2⟩
                      · rw [hc17]
                        cbv
                        obtain ⟨hg18, h2⟩ := grdS h2
                        refine ⟨idx_of hO hg18, ?_⟩
                        obtain ⟨hg19, h2⟩ := grdS h2
                        refine ⟨kin_of hO hg19, ?_⟩
                        cases h2
                        try dsimp only at h1
                        replace h1 := condT h1 rfl
                        refine ⟨idx_of hO hg18, ?_⟩
                        refine ⟨kin_of hO hg19, ?_⟩
                        refine ⟨idx_of hO hg18, ?_⟩
                        refine ⟨kin_of hO hg19, ?_⟩
                        refine ⟨idx_of hO hg18, ?_⟩
                        refine ⟨kin_of hO hg19, ?_⟩
                        cases h1
                        cases exitI hi1
                        try dsimp only at h0
                        cases h0
                        exact fin_ok hX rfl ⟨[], _, _, ⟨rfl, rfl⟩, rfl, rfl, rfl, rfl, by cbv; try simp⟩
                      · as_aux_lemma =>
                        rw [hc17]
                        cbv
                        rcases condS h2 with ⟨hc20, h2⟩ | ⟨hc20, h2⟩
                        · rw [hc20]
                          cbv
                          obtain ⟨hg21, h2⟩ := grdS h2
                          refine ⟨idx_of hO hg21, ?_⟩
                          obtain ⟨hg22, h2⟩ := grdS h2
                          refine ⟨kin_of hO hg22, ?_⟩
                          refine ⟨idx_of hO hg21, ?_⟩
                          refine ⟨kin_of hO hg22, ?_⟩
                          refine ⟨idx_of hO hg21, ?_⟩
                          refine ⟨kin_of hO hg22, ?_⟩
                          refine ⟨idx_of hO hg21, ?_⟩
                          refine ⟨kin_of hO hg22, ?_⟩
                          refine ⟨idx_of hO hg21, ?_⟩
                          refine ⟨kin_of hO hg22, ?_⟩
                          obtain ⟨hg23, h2⟩ := grdS h2
                          refine ⟨inr_of hO hg23, ?_⟩
                          obtain ⟨hg24, h2⟩ := grdS h2
                          refine ⟨idx_of hO hg24, ?_⟩
                          obtain ⟨hg25, h2⟩ := grdS h2
                          refine ⟨kin_of hO hg25, ?_⟩
                          cases h2
                          try dsimp only at h1
                          rcases condS h1 with ⟨hc26, h1⟩ | ⟨hc26, h1⟩
                          · rw [hc26]
                            cbv
                            cases h1
                            cases exitI hi1
                            try dsimp only at h0
                            cases h0
                            exact fin_ok hX rfl ⟨[], _, _, ⟨rfl, rfl⟩, rfl, rfl, rfl, rfl, by cbv; try simp⟩
                          · rw [hc26]
                            cbv
                            obtain ⟨hg27, h1⟩ := grdS h1
                            refine ⟨inr_of hO hg27, ?_⟩
                            cases h1
                            exact ⟨_, [0, 1], nextI hI1 hi1, by cbv; try simp, by first | exact Nat.lt_succ_self _ | omega⟩
                        · rw [hc20]
                          cbv
                          obtain ⟨hg28, h2⟩ := grdS h2
                          refine ⟨idx_of hO hg28, ?_⟩
                          obtain ⟨hg29, h2⟩ := grdS h2
                          refine ⟨kin_of hO hg29, ?_⟩
                          cases h2
                          try dsimp only at h1
                          replace h1 := condF h1 rfl
                          refine ⟨idx_of hO hg28, ?_⟩
                          refine ⟨kin_of hO hg29, ?_⟩
                          refine ⟨idx_of hO hg28, ?_⟩
                          refine ⟨kin_of hO hg29, ?_⟩
                          refine ⟨idx_of hO hg28, ?_⟩
                          refine ⟨kin_of hO hg29, ?_⟩
                          obtain ⟨hg30, h1⟩ := grdS h1
                          refine ⟨inr_of hO hg30, ?_⟩
                          cases h1
                          exact ⟨_, [0, 1], nextI hI1 hi1, by cbv; try simp, by first | exact Nat.lt_succ_self _ | omega⟩
                · rw [hc10]
                  cbv
                  cases h1
                  cases exitI hi1
                  try dsimp only at h0
                  obtain ⟨n91, hv, h0⟩ := bindS h0
                  refine call_is hO hX (fn_ref16_least hO hv) (by kernel_rfl) [0] rfl ⟨rfl, rfl, trivial⟩ rfl ?_
                  cbv
                  cases h0
                  exact fin_ok hX rfl ⟨[], _, _, ⟨rfl, rfl⟩, rfl, rfl, rfl, rfl, by cbv; try simp⟩
set_option maxHeartbeats 40000000 in
theorem fn_ref12_Number {O0 : Ops} (hO0 : O0 = std) {x_1 : Int} {r1 : Bool} (h : m_ref12_Number O0 x_1 = some r1) :
    Fn Try.prog 87 [.c (.int .i64 x_1)] [] (fun v c => v = .c (.bool r1) ∧ c = []) := by
  refine fn_run tab_holds eqs_holds mixed [] Try.func87 (by kernel_rfl) (by kernel_rfl) (Nat.le_of_ble_eq_true rfl) ?_
  intro O X hO hX
  rw [hO0, ← hO] at h
  unfold m_ref12_Number at h
  have h0 := h; clear h
  cbv
  obtain ⟨x126, h1, h0⟩ := bindS h0
  rcases condS h1 with ⟨hc1, h1⟩ | ⟨hc1, h1⟩
  · rw [hc1]
    cbv
    cases h1
    try dsimp only at h0
    cases h0
    exact fin_ok hX rfl ⟨[], _, _, ⟨rfl, rfl⟩, rfl, rfl, rfl, rfl, by cbv; try simp⟩
  · rw [hc1]
    cbv
    cases h1
    try dsimp only at h0
    cases h0
    exact fin_ok hX rfl ⟨[], _, _, ⟨rfl, rfl⟩, rfl, rfl, rfl, rfl, by cbv; try simp⟩
set_option maxHeartbeats 40000000 in
theorem fn_ref12_Span {O0 : Ops} (hO0 : O0 = std) {s_1 : Int} {s_2 : Int} {r1 : Bool} (h : m_ref12_Span O0 s_1 s_2 = some r1) :
    Fn Try.prog 76 [.agg [.int .i64 s_1, .int .i64 s_2]] [] (fun v c => v = .c (.bool r1) ∧ c = []) := by
  refine fn_run tab_holds eqs_holds mixed [] Try.func76 (by kernel_rfl) (by kernel_rfl) (Nat.le_of_ble_eq_true rfl) ?_
  intro O X hO hX
  rw [hO0, ← hO] at h
  unfold m_ref12_Span at h
  have h0 := h; clear h
  cbv
  obtain ⟨x129, h1, h0⟩ := bindS h0
  obtain ⟨b37, hv, h1⟩ := bindS h1
  refine call_is hO hX (fn_ref12_Number hO hv) (by kernel_rfl) [] rfl trivial rfl ?_
  cbv
  rcases condS h1 with ⟨hc1, h1⟩ | ⟨hc1, h1⟩
  · rw [hc1]
    cbv
    obtain ⟨b38, hv, h1⟩ := bindS h1
    refine call_is hO hX (fn_ref12_Number hO hv) (by kernel_rfl) [] rfl trivial rfl ?_
    cbv
    rcases condS h1 with ⟨hc2, h1⟩ | ⟨hc2, h1⟩
    · rw [hc2]
      cbv
      cases h1
      try dsimp only at h0
      cases h0
      exact fin_ok hX rfl ⟨[], _, _, ⟨rfl, rfl⟩, rfl, rfl, rfl, rfl, by cbv; try simp⟩
    · rw [hc2]
      cbv
      cases h1
      try dsimp only at h0
      cases h0
      exact fin_ok hX rfl ⟨[], _, _, ⟨rfl, rfl⟩, rfl, rfl, rfl, rfl, by cbv; try simp⟩
  · rw [hc1]
    cbv
    cases h1
    try dsimp only at h0
    cases h0
    exact fin_ok hX rfl ⟨[], _, _, ⟨rfl, rfl⟩, rfl, rfl, rfl, rfl, by cbv; try simp⟩
set_option maxHeartbeats 40000000 in
theorem fn_ref12_Spans {O0 : Ops} (hO0 : O0 = std) {l_1 : List (Int × Int)} {r1 : Bool} (h : m_ref12_Spans O0 l_1 = some r1) :
    Fn Try.prog 59 [.c (.sl 0)] [.arr false .i2 l_1] (fun v c => v = .c (.bool r1) ∧ c = []) := by
  refine fn_run tab_holds eqs_holds mixed [] Try.func59 (by kernel_rfl) (by kernel_rfl) (Nat.le_of_ble_eq_true rfl) ?_
  intro O X hO hX
  rw [hO0, ← hO] at h
  unfold m_ref12_Spans at h
  have h0 := h; clear h
  cbv
  obtain ⟨e1, hi, h0⟩ := bindS h0
  obtain ⟨I1, hI1, hi⟩ := loopS hi
  refine loop1 tab_holds eqs_holds mixed [] hO hX I1 (fun y => [(3, .c (.int .i64 y.2))]) (fun _ => []) (fun y => y.1) _ (by kernel_rfl) hi (by cbv; try simp) ?_
  refine allp ?_
  intro n1
  intro i5 hi
  cbv
  rw [hI1] at hi
  obtain ⟨n1, rfl, x1, h1, hi1⟩ := iterS hi
  unfold m_ref12_Spans_L1 at h1
  try dsimp only at h1
  rcases condS h1 with ⟨hc1, h1⟩ | ⟨hc1, h1⟩
  · rw [hc1]
    cbv
    obtain ⟨hg2, h1⟩ := grdS h1
    refine ⟨idx_of hO hg2, ?_⟩
    obtain ⟨hg3, h1⟩ := grdS h1
    refine ⟨kin_of hO hg3, ?_⟩
    obtain ⟨b39, hv, h1⟩ := bindS h1
    refine call_is hO hX (fn_ref12_Span hO hv) (by kernel_rfl) [] rfl trivial rfl ?_
    cbv
    rcases condS h1 with ⟨hc4, h1⟩ | ⟨hc4, h1⟩
    · rw [hc4]
      cbv
      cases h1
      cases exitI hi1
      try dsimp only at h0
      cases h0
      exact fin_ok hX rfl ⟨[], _, _, ⟨rfl, rfl⟩, rfl, rfl, rfl, rfl, by cbv; try simp⟩
    · rw [hc4]
      cbv
      obtain ⟨hg5, h1⟩ := grdS h1
      refine ⟨inr_of hO hg5, ?_⟩
      cases h1
      exact ⟨_, [0], nextI hI1 hi1, by cbv; try simp, by first | exact Nat.lt_succ_self _ | omega⟩
  · rw [hc1]
    cbv
    cases h1
    cases exitI hi1
    try dsimp only at h0
    cases h0
    exact fin_ok hX rfl ⟨[], _, _, ⟨rfl, rfl⟩, rfl, rfl, rfl, rfl, by cbv; try simp⟩
end Go.Proofs.Ytebkfbkgmbgobaa
