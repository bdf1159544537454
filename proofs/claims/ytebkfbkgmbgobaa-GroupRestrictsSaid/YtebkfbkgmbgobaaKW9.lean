/-
  The code does what its models say (printed by lift.py).
-/
import Derived.Test.YtebkfbkgmbgobaaKM
import Derived.Test.YtebkfbkgmbgobaaManW
import Derived.Test.YtebkfbkgmbgobaaKW2
import Derived.Test.YtebkfbkgmbgobaaKW3
import Derived.Test.YtebkfbkgmbgobaaKW6
import Derived.Test.YtebkfbkgmbgobaaKW8
namespace Go.Proofs.Ytebkfbkgmbgobaa
open Go.RowKit
set_option maxRecDepth 100000

set_option maxHeartbeats 40000000 in
theorem fn_ref16_Periodic {O0 : Ops} (hO0 : O0 = std) {p_1 : Int} {p_2 : List (Int × Int)} {r1 : Bool} (h : m_ref16_Periodic O0 p_1 p_2 = some r1) :
    Fn Try.prog 9 [.agg [.int .i64 p_1, .sl 0]] [.arr false .i2 p_2] (fun v c => v = .c (.bool r1) ∧ c = []) := by
  refine fn_run tab_holds eqs_holds mixed [(6, (.seg 1 [0, 1, 2, 3, 4, 5, 6, 7, 8, 9, 10, 11, 12, 13, 14, 15, 16, 17] .fin), []), (8, (.seg 1 [0, 1, 2, 3, 4, 5, 6, 7, 8, 9, 10, 11, 12, 13, 14, 15, 16, 17, 18, 19, 20, 21, 22, 23, 24, 25, 26, 27] .fin), []), (13, (.seg 1 [0, 1, 2, 3, 4, 5, 6, 7, 8, 9, 10] (.seg 2 [11] (.seg 1 [12] .fin))), [])] Try.func9 (by kernel_rfl) (by kernel_rfl) (Nat.le_of_ble_eq_true rfl) ?_
  intro O X hO hX
  rw [hO0, ← hO] at h
  unfold m_ref16_Periodic at h
  have h0 := h; clear h
  cbv
  obtain ⟨x133, h1, h0⟩ := bindS h0
  rcases condS h1 with ⟨hc1, h1⟩ | ⟨hc1, h1⟩
  · rw [hc1]
    cbv
    cases h1
    try dsimp only at h0
    replace h0 := condT h0 rfl
    cases h0
    exact fin_ok hX rfl ⟨[], _, _, ⟨rfl, rfl⟩, rfl, rfl, rfl, rfl, by cbv; try simp⟩
  · as_aux_lemma =>
    rw [hc1]
    cbv
    rcases condS h1 with ⟨hc2, h1⟩ | ⟨hc2, h1⟩
    · rw [hc2]
      cbv
      cases h1
      try dsimp only at h0
      replace h0 := condT h0 rfl
      cases h0
      exact fin_ok hX rfl ⟨[], _, _, ⟨rfl, rfl⟩, rfl, rfl, rfl, rfl, by cbv; try simp⟩
    · as_aux_lemma =>
      rw [hc2]
      cbv
      obtain ⟨b41, hv, h1⟩ := bindS h1
      refine call_is hO hX (fn_ref12_Valid hO hv) (by kernel_rfl) [0] rfl ⟨rfl, rfl, trivial⟩ rfl ?_
      cbv
      cases h1
      try dsimp only at h0
      rcases condS h0 with ⟨hc3, h0⟩ | ⟨hc3, h0⟩
      · rw [hc3]
        cbv
        cases h0
        exact fin_ok hX rfl ⟨[], _, _, ⟨rfl, rfl⟩, rfl, rfl, rfl, rfl, by cbv; try simp⟩
      · as_aux_lemma =>
        rw [hc3]
        cbv
        obtain ⟨e1, hi, h0⟩ := bindS h0
        obtain ⟨I1, hI1, hi⟩ := loopS hi
        refine loop1 tab_holds eqs_holds mixed [(6, (.seg 1 [0, 1, 2, 3, 4, 5, 6, 7, 8, 9, 10, 11, 12, 13, 14, 15, 16, 17] .fin), []), (8, (.seg 1 [0, 1, 2, 3, 4, 5, 6, 7, 8, 9, 10, 11, 12, 13, 14, 15, 16, 17, 18, 19, 20, 21, 22, 23, 24, 25, 26, 27] .fin), []), (13, (.seg 1 [0, 1, 2, 3, 4, 5, 6, 7, 8, 9, 10] (.seg 2 [11] (.seg 1 [12] .fin))), [])] hO hX I1 (fun y => [(5, .junk), (9, .junk), (14, .junk), (3, .c (.int .i64 y.2))]) (fun _ => []) (fun y => y.1) _ (by kernel_rfl) hi (by cbv; try simp) ?_
        refine allp ?_
        intro n1
        intro i7 hi
        cbv
        rw [hI1] at hi
        obtain ⟨n1, rfl, x1, h1, hi1⟩ := iterS hi
        unfold m_ref16_Periodic_L1 at h1
        try dsimp only at h1
        rcases condS h1 with ⟨hc4, h1⟩ | ⟨hc4, h1⟩
        · as_aux_lemma =>
          rw [hc4]
          cbv
          obtain ⟨x135, h2, h1⟩ := bindS h1
          rcases condS h2 with ⟨hc5, h2⟩ | ⟨hc5, h2⟩
          · rw [hc5]
            cbv
            obtain ⟨hg6, h2⟩ := grdS h2
            refine ⟨idx_of hO hg6, ?_⟩
            obtain ⟨hg7, h2⟩ := grdS h2
            refine ⟨kin_of hO hg7, ?_⟩
            cases h2
            try dsimp only at h1
            replace h1 := condT h1 rfl
            cases h1
            cases exitI hi1
            try dsimp only at h0
            cases h0
            exact fin_ok hX rfl ⟨[], _, _, ⟨rfl, rfl⟩, rfl, rfl, rfl, rfl, by cbv; try simp⟩
          · rw [hc5]
            cbv
            obtain ⟨hg8, h2⟩ := grdS h2
            refine ⟨idx_of hO hg8, ?_⟩
            obtain ⟨hg9, h2⟩ := grdS h2
            refine ⟨kin_of hO hg9, ?_⟩
            cases h2
            try dsimp only at h1
            refine ⟨idx_of hO hg8, ?_⟩
            refine ⟨kin_of hO hg9, ?_⟩
            rcases condS h1 with ⟨hc10, h1⟩ | ⟨hc10, h1⟩
            · rw [hc10]
              cbv
              cases h1
              cases exitI hi1
              try dsimp only at h0
              cases h0
              exact fin_ok hX rfl ⟨[], _, _, ⟨rfl, rfl⟩, rfl, rfl, rfl, rfl, by cbv; try simp⟩
            · rw [hc10]
              cbv
              obtain ⟨hg11, h1⟩ := grdS h1
              refine ⟨inr_of hO hg11, ?_⟩
              cases h1
              exact ⟨_, [0, 1], nextI hI1 hi1, by cbv; try simp, by first | exact Nat.lt_succ_self _ | omega⟩
        · as_aux_lemma =>
          rw [hc4]
          cbv
          cases h1
          cases exitI hi1
          try dsimp only at h0
          obtain ⟨x139, h1, h0⟩ := bindS h0
          rcases condS h1 with ⟨hc12, h1⟩ | ⟨hc12, h1⟩
          · rw [hc12]
            cbv
            cases h1
            try dsimp only at h0
            replace h0 := condT h0 rfl
            cases h0
            exact fin_ok hX rfl ⟨[], _, _, ⟨rfl, rfl⟩, rfl, rfl, rfl, rfl, by cbv; try simp⟩
          · as_aux_lemma =>
            rw [hc12]
            cbv
            rcases condS h1 with ⟨hc13, h1⟩ | ⟨hc13, h1⟩
            · as_aux_lemma =>
              rw [hc13]
              cbv
              rcases condS h1 with ⟨hc14, h1⟩ | ⟨hc14, h1⟩
              · as_aux_lemma =>
                rw [hc14]
                cbv
                obtain ⟨hg15, h1⟩ := grdS h1
                refine ⟨idx_of hO hg15, ?_⟩
                obtain ⟨hg16, h1⟩ := grdS h1
                refine ⟨kin_of hO hg16, ?_⟩
                cases h1
                try dsimp only at h0
                refine ⟨idx_of hO hg15, ?_⟩
                refine ⟨kin_of hO hg16, ?_⟩
                rcases condS h0 with ⟨hc17, h0⟩ | ⟨hc17, h0⟩
                · rw [hc17]
                  cbv
                  cases h0
                  exact fin_ok hX rfl ⟨[], _, _, ⟨rfl, rfl⟩, rfl, rfl, rfl, rfl, by cbv; try simp⟩
                · as_aux_lemma =>
                  rw [hc17]
                  cbv
                  obtain ⟨e1, hi, h0⟩ := bindS h0
                  obtain ⟨I2, hI2, hi⟩ := loopS hi
                  refine loop1 tab_holds eqs_holds mixed [(6, (.seg 1 [0, 1, 2, 3, 4, 5, 6, 7, 8, 9, 10, 11, 12, 13, 14, 15, 16, 17] .fin), []), (8, (.seg 1 [0, 1, 2, 3, 4, 5, 6, 7, 8, 9, 10, 11, 12, 13, 14, 15, 16, 17, 18, 19, 20, 21, 22, 23, 24, 25, 26, 27] .fin), []), (13, (.seg 1 [0, 1, 2, 3, 4, 5, 6, 7, 8, 9, 10] (.seg 2 [11] (.seg 1 [12] .fin))), [])] hO hX I2 (fun y => [(20, .junk), (44, .junk), (49, .junk), (54, .junk), (62, .junk), (67, .junk), (4, .c (.int .i64 y.2))]) (fun _ => []) (fun y => y.1) _ (by kernel_rfl) hi (by cbv; try simp) ?_
                  refine allp ?_
                  intro n2
                  intro k1 hi
                  cbv
                  rw [hI2] at hi
                  obtain ⟨n2, rfl, x2, h1, hi2⟩ := iterS hi
                  unfold m_ref16_Periodic_L2 at h1
                  try dsimp only at h1
                  obtain ⟨hg18, h1⟩ := grdS h1
                  refine ⟨inr_of hO hg18, ?_⟩
                  obtain ⟨hg19, h1⟩ := grdS h1
                  refine ⟨inr_of hO hg19, ?_⟩
                  rcases condS h1 with ⟨hc20, h1⟩ | ⟨hc20, h1⟩
                  · as_aux_lemma =>
                    rw [hc20]
                    cbv
                    obtain ⟨x181, h2, h1⟩ := bindS h1
                    rcases condS h2 with ⟨hc21, h2⟩ | ⟨hc21, h2⟩
                    · rw [hc21]
                      cbv
                      obtain ⟨hg22, h2⟩ := grdS h2
                      refine ⟨nz_of hO hg22, ?_⟩
                      refine ⟨nz_of hO hg22, ?_⟩
                      obtain ⟨hg23, h2⟩ := grdS h2
                      refine ⟨inr_of hO hg23, ?_⟩
                      obtain ⟨b49, hv, h2⟩ := bindS h2
                      refine call_is hO hX (fn_ref16_again hO hv) (by kernel_rfl) [0] rfl ⟨rfl, rfl, trivial⟩ rfl ?_
                      cbv
                      cases h2
                      try dsimp only at h1
                      rcases condS h1 with ⟨hc24, h1⟩ | ⟨hc24, h1⟩
                      · rw [hc24]
                        cbv
                        cases h1
                        cases exitI hi2
                        try dsimp only at h0
                        cases h0
                        exact fin_ok hX rfl ⟨[], _, _, ⟨rfl, rfl⟩, rfl, rfl, rfl, rfl, by cbv; try simp⟩
                      · rw [hc24]
                        cbv
                        obtain ⟨hg25, h1⟩ := grdS h1
                        refine ⟨inr_of hO hg25, ?_⟩
                        cases h1
                        exact ⟨_, [0, 1], nextI hI2 hi2, by cbv; try simp, by first | exact Nat.lt_succ_self _ | omega⟩
                    · rw [hc21]
                      cbv
                      obtain ⟨hg26, h2⟩ := grdS h2
                      refine ⟨nz_of hO hg26, ?_⟩
                      cases h2
                      try dsimp only at h1
                      replace h1 := condF h1 rfl
                      obtain ⟨hg27, h1⟩ := grdS h1
                      refine ⟨inr_of hO hg27, ?_⟩
                      cases h1
                      exact ⟨_, [0, 1], nextI hI2 hi2, by cbv; try simp, by first | exact Nat.lt_succ_self _ | omega⟩
                  · rw [hc20]
                    cbv
                    cases h1
                    cases exitI hi2
                    try dsimp only at h0
                    cases h0
                    exact fin_ok hX rfl ⟨[], _, _, ⟨rfl, rfl⟩, rfl, rfl, rfl, rfl, by cbv; try simp⟩
              · as_aux_lemma =>
                rw [hc14]
                cbv
                obtain ⟨hg28, h1⟩ := grdS h1
                refine ⟨idx_of hO hg28, ?_⟩
                obtain ⟨hg29, h1⟩ := grdS h1
                refine ⟨kin_of hO hg29, ?_⟩
                cases h1
                try dsimp only at h0
                replace h0 := condF h0 rfl
                obtain ⟨e1, hi, h0⟩ := bindS h0
                obtain ⟨I2, hI2, hi⟩ := loopS hi
                refine loop1 tab_holds eqs_holds mixed [(6, (.seg 1 [0, 1, 2, 3, 4, 5, 6, 7, 8, 9, 10, 11, 12, 13, 14, 15, 16, 17] .fin), []), (8, (.seg 1 [0, 1, 2, 3, 4, 5, 6, 7, 8, 9, 10, 11, 12, 13, 14, 15, 16, 17, 18, 19, 20, 21, 22, 23, 24, 25, 26, 27] .fin), []), (13, (.seg 1 [0, 1, 2, 3, 4, 5, 6, 7, 8, 9, 10] (.seg 2 [11] (.seg 1 [12] .fin))), [])] hO hX I2 (fun y => [(20, .junk), (44, .junk), (49, .junk), (54, .junk), (4, .c (.int .i64 y.2))]) (fun _ => []) (fun y => y.1) _ (by kernel_rfl) hi (by cbv; try simp) ?_
                refine allp ?_
                intro n2
                intro k1 hi
                cbv
                rw [hI2] at hi
                obtain ⟨n2, rfl, x2, h1, hi2⟩ := iterS hi
                unfold m_ref16_Periodic_L2 at h1
                try dsimp only at h1
                obtain ⟨hg30, h1⟩ := grdS h1
                refine ⟨inr_of hO hg30, ?_⟩
                obtain ⟨hg31, h1⟩ := grdS h1
                refine ⟨inr_of hO hg31, ?_⟩
                rcases condS h1 with ⟨hc32, h1⟩ | ⟨hc32, h1⟩
                · as_aux_lemma =>
                  rw [hc32]
                  cbv
                  obtain ⟨x181, h2, h1⟩ := bindS h1
                  rcases condS h2 with ⟨hc33, h2⟩ | ⟨hc33, h2⟩
                  · rw [hc33]
                    cbv
                    obtain ⟨hg34, h2⟩ := grdS h2
                    refine ⟨nz_of hO hg34, ?_⟩
                    refine ⟨nz_of hO hg34, ?_⟩
                    obtain ⟨hg35, h2⟩ := grdS h2
                    refine ⟨inr_of hO hg35, ?_⟩
                    obtain ⟨b49, hv, h2⟩ := bindS h2
                    refine call_is hO hX (fn_ref16_again hO hv) (by kernel_rfl) [0] rfl ⟨rfl, rfl, trivial⟩ rfl ?_
                    cbv
                    cases h2
                    try dsimp only at h1
                    rcases condS h1 with ⟨hc36, h1⟩ | ⟨hc36, h1⟩
                    · rw [hc36]
                      cbv
                      cases h1
                      cases exitI hi2
                      try dsimp only at h0
                      cases h0
                      exact fin_ok hX rfl ⟨[], _, _, ⟨rfl, rfl⟩, rfl, rfl, rfl, rfl, by cbv; try simp⟩
                    · rw [hc36]
                      cbv
                      obtain ⟨hg37, h1⟩ := grdS h1
                      refine ⟨inr_of hO hg37, ?_⟩
                      cases h1
                      exact ⟨_, [0, 1], nextI hI2 hi2, by cbv; try simp, by first | exact Nat.lt_succ_self _ | omega⟩
                  · rw [hc33]
                    cbv
                    obtain ⟨hg38, h2⟩ := grdS h2
                    refine ⟨nz_of hO hg38, ?_⟩
                    cases h2
                    try dsimp only at h1
                    replace h1 := condF h1 rfl
                    obtain ⟨hg39, h1⟩ := grdS h1
                    refine ⟨inr_of hO hg39, ?_⟩
                    cases h1
                    exact ⟨_, [0, 1], nextI hI2 hi2, by cbv; try simp, by first | exact Nat.lt_succ_self _ | omega⟩
                · rw [hc32]
                  cbv
                  cases h1
                  cases exitI hi2
                  try dsimp only at h0
                  cases h0
                  exact fin_ok hX rfl ⟨[], _, _, ⟨rfl, rfl⟩, rfl, rfl, rfl, rfl, by cbv; try simp⟩
            · as_aux_lemma =>
              rw [hc13]
              cbv
              cases h1
              try dsimp only at h0
              replace h0 := condF h0 rfl
              obtain ⟨e1, hi, h0⟩ := bindS h0
              obtain ⟨I2, hI2, hi⟩ := loopS hi
              refine loop1 tab_holds eqs_holds mixed [(6, (.seg 1 [0, 1, 2, 3, 4, 5, 6, 7, 8, 9, 10, 11, 12, 13, 14, 15, 16, 17] .fin), []), (8, (.seg 1 [0, 1, 2, 3, 4, 5, 6, 7, 8, 9, 10, 11, 12, 13, 14, 15, 16, 17, 18, 19, 20, 21, 22, 23, 24, 25, 26, 27] .fin), []), (13, (.seg 1 [0, 1, 2, 3, 4, 5, 6, 7, 8, 9, 10] (.seg 2 [11] (.seg 1 [12] .fin))), [])] hO hX I2 (fun y => [(20, .junk), (44, .junk), (49, .junk), (4, .c (.int .i64 y.2))]) (fun _ => []) (fun y => y.1) _ (by kernel_rfl) hi (by cbv; try simp) ?_
              refine allp ?_
              intro n2
              intro k1 hi
              cbv
              rw [hI2] at hi
              obtain ⟨n2, rfl, x2, h1, hi2⟩ := iterS hi
              unfold m_ref16_Periodic_L2 at h1
              try dsimp only at h1
              obtain ⟨hg40, h1⟩ := grdS h1
              refine ⟨inr_of hO hg40, ?_⟩
              obtain ⟨hg41, h1⟩ := grdS h1
              refine ⟨inr_of hO hg41, ?_⟩
              rcases condS h1 with ⟨hc42, h1⟩ | ⟨hc42, h1⟩
              · as_aux_lemma =>
                rw [hc42]
                cbv
                obtain ⟨x181, h2, h1⟩ := bindS h1
                rcases condS h2 with ⟨hc43, h2⟩ | ⟨hc43, h2⟩
                · rw [hc43]
                  cbv
                  obtain ⟨hg44, h2⟩ := grdS h2
                  refine ⟨nz_of hO hg44, ?_⟩
                  refine ⟨nz_of hO hg44, ?_⟩
                  obtain ⟨hg45, h2⟩ := grdS h2
                  refine ⟨inr_of hO hg45, ?_⟩
                  obtain ⟨b49, hv, h2⟩ := bindS h2
                  refine call_is hO hX (fn_ref16_again hO hv) (by kernel_rfl) [0] rfl ⟨rfl, rfl, trivial⟩ rfl ?_
                  cbv
                  cases h2
                  try dsimp only at h1
                  rcases condS h1 with ⟨hc46, h1⟩ | ⟨hc46, h1⟩
                  · rw [hc46]
                    cbv
                    cases h1
                    cases exitI hi2
                    try dsimp only at h0
                    cases h0
                    exact fin_ok hX rfl ⟨[], _, _, ⟨rfl, rfl⟩, rfl, rfl, rfl, rfl, by cbv; try simp⟩
                  · rw [hc46]
                    cbv
                    obtain ⟨hg47, h1⟩ := grdS h1
                    refine ⟨inr_of hO hg47, ?_⟩
                    cases h1
                    exact ⟨_, [0, 1], nextI hI2 hi2, by cbv; try simp, by first | exact Nat.lt_succ_self _ | omega⟩
                · rw [hc43]
                  cbv
                  obtain ⟨hg48, h2⟩ := grdS h2
                  refine ⟨nz_of hO hg48, ?_⟩
                  cases h2
                  try dsimp only at h1
                  replace h1 := condF h1 rfl
                  obtain ⟨hg49, h1⟩ := grdS h1
                  refine ⟨inr_of hO hg49, ?_⟩
                  cases h1
                  exact ⟨_, [0, 1], nextI hI2 hi2, by cbv; try simp, by first | exact Nat.lt_succ_self _ | omega⟩
              · rw [hc42]
                cbv
                cases h1
                cases exitI hi2
                try dsimp only at h0
                cases h0
                exact fin_ok hX rfl ⟨[], _, _, ⟨rfl, rfl⟩, rfl, rfl, rfl, rfl, by cbv; try simp⟩
set_option maxHeartbeats 40000000 in
theorem fn_law16_is {O0 : Ops} (hO0 : O0 = std) {c_1 : Int} {c_2 : Int} {e_1 : Int} {want_1 : Int} {want_2 : Int} {f_1 : Int} {c_3 : List (Int × Int)} {want_3 : List (Int × Int)} {r1 : Bool} (h : m_law16_is O0 c_1 c_2 e_1 want_1 want_2 f_1 c_3 want_3 = some r1) :
    Fn Try.prog 10 [.agg [.int .i64 c_1, .int .i64 c_2, .sl 0], .c (.int .i64 e_1), .agg [.int .i64 want_1, .int .i64 want_2, .sl 1], .c (.int .i64 f_1)] [.arr false .i2 c_3, .arr false .i2 want_3] (fun v c => v = .c (.bool r1) ∧ c = []) := by
  refine fn_run tab_holds eqs_holds mixed [] Try.func10 (by kernel_rfl) (by kernel_rfl) (Nat.le_of_ble_eq_true rfl) ?_
  intro O X hO hX
  rw [hO0, ← hO] at h
  unfold m_law16_is at h
  have h0 := h; clear h
  cbv
  obtain ⟨x187, h1, h0⟩ := bindS h0
  rcases condS h1 with ⟨hc1, h1⟩ | ⟨hc1, h1⟩
  · rw [hc1]
    cbv
    obtain ⟨b51, hv, h1⟩ := bindS h1
    refine call_is hO hX (fn_ref16_Same hO hv) (by kernel_rfl) [0, 1] rfl ⟨rfl, rfl, rfl, rfl, trivial⟩ rfl ?_
    cbv
    rcases condS h1 with ⟨hc2, h1⟩ | ⟨hc2, h1⟩
    · rw [hc2]
      cbv
      rcases condS h1 with ⟨hc3, h1⟩ | ⟨hc3, h1⟩
      · rw [hc3]
        cbv
        cases h1
        try dsimp only at h0
        cases h0
        exact fin_ok hX rfl ⟨[], _, _, ⟨rfl, rfl⟩, rfl, rfl, rfl, rfl, by cbv; try simp⟩
      · rw [hc3]
        cbv
        obtain ⟨b52, hv, h1⟩ := bindS h1
        refine call_is hO hX (fn_ref16_Valid hO hv) (by kernel_rfl) [0] rfl ⟨rfl, rfl, trivial⟩ rfl ?_
        cbv
        cases h1
        try dsimp only at h0
        cases h0
        exact fin_ok hX rfl ⟨[], _, _, ⟨rfl, rfl⟩, rfl, rfl, rfl, rfl, by cbv; try simp⟩
    · rw [hc2]
      cbv
      cases h1
      try dsimp only at h0
      cases h0
      exact fin_ok hX rfl ⟨[], _, _, ⟨rfl, rfl⟩, rfl, rfl, rfl, rfl, by cbv; try simp⟩
  · rw [hc1]
    cbv
    cases h1
    try dsimp only at h0
    cases h0
    exact fin_ok hX rfl ⟨[], _, _, ⟨rfl, rfl⟩, rfl, rfl, rfl, rfl, by cbv; try simp⟩
set_option maxHeartbeats 40000000 in
theorem fn_ref01_Gcd {O0 : Ops} (hO0 : O0 = std) {a_1 : Int} {b_1 : Int} {r1 : Int} (h : m_ref01_Gcd O0 a_1 b_1 = some r1) :
    Fn Try.prog 61 [.c (.int .i64 a_1), .c (.int .i64 b_1)] [] (fun v c => v = .c (.int .i64 r1) ∧ c = []) := by
  refine fn_run tab_holds eqs_holds mixed [(4, (.seg 1 [0, 1, 2, 3, 4, 5] .fin), [])] Try.func61 (by kernel_rfl) (by kernel_rfl) (Nat.le_of_ble_eq_true rfl) ?_
  intro O X hO hX
  rw [hO0, ← hO] at h
  unfold m_ref01_Gcd at h
  have h0 := h; clear h
  cbv
  obtain ⟨e1, hi, h0⟩ := bindS h0
  obtain ⟨I1, hI1, hi⟩ := loopS hi
  refine loop1 tab_holds eqs_holds mixed [(4, (.seg 1 [0, 1, 2, 3, 4, 5] .fin), [])] hO hX I1 (fun y => [(0, .c (.int .i64 y.2.1)), (1, .c (.int .i64 y.2.2))]) (fun _ => []) (fun y => y.1) _ (by kernel_rfl) hi (by cbv; try simp) ?_
  refine allp ?_
  intro n1
  refine allp ?_
  intro a1
  intro b54 hi
  cbv
  rw [hI1] at hi
  obtain ⟨n1, rfl, x1, h1, hi1⟩ := iterS hi
  unfold m_ref01_Gcd_L1 at h1
  try dsimp only at h1
  rcases condS h1 with ⟨hc1, h1⟩ | ⟨hc1, h1⟩
  · rw [hc1]
    cbv
    rcases condS h1 with ⟨hc2, h1⟩ | ⟨hc2, h1⟩
    · rw [hc2]
      cbv
      cases h1
      cases exitI hi1
      try dsimp only at h0
      cases h0
      exact fin_ok hX rfl ⟨[], _, _, ⟨rfl, rfl⟩, rfl, rfl, rfl, rfl, by cbv; try simp⟩
    · rw [hc2]
      cbv
      obtain ⟨hg3, h1⟩ := grdS h1
      refine ⟨nz_of hO hg3, ?_⟩
      cases h1
      exact ⟨_, [], nextI hI1 hi1, by cbv; try simp, by first | exact Nat.lt_succ_self _ | omega⟩
  · rw [hc1]
    cbv
    cases h1
    cases exitI hi1
    try dsimp only at h0
    rcases condS h0 with ⟨hc4, h0⟩ | ⟨hc4, h0⟩
    · rw [hc4]
      cbv
      cases h0
      exact fin_ok hX rfl ⟨[], _, _, ⟨rfl, rfl⟩, rfl, rfl, rfl, rfl, by cbv; try simp⟩
    · rw [hc4]
      cbv
      obtain ⟨a4, h1, h0⟩ := bindS h0
      rcases condS h1 with ⟨hc5, h1⟩ | ⟨hc5, h1⟩
      · rw [hc5]
        cbv
        obtain ⟨hg6, h1⟩ := grdS h1
        refine ⟨inr_of hO hg6, ?_⟩
        cases h1
        try dsimp only at h0
        cases h0
        exact fin_ok hX rfl ⟨[], _, _, ⟨rfl, rfl⟩, rfl, rfl, rfl, rfl, by cbv; try simp⟩
      · rw [hc5]
        cbv
        cases h1
        try dsimp only at h0
        cases h0
        exact fin_ok hX rfl ⟨[], _, _, ⟨rfl, rfl⟩, rfl, rfl, rfl, rfl, by cbv; try simp⟩
set_option maxHeartbeats 40000000 in
theorem fn_ref16_common {O0 : Ops} (hO0 : O0 = std) {a_1 : Int} {b_1 : Int} {r1 : Int} {r2 : Int} (h : m_ref16_common O0 a_1 b_1 = some (r1, r2)) :
    Fn Try.prog 34 [.c (.int .i64 a_1), .c (.int .i64 b_1)] [] (fun v c => v = .tup [.one (.int .i64 r1), .one (.int .i64 r2)] ∧ c = []) := by
  refine fn_run tab_holds eqs_holds mixed [] Try.func34 (by kernel_rfl) (by kernel_rfl) (Nat.le_of_ble_eq_true rfl) ?_
  intro O X hO hX
  rw [hO0, ← hO] at h
  unfold m_ref16_common at h
  have h0 := h; clear h
  cbv
  obtain ⟨n92, hv, h0⟩ := bindS h0
  refine call_is hO hX (fn_ref01_Gcd hO hv) (by kernel_rfl) [] rfl trivial rfl ?_
  cbv
  obtain ⟨hg1, h0⟩ := grdS h0
  refine ⟨nz_of hO hg1, ?_⟩
  obtain ⟨hg2, h0⟩ := grdS h0
  refine ⟨inr_of hO hg2, ?_⟩
  obtain ⟨hg3, h0⟩ := grdS h0
  refine ⟨nz_of hO hg3, ?_⟩
  obtain ⟨hg4, h0⟩ := grdS h0
  refine ⟨inr_of hO hg4, ?_⟩
  rcases condS h0 with ⟨hc5, h0⟩ | ⟨hc5, h0⟩
  · rw [hc5]
    cbv
    cases h0
    exact fin_ok hX rfl ⟨[], _, _, ⟨rfl, rfl⟩, rfl, rfl, rfl, rfl, by cbv; try simp⟩
  · rw [hc5]
    cbv
    obtain ⟨hg6, h0⟩ := grdS h0
    refine ⟨inr_of hO hg6, ?_⟩
    cases h0
    exact fin_ok hX rfl ⟨[], _, _, ⟨rfl, rfl⟩, rfl, rfl, rfl, rfl, by cbv; try simp⟩
set_option maxHeartbeats 40000000 in
theorem fn_ref01_Div {O0 : Ops} (hO0 : O0 = std) {a_1 : Int} {b_1 : Int} {r1 : Int} {r2 : Int} {r3 : Int} (h : m_ref01_Div O0 a_1 b_1 = some (r1, r2, r3)) :
    Fn Try.prog 81 [.c (.int .i64 a_1), .c (.int .i64 b_1)] [] (fun v c => v = .tup [.one (.int .i64 r1), .one (.int .i64 r2), .one (.int .i64 r3)] ∧ c = []) := by
  refine fn_run tab_holds eqs_holds mixed [(5, (.seg 1 [0, 1, 2, 3, 4, 5, 6, 7] .fin), [])] Try.func81 (by kernel_rfl) (by kernel_rfl) (Nat.le_of_ble_eq_true rfl) ?_
  intro O X hO hX
  rw [hO0, ← hO] at h
  unfold m_ref01_Div at h
  have h0 := h; clear h
  cbv
  rcases condS h0 with ⟨hc1, h0⟩ | ⟨hc1, h0⟩
  · rw [hc1]
    cbv
    cases h0
    exact fin_ok hX rfl ⟨[], _, _, ⟨rfl, rfl⟩, rfl, rfl, rfl, rfl, by cbv; try simp⟩
  · as_aux_lemma =>
    rw [hc1]
    cbv
    obtain ⟨x189, h1, h0⟩ := bindS h0
    rcases condS h1 with ⟨hc2, h1⟩ | ⟨hc2, h1⟩
    · as_aux_lemma =>
      rw [hc2]
      cbv
      cases h1
      try dsimp only at h0
      rcases condS h0 with ⟨hc3, h0⟩ | ⟨hc3, h0⟩
      · rw [hc3]
        cbv
        cases h0
        exact fin_ok hX rfl ⟨[], _, _, ⟨rfl, rfl⟩, rfl, rfl, rfl, rfl, by cbv; try simp⟩
      · as_aux_lemma =>
        rw [hc3]
        cbv
        obtain ⟨hg4, h0⟩ := grdS h0
        refine ⟨nz_of hO hg4, ?_⟩
        obtain ⟨hg5, h0⟩ := grdS h0
        refine ⟨inr_of hO hg5, ?_⟩
        obtain ⟨x191, h1, h0⟩ := bindS h0
        refine ⟨nz_of hO hg4, ?_⟩
        rcases condS h1 with ⟨hc6, h1⟩ | ⟨hc6, h1⟩
        · rw [hc6]
          cbv
          cases h1
          try dsimp only at h0
          obtain ⟨⟨q5, r4⟩, h1, h0⟩ := bindS h0
          rcases condS h1 with ⟨hc7, h1⟩ | ⟨hc7, h1⟩
          · rw [hc7]
            cbv
            obtain ⟨hg8, h1⟩ := grdS h1
            refine ⟨inr_of hO hg8, ?_⟩
            obtain ⟨hg9, h1⟩ := grdS h1
            refine ⟨inr_of hO hg9, ?_⟩
            cases h1
            try dsimp only at h0
            cases h0
            exact fin_ok hX rfl ⟨[], _, _, ⟨rfl, rfl⟩, rfl, rfl, rfl, rfl, by cbv; try simp⟩
          · rw [hc7]
            cbv
            cases h1
            try dsimp only at h0
            cases h0
            exact fin_ok hX rfl ⟨[], _, _, ⟨rfl, rfl⟩, rfl, rfl, rfl, rfl, by cbv; try simp⟩
        · rw [hc6]
          cbv
          cases h1
          try dsimp only at h0
          obtain ⟨⟨q5, r4⟩, h1, h0⟩ := bindS h0
          replace h1 := condF h1 rfl
          cases h1
          try dsimp only at h0
          cases h0
          exact fin_ok hX rfl ⟨[], _, _, ⟨rfl, rfl⟩, rfl, rfl, rfl, rfl, by cbv; try simp⟩
    · as_aux_lemma =>
      rw [hc2]
      cbv
      cases h1
      try dsimp only at h0
      replace h0 := condF h0 rfl
      obtain ⟨hg10, h0⟩ := grdS h0
      refine ⟨nz_of hO hg10, ?_⟩
      obtain ⟨hg11, h0⟩ := grdS h0
      refine ⟨inr_of hO hg11, ?_⟩
      obtain ⟨x191, h1, h0⟩ := bindS h0
      refine ⟨nz_of hO hg10, ?_⟩
      rcases condS h1 with ⟨hc12, h1⟩ | ⟨hc12, h1⟩
      · rw [hc12]
        cbv
        cases h1
        try dsimp only at h0
        obtain ⟨⟨q5, r4⟩, h1, h0⟩ := bindS h0
        rcases condS h1 with ⟨hc13, h1⟩ | ⟨hc13, h1⟩
        · rw [hc13]
          cbv
          obtain ⟨hg14, h1⟩ := grdS h1
          refine ⟨inr_of hO hg14, ?_⟩
          obtain ⟨hg15, h1⟩ := grdS h1
          refine ⟨inr_of hO hg15, ?_⟩
          cases h1
          try dsimp only at h0
          cases h0
          exact fin_ok hX rfl ⟨[], _, _, ⟨rfl, rfl⟩, rfl, rfl, rfl, rfl, by cbv; try simp⟩
        · rw [hc13]
          cbv
          cases h1
          try dsimp only at h0
          cases h0
          exact fin_ok hX rfl ⟨[], _, _, ⟨rfl, rfl⟩, rfl, rfl, rfl, rfl, by cbv; try simp⟩
      · rw [hc12]
        cbv
        cases h1
        try dsimp only at h0
        obtain ⟨⟨q5, r4⟩, h1, h0⟩ := bindS h0
        replace h1 := condF h1 rfl
        cases h1
        try dsimp only at h0
        cases h0
        exact fin_ok hX rfl ⟨[], _, _, ⟨rfl, rfl⟩, rfl, rfl, rfl, rfl, by cbv; try simp⟩
set_option maxHeartbeats 40000000 in
theorem fn_ref01_Floor {O0 : Ops} (hO0 : O0 = std) {a_1 : Int} {b_1 : Int} {r1 : Int} (h : m_ref01_Floor O0 a_1 b_1 = some r1) :
    Fn Try.prog 62 [.c (.int .i64 a_1), .c (.int .i64 b_1)] [] (fun v c => v = .c (.int .i64 r1) ∧ c = []) := by
  refine fn_run tab_holds eqs_holds mixed [] Try.func62 (by kernel_rfl) (by kernel_rfl) (Nat.le_of_ble_eq_true rfl) ?_
  intro O X hO hX
  rw [hO0, ← hO] at h
  unfold m_ref01_Floor at h
  have h0 := h; clear h
  cbv
  obtain ⟨⟨n95, n96, n97⟩, hv, h0⟩ := bindS h0
  try dsimp only at h0
  refine call_is hO hX (fn_ref01_Div hO hv) (by kernel_rfl) [] rfl trivial rfl ?_
  cbv
  cases h0
  exact fin_ok hX rfl ⟨[], _, _, ⟨rfl, rfl⟩, rfl, rfl, rfl, rfl, by cbv; try simp⟩
end Go.Proofs.Ytebkfbkgmbgobaa
