/-
  The code does what its models say (printed by lift.py).
-/
import Derived.Test.YtlpbdikmhngmfaaQM
import Derived.Test.YtlpbdikmhngmfaaManWC
import Derived.Test.YtlpbdikmhngmfaaQW1
import Derived.Test.YtlpbdikmhngmfaaQW3
import Derived.Test.YtlpbdikmhngmfaaQW5
import Derived.Test.YtlpbdikmhngmfaaQW16
import Derived.Test.YtlpbdikmhngmfaaQW17
namespace Go.Proofs.Ytlpbdikmhngmfaa
open Go.RowKit
set_option maxRecDepth 100000

set_option maxHeartbeats 40000000 in
theorem fn_law13_PeriodicRepeats {O0 : Ops} (hO0 : O0 = std) {p_1 : Int} {k_1 : Int} {p_2 : List (Int × Int)} {shifts_1 : List Int} {r1 : Bool} (h : m_law13_PeriodicRepeats O0 p_1 k_1 p_2 shifts_1 = some r1) :
    Fn Try.prog 3 [.agg [.int .i64 p_1, .sl 0], .c (.int .u8 k_1), .c (.sl 1)] [.arr false .i2 p_2, .arr false .c1 shifts_1] (fun v c => v = .c (.bool r1) ∧ c = []) := by
  refine fn_run tab_holds eqs_holds mixed [(15, (.seg 1 [0, 1, 2, 3, 4, 5, 6, 7, 8, 9, 10, 11, 12] .fin), [])] Try.func3 (by kernel_rfl) (by kernel_rfl) (Nat.le_of_ble_eq_true rfl) ?_
  intro O X hO hX
  rw [hO0, ← hO] at h
  unfold m_law13_PeriodicRepeats at h
  have h0 := h; clear h
  cbv
  obtain ⟨x319, h1, h0⟩ := bindS h0
  obtain ⟨b86, hv, h1⟩ := bindS h1
  refine call_is hO hX (fn_law13_awake hO hv) (by kernel_rfl) [] rfl trivial rfl ?_
  cbv
  rcases condS h1 with ⟨hc1, h1⟩ | ⟨hc1, h1⟩
  · rw [hc1]
    cbv
    cases h1
    try dsimp only at h0
    replace h0 := condT h0 rfl
    obtain ⟨b89, hv, h0⟩ := bindS h0
    refine call_is hO hX (fn_law13_awake hO hv) (by kernel_rfl) [] rfl trivial rfl ?_
    cbv
    cases h0
    exact fin_ok hX rfl ⟨[], _, _, ⟨rfl, rfl⟩, rfl, rfl, rfl, rfl, by cbv; try simp⟩
  · as_aux_lemma =>
    rw [hc1]
    cbv
    obtain ⟨b87, hv, h1⟩ := bindS h1
    refine call_is hO hX (fn_law13_long hO hv) (by kernel_rfl) [0] rfl ⟨rfl, rfl, trivial⟩ rfl ?_
    cbv
    rcases condS h1 with ⟨hc2, h1⟩ | ⟨hc2, h1⟩
    · rw [hc2]
      cbv
      cases h1
      try dsimp only at h0
      replace h0 := condT h0 rfl
      obtain ⟨b89, hv, h0⟩ := bindS h0
      refine call_is hO hX (fn_law13_awake hO hv) (by kernel_rfl) [] rfl trivial rfl ?_
      cbv
      cases h0
      exact fin_ok hX rfl ⟨[], _, _, ⟨rfl, rfl⟩, rfl, rfl, rfl, rfl, by cbv; try simp⟩
    · as_aux_lemma =>
      rw [hc2]
      cbv
      obtain ⟨b88, hv, h1⟩ := bindS h1
      refine call_is hO hX (fn_periodic_Valid hO hv) (by kernel_rfl) [0] rfl ⟨rfl, rfl, trivial⟩ rfl ?_
      cbv
      rcases condS h1 with ⟨hc3, h1⟩ | ⟨hc3, h1⟩
      · rw [hc3]
        cbv
        cases h1
        try dsimp only at h0
        replace h0 := condT h0 rfl
        obtain ⟨b89, hv, h0⟩ := bindS h0
        refine call_is hO hX (fn_law13_awake hO hv) (by kernel_rfl) [] rfl trivial rfl ?_
        cbv
        cases h0
        exact fin_ok hX rfl ⟨[], _, _, ⟨rfl, rfl⟩, rfl, rfl, rfl, rfl, by cbv; try simp⟩
      · as_aux_lemma =>
        rw [hc3]
        cbv
        cases h1
        try dsimp only at h0
        rcases condS h0 with ⟨hc4, h0⟩ | ⟨hc4, h0⟩
        · rw [hc4]
          cbv
          obtain ⟨b89, hv, h0⟩ := bindS h0
          refine call_is hO hX (fn_law13_awake hO hv) (by kernel_rfl) [] rfl trivial rfl ?_
          cbv
          cases h0
          exact fin_ok hX rfl ⟨[], _, _, ⟨rfl, rfl⟩, rfl, rfl, rfl, rfl, by cbv; try simp⟩
        · as_aux_lemma =>
          rw [hc4]
          cbv
          obtain ⟨hg5, h0⟩ := grdS h0
          refine ⟨inr_of hO hg5, ?_⟩
          obtain ⟨hg6, h0⟩ := grdS h0
          refine ⟨nz_of hO hg6, ?_⟩
          obtain ⟨hg7, h0⟩ := grdS h0
          refine ⟨inr_of hO hg7, ?_⟩
          obtain ⟨x321, h1, h0⟩ := bindS h0
          rcases condS h1 with ⟨hc8, h1⟩ | ⟨hc8, h1⟩
          · rw [hc8]
            cbv
            obtain ⟨hg9, h1⟩ := grdS h1
            refine ⟨inr_of hO hg9, ?_⟩
            cases h1
            try dsimp only at h0
            replace h0 := condT h0 rfl
            cases h0
            exact fin_ok hX rfl ⟨[], _, _, ⟨rfl, rfl⟩, rfl, rfl, rfl, rfl, by cbv; try simp⟩
          · as_aux_lemma =>
            rw [hc8]
            cbv
            obtain ⟨hg10, h1⟩ := grdS h1
            refine ⟨inr_of hO hg10, ?_⟩
            obtain ⟨hg11, h1⟩ := grdS h1
            refine ⟨inr_of hO hg11, ?_⟩
            cases h1
            try dsimp only at h0
            rcases condS h0 with ⟨hc12, h0⟩ | ⟨hc12, h0⟩
            · rw [hc12]
              cbv
              cases h0
              exact fin_ok hX rfl ⟨[], _, _, ⟨rfl, rfl⟩, rfl, rfl, rfl, rfl, by cbv; try simp⟩
            · as_aux_lemma =>
              rw [hc12]
              cbv
              obtain ⟨hg13, h0⟩ := grdS h0
              refine ⟨inr_of hO hg13, ?_⟩
              obtain ⟨e1, hi, h0⟩ := bindS h0
              obtain ⟨I2, hI2, hi⟩ := loopS hi
              refine loop1 tab_holds eqs_holds mixed [(15, (.seg 1 [0, 1, 2, 3, 4, 5, 6, 7, 8, 9, 10, 11, 12] .fin), [])] hO hX I2 (fun y => [(27, .junk), (37, .junk), (43, .junk), (8, .c (.sl 3)), (9, .c (.int .i64 y.2.1))]) (fun y => [(3, .own 29 .i2 y.2.2)]) (fun y => y.1) _ (by kernel_rfl) hi (by cbv; try simp) ?_
              refine allp ?_
              intro n2
              refine allp ?_
              intro i54
              intro l196 hi
              cbv
              rw [hI2] at hi
              obtain ⟨n2, rfl, x2, h1, hi2⟩ := iterS hi
              unfold m_law13_PeriodicRepeats_L2 at h1
              try dsimp only at h1
              rcases condS h1 with ⟨hc14, h1⟩ | ⟨hc14, h1⟩
              · as_aux_lemma =>
                rw [hc14]
                cbv
                obtain ⟨e2, hi, h1⟩ := bindS h1
                obtain ⟨I1, hI1, hi⟩ := loopS hi
                refine loop1 tab_holds eqs_holds mixed [(15, (.seg 1 [0, 1, 2, 3, 4, 5, 6, 7, 8, 9, 10, 11, 12] .fin), [])] hO hX I1 (fun y => [(55, .junk), (8, .c (.sl 3)), (58, .c (.int .i64 y.2.1))]) (fun y => [(3, .own 29 .i2 y.2.2)]) (fun y => y.1) _ (by kernel_rfl) hi (by cbv; try simp) ?_
                refine allp ?_
                intro n1
                refine allp ?_
                intro x333
                intro l197 hi
                cbv
                rw [hI1] at hi
                obtain ⟨n1, rfl, x1, h2, hi1⟩ := iterS hi
                unfold m_law13_PeriodicRepeats_L1 at h2
                try dsimp only at h2
                rcases condS h2 with ⟨hc15, h2⟩ | ⟨hc15, h2⟩
                · as_aux_lemma =>
                  rw [hc15]
                  cbv
                  obtain ⟨hg16, h2⟩ := grdS h2
                  refine ⟨idx_of hO hg16, ?_⟩
                  obtain ⟨hg17, h2⟩ := grdS h2
                  refine ⟨kin_of hO hg17, ?_⟩
                  obtain ⟨hg18, h2⟩ := grdS h2
                  refine ⟨inr_of hO hg18, ?_⟩
                  obtain ⟨at28, h3, h2⟩ := bindS h2
                  rcases condS h3 with ⟨hc19, h3⟩ | ⟨hc19, h3⟩
                  · as_aux_lemma =>
                    rw [hc19]
                    cbv
                    obtain ⟨hg20, h3⟩ := grdS h3
                    refine ⟨idx_of hO hg20, ?_⟩
                    obtain ⟨hg21, h3⟩ := grdS h3
                    refine ⟨kin_of hO hg21, ?_⟩
                    obtain ⟨hg22, h3⟩ := grdS h3
                    refine ⟨inr_of hO hg22, ?_⟩
                    obtain ⟨hg23, h3⟩ := grdS h3
                    refine ⟨inr_of hO hg23, ?_⟩
                    obtain ⟨hg24, h3⟩ := grdS h3
                    refine ⟨inr_of hO hg24, ?_⟩
                    obtain ⟨hg25, h3⟩ := grdS h3
                    refine ⟨inr_of hO hg25, ?_⟩
                    cases h3
                    try dsimp only at h2
                    obtain ⟨x335, h3, h2⟩ := bindS h2
                    obtain ⟨hg26, h3⟩ := grdS h3
                    refine ⟨inr_of hO hg26, ?_⟩
                    obtain ⟨b96, hv, h3⟩ := bindS h3
                    refine call_is hO hX (fn_law13_line hO hv) (by kernel_rfl) [] rfl trivial rfl ?_
                    cbv
                    rcases condS h3 with ⟨hc27, h3⟩ | ⟨hc27, h3⟩
                    · rw [hc27]
                      cbv
                      cases h3
                      try dsimp only at h2
                      replace h2 := condT h2 rfl
                      cases h2
                      cases exitI hi1
                      try dsimp only at h1
                      cases h1
                      cases exitI hi2
                      try dsimp only at h0
                      cases h0
                      exact fin_ok hX rfl ⟨[], _, _, ⟨rfl, rfl⟩, rfl, rfl, rfl, rfl, by cbv; try simp⟩
                    · rw [hc27]
                      cbv
                      obtain ⟨hg28, h3⟩ := grdS h3
                      refine ⟨inr_of hO hg28, ?_⟩
                      obtain ⟨b97, hv, h3⟩ := bindS h3
                      refine call_is hO hX (fn_law13_line hO hv) (by kernel_rfl) [] rfl trivial rfl ?_
                      cbv
                      cases h3
                      try dsimp only at h2
                      rcases condS h2 with ⟨hc29, h2⟩ | ⟨hc29, h2⟩
                      · rw [hc29]
                        cbv
                        cases h2
                        cases exitI hi1
                        try dsimp only at h1
                        cases h1
                        cases exitI hi2
                        try dsimp only at h0
                        cases h0
                        exact fin_ok hX rfl ⟨[], _, _, ⟨rfl, rfl⟩, rfl, rfl, rfl, rfl, by cbv; try simp⟩
                      · rw [hc29]
                        cbv
                        refine ⟨inr_of hO hg26, ?_⟩
                        obtain ⟨hg30, h2⟩ := grdS h2
                        refine ⟨inr_of hO hg30, ?_⟩
                        obtain ⟨hg31, h2⟩ := grdS h2
                        refine ⟨room_of hO hg31, ?_⟩
                        obtain ⟨hg32, h2⟩ := grdS h2
                        refine ⟨room_of hO hg32, ?_⟩
                        obtain ⟨hg33, h2⟩ := grdS h2
                        refine ⟨inr_of hO hg33, ?_⟩
                        cases h2
                        exact ⟨_, [0, 1, 2, 6], nextI hI1 hi1, by cbv; try simp, by first | exact Nat.lt_succ_self _ | omega⟩
                  · as_aux_lemma =>
                    rw [hc19]
                    cbv
                    cases h3
                    try dsimp only at h2
                    obtain ⟨x335, h3, h2⟩ := bindS h2
                    obtain ⟨hg34, h3⟩ := grdS h3
                    refine ⟨inr_of hO hg34, ?_⟩
                    obtain ⟨b96, hv, h3⟩ := bindS h3
                    refine call_is hO hX (fn_law13_line hO hv) (by kernel_rfl) [] rfl trivial rfl ?_
                    cbv
                    rcases condS h3 with ⟨hc35, h3⟩ | ⟨hc35, h3⟩
                    · rw [hc35]
                      cbv
                      cases h3
                      try dsimp only at h2
                      replace h2 := condT h2 rfl
                      cases h2
                      cases exitI hi1
                      try dsimp only at h1
                      cases h1
                      cases exitI hi2
                      try dsimp only at h0
                      cases h0
                      exact fin_ok hX rfl ⟨[], _, _, ⟨rfl, rfl⟩, rfl, rfl, rfl, rfl, by cbv; try simp⟩
                    · rw [hc35]
                      cbv
                      obtain ⟨hg36, h3⟩ := grdS h3
                      refine ⟨inr_of hO hg36, ?_⟩
                      obtain ⟨b97, hv, h3⟩ := bindS h3
                      refine call_is hO hX (fn_law13_line hO hv) (by kernel_rfl) [] rfl trivial rfl ?_
                      cbv
                      cases h3
                      try dsimp only at h2
                      rcases condS h2 with ⟨hc37, h2⟩ | ⟨hc37, h2⟩
                      · rw [hc37]
                        cbv
                        cases h2
                        cases exitI hi1
                        try dsimp only at h1
                        cases h1
                        cases exitI hi2
                        try dsimp only at h0
                        cases h0
                        exact fin_ok hX rfl ⟨[], _, _, ⟨rfl, rfl⟩, rfl, rfl, rfl, rfl, by cbv; try simp⟩
                      · rw [hc37]
                        cbv
                        refine ⟨inr_of hO hg34, ?_⟩
                        obtain ⟨hg38, h2⟩ := grdS h2
                        refine ⟨inr_of hO hg38, ?_⟩
                        obtain ⟨hg39, h2⟩ := grdS h2
                        refine ⟨room_of hO hg39, ?_⟩
                        obtain ⟨hg40, h2⟩ := grdS h2
                        refine ⟨room_of hO hg40, ?_⟩
                        obtain ⟨hg41, h2⟩ := grdS h2
                        refine ⟨inr_of hO hg41, ?_⟩
                        cases h2
                        exact ⟨_, [0, 1, 2, 6], nextI hI1 hi1, by cbv; try simp, by first | exact Nat.lt_succ_self _ | omega⟩
                · rw [hc15]
                  cbv
                  cases h2
                  cases exitI hi1
                  try dsimp only at h1
                  obtain ⟨hg42, h1⟩ := grdS h1
                  refine ⟨inr_of hO hg42, ?_⟩
                  cases h1
                  exact ⟨_, [0, 1, 2, 3], nextI hI2 hi2, by cbv; try simp, by first | exact Nat.lt_succ_self _ | omega⟩
              · rw [hc14]
                cbv
                cases h1
                cases exitI hi2
                try dsimp only at h0
                refine ⟨inr_of hO hg10, ?_⟩
                obtain ⟨⟨n118, l200, n119⟩, hv, h0⟩ := bindS h0
                try dsimp only at h0
                refine call_is hO hX (fn_periodic_Of hO hv) (by kernel_rfl) [3] rfl ⟨rfl, rfl, trivial⟩ rfl ?_
                cbv
                obtain ⟨x344, h1, h0⟩ := bindS h0
                rcases condS h1 with ⟨hc43, h1⟩ | ⟨hc43, h1⟩
                · rw [hc43]
                  cbv
                  obtain ⟨b104, hv, h1⟩ := bindS h1
                  refine call_is hO hX (fn_periodic_Equal hO hv) (by kernel_rfl) [0, 4] rfl ⟨rfl, rfl, rfl, rfl, trivial⟩ rfl ?_
                  cbv
                  cases h1
                  try dsimp only at h0
                  cases h0
                  exact fin_ok hX rfl ⟨[], _, _, ⟨rfl, rfl⟩, rfl, rfl, rfl, rfl, by cbv; try simp⟩
                · rw [hc43]
                  cbv
                  cases h1
                  try dsimp only at h0
                  cases h0
                  exact fin_ok hX rfl ⟨[], _, _, ⟨rfl, rfl⟩, rfl, rfl, rfl, rfl, by cbv; try simp⟩
end Go.Proofs.Ytlpbdikmhngmfaa
