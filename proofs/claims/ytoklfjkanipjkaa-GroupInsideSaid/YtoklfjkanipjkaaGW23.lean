/-
  The code does what its models say (printed by lift.py).
-/
import Derived.Test.YtoklfjkanipjkaaGM
import Derived.Test.YtoklfjkanipjkaaManW
import Derived.Test.YtoklfjkanipjkaaGW8
import Derived.Test.YtoklfjkanipjkaaGW22
namespace Go.Proofs.Ytoklfjkanipjkaa
open Go.RowKit
set_option maxRecDepth 100000

set_option maxHeartbeats 4000000 in
theorem fn_ref16_Inside {O0 : Ops} (hO0 : O0 = std) {c_1 : Int} {c_2 : Int} {in_1 : Int} {in_2 : Int} {number_1 : Int} {c_3 : List (Int × Int)} {in_3 : List (Int × Int)} {r1 : Int} {r2 : Int} {r3 : List (Int × Int)} {r4 : Int} (h : m_ref16_Inside O0 c_1 c_2 in_1 in_2 number_1 c_3 in_3 = some (r1, r2, r3, r4)) :
    Fn Try.prog 35 [.agg [.int .i64 c_1, .int .i64 c_2, .sl 0], .agg [.int .i64 in_1, .int .i64 in_2, .sl 1], .c (.int .i64 number_1)] [.arr false .i2 c_3, .arr false .i2 in_3] (fun v c => v = .tup [.many [.int .i64 r1, .int .i64 r2, .sl 2], .one (.int .i64 r4)] ∧ c = [.arr true .i2 r3]) := by
  refine fn_run tab_holds eqs_holds mixed [(6, (.seg 1 [0, 1, 2, 3, 4, 5, 6, 7, 8, 9, 10, 11, 12, 13, 14, 15, 16, 17, 18, 19] .fin), []), (10, (.seg 1 [0, 1, 2, 3, 4, 5, 6, 7, 8, 9] .fin), []), (12, (.seg 1 [0, 1, 2] (.seg 2 [3] (.seg 2 [4] (.seg 1 [5] .fin)))), [])] Try.func35 (by kernel_rfl) (by kernel_rfl) (Nat.le_of_ble_eq_true rfl) ?_
  intro O X hO hX
  rw [hO0, ← hO] at h
  unfold m_ref16_Inside at h
  have h0 := h; clear h
  cbv
  rcases condS h0 with ⟨hc0, h0⟩ | ⟨hc0, h0⟩
  · rw [hc0]
    cbv
    cases h0
    refine fin_nil hX .i2 5 rfl ?_
    cbv
    exact fin_ok hX rfl ⟨[5], _, _, ⟨rfl, rfl⟩, rfl, rfl, rfl, rfl, by cbv; try simp⟩
  · rw [hc0]
    cbv
    obtain ⟨⟨n268, n269⟩, hv, h0⟩ := bindS h0
    try dsimp only at h0
    refine call_go hO hX (fn_ref16_common hO hv) (by kernel_rfl) [] rfl trivial rfl ?_
    rintro _ _ ⟨rfl, rfl⟩
    cbv
    rcases condS h0 with ⟨hc1, h0⟩ | ⟨hc1, h0⟩
    · rw [hc1]
      cbv
      cases h0
      refine fin_nil hX .i2 5 rfl ?_
      cbv
      exact fin_ok hX rfl ⟨[5], _, _, ⟨rfl, rfl⟩, rfl, rfl, rfl, rfl, by cbv; try simp⟩
    · rw [hc1]
      cbv
      obtain ⟨x199, h1, h0⟩ := bindS h0
      rcases condS h1 with ⟨hc2, h1⟩ | ⟨hc2, h1⟩
      · rw [hc2]
        cbv
        obtain ⟨hg3, h1⟩ := grdS h1
        refine ⟨nz_of hO hg3, ?_⟩
        obtain ⟨hg4, h1⟩ := grdS h1
        refine ⟨inr_of hO hg4, ?_⟩
        obtain ⟨hg5, h1⟩ := grdS h1
        refine ⟨inr_of hO hg5, ?_⟩
        cases h1
        try dsimp only at h0
        replace h0 := condT h0 rfl
        cases h0
        refine fin_nil hX .i2 5 rfl ?_
        cbv
        exact fin_ok hX rfl ⟨[5], _, _, ⟨rfl, rfl⟩, rfl, rfl, rfl, rfl, by cbv; try simp⟩
      · rw [hc2]
        cbv
        obtain ⟨hg3, h1⟩ := grdS h1
        refine ⟨nz_of hO hg3, ?_⟩
        obtain ⟨hg4, h1⟩ := grdS h1
        refine ⟨inr_of hO hg4, ?_⟩
        obtain ⟨hg5, h1⟩ := grdS h1
        refine ⟨inr_of hO hg5, ?_⟩
        obtain ⟨hg6, h1⟩ := grdS h1
        refine ⟨nz_of hO hg6, ?_⟩
        obtain ⟨hg7, h1⟩ := grdS h1
        refine ⟨inr_of hO hg7, ?_⟩
        obtain ⟨hg8, h1⟩ := grdS h1
        refine ⟨inr_of hO hg8, ?_⟩
        cases h1
        try dsimp only at h0
        rcases condS h0 with ⟨hc9, h0⟩ | ⟨hc9, h0⟩
        · rw [hc9]
          cbv
          cases h0
          refine fin_nil hX .i2 5 rfl ?_
          cbv
          exact fin_ok hX rfl ⟨[5], _, _, ⟨rfl, rfl⟩, rfl, rfl, rfl, rfl, by cbv; try simp⟩
        · rw [hc9]
          cbv
          obtain ⟨l125, hi, h0⟩ := bindS h0
          obtain ⟨I1, hI1, hi⟩ := loopS hi
          refine loop1 tab_holds eqs_holds mixed [(6, (.seg 1 [0, 1, 2, 3, 4, 5, 6, 7, 8, 9, 10, 11, 12, 13, 14, 15, 16, 17, 18, 19] .fin), []), (10, (.seg 1 [0, 1, 2, 3, 4, 5, 6, 7, 8, 9] .fin), []), (12, (.seg 1 [0, 1, 2] (.seg 2 [3] (.seg 2 [4] (.seg 1 [5] .fin)))), [])] hO hX I1 (fun y => [(17, .junk), (19, .junk), (28, .junk), (32, .junk), (38, .junk), (42, .junk), (10, .c (.sl 5)), (11, .c (.int .i64 y.2.1))]) (fun y => [(5, .own 49 .i2 y.2.2)]) (fun y => y.1) _ (by kernel_rfl) hi (by cbv; try simp) ?_
          rintro ⟨n1, k8, l119⟩ hi
          cbv
          rw [hI1] at hi
          obtain ⟨n1, rfl, x1, h1, hi1⟩ := iterS hi
          unfold m_ref16_Inside_L1 at h1
          try dsimp only at h1
          obtain ⟨hg10, h1⟩ := grdS h1
          refine ⟨nz_of hO hg10, ?_⟩
          obtain ⟨hg10, h1⟩ := grdS h1
          refine ⟨inr_of hO hg10, ?_⟩
          obtain ⟨hg10, h1⟩ := grdS h1
          refine ⟨inr_of hO hg10, ?_⟩
          rcases condS h1 with ⟨hc10, h1⟩ | ⟨hc10, h1⟩
          · rw [hc10]
            cbv
            obtain ⟨⟨n281, n282⟩, hv, h1⟩ := bindS h1
            try dsimp only at h1
            refine call_go hO hX (fn_ref16_Granule hO hv) (by kernel_rfl) [1] rfl ⟨rfl, rfl, trivial⟩ rfl ?_
            rintro _ _ ⟨rfl, rfl⟩
            cbv
            obtain ⟨l120, hv, h1⟩ := bindS h1
            refine call_go hO hX (fn_ref16_within hO hv) (by kernel_rfl) [0] rfl ⟨rfl, rfl, trivial⟩ rfl ?_
            rintro _ _ ⟨rfl, rfl⟩
            cbv
            obtain ⟨x209, h2, h1⟩ := bindS h1
            rcases condS h2 with ⟨hc11, h2⟩ | ⟨hc11, h2⟩
            · rw [hc11]
              cbv
              cases h2
              try dsimp only at h1
              obtain ⟨l122, h2, h1⟩ := bindS h1
              rcases condS h2 with ⟨hc12, h2⟩ | ⟨hc12, h2⟩
              · rw [hc12]
                cbv
                obtain ⟨hg13, h2⟩ := grdS h2
                refine ⟨inr_of hO hg13, ?_⟩
                obtain ⟨hg14, h2⟩ := grdS h2
                refine ⟨idx_of hO hg14, ?_⟩
                obtain ⟨hg15, h2⟩ := grdS h2
                refine ⟨kin_of hO hg15, ?_⟩
                obtain ⟨hg16, h2⟩ := grdS h2
                refine ⟨room_of hO hg16, ?_⟩
                obtain ⟨hg17, h2⟩ := grdS h2
                refine ⟨room_of hO hg17, ?_⟩
                cases h2
                try dsimp only at h1
                obtain ⟨x211, h2, h1⟩ := bindS h1
                rcases condS h2 with ⟨hc18, h2⟩ | ⟨hc18, h2⟩
                · rw [hc18]
                  cbv
                  obtain ⟨hg19, h2⟩ := grdS h2
                  refine ⟨inr_of hO hg19, ?_⟩
                  cases h2
                  try dsimp only at h1
                  obtain ⟨l124, h2, h1⟩ := bindS h1
                  rcases condS h2 with ⟨hc20, h2⟩ | ⟨hc20, h2⟩
                  · rw [hc20]
                    cbv
                    obtain ⟨hg21, h2⟩ := grdS h2
                    refine ⟨inr_of hO hg21, ?_⟩
                    obtain ⟨hg22, h2⟩ := grdS h2
                    refine ⟨idx_of hO hg22, ?_⟩
                    obtain ⟨hg23, h2⟩ := grdS h2
                    refine ⟨kin_of hO hg23, ?_⟩
                    obtain ⟨hg24, h2⟩ := grdS h2
                    refine ⟨room_of hO hg24, ?_⟩
                    obtain ⟨hg25, h2⟩ := grdS h2
                    refine ⟨room_of hO hg25, ?_⟩
                    cases h2
                    try dsimp only at h1
                    obtain ⟨hg26, h1⟩ := grdS h1
                    refine ⟨inr_of hO hg26, ?_⟩
                    cases h1
                    exact ⟨_, [0, 1, 2, 3, 4, 10], nextI hI1 hi1, by cbv; try simp, by first | exact Nat.lt_succ_self _ | omega⟩
                  · rw [hc20]
                    cbv
                    cases h2
                    try dsimp only at h1
                    obtain ⟨hg21, h1⟩ := grdS h1
                    refine ⟨inr_of hO hg21, ?_⟩
                    cases h1
                    exact ⟨_, [0, 1, 2, 3, 4, 8], nextI hI1 hi1, by cbv; try simp, by first | exact Nat.lt_succ_self _ | omega⟩
                · rw [hc18]
                  cbv
                  cases h2
                  try dsimp only at h1
                  obtain ⟨l124, h2, h1⟩ := bindS h1
                  replace h2 := condF h2 rfl
                  cases h2
                  try dsimp only at h1
                  obtain ⟨hg19, h1⟩ := grdS h1
                  refine ⟨inr_of hO hg19, ?_⟩
                  cases h1
                  exact ⟨_, [0, 1, 2, 3, 4, 8], nextI hI1 hi1, by cbv; try simp, by first | exact Nat.lt_succ_self _ | omega⟩
              · rw [hc12]
                cbv
                cases h2
                try dsimp only at h1
                obtain ⟨x211, h2, h1⟩ := bindS h1
                rcases condS h2 with ⟨hc13, h2⟩ | ⟨hc13, h2⟩
                · rw [hc13]
                  cbv
                  obtain ⟨hg14, h2⟩ := grdS h2
                  refine ⟨inr_of hO hg14, ?_⟩
                  cases h2
                  try dsimp only at h1
                  obtain ⟨l124, h2, h1⟩ := bindS h1
                  rcases condS h2 with ⟨hc15, h2⟩ | ⟨hc15, h2⟩
                  · rw [hc15]
                    cbv
                    obtain ⟨hg16, h2⟩ := grdS h2
                    refine ⟨inr_of hO hg16, ?_⟩
                    obtain ⟨hg17, h2⟩ := grdS h2
                    refine ⟨idx_of hO hg17, ?_⟩
                    obtain ⟨hg18, h2⟩ := grdS h2
                    refine ⟨kin_of hO hg18, ?_⟩
                    obtain ⟨hg19, h2⟩ := grdS h2
                    refine ⟨room_of hO hg19, ?_⟩
                    obtain ⟨hg20, h2⟩ := grdS h2
                    refine ⟨room_of hO hg20, ?_⟩
                    cases h2
                    try dsimp only at h1
                    obtain ⟨hg21, h1⟩ := grdS h1
                    refine ⟨inr_of hO hg21, ?_⟩
                    cases h1
                    exact ⟨_, [0, 1, 2, 3, 4, 8], nextI hI1 hi1, by cbv; try simp, by first | exact Nat.lt_succ_self _ | omega⟩
                  · rw [hc15]
                    cbv
                    cases h2
                    try dsimp only at h1
                    obtain ⟨hg16, h1⟩ := grdS h1
                    refine ⟨inr_of hO hg16, ?_⟩
                    cases h1
                    exact ⟨_, [0, 1, 2, 3, 4, 5], nextI hI1 hi1, by cbv; try simp, by first | exact Nat.lt_succ_self _ | omega⟩
                · rw [hc13]
                  cbv
                  cases h2
                  try dsimp only at h1
                  obtain ⟨l124, h2, h1⟩ := bindS h1
                  replace h2 := condF h2 rfl
                  cases h2
                  try dsimp only at h1
                  obtain ⟨hg14, h1⟩ := grdS h1
                  refine ⟨inr_of hO hg14, ?_⟩
                  cases h1
                  exact ⟨_, [0, 1, 2, 3, 4, 5], nextI hI1 hi1, by cbv; try simp, by first | exact Nat.lt_succ_self _ | omega⟩
            · rw [hc11]
              cbv
              cases h2
              try dsimp only at h1
              obtain ⟨l122, h2, h1⟩ := bindS h1
              replace h2 := condF h2 rfl
              cases h2
              try dsimp only at h1
              obtain ⟨x211, h2, h1⟩ := bindS h1
              rcases condS h2 with ⟨hc12, h2⟩ | ⟨hc12, h2⟩
              · rw [hc12]
                cbv
                obtain ⟨hg13, h2⟩ := grdS h2
                refine ⟨inr_of hO hg13, ?_⟩
                cases h2
                try dsimp only at h1
                obtain ⟨l124, h2, h1⟩ := bindS h1
                rcases condS h2 with ⟨hc14, h2⟩ | ⟨hc14, h2⟩
                · rw [hc14]
                  cbv
                  obtain ⟨hg15, h2⟩ := grdS h2
                  refine ⟨inr_of hO hg15, ?_⟩
                  obtain ⟨hg16, h2⟩ := grdS h2
                  refine ⟨idx_of hO hg16, ?_⟩
                  obtain ⟨hg17, h2⟩ := grdS h2
                  refine ⟨kin_of hO hg17, ?_⟩
                  obtain ⟨hg18, h2⟩ := grdS h2
                  refine ⟨room_of hO hg18, ?_⟩
                  obtain ⟨hg19, h2⟩ := grdS h2
                  refine ⟨room_of hO hg19, ?_⟩
                  cases h2
                  try dsimp only at h1
                  obtain ⟨hg20, h1⟩ := grdS h1
                  refine ⟨inr_of hO hg20, ?_⟩
                  cases h1
                  exact ⟨_, [0, 1, 2, 3, 4, 8], nextI hI1 hi1, by cbv; try simp, by first | exact Nat.lt_succ_self _ | omega⟩
                · rw [hc14]
                  cbv
                  cases h2
                  try dsimp only at h1
                  obtain ⟨hg15, h1⟩ := grdS h1
                  refine ⟨inr_of hO hg15, ?_⟩
                  cases h1
                  exact ⟨_, [0, 1, 2, 3, 4, 5], nextI hI1 hi1, by cbv; try simp, by first | exact Nat.lt_succ_self _ | omega⟩
              · rw [hc12]
                cbv
                cases h2
                try dsimp only at h1
                obtain ⟨l124, h2, h1⟩ := bindS h1
                replace h2 := condF h2 rfl
                cases h2
                try dsimp only at h1
                obtain ⟨hg13, h1⟩ := grdS h1
                refine ⟨inr_of hO hg13, ?_⟩
                cases h1
                exact ⟨_, [0, 1, 2, 3, 4, 5], nextI hI1 hi1, by cbv; try simp, by first | exact Nat.lt_succ_self _ | omega⟩
          · rw [hc10]
            cbv
            cases h1
            cases exitI hi1
            try dsimp only at h0
            rcases condS h0 with ⟨hc11, h0⟩ | ⟨hc11, h0⟩
            · rw [hc11]
              cbv
              cases h0
              refine fin_nil hX .i2 6 rfl ?_
              cbv
              exact fin_ok hX rfl ⟨[6], _, _, ⟨rfl, rfl⟩, rfl, rfl, rfl, rfl, by cbv; try simp⟩
            · rw [hc11]
              cbv
              obtain ⟨⟨n283, n284, l126, n285⟩, hv, h0⟩ := bindS h0
              try dsimp only at h0
              refine call_go hO hX (fn_ref16_Make hO hv) (by kernel_rfl) [5] rfl ⟨rfl, rfl, trivial⟩ rfl ?_
              rintro _ _ ⟨rfl, rfl⟩
              cbv
              cases h0
              exact fin_ok hX rfl ⟨[6], _, _, ⟨rfl, rfl⟩, rfl, rfl, rfl, rfl, by cbv; try simp⟩
end Go.Proofs.Ytoklfjkanipjkaa
