/-
  The code does what its models say (printed by lift.py).
  The code does what its models say (printed by lift.py).
  The walk of RecurrenceCandidates, as the row takes it.
-/
import Derived.Test.YtmnhfaaaaejpaaaPcM
import Derived.Test.YtmnhfaaaaejpaaaNW5
import Derived.Test.YtmnhfaaaaejpaaaNW11
import Derived.Test.YtmnhfaaaaejpaaaPlU
import Derived.Test.YtmnhfaaaaejpaaaArr
import Derived.Test.YtmnhfaaaaejpaaaPc2
namespace Go.Proofs.Ytmnhfaaaaejpaaa.R
open Go.RowKit Go.Proofs.Ytmnhfaaaaejpaaa
set_option maxRecDepth 100000

set_option maxHeartbeats 40000000 in
theorem fn_recurrence_Matches {O0 : Ops} (hO0 : O0 = std) {r_1 : Int} {r_2 : Int} {r_3 : Int} {r_4 : Int} {r_5 : Int} {start_1 : Int} {l_1 : Int} {r_6 : List Int} {r_7 : List Int} {r_8 : List Int} {r_9 : List Int} {r_10 : List (Int × Int)} {r_11 : List Int} {r_12 : List Int} {r_13 : List Int} {r_14 : List Int} {r1 : Bool} {r2 : Int} (h : m_recurrence_Matches O0 r_1 r_2 r_3 r_4 r_5 start_1 l_1 r_6 r_7 r_8 r_9 r_10 r_11 r_12 r_13 r_14 = some (r1, r2)) :
    Fn Try.prog 17 [.agg [.int .i64 r_1, .int .i64 r_2, .int .i64 r_3, .int .i64 r_4, .sl 0, .sl 1, .sl 2, .sl 3, .sl 4, .sl 5, .sl 6, .sl 7, .sl 8, .int .i64 r_5], .c (.int .i64 start_1), .c (.int .i64 l_1)] [.arr false .i1 r_6, .arr false .i1 r_7, .arr false .i1 r_8, .arr false .i1 r_9, .arr false .i2 r_10, .arr false .i1 r_11, .arr false .i1 r_12, .arr false .i1 r_13, .arr false .i1 r_14] (fun v c => v = .tup [.one (.bool r1), .one (.int .i64 r2)] ∧ c = []) := by
  refine fn_run tab_holds eqs_holds mixed [(7, (.seg 1 [0, 1, 2, 3, 4, 5, 6, 7, 8, 9, 10, 11, 12, 13, 14, 15, 16, 18, 19, 22, 23] (.seg 2 [17] (.seg 2 [20] (.seg 1 [21, 24, 25, 26] .fin)))), []), (9, (.seg 1 [0, 1, 3] (.seg 2 [2] (.seg 2 [4] (.seg 2 [5] (.seg 1 [6, 7, 8, 9, 12] (.seg 2 [10] (.seg 2 [11] (.seg 2 [13] (.seg 1 [14, 15] .fin))))))))), [])] Try.func17 (by kernel_rfl) (by kernel_rfl) (Nat.le_of_ble_eq_true rfl) ?_
  intro O X hO hX
  rw [hO0, ← hO] at h
  unfold m_recurrence_Matches at h
  have h0 := h; clear h
  cbv
  obtain ⟨n63, hv, h0⟩ := bindS h0
  refine call_is hO hX (fn_recurrence_given hO hv) (by kernel_rfl) [0, 1, 2, 3, 4, 5, 6, 7, 8] rfl ⟨rfl, rfl, rfl, rfl, rfl, rfl, rfl, rfl, rfl, rfl, rfl, rfl, rfl, rfl, rfl, rfl, rfl, rfl, trivial⟩ rfl ?_
  cbv
  rcases condS h0 with ⟨hc1, h0⟩ | ⟨hc1, h0⟩
  · rw [hc1]
    cbv
    cases h0
    exact fin_ok hX rfl ⟨[], _, _, ⟨rfl, rfl⟩, rfl, rfl, rfl, rfl, by cbv; try simp⟩
  · rw [hc1]
    cbv
    obtain ⟨b32, hv, h0⟩ := bindS h0
    refine call_is hO hX (fn_recurrence_local hO hv) (by kernel_rfl) [] rfl trivial rfl ?_
    cbv
    rcases condS h0 with ⟨hc2, h0⟩ | ⟨hc2, h0⟩
    · rw [hc2]
      cbv
      cases h0
      exact fin_ok hX rfl ⟨[], _, _, ⟨rfl, rfl⟩, rfl, rfl, rfl, rfl, by cbv; try simp⟩
    · rw [hc2]
      cbv
      obtain ⟨n64, hv, h0⟩ := bindS h0
      refine call_is hO hX (fn_integer_Floor hO hv) (by kernel_rfl) [] rfl trivial rfl ?_
      cbv
      obtain ⟨x124, h1, h0⟩ := bindS h0
      rcases condS h1 with ⟨hc3, h1⟩ | ⟨hc3, h1⟩
      · rw [hc3]
        cbv
        cases h1
        try dsimp only at h0
        replace h0 := condT h0 rfl
        cases h0
        exact fin_ok hX rfl ⟨[], _, _, ⟨rfl, rfl⟩, rfl, rfl, rfl, rfl, by cbv; try simp⟩
      · rw [hc3]
        cbv
        rcases condS h1 with ⟨hc4, h1⟩ | ⟨hc4, h1⟩
        · rw [hc4]
          cbv
          rcases condS h1 with ⟨hc5, h1⟩ | ⟨hc5, h1⟩
          · rw [hc5]
            cbv
            cases h1
            try dsimp only at h0
            replace h0 := condT h0 rfl
            cases h0
            exact fin_ok hX rfl ⟨[], _, _, ⟨rfl, rfl⟩, rfl, rfl, rfl, rfl, by cbv; try simp⟩
          · rw [hc5]
            cbv
            obtain ⟨n65, hv, h1⟩ := bindS h1
            refine call_is hO hX (fn_recurrence_number hO hv) (by kernel_rfl) [0, 1, 2, 3, 4, 5, 6, 7, 8] rfl ⟨rfl, rfl, rfl, rfl, rfl, rfl, rfl, rfl, rfl, rfl, rfl, rfl, rfl, rfl, rfl, rfl, rfl, rfl, trivial⟩ rfl ?_
            cbv
            obtain ⟨n66, hv, h1⟩ := bindS h1
            refine call_is hO hX (fn_recurrence_number hO hv) (by kernel_rfl) [0, 1, 2, 3, 4, 5, 6, 7, 8] rfl ⟨rfl, rfl, rfl, rfl, rfl, rfl, rfl, rfl, rfl, rfl, rfl, rfl, rfl, rfl, rfl, rfl, rfl, rfl, trivial⟩ rfl ?_
            cbv
            obtain ⟨hg6, h1⟩ := grdS h1
            refine ⟨inr_of hO hg6, ?_⟩
            obtain ⟨hg7, h1⟩ := grdS h1
            refine ⟨nz_of hO hg7, ?_⟩
            cases h1
            try dsimp only at h0
            rcases condS h0 with ⟨hc8, h0⟩ | ⟨hc8, h0⟩
            · rw [hc8]
              cbv
              cases h0
              exact fin_ok hX rfl ⟨[], _, _, ⟨rfl, rfl⟩, rfl, rfl, rfl, rfl, by cbv; try simp⟩
            · rw [hc8]
              cbv
              obtain ⟨x126, h1, h0⟩ := bindS h0
              obtain ⟨l27, hv, h1⟩ := bindS h1
              refine call_is hO hX (fn_recurrence_times hO hv) (by kernel_rfl) [0, 1, 2, 3, 4, 5, 6, 7, 8] rfl ⟨rfl, rfl, rfl, rfl, rfl, rfl, rfl, rfl, rfl, rfl, rfl, rfl, rfl, rfl, rfl, rfl, rfl, rfl, trivial⟩ rfl ?_
              cbv
              obtain ⟨n69, hv, h1⟩ := bindS h1
              refine call_is hO hX (fn_integer_Mod hO hv) (by kernel_rfl) [] rfl trivial rfl ?_
              cbv
              obtain ⟨b33, hv, h1⟩ := bindS h1
              refine call_is hO hX (fn_slices_Contains hO hv) (by kernel_rfl) [10] rfl ⟨rfl, rfl, trivial⟩ rfl ?_
              cbv
              rcases condS h1 with ⟨hc9, h1⟩ | ⟨hc9, h1⟩
              · rw [hc9]
                cbv
                cases h1
                try dsimp only at h0
                replace h0 := condT h0 rfl
                cases h0
                exact fin_ok hX rfl ⟨[], _, _, ⟨rfl, rfl⟩, rfl, rfl, rfl, rfl, by cbv; try simp⟩
              · rw [hc9]
                cbv
                obtain ⟨n70, hv, h1⟩ := bindS h1
                refine call_is hO hX (fn_integer_Floor hO hv) (by kernel_rfl) [] rfl trivial rfl ?_
                cbv
                obtain ⟨⟨n71, n72, n73, n74, n75, n76, n77, n78⟩, hv, h1⟩ := bindS h1
                try dsimp only at h1
                refine call_is hO hX (fn_recurrence_dateOf hO hv) (by kernel_rfl) [] rfl trivial rfl ?_
                cbv
                obtain ⟨b34, hv, h1⟩ := bindS h1
                refine call_is hO hX (fn_recurrence_passes hO hv) (by kernel_rfl) [0, 1, 2, 3, 4, 5, 6, 7, 8] rfl ⟨rfl, rfl, rfl, rfl, rfl, rfl, rfl, rfl, rfl, rfl, rfl, rfl, rfl, rfl, rfl, rfl, rfl, rfl, trivial⟩ rfl ?_
                cbv
                cases h1
                try dsimp only at h0
                rcases condS h0 with ⟨hc10, h0⟩ | ⟨hc10, h0⟩
                · rw [hc10]
                  cbv
                  cases h0
                  exact fin_ok hX rfl ⟨[], _, _, ⟨rfl, rfl⟩, rfl, rfl, rfl, rfl, by cbv; try simp⟩
                · rw [hc10]
                  cbv
                  rcases condS h0 with ⟨hc11, h0⟩ | ⟨hc11, h0⟩
                  · rw [hc11]
                    cbv
                    cases h0
                    exact fin_ok hX rfl ⟨[], _, _, ⟨rfl, rfl⟩, rfl, rfl, rfl, rfl, by cbv; try simp⟩
                  · rw [hc11]
                    cbv
                    obtain ⟨⟨n79, n80⟩, hv, h0⟩ := bindS h0
                    try dsimp only at h0
                    refine call_is hO hX (fn_recurrence_place hO hv) (by kernel_rfl) [0, 1, 2, 3, 4, 5, 6, 7, 8] rfl ⟨rfl, rfl, rfl, rfl, rfl, rfl, rfl, rfl, rfl, rfl, rfl, rfl, rfl, rfl, rfl, rfl, rfl, rfl, trivial⟩ rfl ?_
                    cbv
                    obtain ⟨b35, hv, h0⟩ := bindS h0
                    refine call_is hO hX (fn_recurrence_counted hO hv) (by kernel_rfl) [8] rfl ⟨rfl, rfl, trivial⟩ rfl ?_
                    cbv
                    cases h0
                    exact fin_ok hX rfl ⟨[], _, _, ⟨rfl, rfl⟩, rfl, rfl, rfl, rfl, by cbv; try simp⟩
        · rw [hc4]
          cbv
          obtain ⟨n67, hv, h1⟩ := bindS h1
          refine call_is hO hX (fn_recurrence_number hO hv) (by kernel_rfl) [0, 1, 2, 3, 4, 5, 6, 7, 8] rfl ⟨rfl, rfl, rfl, rfl, rfl, rfl, rfl, rfl, rfl, rfl, rfl, rfl, rfl, rfl, rfl, rfl, rfl, rfl, trivial⟩ rfl ?_
          cbv
          obtain ⟨n68, hv, h1⟩ := bindS h1
          refine call_is hO hX (fn_recurrence_number hO hv) (by kernel_rfl) [0, 1, 2, 3, 4, 5, 6, 7, 8] rfl ⟨rfl, rfl, rfl, rfl, rfl, rfl, rfl, rfl, rfl, rfl, rfl, rfl, rfl, rfl, rfl, rfl, rfl, rfl, trivial⟩ rfl ?_
          cbv
          obtain ⟨hg12, h1⟩ := grdS h1
          refine ⟨inr_of hO hg12, ?_⟩
          obtain ⟨hg13, h1⟩ := grdS h1
          refine ⟨nz_of hO hg13, ?_⟩
          cases h1
          try dsimp only at h0
          rcases condS h0 with ⟨hc14, h0⟩ | ⟨hc14, h0⟩
          · rw [hc14]
            cbv
            cases h0
            exact fin_ok hX rfl ⟨[], _, _, ⟨rfl, rfl⟩, rfl, rfl, rfl, rfl, by cbv; try simp⟩
          · rw [hc14]
            cbv
            obtain ⟨x126, h1, h0⟩ := bindS h0
            obtain ⟨l27, hv, h1⟩ := bindS h1
            refine call_is hO hX (fn_recurrence_times hO hv) (by kernel_rfl) [0, 1, 2, 3, 4, 5, 6, 7, 8] rfl ⟨rfl, rfl, rfl, rfl, rfl, rfl, rfl, rfl, rfl, rfl, rfl, rfl, rfl, rfl, rfl, rfl, rfl, rfl, trivial⟩ rfl ?_
            cbv
            obtain ⟨n69, hv, h1⟩ := bindS h1
            refine call_is hO hX (fn_integer_Mod hO hv) (by kernel_rfl) [] rfl trivial rfl ?_
            cbv
            obtain ⟨b33, hv, h1⟩ := bindS h1
            refine call_is hO hX (fn_slices_Contains hO hv) (by kernel_rfl) [10] rfl ⟨rfl, rfl, trivial⟩ rfl ?_
            cbv
            rcases condS h1 with ⟨hc15, h1⟩ | ⟨hc15, h1⟩
            · rw [hc15]
              cbv
              cases h1
              try dsimp only at h0
              replace h0 := condT h0 rfl
              cases h0
              exact fin_ok hX rfl ⟨[], _, _, ⟨rfl, rfl⟩, rfl, rfl, rfl, rfl, by cbv; try simp⟩
            · rw [hc15]
              cbv
              obtain ⟨n70, hv, h1⟩ := bindS h1
              refine call_is hO hX (fn_integer_Floor hO hv) (by kernel_rfl) [] rfl trivial rfl ?_
              cbv
              obtain ⟨⟨n71, n72, n73, n74, n75, n76, n77, n78⟩, hv, h1⟩ := bindS h1
              try dsimp only at h1
              refine call_is hO hX (fn_recurrence_dateOf hO hv) (by kernel_rfl) [] rfl trivial rfl ?_
              cbv
              obtain ⟨b34, hv, h1⟩ := bindS h1
              refine call_is hO hX (fn_recurrence_passes hO hv) (by kernel_rfl) [0, 1, 2, 3, 4, 5, 6, 7, 8] rfl ⟨rfl, rfl, rfl, rfl, rfl, rfl, rfl, rfl, rfl, rfl, rfl, rfl, rfl, rfl, rfl, rfl, rfl, rfl, trivial⟩ rfl ?_
              cbv
              cases h1
              try dsimp only at h0
              rcases condS h0 with ⟨hc16, h0⟩ | ⟨hc16, h0⟩
              · rw [hc16]
                cbv
                cases h0
                exact fin_ok hX rfl ⟨[], _, _, ⟨rfl, rfl⟩, rfl, rfl, rfl, rfl, by cbv; try simp⟩
              · rw [hc16]
                cbv
                rcases condS h0 with ⟨hc17, h0⟩ | ⟨hc17, h0⟩
                · rw [hc17]
                  cbv
                  cases h0
                  exact fin_ok hX rfl ⟨[], _, _, ⟨rfl, rfl⟩, rfl, rfl, rfl, rfl, by cbv; try simp⟩
                · rw [hc17]
                  cbv
                  obtain ⟨⟨n79, n80⟩, hv, h0⟩ := bindS h0
                  try dsimp only at h0
                  refine call_is hO hX (fn_recurrence_place hO hv) (by kernel_rfl) [0, 1, 2, 3, 4, 5, 6, 7, 8] rfl ⟨rfl, rfl, rfl, rfl, rfl, rfl, rfl, rfl, rfl, rfl, rfl, rfl, rfl, rfl, rfl, rfl, rfl, rfl, trivial⟩ rfl ?_
                  cbv
                  obtain ⟨b35, hv, h0⟩ := bindS h0
                  refine call_is hO hX (fn_recurrence_counted hO hv) (by kernel_rfl) [8] rfl ⟨rfl, rfl, trivial⟩ rfl ?_
                  cbv
                  cases h0
                  exact fin_ok hX rfl ⟨[], _, _, ⟨rfl, rfl⟩, rfl, rfl, rfl, rfl, by cbv; try simp⟩
set_option maxHeartbeats 40000000 in
theorem fn_law29_awake {O0 : Ops} (hO0 : O0 = std) {r1 : Bool} (h : m_law29_awake O0 = some r1) :
    Fn Try.prog 13 [] [] (fun v c => v = .c (.bool r1) ∧ c = []) := by
  refine fn_run tab_holds eqs_holds mixed [] Try.func13 (by kernel_rfl) (by kernel_rfl) (Nat.le_of_ble_eq_true rfl) ?_
  intro O X hO hX
  rw [hO0, ← hO] at h
  unfold m_law29_awake at h
  have h0 := h; clear h
  cbv
  refine call_nil hO hX .i1 0 rfl ?_
  cbv
  refine call_nil hO hX .i1 1 rfl ?_
  cbv
  refine call_nil hO hX .i1 2 rfl ?_
  cbv
  refine call_nil hO hX .i1 3 rfl ?_
  cbv
  refine call_nil hO hX .i2 4 rfl ?_
  cbv
  refine call_nil hO hX .i1 5 rfl ?_
  cbv
  refine call_nil hO hX .i1 6 rfl ?_
  cbv
  refine call_nil hO hX .i1 7 rfl ?_
  cbv
  refine call_nil hO hX .i1 8 rfl ?_
  cbv
  obtain ⟨⟨b36, n81⟩, hv, h0⟩ := bindS h0
  try dsimp only at h0
  refine call_is hO hX (fn_recurrence_Matches hO hv) (by kernel_rfl) [0, 1, 2, 3, 4, 5, 6, 7, 8] rfl ⟨rfl, rfl, rfl, rfl, rfl, rfl, rfl, rfl, rfl, rfl, rfl, rfl, rfl, rfl, rfl, rfl, rfl, rfl, trivial⟩ rfl ?_
  cbv
  refine call_nil hO hX .i1 10 rfl ?_
  cbv
  refine call_nil hO hX .i1 11 rfl ?_
  cbv
  refine call_nil hO hX .i1 12 rfl ?_
  cbv
  refine call_nil hO hX .i1 13 rfl ?_
  cbv
  refine call_nil hO hX .i1 14 rfl ?_
  cbv
  refine call_nil hO hX .i1 15 rfl ?_
  cbv
  refine call_nil hO hX .i1 16 rfl ?_
  cbv
  refine call_nil hO hX .i1 17 rfl ?_
  cbv
  obtain ⟨⟨b37, n82⟩, hv, h0⟩ := bindS h0
  try dsimp only at h0
  refine call_is hO hX (fn_recurrence_Matches hO hv) (by kernel_rfl) [10, 11, 12, 13, 9, 14, 15, 16, 17] rfl ⟨rfl, rfl, rfl, rfl, rfl, rfl, rfl, rfl, rfl, rfl, rfl, rfl, rfl, rfl, rfl, rfl, rfl, rfl, trivial⟩ rfl ?_
  cbv
  obtain ⟨x130, h1, h0⟩ := bindS h0
  rcases condS h1 with ⟨hc1, h1⟩ | ⟨hc1, h1⟩
  · rw [hc1]
    cbv
    rcases condS h1 with ⟨hc2, h1⟩ | ⟨hc2, h1⟩
    · rw [hc2]
      cbv
      rcases condS h1 with ⟨hc3, h1⟩ | ⟨hc3, h1⟩
      · rw [hc3]
        cbv
        cases h1
        try dsimp only at h0
        cases h0
        exact fin_ok hX rfl ⟨[], _, _, ⟨rfl, rfl⟩, rfl, rfl, rfl, rfl, by cbv; try simp⟩
      · rw [hc3]
        cbv
        cases h1
        try dsimp only at h0
        cases h0
        exact fin_ok hX rfl ⟨[], _, _, ⟨rfl, rfl⟩, rfl, rfl, rfl, rfl, by cbv; try simp⟩
    · rw [hc2]
      cbv
      cases h1
      try dsimp only at h0
      cases h0
      exact fin_ok hX rfl ⟨[], _, _, ⟨rfl, rfl⟩, rfl, rfl, rfl, rfl, by cbv; try simp⟩
  · rw [hc1]
    cbv
    cases h1
    try dsimp only at h0
    cases h0
    exact fin_ok hX rfl ⟨[], _, _, ⟨rfl, rfl⟩, rfl, rfl, rfl, rfl, by cbv; try simp⟩
end Go.Proofs.Ytmnhfaaaaejpaaa.R
namespace Go.Proofs.Ytmnhfaaaaejpaaa.R
open Go.RowKit Go.Proofs.Ytmnhfaaaaejpaaa
set_option maxRecDepth 100000

end Go.Proofs.Ytmnhfaaaaejpaaa.R
namespace Go.Proofs.Ytmnhfaaaaejpaaa
open Go.RowKit Go.Proofs.Ytmnhfaaaaejpaaa.R
end Go.Proofs.Ytmnhfaaaaejpaaa
