/-
  The code does what its models say (printed by lift.py).
-/
import Derived.Test.YtmnhfaaaaejpaaaGreatYfM
import Derived.Test.YtmnhfaaaaejpaaaGreatYW6
import Derived.Test.YtmnhfaaaaejpaaaGreatYW18
import Derived.Test.YtmnhfaaaaejpaaaGreatYPlU
import Derived.Test.YtmnhfaaaaejpaaaGreatYPlU
import Derived.Test.YtmnhfaaaaejpaaaGreatYSrtO
namespace Go.Proofs.YtmnhfaaaaejpaaaGreat.R
open Go.RowKit Go.Proofs.YtmnhfaaaaejpaaaGreat
set_option maxRecDepth 100000

set_option maxHeartbeats 40000000 in
theorem fn_recurrence_Matches {O0 : Ops} (hO0 : O0 = std) {r_1 : Int} {r_2 : Int} {r_3 : Int} {r_4 : Int} {r_5 : Int} {start_1 : Int} {l_1 : Int} {r_6 : List Int} {r_7 : List Int} {r_8 : List Int} {r_9 : List Int} {r_10 : List (Int × Int)} {r_11 : List Int} {r_12 : List Int} {r_13 : List Int} {r_14 : List Int} {r1 : Bool} {r2 : Int} (h : m_recurrence_Matches O0 r_1 r_2 r_3 r_4 r_5 start_1 l_1 r_6 r_7 r_8 r_9 r_10 r_11 r_12 r_13 r_14 = some (r1, r2)) :
    Fn Tryz.prog 13 [.agg [.int .i64 r_1, .int .i64 r_2, .int .i64 r_3, .int .i64 r_4, .sl 0, .sl 1, .sl 2, .sl 3, .sl 4, .sl 5, .sl 6, .sl 7, .sl 8, .int .i64 r_5], .c (.int .i64 start_1), .c (.int .i64 l_1)] [.arr false .i1 r_6, .arr false .i1 r_7, .arr false .i1 r_8, .arr false .i1 r_9, .arr false .i2 r_10, .arr false .i1 r_11, .arr false .i1 r_12, .arr false .i1 r_13, .arr false .i1 r_14] (fun v c => v = .tup [.one (.bool r1), .one (.int .i64 r2)] ∧ c = []) := by
  refine fn_run tab_holds eqs_holds mixed [(7, (.seg 1 [0, 1, 2, 3, 4, 5, 6, 7, 8, 9, 10, 11, 12, 13, 14, 15, 16, 18, 19, 22, 23] (.seg 2 [17] (.seg 2 [20] (.seg 1 [21, 24, 25, 26] .fin)))), []), (9, (.seg 1 [0, 1, 3] (.seg 2 [2] (.seg 2 [4] (.seg 2 [5] (.seg 1 [6, 7, 8, 9, 12] (.seg 2 [10] (.seg 2 [11] (.seg 2 [13] (.seg 1 [14, 15] .fin))))))))), [])] Tryz.func13 (by kernel_rfl) (by kernel_rfl) (Nat.le_of_ble_eq_true rfl) ?_
  intro O X hO hX
  rw [hO0, ← hO] at h
  unfold m_recurrence_Matches at h
  have h0 := h; clear h
  cbv
  obtain ⟨n65, hv, h0⟩ := bindS h0
  refine call_is hO hX (fn_recurrence_given hO hv) (by kernel_rfl) [0, 1, 2, 3, 4, 5, 6, 7, 8] rfl ⟨rfl, rfl, rfl, rfl, rfl, rfl, rfl, rfl, rfl, rfl, rfl, rfl, rfl, rfl, rfl, rfl, rfl, rfl, trivial⟩ rfl ?_
  cbv
  rcases condS h0 with ⟨hc1, h0⟩ | ⟨hc1, h0⟩
  · rw [hc1]
    cbv
    cases h0
    exact fin_ok hX rfl ⟨[], _, _, ⟨rfl, rfl⟩, rfl, rfl, rfl, rfl, by cbv; try simp⟩
  · rw [hc1]
    cbv
    obtain ⟨b41, hv, h0⟩ := bindS h0
    refine call_is hO hX (fn_recurrence_local hO hv) (by kernel_rfl) [] rfl trivial rfl ?_
    cbv
    rcases condS h0 with ⟨hc2, h0⟩ | ⟨hc2, h0⟩
    · rw [hc2]
      cbv
      cases h0
      exact fin_ok hX rfl ⟨[], _, _, ⟨rfl, rfl⟩, rfl, rfl, rfl, rfl, by cbv; try simp⟩
    · rw [hc2]
      cbv
      obtain ⟨n66, hv, h0⟩ := bindS h0
      refine call_is hO hX (fn_integer_Floor hO hv) (by kernel_rfl) [] rfl trivial rfl ?_
      cbv
      obtain ⟨x150, h1, h0⟩ := bindS h0
      rcases condS h1 with ⟨hc3, h1⟩ | ⟨hc3, h1⟩
      · rw [hc3]
        cbv
        cases h1
        try dsimp only at h0
        replace h0 := condT h0 rfl
        cases h0
        exact fin_ok hX rfl ⟨[], _, _, ⟨rfl, rfl⟩, rfl, rfl, rfl, rfl, by cbv; try simp⟩
      · rw [hc3]
        cbv
        rcases condS h1 with ⟨hc4, h1⟩ | ⟨hc4, h1⟩
        · rw [hc4]
          cbv
          rcases condS h1 with ⟨hc5, h1⟩ | ⟨hc5, h1⟩
          · rw [hc5]
            cbv
            cases h1
            try dsimp only at h0
            replace h0 := condT h0 rfl
            cases h0
            exact fin_ok hX rfl ⟨[], _, _, ⟨rfl, rfl⟩, rfl, rfl, rfl, rfl, by cbv; try simp⟩
          · rw [hc5]
            cbv
            obtain ⟨n67, hv, h1⟩ := bindS h1
            refine call_is hO hX (fn_recurrence_number hO hv) (by kernel_rfl) [0, 1, 2, 3, 4, 5, 6, 7, 8] rfl ⟨rfl, rfl, rfl, rfl, rfl, rfl, rfl, rfl, rfl, rfl, rfl, rfl, rfl, rfl, rfl, rfl, rfl, rfl, trivial⟩ rfl ?_
            cbv
            obtain ⟨n68, hv, h1⟩ := bindS h1
            refine call_is hO hX (fn_recurrence_number hO hv) (by kernel_rfl) [0, 1, 2, 3, 4, 5, 6, 7, 8] rfl ⟨rfl, rfl, rfl, rfl, rfl, rfl, rfl, rfl, rfl, rfl, rfl, rfl, rfl, rfl, rfl, rfl, rfl, rfl, trivial⟩ rfl ?_
            cbv
            obtain ⟨hg6, h1⟩ := grdS h1
            refine ⟨inr_of hO hg6, ?_⟩
            obtain ⟨hg7, h1⟩ := grdS h1
            refine ⟨nz_of hO hg7, ?_⟩
            cases h1
            try dsimp only at h0
            rcases condS h0 with ⟨hc8, h0⟩ | ⟨hc8, h0⟩
            · rw [hc8]
              cbv
              cases h0
              exact fin_ok hX rfl ⟨[], _, _, ⟨rfl, rfl⟩, rfl, rfl, rfl, rfl, by cbv; try simp⟩
            · rw [hc8]
              cbv
              obtain ⟨x152, h1, h0⟩ := bindS h0
              obtain ⟨l30, hv, h1⟩ := bindS h1
              refine call_is hO hX (fn_recurrence_times hO hv) (by kernel_rfl) [0, 1, 2, 3, 4, 5, 6, 7, 8] rfl ⟨rfl, rfl, rfl, rfl, rfl, rfl, rfl, rfl, rfl, rfl, rfl, rfl, rfl, rfl, rfl, rfl, rfl, rfl, trivial⟩ rfl ?_
              cbv
              obtain ⟨n71, hv, h1⟩ := bindS h1
              refine call_is hO hX (fn_integer_Mod hO hv) (by kernel_rfl) [] rfl trivial rfl ?_
              cbv
              obtain ⟨b42, hv, h1⟩ := bindS h1
              refine call_is hO hX (fn_slices_Contains hO hv) (by kernel_rfl) [10] rfl ⟨rfl, rfl, trivial⟩ rfl ?_
              cbv
              rcases condS h1 with ⟨hc9, h1⟩ | ⟨hc9, h1⟩
              · rw [hc9]
                cbv
                cases h1
                try dsimp only at h0
                replace h0 := condT h0 rfl
                cases h0
                exact fin_ok hX rfl ⟨[], _, _, ⟨rfl, rfl⟩, rfl, rfl, rfl, rfl, by cbv; try simp⟩
              · rw [hc9]
                cbv
                obtain ⟨n72, hv, h1⟩ := bindS h1
                refine call_is hO hX (fn_integer_Floor hO hv) (by kernel_rfl) [] rfl trivial rfl ?_
                cbv
                obtain ⟨⟨n73, n74, n75, n76, n77, n78, n79, n80⟩, hv, h1⟩ := bindS h1
                try dsimp only at h1
                refine call_is hO hX (fn_recurrence_dateOf hO hv) (by kernel_rfl) [] rfl trivial rfl ?_
                cbv
                obtain ⟨b43, hv, h1⟩ := bindS h1
                refine call_is hO hX (fn_recurrence_passes hO hv) (by kernel_rfl) [0, 1, 2, 3, 4, 5, 6, 7, 8] rfl ⟨rfl, rfl, rfl, rfl, rfl, rfl, rfl, rfl, rfl, rfl, rfl, rfl, rfl, rfl, rfl, rfl, rfl, rfl, trivial⟩ rfl ?_
                cbv
                cases h1
                try dsimp only at h0
                rcases condS h0 with ⟨hc10, h0⟩ | ⟨hc10, h0⟩
                · rw [hc10]
                  cbv
                  cases h0
                  exact fin_ok hX rfl ⟨[], _, _, ⟨rfl, rfl⟩, rfl, rfl, rfl, rfl, by cbv; try simp⟩
                · rw [hc10]
                  cbv
                  rcases condS h0 with ⟨hc11, h0⟩ | ⟨hc11, h0⟩
                  · rw [hc11]
                    cbv
                    cases h0
                    exact fin_ok hX rfl ⟨[], _, _, ⟨rfl, rfl⟩, rfl, rfl, rfl, rfl, by cbv; try simp⟩
                  · rw [hc11]
                    cbv
                    obtain ⟨⟨n81, n82⟩, hv, h0⟩ := bindS h0
                    try dsimp only at h0
                    refine call_is hO hX (fn_recurrence_place hO hv) (by kernel_rfl) [0, 1, 2, 3, 4, 5, 6, 7, 8] rfl ⟨rfl, rfl, rfl, rfl, rfl, rfl, rfl, rfl, rfl, rfl, rfl, rfl, rfl, rfl, rfl, rfl, rfl, rfl, trivial⟩ rfl ?_
                    cbv
                    obtain ⟨b44, hv, h0⟩ := bindS h0
                    refine call_is hO hX (fn_recurrence_counted hO hv) (by kernel_rfl) [8] rfl ⟨rfl, rfl, trivial⟩ rfl ?_
                    cbv
                    cases h0
                    exact fin_ok hX rfl ⟨[], _, _, ⟨rfl, rfl⟩, rfl, rfl, rfl, rfl, by cbv; try simp⟩
        · rw [hc4]
          cbv
          obtain ⟨n69, hv, h1⟩ := bindS h1
          refine call_is hO hX (fn_recurrence_number hO hv) (by kernel_rfl) [0, 1, 2, 3, 4, 5, 6, 7, 8] rfl ⟨rfl, rfl, rfl, rfl, rfl, rfl, rfl, rfl, rfl, rfl, rfl, rfl, rfl, rfl, rfl, rfl, rfl, rfl, trivial⟩ rfl ?_
          cbv
          obtain ⟨n70, hv, h1⟩ := bindS h1
          refine call_is hO hX (fn_recurrence_number hO hv) (by kernel_rfl) [0, 1, 2, 3, 4, 5, 6, 7, 8] rfl ⟨rfl, rfl, rfl, rfl, rfl, rfl, rfl, rfl, rfl, rfl, rfl, rfl, rfl, rfl, rfl, rfl, rfl, rfl, trivial⟩ rfl ?_
          cbv
          obtain ⟨hg12, h1⟩ := grdS h1
          refine ⟨inr_of hO hg12, ?_⟩
          obtain ⟨hg13, h1⟩ := grdS h1
          refine ⟨nz_of hO hg13, ?_⟩
          cases h1
          try dsimp only at h0
          rcases condS h0 with ⟨hc14, h0⟩ | ⟨hc14, h0⟩
          · rw [hc14]
            cbv
            cases h0
            exact fin_ok hX rfl ⟨[], _, _, ⟨rfl, rfl⟩, rfl, rfl, rfl, rfl, by cbv; try simp⟩
          · rw [hc14]
            cbv
            obtain ⟨x152, h1, h0⟩ := bindS h0
            obtain ⟨l30, hv, h1⟩ := bindS h1
            refine call_is hO hX (fn_recurrence_times hO hv) (by kernel_rfl) [0, 1, 2, 3, 4, 5, 6, 7, 8] rfl ⟨rfl, rfl, rfl, rfl, rfl, rfl, rfl, rfl, rfl, rfl, rfl, rfl, rfl, rfl, rfl, rfl, rfl, rfl, trivial⟩ rfl ?_
            cbv
            obtain ⟨n71, hv, h1⟩ := bindS h1
            refine call_is hO hX (fn_integer_Mod hO hv) (by kernel_rfl) [] rfl trivial rfl ?_
            cbv
            obtain ⟨b42, hv, h1⟩ := bindS h1
            refine call_is hO hX (fn_slices_Contains hO hv) (by kernel_rfl) [10] rfl ⟨rfl, rfl, trivial⟩ rfl ?_
            cbv
            rcases condS h1 with ⟨hc15, h1⟩ | ⟨hc15, h1⟩
            · rw [hc15]
              cbv
              cases h1
              try dsimp only at h0
              replace h0 := condT h0 rfl
              cases h0
              exact fin_ok hX rfl ⟨[], _, _, ⟨rfl, rfl⟩, rfl, rfl, rfl, rfl, by cbv; try simp⟩
            · rw [hc15]
              cbv
              obtain ⟨n72, hv, h1⟩ := bindS h1
              refine call_is hO hX (fn_integer_Floor hO hv) (by kernel_rfl) [] rfl trivial rfl ?_
              cbv
              obtain ⟨⟨n73, n74, n75, n76, n77, n78, n79, n80⟩, hv, h1⟩ := bindS h1
              try dsimp only at h1
              refine call_is hO hX (fn_recurrence_dateOf hO hv) (by kernel_rfl) [] rfl trivial rfl ?_
              cbv
              obtain ⟨b43, hv, h1⟩ := bindS h1
              refine call_is hO hX (fn_recurrence_passes hO hv) (by kernel_rfl) [0, 1, 2, 3, 4, 5, 6, 7, 8] rfl ⟨rfl, rfl, rfl, rfl, rfl, rfl, rfl, rfl, rfl, rfl, rfl, rfl, rfl, rfl, rfl, rfl, rfl, rfl, trivial⟩ rfl ?_
              cbv
              cases h1
              try dsimp only at h0
              rcases condS h0 with ⟨hc16, h0⟩ | ⟨hc16, h0⟩
              · rw [hc16]
                cbv
                cases h0
                exact fin_ok hX rfl ⟨[], _, _, ⟨rfl, rfl⟩, rfl, rfl, rfl, rfl, by cbv; try simp⟩
              · rw [hc16]
                cbv
                rcases condS h0 with ⟨hc17, h0⟩ | ⟨hc17, h0⟩
                · rw [hc17]
                  cbv
                  cases h0
                  exact fin_ok hX rfl ⟨[], _, _, ⟨rfl, rfl⟩, rfl, rfl, rfl, rfl, by cbv; try simp⟩
                · rw [hc17]
                  cbv
                  obtain ⟨⟨n81, n82⟩, hv, h0⟩ := bindS h0
                  try dsimp only at h0
                  refine call_is hO hX (fn_recurrence_place hO hv) (by kernel_rfl) [0, 1, 2, 3, 4, 5, 6, 7, 8] rfl ⟨rfl, rfl, rfl, rfl, rfl, rfl, rfl, rfl, rfl, rfl, rfl, rfl, rfl, rfl, rfl, rfl, rfl, rfl, trivial⟩ rfl ?_
                  cbv
                  obtain ⟨b44, hv, h0⟩ := bindS h0
                  refine call_is hO hX (fn_recurrence_counted hO hv) (by kernel_rfl) [8] rfl ⟨rfl, rfl, trivial⟩ rfl ?_
                  cbv
                  cases h0
                  exact fin_ok hX rfl ⟨[], _, _, ⟨rfl, rfl⟩, rfl, rfl, rfl, rfl, by cbv; try simp⟩
set_option maxHeartbeats 40000000 in
theorem fn_law29_awake {O0 : Ops} (hO0 : O0 = std) {r1 : Bool} (h : m_law29_awake O0 = some r1) :
    Fn Tryz.prog 4 [] [] (fun v c => v = .c (.bool r1) ∧ c = []) := by
  refine fn_run tab_holds eqs_holds mixed [] Tryz.func4 (by kernel_rfl) (by kernel_rfl) (Nat.le_of_ble_eq_true rfl) ?_
  intro O X hO hX
  rw [hO0, ← hO] at h
  unfold m_law29_awake at h
  have h0 := h; clear h
  cbv
  refine call_nil hO hX .i1 0 rfl ?_
  cbv
  refine call_nil hO hX .i1 1 rfl ?_
  cbv
  refine call_nil hO hX .i1 2 rfl ?_
  cbv
  refine call_nil hO hX .i1 3 rfl ?_
  cbv
  refine call_nil hO hX .i2 4 rfl ?_
  cbv
  refine call_nil hO hX .i1 5 rfl ?_
  cbv
  refine call_nil hO hX .i1 6 rfl ?_
  cbv
  refine call_nil hO hX .i1 7 rfl ?_
  cbv
  refine call_nil hO hX .i1 8 rfl ?_
  cbv
  obtain ⟨⟨b45, n83⟩, hv, h0⟩ := bindS h0
  try dsimp only at h0
  refine call_is hO hX (fn_recurrence_Matches hO hv) (by kernel_rfl) [0, 1, 2, 3, 4, 5, 6, 7, 8] rfl ⟨rfl, rfl, rfl, rfl, rfl, rfl, rfl, rfl, rfl, rfl, rfl, rfl, rfl, rfl, rfl, rfl, rfl, rfl, trivial⟩ rfl ?_
  cbv
  refine call_nil hO hX .i1 10 rfl ?_
  cbv
  refine call_nil hO hX .i1 11 rfl ?_
  cbv
  refine call_nil hO hX .i1 12 rfl ?_
  cbv
  refine call_nil hO hX .i1 13 rfl ?_
  cbv
  refine call_nil hO hX .i1 14 rfl ?_
  cbv
  refine call_nil hO hX .i1 15 rfl ?_
  cbv
  refine call_nil hO hX .i1 16 rfl ?_
  cbv
  refine call_nil hO hX .i1 17 rfl ?_
  cbv
  obtain ⟨⟨b46, n84⟩, hv, h0⟩ := bindS h0
  try dsimp only at h0
  refine call_is hO hX (fn_recurrence_Matches hO hv) (by kernel_rfl) [10, 11, 12, 13, 9, 14, 15, 16, 17] rfl ⟨rfl, rfl, rfl, rfl, rfl, rfl, rfl, rfl, rfl, rfl, rfl, rfl, rfl, rfl, rfl, rfl, rfl, rfl, trivial⟩ rfl ?_
  cbv
  obtain ⟨x156, h1, h0⟩ := bindS h0
  rcases condS h1 with ⟨hc1, h1⟩ | ⟨hc1, h1⟩
  · rw [hc1]
    cbv
    rcases condS h1 with ⟨hc2, h1⟩ | ⟨hc2, h1⟩
    · rw [hc2]
      cbv
      rcases condS h1 with ⟨hc3, h1⟩ | ⟨hc3, h1⟩
      · rw [hc3]
        cbv
        cases h1
        try dsimp only at h0
        cases h0
        exact fin_ok hX rfl ⟨[], _, _, ⟨rfl, rfl⟩, rfl, rfl, rfl, rfl, by cbv; try simp⟩
      · rw [hc3]
        cbv
        cases h1
        try dsimp only at h0
        cases h0
        exact fin_ok hX rfl ⟨[], _, _, ⟨rfl, rfl⟩, rfl, rfl, rfl, rfl, by cbv; try simp⟩
    · rw [hc2]
      cbv
      cases h1
      try dsimp only at h0
      cases h0
      exact fin_ok hX rfl ⟨[], _, _, ⟨rfl, rfl⟩, rfl, rfl, rfl, rfl, by cbv; try simp⟩
  · rw [hc1]
    cbv
    cases h1
    try dsimp only at h0
    cases h0
    exact fin_ok hX rfl ⟨[], _, _, ⟨rfl, rfl⟩, rfl, rfl, rfl, rfl, by cbv; try simp⟩
set_option maxHeartbeats 40000000 in
theorem fn_recurrence_Canonical {O0 : Ops} (hO0 : O0 = std) {r_1 : Int} {r_2 : Int} {r_3 : Int} {r_4 : Int} {r_5 : Int} {r_6 : List Int} {r_7 : List Int} {r_8 : List Int} {r_9 : List Int} {r_10 : List (Int × Int)} {r_11 : List Int} {r_12 : List Int} {r_13 : List Int} {r_14 : List Int} {r1 : Int} {r2 : Int} {r3 : Int} {r4 : Int} {r5 : List Int} {r6 : List Int} {r7 : List Int} {r8 : List Int} {r9 : List (Int × Int)} {r10 : List Int} {r11 : List Int} {r12 : List Int} {r13 : List Int} {r14 : Int} {r15 : Int} (h : m_recurrence_Canonical O0 r_1 r_2 r_3 r_4 r_5 r_6 r_7 r_8 r_9 r_10 r_11 r_12 r_13 r_14 = some (r1, r2, r3, r4, r5, r6, r7, r8, r9, r10, r11, r12, r13, r14, r15)) :
    Fn Tryz.prog 6 [.agg [.int .i64 r_1, .int .i64 r_2, .int .i64 r_3, .int .i64 r_4, .sl 0, .sl 1, .sl 2, .sl 3, .sl 4, .sl 5, .sl 6, .sl 7, .sl 8, .int .i64 r_5]] [.arr false .i1 r_6, .arr false .i1 r_7, .arr false .i1 r_8, .arr false .i1 r_9, .arr false .i2 r_10, .arr false .i1 r_11, .arr false .i1 r_12, .arr false .i1 r_13, .arr false .i1 r_14] (fun v c => v = .tup [.many [.int .i64 r1, .int .i64 r2, .int .i64 r3, .int .i64 r4, .sl 9, .sl 10, .sl 11, .sl 12, .sl 13, .sl 14, .sl 15, .sl 16, .sl 17, .int .i64 r14], .one (.int .i64 r15)] ∧ c = [.arr true .i1 r5, .arr true .i1 r6, .arr true .i1 r7, .arr true .i1 r8, .arr true .i2 r9, .arr true .i1 r10, .arr true .i1 r11, .arr true .i1 r12, .arr true .i1 r13]) := by
  refine fn_run tab_holds eqs_holds mixed [] Tryz.func6 (by kernel_rfl) (by kernel_rfl) (Nat.le_of_ble_eq_true rfl) ?_
  intro O X hO hX
  rw [hO0, ← hO] at h
  unfold m_recurrence_Canonical at h
  have h0 := h; clear h
  cbv
  obtain ⟨b51, hv, h0⟩ := bindS h0
  refine call_is hO hX (fn_recurrence_Valid hO hv) (by kernel_rfl) [0, 1, 2, 3, 4, 5, 6, 7, 8] rfl ⟨rfl, rfl, rfl, rfl, rfl, rfl, rfl, rfl, rfl, rfl, rfl, rfl, rfl, rfl, rfl, rfl, rfl, rfl, trivial⟩ rfl ?_
  cbv
  rcases condS h0 with ⟨hc1, h0⟩ | ⟨hc1, h0⟩
  · rw [hc1]
    cbv
    cases h0
    refine fin_nil hX .i1 11 rfl ?_
    cbv
    refine fin_nil hX .i1 12 rfl ?_
    cbv
    refine fin_nil hX .i1 13 rfl ?_
    cbv
    refine fin_nil hX .i1 14 rfl ?_
    cbv
    refine fin_nil hX .i2 15 rfl ?_
    cbv
    refine fin_nil hX .i1 16 rfl ?_
    cbv
    refine fin_nil hX .i1 17 rfl ?_
    cbv
    refine fin_nil hX .i1 18 rfl ?_
    cbv
    refine fin_nil hX .i1 19 rfl ?_
    cbv
    exact fin_ok hX rfl ⟨[11, 12, 13, 14, 15, 16, 17, 18, 19], _, _, ⟨rfl, rfl⟩, rfl, rfl, rfl, rfl, by cbv; try simp⟩
  · rw [hc1]
    cbv
    refine loop_unroll tab_holds eqs_holds mixed [] hO hX 9 (by kernel_rfl) ?_
    cbv
    rw [show (O .lt 0 (Int.ofNat 8)) = true from by subst hO; rfl]
    cbv
    obtain ⟨l31, hv, h0⟩ := bindS h0
    refine call_is hO hX (fn_recurrence_set hO hv) (by kernel_rfl) [0] rfl ⟨rfl, rfl, trivial⟩ rfl ?_
    cbv
    obtain ⟨hg2, h0⟩ := grdS h0
    refine ⟨inr_of hO hg2, ?_⟩
    try (rw [show (O .add 0 1) = 1 from by subst hO; rfl]; try cbv)
    try (rw [show (O .add 0 1) = 1 from by subst hO; rfl]; try cbv)
    rw [show (O .lt 1 (Int.ofNat 8)) = true from by subst hO; rfl]
    cbv
    obtain ⟨l32, hv, h0⟩ := bindS h0
    refine call_is hO hX (fn_recurrence_set hO hv) (by kernel_rfl) [1] rfl ⟨rfl, rfl, trivial⟩ rfl ?_
    cbv
    obtain ⟨hg3, h0⟩ := grdS h0
    refine ⟨inr_of hO hg3, ?_⟩
    try (rw [show (O .add 1 1) = 2 from by subst hO; rfl]; try cbv)
    try (rw [show (O .add 1 1) = 2 from by subst hO; rfl]; try cbv)
    rw [show (O .lt 2 (Int.ofNat 8)) = true from by subst hO; rfl]
    cbv
    obtain ⟨l33, hv, h0⟩ := bindS h0
    refine call_is hO hX (fn_recurrence_set hO hv) (by kernel_rfl) [2] rfl ⟨rfl, rfl, trivial⟩ rfl ?_
    cbv
    obtain ⟨hg4, h0⟩ := grdS h0
    refine ⟨inr_of hO hg4, ?_⟩
    try (rw [show (O .add 2 1) = 3 from by subst hO; rfl]; try cbv)
    try (rw [show (O .add 2 1) = 3 from by subst hO; rfl]; try cbv)
    rw [show (O .lt 3 (Int.ofNat 8)) = true from by subst hO; rfl]
    cbv
    obtain ⟨l34, hv, h0⟩ := bindS h0
    refine call_is hO hX (fn_recurrence_set hO hv) (by kernel_rfl) [3] rfl ⟨rfl, rfl, trivial⟩ rfl ?_
    cbv
    obtain ⟨hg5, h0⟩ := grdS h0
    refine ⟨inr_of hO hg5, ?_⟩
    try (rw [show (O .add 3 1) = 4 from by subst hO; rfl]; try cbv)
    try (rw [show (O .add 3 1) = 4 from by subst hO; rfl]; try cbv)
    rw [show (O .lt 4 (Int.ofNat 8)) = true from by subst hO; rfl]
    cbv
    obtain ⟨l35, hv, h0⟩ := bindS h0
    refine call_is hO hX (fn_recurrence_set hO hv) (by kernel_rfl) [5] rfl ⟨rfl, rfl, trivial⟩ rfl ?_
    cbv
    obtain ⟨hg6, h0⟩ := grdS h0
    refine ⟨inr_of hO hg6, ?_⟩
    try (rw [show (O .add 4 1) = 5 from by subst hO; rfl]; try cbv)
    try (rw [show (O .add 4 1) = 5 from by subst hO; rfl]; try cbv)
    rw [show (O .lt 5 (Int.ofNat 8)) = true from by subst hO; rfl]
    cbv
    obtain ⟨l36, hv, h0⟩ := bindS h0
    refine call_is hO hX (fn_recurrence_set hO hv) (by kernel_rfl) [6] rfl ⟨rfl, rfl, trivial⟩ rfl ?_
    cbv
    obtain ⟨hg7, h0⟩ := grdS h0
    refine ⟨inr_of hO hg7, ?_⟩
    try (rw [show (O .add 5 1) = 6 from by subst hO; rfl]; try cbv)
    try (rw [show (O .add 5 1) = 6 from by subst hO; rfl]; try cbv)
    rw [show (O .lt 6 (Int.ofNat 8)) = true from by subst hO; rfl]
    cbv
    obtain ⟨l37, hv, h0⟩ := bindS h0
    refine call_is hO hX (fn_recurrence_set hO hv) (by kernel_rfl) [7] rfl ⟨rfl, rfl, trivial⟩ rfl ?_
    cbv
    obtain ⟨hg8, h0⟩ := grdS h0
    refine ⟨inr_of hO hg8, ?_⟩
    try (rw [show (O .add 6 1) = 7 from by subst hO; rfl]; try cbv)
    try (rw [show (O .add 6 1) = 7 from by subst hO; rfl]; try cbv)
    rw [show (O .lt 7 (Int.ofNat 8)) = true from by subst hO; rfl]
    cbv
    obtain ⟨l38, hv, h0⟩ := bindS h0
    refine call_is hO hX (fn_recurrence_set hO hv) (by kernel_rfl) [8] rfl ⟨rfl, rfl, trivial⟩ rfl ?_
    cbv
    obtain ⟨hg9, h0⟩ := grdS h0
    refine ⟨inr_of hO hg9, ?_⟩
    try (rw [show (O .add 7 1) = 8 from by subst hO; rfl]; try cbv)
    try (rw [show (O .add 7 1) = 8 from by subst hO; rfl]; try cbv)
    rw [show (O .lt 8 (Int.ofNat 8)) = false from by subst hO; rfl]
    cbv
    obtain ⟨l39, hv, h0⟩ := bindS h0
    refine call_is hO hX (fn_clone_i2 hO hv) (by kernel_rfl) [4] rfl ⟨rfl, rfl, trivial⟩ rfl ?_
    cbv
    obtain ⟨l40, hv, h0⟩ := bindS h0
    refine srt_ord hO hX (i := 20) rfl hv ?_
    cbv
    obtain ⟨l41, hv, h0⟩ := bindS h0
    refine cpt_ord hO hX (i := 20) rfl hv ?_
    cbv
    cases h0
    refine fin_frz hX 12 ?_
    cbv
    refine fin_frz hX 13 ?_
    cbv
    refine fin_frz hX 14 ?_
    cbv
    refine fin_frz hX 15 ?_
    cbv
    refine fin_frz hX 21 ?_
    cbv
    refine fin_frz hX 16 ?_
    cbv
    refine fin_frz hX 17 ?_
    cbv
    refine fin_frz hX 18 ?_
    cbv
    refine fin_frz hX 19 ?_
    cbv
    exact fin_ok hX rfl ⟨[12, 13, 14, 15, 21, 16, 17, 18, 19], _, _, ⟨rfl, rfl⟩, rfl, rfl, rfl, rfl, by cbv; try simp⟩
set_option maxHeartbeats 40000000 in
theorem fn_ref29_same {O0 : Ops} (hO0 : O0 = std) {a_1 : List Int} {b_1 : List Int} {r1 : Bool} (h : m_ref29_same O0 a_1 b_1 = some r1) :
    Fn Tryz.prog 28 [.c (.sl 0), .c (.sl 1)] [.arr false .i1 a_1, .arr false .i1 b_1] (fun v c => v = .c (.bool r1) ∧ c = []) := by
  refine fn_run tab_holds eqs_holds mixed [(6, (.seg 1 [0, 1, 2, 3, 4, 5, 6, 7, 8] .fin), [])] Tryz.func28 (by kernel_rfl) (by kernel_rfl) (Nat.le_of_ble_eq_true rfl) ?_
  intro O X hO hX
  rw [hO0, ← hO] at h
  unfold m_ref29_same at h
  have h0 := h; clear h
  cbv
  rcases condS h0 with ⟨hc1, h0⟩ | ⟨hc1, h0⟩
  · rw [hc1]
    cbv
    cases h0
    exact fin_ok hX rfl ⟨[], _, _, ⟨rfl, rfl⟩, rfl, rfl, rfl, rfl, by cbv; try simp⟩
  · rw [hc1]
    cbv
    obtain ⟨e1, hi, h0⟩ := bindS h0
    obtain ⟨I1, hI1, hi⟩ := loopS hi
    refine loop1 tab_holds eqs_holds mixed [(6, (.seg 1 [0, 1, 2, 3, 4, 5, 6, 7, 8] .fin), [])] hO hX I1 (fun y => [(5, .c (.int .i64 y.2))]) (fun _ => []) (fun y => y.1) _ (by kernel_rfl) hi (by cbv; try simp) ?_
    refine allp ?_
    intro n1
    intro i6 hi
    cbv
    rw [hI1] at hi
    obtain ⟨n1, rfl, x1, h1, hi1⟩ := iterS hi
    unfold m_ref29_same_L1 at h1
    try dsimp only at h1
    rcases condS h1 with ⟨hc2, h1⟩ | ⟨hc2, h1⟩
    · rw [hc2]
      cbv
      obtain ⟨hg3, h1⟩ := grdS h1
      refine ⟨idx_of hO hg3, ?_⟩
      obtain ⟨hg4, h1⟩ := grdS h1
      refine ⟨kin_of hO hg4, ?_⟩
      obtain ⟨hg5, h1⟩ := grdS h1
      refine ⟨idx_of hO hg5, ?_⟩
      obtain ⟨hg6, h1⟩ := grdS h1
      refine ⟨kin_of hO hg6, ?_⟩
      rcases condS h1 with ⟨hc7, h1⟩ | ⟨hc7, h1⟩
      · rw [hc7]
        cbv
        cases h1
        cases exitI hi1
        try dsimp only at h0
        cases h0
        exact fin_ok hX rfl ⟨[], _, _, ⟨rfl, rfl⟩, rfl, rfl, rfl, rfl, by cbv; try simp⟩
      · rw [hc7]
        cbv
        obtain ⟨hg8, h1⟩ := grdS h1
        refine ⟨inr_of hO hg8, ?_⟩
        cases h1
        exact ⟨_, [0, 1], nextI hI1 hi1, by cbv; try simp, by first | exact Nat.lt_succ_self _ | omega⟩
    · rw [hc2]
      cbv
      cases h1
      cases exitI hi1
      try dsimp only at h0
      cases h0
      exact fin_ok hX rfl ⟨[], _, _, ⟨rfl, rfl⟩, rfl, rfl, rfl, rfl, by cbv; try simp⟩
end Go.Proofs.YtmnhfaaaaejpaaaGreat.R
