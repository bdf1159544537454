/-
  The code does what its models say (printed by lift.py).
-/
import Derived.Test.YtoklfjkanipjkaaGM
import Derived.Test.YtoklfjkanipjkaaManW
import Derived.Test.YtoklfjkanipjkaaGW2
import Derived.Test.YtoklfjkanipjkaaGW6
namespace Go.Proofs.Ytoklfjkanipjkaa
open Go.RowKit
set_option maxRecDepth 100000

set_option maxHeartbeats 40000000 in
theorem fn_ref16_Merge {O0 : Ops} (hO0 : O0 = std) {a_1 : Int} {a_2 : Int} {b_1 : Int} {b_2 : Int} {a_3 : List (Int × Int)} {b_3 : List (Int × Int)} {r1 : Int} {r2 : Int} {r3 : List (Int × Int)} {r4 : Int} (h : m_ref16_Merge O0 a_1 a_2 b_1 b_2 a_3 b_3 = some (r1, r2, r3, r4)) :
    Fn Try.prog 37 [.agg [.int .i64 a_1, .int .i64 a_2, .sl 0], .agg [.int .i64 b_1, .int .i64 b_2, .sl 1]] [.arr false .i2 a_3, .arr false .i2 b_3] (fun v c => v = .tup [.many [.int .i64 r1, .int .i64 r2, .sl 2], .one (.int .i64 r4)] ∧ c = [.arr true .i2 r3]) := by
  refine fn_run tab_holds eqs_holds mixed [(4, (.seg 1 [0, 1, 2, 3, 4, 5, 6, 7, 8, 9, 10, 11, 12, 13, 14, 15, 16, 17] .fin), []), (10, (.seg 1 [0, 1, 3, 4] (.seg 2 [2] (.seg 2 [5] (.seg 1 [6, 7] .fin)))), []), (13, (.seg 1 [0, 1, 3, 4] (.alt 2 (.alt 5 (.alt 6 (.seg 2 [7] (.seg 3 [8] (.seg 3 [9] .fin))) (.alt 7 (.seg 2 [6] (.seg 3 [8] (.seg 3 [9] .fin))) .no)) (.alt 6 (.alt 5 (.seg 2 [7] (.seg 3 [8] (.seg 3 [9] .fin))) (.alt 7 (.seg 2 [5] (.seg 3 [8] (.seg 3 [9] .fin))) .no)) (.alt 7 (.alt 5 (.seg 2 [6] (.seg 3 [8] (.seg 3 [9] .fin))) (.alt 6 (.seg 2 [5] (.seg 3 [8] (.seg 3 [9] .fin))) .no)) .no))) (.alt 6 (.alt 2 (.alt 5 (.seg 2 [7] (.seg 3 [8] (.seg 3 [9] .fin))) (.alt 7 (.seg 2 [5] (.seg 3 [8] (.seg 3 [9] .fin))) .no)) (.alt 7 (.seg 2 [2] (.seg 2 [5] (.seg 3 [8] (.seg 3 [9] .fin)))) .no)) (.alt 7 (.alt 2 (.alt 5 (.seg 2 [6] (.seg 3 [8] (.seg 3 [9] .fin))) (.alt 6 (.seg 2 [5] (.seg 3 [8] (.seg 3 [9] .fin))) .no)) (.alt 6 (.seg 2 [2] (.seg 2 [5] (.seg 3 [8] (.seg 3 [9] .fin)))) .no)) .no)))), []), (21, (.seg 1 [0, 1, 2, 3, 4, 5, 6, 7, 8, 9, 10, 11, 12, 13] .fin), [])] Try.func37 (by kernel_rfl) (by kernel_rfl) (Nat.le_of_ble_eq_true rfl) ?_
  intro O X hO hX
  rw [hO0, ← hO] at h
  unfold m_ref16_Merge at h
  have h0 := h; clear h
  cbv
  obtain ⟨⟨n319, n320⟩, hv, h0⟩ := bindS h0
  try dsimp only at h0
  refine call_go hO hX (fn_ref16_common hO hv) (by kernel_rfl) [] rfl trivial rfl ?_
  rintro _ _ ⟨rfl, rfl⟩
  cbv
  rcases condS h0 with ⟨hc0, h0⟩ | ⟨hc0, h0⟩
  · rw [hc0]
    cbv
    cases h0
    refine fin_nil hX .i2 5 rfl ?_
    cbv
    exact fin_ok hX rfl ⟨[5], _, _, ⟨rfl, rfl⟩, rfl, rfl, rfl, rfl, by cbv; try simp⟩
  · as_aux_lemma =>
    rw [hc0]
    cbv
    obtain ⟨hg1, h0⟩ := grdS h0
    refine ⟨nz_of hO hg1, ?_⟩
    obtain ⟨hg2, h0⟩ := grdS h0
    refine ⟨inr_of hO hg2, ?_⟩
    obtain ⟨hg3, h0⟩ := grdS h0
    refine ⟨inr_of hO hg3, ?_⟩
    obtain ⟨hg4, h0⟩ := grdS h0
    refine ⟨nz_of hO hg4, ?_⟩
    obtain ⟨hg5, h0⟩ := grdS h0
    refine ⟨inr_of hO hg5, ?_⟩
    obtain ⟨hg6, h0⟩ := grdS h0
    refine ⟨inr_of hO hg6, ?_⟩
    obtain ⟨hg7, h0⟩ := grdS h0
    refine ⟨inr_of hO hg7, ?_⟩
    rcases condS h0 with ⟨hc8, h0⟩ | ⟨hc8, h0⟩
    · rw [hc8]
      cbv
      cases h0
      refine fin_nil hX .i2 5 rfl ?_
      cbv
      exact fin_ok hX rfl ⟨[5], _, _, ⟨rfl, rfl⟩, rfl, rfl, rfl, rfl, by cbv; try simp⟩
    · as_aux_lemma =>
      rw [hc8]
      cbv
      obtain ⟨⟨n321, n322⟩, hv, h0⟩ := bindS h0
      try dsimp only at h0
      refine call_go hO hX (fn_ref16_Granule hO hv) (by kernel_rfl) [0] rfl ⟨rfl, rfl, trivial⟩ rfl ?_
      rintro _ _ ⟨rfl, rfl⟩
      cbv
      obtain ⟨⟨n323, n324⟩, hv, h0⟩ := bindS h0
      try dsimp only at h0
      refine call_go hO hX (fn_ref16_Granule hO hv) (by kernel_rfl) [1] rfl ⟨rfl, rfl, trivial⟩ rfl ?_
      rintro _ _ ⟨rfl, rfl⟩
      cbv
      obtain ⟨from2, h1, h0⟩ := bindS h0
      rcases condS h1 with ⟨hc9, h1⟩ | ⟨hc9, h1⟩
      · as_aux_lemma =>
        rw [hc9]
        cbv
        obtain ⟨⟨n325, n326⟩, hv, h1⟩ := bindS h1
        try dsimp only at h1
        refine call_go hO hX (fn_ref16_Granule hO hv) (by kernel_rfl) [1] rfl ⟨rfl, rfl, trivial⟩ rfl ?_
        rintro _ _ ⟨rfl, rfl⟩
        cbv
        cases h1
        try dsimp only at h0
        obtain ⟨n330, hv, h0⟩ := bindS h0
        refine call_go hO hX (fn_ref16_start hO hv) (by kernel_rfl) [0] rfl ⟨rfl, rfl, trivial⟩ rfl ?_
        rintro _ _ ⟨rfl, rfl⟩
        cbv
        obtain ⟨n331, hv, h0⟩ := bindS h0
        refine call_go hO hX (fn_ref16_start hO hv) (by kernel_rfl) [1] rfl ⟨rfl, rfl, trivial⟩ rfl ?_
        rintro _ _ ⟨rfl, rfl⟩
        cbv
        obtain ⟨e1, hi, h0⟩ := bindS h0
        obtain ⟨I1, hI1, hi⟩ := loopS hi
        refine loop1 tab_holds eqs_holds mixed [(4, (.seg 1 [0, 1, 2, 3, 4, 5, 6, 7, 8, 9, 10, 11, 12, 13, 14, 15, 16, 17] .fin), []), (10, (.seg 1 [0, 1, 3, 4] (.seg 2 [2] (.seg 2 [5] (.seg 1 [6, 7] .fin)))), []), (13, (.seg 1 [0, 1, 3, 4] (.alt 2 (.alt 5 (.alt 6 (.seg 2 [7] (.seg 3 [8] (.seg 3 [9] .fin))) (.alt 7 (.seg 2 [6] (.seg 3 [8] (.seg 3 [9] .fin))) .no)) (.alt 6 (.alt 5 (.seg 2 [7] (.seg 3 [8] (.seg 3 [9] .fin))) (.alt 7 (.seg 2 [5] (.seg 3 [8] (.seg 3 [9] .fin))) .no)) (.alt 7 (.alt 5 (.seg 2 [6] (.seg 3 [8] (.seg 3 [9] .fin))) (.alt 6 (.seg 2 [5] (.seg 3 [8] (.seg 3 [9] .fin))) .no)) .no))) (.alt 6 (.alt 2 (.alt 5 (.seg 2 [7] (.seg 3 [8] (.seg 3 [9] .fin))) (.alt 7 (.seg 2 [5] (.seg 3 [8] (.seg 3 [9] .fin))) .no)) (.alt 7 (.seg 2 [2] (.seg 2 [5] (.seg 3 [8] (.seg 3 [9] .fin)))) .no)) (.alt 7 (.alt 2 (.alt 5 (.seg 2 [6] (.seg 3 [8] (.seg 3 [9] .fin))) (.alt 6 (.seg 2 [5] (.seg 3 [8] (.seg 3 [9] .fin))) .no)) (.alt 6 (.seg 2 [2] (.seg 2 [5] (.seg 3 [8] (.seg 3 [9] .fin)))) .no)) .no)))), []), (21, (.seg 1 [0, 1, 2, 3, 4, 5, 6, 7, 8, 9, 10, 11, 12, 13] .fin), [])] hO hX I1 (fun y => [(17, .junk), (19, .junk), (28, .junk), (32, .junk), (36, .junk), (40, .junk), (11, .c (.int .i64 y.2.1)), (12, .c (.int .i64 y.2.2.1)), (13, .c (.sl 5))]) (fun y => [(5, .own 49 .i2 y.2.2.2)]) (fun y => y.1) _ (by kernel_rfl) hi (by cbv; try simp) ?_
        rintro ⟨n1, i29, k14, l139⟩ hi
        cbv
        rw [hI1] at hi
        obtain ⟨n1, rfl, x1, h1, hi1⟩ := iterS hi
        unfold m_ref16_Merge_L1 at h1
        try dsimp only at h1
        refine ⟨inr_of hO hg7, ?_⟩
        rcases condS h1 with ⟨hc10, h1⟩ | ⟨hc10, h1⟩
        · as_aux_lemma =>
          rw [hc10]
          cbv
          refine ⟨?_, ?_, ?_, trivial⟩
          · as_aux_lemma =>
            obtain ⟨⟨n336, n337⟩, hv, h1⟩ := bindS h1
            try dsimp only at h1
            refine call_go hO hX (fn_ref16_Granule hO hv) (by kernel_rfl) [0] rfl ⟨rfl, rfl, trivial⟩ rfl ?_
            rintro _ _ ⟨rfl, rfl⟩
            cbv
            refine ⟨?_, ?_, ?_, trivial⟩
            · as_aux_lemma =>
              obtain ⟨⟨n338, n339⟩, hv, h1⟩ := bindS h1
              try dsimp only at h1
              refine call_go hO hX (fn_ref16_Granule hO hv) (by kernel_rfl) [1] rfl ⟨rfl, rfl, trivial⟩ rfl ?_
              rintro _ _ ⟨rfl, rfl⟩
              cbv
              refine ⟨?_, ?_, trivial⟩
              · as_aux_lemma =>
                obtain ⟨x225, h2, h1⟩ := bindS h1
                rcases condS h2 with ⟨hc11, h2⟩ | ⟨hc11, h2⟩
                · as_aux_lemma =>
                  rw [hc11]
                  cbv
                  cases h2
                  try dsimp only at h1
                  rcases condS h1 with ⟨hc12, h1⟩ | ⟨hc12, h1⟩
                  · rw [hc12]
                    cbv
                    cases h1
                    cases exitI hi1
                    try dsimp only at h0
                    cases h0
                    refine fin_nil hX .i2 8 rfl ?_
                    cbv
                    exact fin_ok hX rfl ⟨[8], _, _, ⟨rfl, rfl⟩, rfl, rfl, rfl, rfl, by cbv; try simp⟩
                  · rw [hc12]
                    cbv
                    obtain ⟨⟨i31, k16, l141⟩, h2, h1⟩ := bindS h1
                    rcases condS h2 with ⟨hc13, h2⟩ | ⟨hc13, h2⟩
                    · rw [hc13]
                      cbv
                      obtain ⟨hg14, h2⟩ := grdS h2
                      refine ⟨room_of hO hg14, ?_⟩
                      obtain ⟨hg15, h2⟩ := grdS h2
                      refine ⟨room_of hO hg15, ?_⟩
                      obtain ⟨hg16, h2⟩ := grdS h2
                      refine ⟨inr_of hO hg16, ?_⟩
                      cases h2
                      try dsimp only at h1
                      cases h1
                      exact ⟨_, [0, 1, 2, 3, 4, 9], nextI hI1 hi1, by cbv; try simp, by first | exact Nat.lt_succ_self _ | omega⟩
                    · rw [hc13]
                      cbv
                      obtain ⟨hg14, h2⟩ := grdS h2
                      refine ⟨room_of hO hg14, ?_⟩
                      obtain ⟨hg15, h2⟩ := grdS h2
                      refine ⟨room_of hO hg15, ?_⟩
                      obtain ⟨hg16, h2⟩ := grdS h2
                      refine ⟨inr_of hO hg16, ?_⟩
                      cases h2
                      try dsimp only at h1
                      cases h1
                      exact ⟨_, [0, 1, 2, 3, 4, 9], nextI hI1 hi1, by cbv; try simp, by first | exact Nat.lt_succ_self _ | omega⟩
                · rw [hc11]
                  cbv
                  cases h2
                  try dsimp only at h1
                  replace h1 := condF h1 rfl
                  obtain ⟨⟨i31, k16, l141⟩, h2, h1⟩ := bindS h1
                  rcases condS h2 with ⟨hc12, h2⟩ | ⟨hc12, h2⟩
                  · rw [hc12]
                    cbv
                    obtain ⟨hg13, h2⟩ := grdS h2
                    refine ⟨room_of hO hg13, ?_⟩
                    obtain ⟨hg14, h2⟩ := grdS h2
                    refine ⟨room_of hO hg14, ?_⟩
                    obtain ⟨hg15, h2⟩ := grdS h2
                    refine ⟨inr_of hO hg15, ?_⟩
                    cases h2
                    try dsimp only at h1
                    cases h1
                    exact ⟨_, [0, 1, 2, 3, 4, 9], nextI hI1 hi1, by cbv; try simp, by first | exact Nat.lt_succ_self _ | omega⟩
                  · rw [hc12]
                    cbv
                    obtain ⟨hg13, h2⟩ := grdS h2
                    refine ⟨room_of hO hg13, ?_⟩
                    obtain ⟨hg14, h2⟩ := grdS h2
                    refine ⟨room_of hO hg14, ?_⟩
                    obtain ⟨hg15, h2⟩ := grdS h2
                    refine ⟨inr_of hO hg15, ?_⟩
                    cases h2
                    try dsimp only at h1
                    cases h1
                    exact ⟨_, [0, 1, 2, 3, 4, 9], nextI hI1 hi1, by cbv; try simp, by first | exact Nat.lt_succ_self _ | omega⟩
              · as_aux_lemma =>
                obtain ⟨x225, h2, h1⟩ := bindS h1
                rcases condS h2 with ⟨hc11, h2⟩ | ⟨hc11, h2⟩
                · as_aux_lemma =>
                  rw [hc11]
                  cbv
                  cases h2
                  try dsimp only at h1
                  rcases condS h1 with ⟨hc12, h1⟩ | ⟨hc12, h1⟩
                  · rw [hc12]
                    cbv
                    cases h1
                    cases exitI hi1
                    try dsimp only at h0
                    cases h0
                    refine fin_nil hX .i2 8 rfl ?_
                    cbv
                    exact fin_ok hX rfl ⟨[8], _, _, ⟨rfl, rfl⟩, rfl, rfl, rfl, rfl, by cbv; try simp⟩
                  · rw [hc12]
                    cbv
                    obtain ⟨⟨i31, k16, l141⟩, h2, h1⟩ := bindS h1
                    rcases condS h2 with ⟨hc13, h2⟩ | ⟨hc13, h2⟩
                    · rw [hc13]
                      cbv
                      obtain ⟨hg14, h2⟩ := grdS h2
                      refine ⟨room_of hO hg14, ?_⟩
                      obtain ⟨hg15, h2⟩ := grdS h2
                      refine ⟨room_of hO hg15, ?_⟩
                      obtain ⟨hg16, h2⟩ := grdS h2
                      refine ⟨inr_of hO hg16, ?_⟩
                      cases h2
                      try dsimp only at h1
                      cases h1
                      exact ⟨_, [0, 1, 2, 3, 4, 9], nextI hI1 hi1, by cbv; try simp, by first | exact Nat.lt_succ_self _ | omega⟩
                    · rw [hc13]
                      cbv
                      obtain ⟨hg14, h2⟩ := grdS h2
                      refine ⟨room_of hO hg14, ?_⟩
                      obtain ⟨hg15, h2⟩ := grdS h2
                      refine ⟨room_of hO hg15, ?_⟩
                      obtain ⟨hg16, h2⟩ := grdS h2
                      refine ⟨inr_of hO hg16, ?_⟩
                      cases h2
                      try dsimp only at h1
                      cases h1
                      exact ⟨_, [0, 1, 2, 3, 4, 9], nextI hI1 hi1, by cbv; try simp, by first | exact Nat.lt_succ_self _ | omega⟩
                · rw [hc11]
                  cbv
                  cases h2
                  try dsimp only at h1
                  replace h1 := condF h1 rfl
                  obtain ⟨⟨i31, k16, l141⟩, h2, h1⟩ := bindS h1
                  rcases condS h2 with ⟨hc12, h2⟩ | ⟨hc12, h2⟩
                  · rw [hc12]
                    cbv
                    obtain ⟨hg13, h2⟩ := grdS h2
                    refine ⟨room_of hO hg13, ?_⟩
                    obtain ⟨hg14, h2⟩ := grdS h2
                    refine ⟨room_of hO hg14, ?_⟩
                    obtain ⟨hg15, h2⟩ := grdS h2
                    refine ⟨inr_of hO hg15, ?_⟩
                    cases h2
                    try dsimp only at h1
                    cases h1
                    exact ⟨_, [0, 1, 2, 3, 4, 9], nextI hI1 hi1, by cbv; try simp, by first | exact Nat.lt_succ_self _ | omega⟩
                  · rw [hc12]
                    cbv
                    obtain ⟨hg13, h2⟩ := grdS h2
                    refine ⟨room_of hO hg13, ?_⟩
                    obtain ⟨hg14, h2⟩ := grdS h2
                    refine ⟨room_of hO hg14, ?_⟩
                    obtain ⟨hg15, h2⟩ := grdS h2
                    refine ⟨inr_of hO hg15, ?_⟩
                    cases h2
                    try dsimp only at h1
                    cases h1
                    exact ⟨_, [0, 1, 2, 3, 4, 9], nextI hI1 hi1, by cbv; try simp, by first | exact Nat.lt_succ_self _ | omega⟩
            · as_aux_lemma =>
              refine ⟨?_, ?_, trivial⟩
              · as_aux_lemma =>
                obtain ⟨⟨n338, n339⟩, hv, h1⟩ := bindS h1
                try dsimp only at h1
                refine call_go hO hX (fn_ref16_Granule hO hv) (by kernel_rfl) [1] rfl ⟨rfl, rfl, trivial⟩ rfl ?_
                rintro _ _ ⟨rfl, rfl⟩
                cbv
                obtain ⟨x225, h2, h1⟩ := bindS h1
                rcases condS h2 with ⟨hc11, h2⟩ | ⟨hc11, h2⟩
                · as_aux_lemma =>
                  rw [hc11]
                  cbv
                  cases h2
                  try dsimp only at h1
                  rcases condS h1 with ⟨hc12, h1⟩ | ⟨hc12, h1⟩
                  · rw [hc12]
                    cbv
                    cases h1
                    cases exitI hi1
                    try dsimp only at h0
                    cases h0
                    refine fin_nil hX .i2 8 rfl ?_
                    cbv
                    exact fin_ok hX rfl ⟨[8], _, _, ⟨rfl, rfl⟩, rfl, rfl, rfl, rfl, by cbv; try simp⟩
                  · rw [hc12]
                    cbv
                    obtain ⟨⟨i31, k16, l141⟩, h2, h1⟩ := bindS h1
                    rcases condS h2 with ⟨hc13, h2⟩ | ⟨hc13, h2⟩
                    · rw [hc13]
                      cbv
                      obtain ⟨hg14, h2⟩ := grdS h2
                      refine ⟨room_of hO hg14, ?_⟩
                      obtain ⟨hg15, h2⟩ := grdS h2
                      refine ⟨room_of hO hg15, ?_⟩
                      obtain ⟨hg16, h2⟩ := grdS h2
                      refine ⟨inr_of hO hg16, ?_⟩
                      cases h2
                      try dsimp only at h1
                      cases h1
                      exact ⟨_, [0, 1, 2, 3, 4, 9], nextI hI1 hi1, by cbv; try simp, by first | exact Nat.lt_succ_self _ | omega⟩
                    · rw [hc13]
                      cbv
                      obtain ⟨hg14, h2⟩ := grdS h2
                      refine ⟨room_of hO hg14, ?_⟩
                      obtain ⟨hg15, h2⟩ := grdS h2
                      refine ⟨room_of hO hg15, ?_⟩
                      obtain ⟨hg16, h2⟩ := grdS h2
                      refine ⟨inr_of hO hg16, ?_⟩
                      cases h2
                      try dsimp only at h1
                      cases h1
                      exact ⟨_, [0, 1, 2, 3, 4, 9], nextI hI1 hi1, by cbv; try simp, by first | exact Nat.lt_succ_self _ | omega⟩
                · rw [hc11]
                  cbv
                  cases h2
                  try dsimp only at h1
                  replace h1 := condF h1 rfl
                  obtain ⟨⟨i31, k16, l141⟩, h2, h1⟩ := bindS h1
                  rcases condS h2 with ⟨hc12, h2⟩ | ⟨hc12, h2⟩
                  · rw [hc12]
                    cbv
                    obtain ⟨hg13, h2⟩ := grdS h2
                    refine ⟨room_of hO hg13, ?_⟩
                    obtain ⟨hg14, h2⟩ := grdS h2
                    refine ⟨room_of hO hg14, ?_⟩
                    obtain ⟨hg15, h2⟩ := grdS h2
                    refine ⟨inr_of hO hg15, ?_⟩
                    cases h2
                    try dsimp only at h1
                    cases h1
                    exact ⟨_, [0, 1, 2, 3, 4, 9], nextI hI1 hi1, by cbv; try simp, by first | exact Nat.lt_succ_self _ | omega⟩
                  · rw [hc12]
                    cbv
                    obtain ⟨hg13, h2⟩ := grdS h2
                    refine ⟨room_of hO hg13, ?_⟩
                    obtain ⟨hg14, h2⟩ := grdS h2
                    refine ⟨room_of hO hg14, ?_⟩
                    obtain ⟨hg15, h2⟩ := grdS h2
                    refine ⟨inr_of hO hg15, ?_⟩
                    cases h2
                    try dsimp only at h1
                    cases h1
                    exact ⟨_, [0, 1, 2, 3, 4, 9], nextI hI1 hi1, by cbv; try simp, by first | exact Nat.lt_succ_self _ | omega⟩
              · as_aux_lemma =>
                obtain ⟨⟨n338, n339⟩, hv, h1⟩ := bindS h1
                try dsimp only at h1
                refine call_go hO hX (fn_ref16_Granule hO hv) (by kernel_rfl) [1] rfl ⟨rfl, rfl, trivial⟩ rfl ?_
                rintro _ _ ⟨rfl, rfl⟩
                cbv
                obtain ⟨x225, h2, h1⟩ := bindS h1
                rcases condS h2 with ⟨hc11, h2⟩ | ⟨hc11, h2⟩
                · as_aux_lemma =>
                  rw [hc11]
                  cbv
                  cases h2
                  try dsimp only at h1
                  rcases condS h1 with ⟨hc12, h1⟩ | ⟨hc12, h1⟩
                  · rw [hc12]
                    cbv
                    cases h1
                    cases exitI hi1
                    try dsimp only at h0
                    cases h0
                    refine fin_nil hX .i2 8 rfl ?_
                    cbv
                    exact fin_ok hX rfl ⟨[8], _, _, ⟨rfl, rfl⟩, rfl, rfl, rfl, rfl, by cbv; try simp⟩
                  · rw [hc12]
                    cbv
                    obtain ⟨⟨i31, k16, l141⟩, h2, h1⟩ := bindS h1
                    rcases condS h2 with ⟨hc13, h2⟩ | ⟨hc13, h2⟩
                    · rw [hc13]
                      cbv
                      obtain ⟨hg14, h2⟩ := grdS h2
                      refine ⟨room_of hO hg14, ?_⟩
                      obtain ⟨hg15, h2⟩ := grdS h2
                      refine ⟨room_of hO hg15, ?_⟩
                      obtain ⟨hg16, h2⟩ := grdS h2
                      refine ⟨inr_of hO hg16, ?_⟩
                      cases h2
                      try dsimp only at h1
                      cases h1
                      exact ⟨_, [0, 1, 2, 3, 4, 9], nextI hI1 hi1, by cbv; try simp, by first | exact Nat.lt_succ_self _ | omega⟩
                    · rw [hc13]
                      cbv
                      obtain ⟨hg14, h2⟩ := grdS h2
                      refine ⟨room_of hO hg14, ?_⟩
                      obtain ⟨hg15, h2⟩ := grdS h2
                      refine ⟨room_of hO hg15, ?_⟩
                      obtain ⟨hg16, h2⟩ := grdS h2
                      refine ⟨inr_of hO hg16, ?_⟩
                      cases h2
                      try dsimp only at h1
                      cases h1
                      exact ⟨_, [0, 1, 2, 3, 4, 9], nextI hI1 hi1, by cbv; try simp, by first | exact Nat.lt_succ_self _ | omega⟩
                · rw [hc11]
                  cbv
                  cases h2
                  try dsimp only at h1
                  replace h1 := condF h1 rfl
                  obtain ⟨⟨i31, k16, l141⟩, h2, h1⟩ := bindS h1
                  rcases condS h2 with ⟨hc12, h2⟩ | ⟨hc12, h2⟩
                  · rw [hc12]
                    cbv
                    obtain ⟨hg13, h2⟩ := grdS h2
                    refine ⟨room_of hO hg13, ?_⟩
                    obtain ⟨hg14, h2⟩ := grdS h2
                    refine ⟨room_of hO hg14, ?_⟩
                    obtain ⟨hg15, h2⟩ := grdS h2
                    refine ⟨inr_of hO hg15, ?_⟩
                    cases h2
                    try dsimp only at h1
                    cases h1
                    exact ⟨_, [0, 1, 2, 3, 4, 9], nextI hI1 hi1, by cbv; try simp, by first | exact Nat.lt_succ_self _ | omega⟩
                  · rw [hc12]
                    cbv
                    obtain ⟨hg13, h2⟩ := grdS h2
                    refine ⟨room_of hO hg13, ?_⟩
                    obtain ⟨hg14, h2⟩ := grdS h2
                    refine ⟨room_of hO hg14, ?_⟩
                    obtain ⟨hg15, h2⟩ := grdS h2
                    refine ⟨inr_of hO hg15, ?_⟩
                    cases h2
                    try dsimp only at h1
                    cases h1
                    exact ⟨_, [0, 1, 2, 3, 4, 9], nextI hI1 hi1, by cbv; try simp, by first | exact Nat.lt_succ_self _ | omega⟩
            · as_aux_lemma =>
              refine ⟨?_, ?_, trivial⟩
              · as_aux_lemma =>
                obtain ⟨⟨n338, n339⟩, hv, h1⟩ := bindS h1
                try dsimp only at h1
                refine call_go hO hX (fn_ref16_Granule hO hv) (by kernel_rfl) [1] rfl ⟨rfl, rfl, trivial⟩ rfl ?_
                rintro _ _ ⟨rfl, rfl⟩
                cbv
                obtain ⟨x225, h2, h1⟩ := bindS h1
                rcases condS h2 with ⟨hc11, h2⟩ | ⟨hc11, h2⟩
                · as_aux_lemma =>
                  rw [hc11]
                  cbv
                  cases h2
                  try dsimp only at h1
                  rcases condS h1 with ⟨hc12, h1⟩ | ⟨hc12, h1⟩
                  · rw [hc12]
                    cbv
                    cases h1
                    cases exitI hi1
                    try dsimp only at h0
                    cases h0
                    refine fin_nil hX .i2 8 rfl ?_
                    cbv
                    exact fin_ok hX rfl ⟨[8], _, _, ⟨rfl, rfl⟩, rfl, rfl, rfl, rfl, by cbv; try simp⟩
                  · rw [hc12]
                    cbv
                    obtain ⟨⟨i31, k16, l141⟩, h2, h1⟩ := bindS h1
                    rcases condS h2 with ⟨hc13, h2⟩ | ⟨hc13, h2⟩
                    · rw [hc13]
                      cbv
                      obtain ⟨hg14, h2⟩ := grdS h2
                      refine ⟨room_of hO hg14, ?_⟩
                      obtain ⟨hg15, h2⟩ := grdS h2
                      refine ⟨room_of hO hg15, ?_⟩
                      obtain ⟨hg16, h2⟩ := grdS h2
                      refine ⟨inr_of hO hg16, ?_⟩
                      cases h2
                      try dsimp only at h1
                      cases h1
                      exact ⟨_, [0, 1, 2, 3, 4, 9], nextI hI1 hi1, by cbv; try simp, by first | exact Nat.lt_succ_self _ | omega⟩
                    · rw [hc13]
                      cbv
                      obtain ⟨hg14, h2⟩ := grdS h2
                      refine ⟨room_of hO hg14, ?_⟩
                      obtain ⟨hg15, h2⟩ := grdS h2
                      refine ⟨room_of hO hg15, ?_⟩
                      obtain ⟨hg16, h2⟩ := grdS h2
                      refine ⟨inr_of hO hg16, ?_⟩
                      cases h2
                      try dsimp only at h1
                      cases h1
                      exact ⟨_, [0, 1, 2, 3, 4, 9], nextI hI1 hi1, by cbv; try simp, by first | exact Nat.lt_succ_self _ | omega⟩
                · rw [hc11]
                  cbv
                  cases h2
                  try dsimp only at h1
                  replace h1 := condF h1 rfl
                  obtain ⟨⟨i31, k16, l141⟩, h2, h1⟩ := bindS h1
                  rcases condS h2 with ⟨hc12, h2⟩ | ⟨hc12, h2⟩
                  · rw [hc12]
                    cbv
                    obtain ⟨hg13, h2⟩ := grdS h2
                    refine ⟨room_of hO hg13, ?_⟩
                    obtain ⟨hg14, h2⟩ := grdS h2
                    refine ⟨room_of hO hg14, ?_⟩
                    obtain ⟨hg15, h2⟩ := grdS h2
                    refine ⟨inr_of hO hg15, ?_⟩
                    cases h2
                    try dsimp only at h1
                    cases h1
                    exact ⟨_, [0, 1, 2, 3, 4, 9], nextI hI1 hi1, by cbv; try simp, by first | exact Nat.lt_succ_self _ | omega⟩
                  · rw [hc12]
                    cbv
                    obtain ⟨hg13, h2⟩ := grdS h2
                    refine ⟨room_of hO hg13, ?_⟩
                    obtain ⟨hg14, h2⟩ := grdS h2
                    refine ⟨room_of hO hg14, ?_⟩
                    obtain ⟨hg15, h2⟩ := grdS h2
                    refine ⟨inr_of hO hg15, ?_⟩
                    cases h2
                    try dsimp only at h1
                    cases h1
                    exact ⟨_, [0, 1, 2, 3, 4, 9], nextI hI1 hi1, by cbv; try simp, by first | exact Nat.lt_succ_self _ | omega⟩
              · as_aux_lemma =>
                obtain ⟨⟨n338, n339⟩, hv, h1⟩ := bindS h1
                try dsimp only at h1
                refine call_go hO hX (fn_ref16_Granule hO hv) (by kernel_rfl) [1] rfl ⟨rfl, rfl, trivial⟩ rfl ?_
                rintro _ _ ⟨rfl, rfl⟩
                cbv
                obtain ⟨x225, h2, h1⟩ := bindS h1
                rcases condS h2 with ⟨hc11, h2⟩ | ⟨hc11, h2⟩
                · as_aux_lemma =>
                  rw [hc11]
                  cbv
                  cases h2
                  try dsimp only at h1
                  rcases condS h1 with ⟨hc12, h1⟩ | ⟨hc12, h1⟩
                  · rw [hc12]
                    cbv
                    cases h1
                    cases exitI hi1
                    try dsimp only at h0
                    cases h0
                    refine fin_nil hX .i2 8 rfl ?_
                    cbv
                    exact fin_ok hX rfl ⟨[8], _, _, ⟨rfl, rfl⟩, rfl, rfl, rfl, rfl, by cbv; try simp⟩
                  · rw [hc12]
                    cbv
                    obtain ⟨⟨i31, k16, l141⟩, h2, h1⟩ := bindS h1
                    rcases condS h2 with ⟨hc13, h2⟩ | ⟨hc13, h2⟩
                    · rw [hc13]
                      cbv
                      obtain ⟨hg14, h2⟩ := grdS h2
                      refine ⟨room_of hO hg14, ?_⟩
                      obtain ⟨hg15, h2⟩ := grdS h2
                      refine ⟨room_of hO hg15, ?_⟩
                      obtain ⟨hg16, h2⟩ := grdS h2
                      refine ⟨inr_of hO hg16, ?_⟩
                      cases h2
                      try dsimp only at h1
                      cases h1
                      exact ⟨_, [0, 1, 2, 3, 4, 9], nextI hI1 hi1, by cbv; try simp, by first | exact Nat.lt_succ_self _ | omega⟩
                    · rw [hc13]
                      cbv
                      obtain ⟨hg14, h2⟩ := grdS h2
                      refine ⟨room_of hO hg14, ?_⟩
                      obtain ⟨hg15, h2⟩ := grdS h2
                      refine ⟨room_of hO hg15, ?_⟩
                      obtain ⟨hg16, h2⟩ := grdS h2
                      refine ⟨inr_of hO hg16, ?_⟩
                      cases h2
                      try dsimp only at h1
                      cases h1
                      exact ⟨_, [0, 1, 2, 3, 4, 9], nextI hI1 hi1, by cbv; try simp, by first | exact Nat.lt_succ_self _ | omega⟩
                · rw [hc11]
                  cbv
                  cases h2
                  try dsimp only at h1
                  replace h1 := condF h1 rfl
                  obtain ⟨⟨i31, k16, l141⟩, h2, h1⟩ := bindS h1
                  rcases condS h2 with ⟨hc12, h2⟩ | ⟨hc12, h2⟩
                  · rw [hc12]
                    cbv
                    obtain ⟨hg13, h2⟩ := grdS h2
                    refine ⟨room_of hO hg13, ?_⟩
                    obtain ⟨hg14, h2⟩ := grdS h2
                    refine ⟨room_of hO hg14, ?_⟩
                    obtain ⟨hg15, h2⟩ := grdS h2
                    refine ⟨inr_of hO hg15, ?_⟩
                    cases h2
                    try dsimp only at h1
                    cases h1
                    exact ⟨_, [0, 1, 2, 3, 4, 9], nextI hI1 hi1, by cbv; try simp, by first | exact Nat.lt_succ_self _ | omega⟩
                  · rw [hc12]
                    cbv
                    obtain ⟨hg13, h2⟩ := grdS h2
                    refine ⟨room_of hO hg13, ?_⟩
                    obtain ⟨hg14, h2⟩ := grdS h2
                    refine ⟨room_of hO hg14, ?_⟩
                    obtain ⟨hg15, h2⟩ := grdS h2
                    refine ⟨inr_of hO hg15, ?_⟩
                    cases h2
                    try dsimp only at h1
                    cases h1
                    exact ⟨_, [0, 1, 2, 3, 4, 9], nextI hI1 hi1, by cbv; try simp, by first | exact Nat.lt_succ_self _ | omega⟩
          · as_aux_lemma =>
            refine ⟨?_, ?_, trivial⟩
            · as_aux_lemma =>
              obtain ⟨⟨n336, n337⟩, hv, h1⟩ := bindS h1
              try dsimp only at h1
              refine call_go hO hX (fn_ref16_Granule hO hv) (by kernel_rfl) [0] rfl ⟨rfl, rfl, trivial⟩ rfl ?_
              rintro _ _ ⟨rfl, rfl⟩
              cbv
              refine ⟨?_, ?_, trivial⟩
              · as_aux_lemma =>
                obtain ⟨⟨n338, n339⟩, hv, h1⟩ := bindS h1
                try dsimp only at h1
                refine call_go hO hX (fn_ref16_Granule hO hv) (by kernel_rfl) [1] rfl ⟨rfl, rfl, trivial⟩ rfl ?_
                rintro _ _ ⟨rfl, rfl⟩
                cbv
                obtain ⟨x225, h2, h1⟩ := bindS h1
                rcases condS h2 with ⟨hc11, h2⟩ | ⟨hc11, h2⟩
                · as_aux_lemma =>
                  rw [hc11]
                  cbv
                  cases h2
                  try dsimp only at h1
                  rcases condS h1 with ⟨hc12, h1⟩ | ⟨hc12, h1⟩
                  · rw [hc12]
                    cbv
                    cases h1
                    cases exitI hi1
                    try dsimp only at h0
                    cases h0
                    refine fin_nil hX .i2 8 rfl ?_
                    cbv
                    exact fin_ok hX rfl ⟨[8], _, _, ⟨rfl, rfl⟩, rfl, rfl, rfl, rfl, by cbv; try simp⟩
                  · rw [hc12]
                    cbv
                    obtain ⟨⟨i31, k16, l141⟩, h2, h1⟩ := bindS h1
                    rcases condS h2 with ⟨hc13, h2⟩ | ⟨hc13, h2⟩
                    · rw [hc13]
                      cbv
                      obtain ⟨hg14, h2⟩ := grdS h2
                      refine ⟨room_of hO hg14, ?_⟩
                      obtain ⟨hg15, h2⟩ := grdS h2
                      refine ⟨room_of hO hg15, ?_⟩
                      obtain ⟨hg16, h2⟩ := grdS h2
                      refine ⟨inr_of hO hg16, ?_⟩
                      cases h2
                      try dsimp only at h1
                      cases h1
                      exact ⟨_, [0, 1, 2, 3, 4, 9], nextI hI1 hi1, by cbv; try simp, by first | exact Nat.lt_succ_self _ | omega⟩
                    · rw [hc13]
                      cbv
                      obtain ⟨hg14, h2⟩ := grdS h2
                      refine ⟨room_of hO hg14, ?_⟩
                      obtain ⟨hg15, h2⟩ := grdS h2
                      refine ⟨room_of hO hg15, ?_⟩
                      obtain ⟨hg16, h2⟩ := grdS h2
                      refine ⟨inr_of hO hg16, ?_⟩
                      cases h2
                      try dsimp only at h1
                      cases h1
                      exact ⟨_, [0, 1, 2, 3, 4, 9], nextI hI1 hi1, by cbv; try simp, by first | exact Nat.lt_succ_self _ | omega⟩
                · rw [hc11]
                  cbv
                  cases h2
                  try dsimp only at h1
                  replace h1 := condF h1 rfl
                  obtain ⟨⟨i31, k16, l141⟩, h2, h1⟩ := bindS h1
                  rcases condS h2 with ⟨hc12, h2⟩ | ⟨hc12, h2⟩
                  · rw [hc12]
                    cbv
                    obtain ⟨hg13, h2⟩ := grdS h2
                    refine ⟨room_of hO hg13, ?_⟩
                    obtain ⟨hg14, h2⟩ := grdS h2
                    refine ⟨room_of hO hg14, ?_⟩
                    obtain ⟨hg15, h2⟩ := grdS h2
                    refine ⟨inr_of hO hg15, ?_⟩
                    cases h2
                    try dsimp only at h1
                    cases h1
                    exact ⟨_, [0, 1, 2, 3, 4, 9], nextI hI1 hi1, by cbv; try simp, by first | exact Nat.lt_succ_self _ | omega⟩
                  · rw [hc12]
                    cbv
                    obtain ⟨hg13, h2⟩ := grdS h2
                    refine ⟨room_of hO hg13, ?_⟩
                    obtain ⟨hg14, h2⟩ := grdS h2
                    refine ⟨room_of hO hg14, ?_⟩
                    obtain ⟨hg15, h2⟩ := grdS h2
                    refine ⟨inr_of hO hg15, ?_⟩
                    cases h2
                    try dsimp only at h1
                    cases h1
                    exact ⟨_, [0, 1, 2, 3, 4, 9], nextI hI1 hi1, by cbv; try simp, by first | exact Nat.lt_succ_self _ | omega⟩
              · as_aux_lemma =>
                obtain ⟨⟨n338, n339⟩, hv, h1⟩ := bindS h1
                try dsimp only at h1
                refine call_go hO hX (fn_ref16_Granule hO hv) (by kernel_rfl) [1] rfl ⟨rfl, rfl, trivial⟩ rfl ?_
                rintro _ _ ⟨rfl, rfl⟩
                cbv
                obtain ⟨x225, h2, h1⟩ := bindS h1
                rcases condS h2 with ⟨hc11, h2⟩ | ⟨hc11, h2⟩
                · as_aux_lemma =>
                  rw [hc11]
                  cbv
                  cases h2
                  try dsimp only at h1
                  rcases condS h1 with ⟨hc12, h1⟩ | ⟨hc12, h1⟩
                  · rw [hc12]
                    cbv
                    cases h1
                    cases exitI hi1
                    try dsimp only at h0
                    cases h0
                    refine fin_nil hX .i2 8 rfl ?_
                    cbv
                    exact fin_ok hX rfl ⟨[8], _, _, ⟨rfl, rfl⟩, rfl, rfl, rfl, rfl, by cbv; try simp⟩
                  · rw [hc12]
                    cbv
                    obtain ⟨⟨i31, k16, l141⟩, h2, h1⟩ := bindS h1
                    rcases condS h2 with ⟨hc13, h2⟩ | ⟨hc13, h2⟩
                    · rw [hc13]
                      cbv
                      obtain ⟨hg14, h2⟩ := grdS h2
                      refine ⟨room_of hO hg14, ?_⟩
                      obtain ⟨hg15, h2⟩ := grdS h2
                      refine ⟨room_of hO hg15, ?_⟩
                      obtain ⟨hg16, h2⟩ := grdS h2
                      refine ⟨inr_of hO hg16, ?_⟩
                      cases h2
                      try dsimp only at h1
                      cases h1
                      exact ⟨_, [0, 1, 2, 3, 4, 9], nextI hI1 hi1, by cbv; try simp, by first | exact Nat.lt_succ_self _ | omega⟩
                    · rw [hc13]
                      cbv
                      obtain ⟨hg14, h2⟩ := grdS h2
                      refine ⟨room_of hO hg14, ?_⟩
                      obtain ⟨hg15, h2⟩ := grdS h2
                      refine ⟨room_of hO hg15, ?_⟩
                      obtain ⟨hg16, h2⟩ := grdS h2
                      refine ⟨inr_of hO hg16, ?_⟩
                      cases h2
                      try dsimp only at h1
                      cases h1
                      exact ⟨_, [0, 1, 2, 3, 4, 9], nextI hI1 hi1, by cbv; try simp, by first | exact Nat.lt_succ_self _ | omega⟩
                · rw [hc11]
                  cbv
                  cases h2
                  try dsimp only at h1
                  replace h1 := condF h1 rfl
                  obtain ⟨⟨i31, k16, l141⟩, h2, h1⟩ := bindS h1
                  rcases condS h2 with ⟨hc12, h2⟩ | ⟨hc12, h2⟩
                  · rw [hc12]
                    cbv
                    obtain ⟨hg13, h2⟩ := grdS h2
                    refine ⟨room_of hO hg13, ?_⟩
                    obtain ⟨hg14, h2⟩ := grdS h2
                    refine ⟨room_of hO hg14, ?_⟩
                    obtain ⟨hg15, h2⟩ := grdS h2
                    refine ⟨inr_of hO hg15, ?_⟩
                    cases h2
                    try dsimp only at h1
                    cases h1
                    exact ⟨_, [0, 1, 2, 3, 4, 9], nextI hI1 hi1, by cbv; try simp, by first | exact Nat.lt_succ_self _ | omega⟩
                  · rw [hc12]
                    cbv
                    obtain ⟨hg13, h2⟩ := grdS h2
                    refine ⟨room_of hO hg13, ?_⟩
                    obtain ⟨hg14, h2⟩ := grdS h2
                    refine ⟨room_of hO hg14, ?_⟩
                    obtain ⟨hg15, h2⟩ := grdS h2
                    refine ⟨inr_of hO hg15, ?_⟩
                    cases h2
                    try dsimp only at h1
                    cases h1
                    exact ⟨_, [0, 1, 2, 3, 4, 9], nextI hI1 hi1, by cbv; try simp, by first | exact Nat.lt_succ_self _ | omega⟩
            · as_aux_lemma =>
              obtain ⟨⟨n336, n337⟩, hv, h1⟩ := bindS h1
              try dsimp only at h1
              refine call_go hO hX (fn_ref16_Granule hO hv) (by kernel_rfl) [0] rfl ⟨rfl, rfl, trivial⟩ rfl ?_
              rintro _ _ ⟨rfl, rfl⟩
              cbv
              obtain ⟨⟨n338, n339⟩, hv, h1⟩ := bindS h1
              try dsimp only at h1
              refine call_go hO hX (fn_ref16_Granule hO hv) (by kernel_rfl) [1] rfl ⟨rfl, rfl, trivial⟩ rfl ?_
              rintro _ _ ⟨rfl, rfl⟩
              cbv
              obtain ⟨x225, h2, h1⟩ := bindS h1
              rcases condS h2 with ⟨hc11, h2⟩ | ⟨hc11, h2⟩
              · as_aux_lemma =>
                rw [hc11]
                cbv
                cases h2
                try dsimp only at h1
                rcases condS h1 with ⟨hc12, h1⟩ | ⟨hc12, h1⟩
                · rw [hc12]
                  cbv
                  cases h1
                  cases exitI hi1
                  try dsimp only at h0
                  cases h0
                  refine fin_nil hX .i2 8 rfl ?_
                  cbv
                  exact fin_ok hX rfl ⟨[8], _, _, ⟨rfl, rfl⟩, rfl, rfl, rfl, rfl, by cbv; try simp⟩
                · rw [hc12]
                  cbv
                  obtain ⟨⟨i31, k16, l141⟩, h2, h1⟩ := bindS h1
                  rcases condS h2 with ⟨hc13, h2⟩ | ⟨hc13, h2⟩
                  · rw [hc13]
                    cbv
                    obtain ⟨hg14, h2⟩ := grdS h2
                    refine ⟨room_of hO hg14, ?_⟩
                    obtain ⟨hg15, h2⟩ := grdS h2
                    refine ⟨room_of hO hg15, ?_⟩
                    obtain ⟨hg16, h2⟩ := grdS h2
                    refine ⟨inr_of hO hg16, ?_⟩
                    cases h2
                    try dsimp only at h1
                    cases h1
                    exact ⟨_, [0, 1, 2, 3, 4, 9], nextI hI1 hi1, by cbv; try simp, by first | exact Nat.lt_succ_self _ | omega⟩
                  · rw [hc13]
                    cbv
                    obtain ⟨hg14, h2⟩ := grdS h2
                    refine ⟨room_of hO hg14, ?_⟩
                    obtain ⟨hg15, h2⟩ := grdS h2
                    refine ⟨room_of hO hg15, ?_⟩
                    obtain ⟨hg16, h2⟩ := grdS h2
                    refine ⟨inr_of hO hg16, ?_⟩
                    cases h2
                    try dsimp only at h1
                    cases h1
                    exact ⟨_, [0, 1, 2, 3, 4, 9], nextI hI1 hi1, by cbv; try simp, by first | exact Nat.lt_succ_self _ | omega⟩
              · rw [hc11]
                cbv
                cases h2
                try dsimp only at h1
                replace h1 := condF h1 rfl
                obtain ⟨⟨i31, k16, l141⟩, h2, h1⟩ := bindS h1
                rcases condS h2 with ⟨hc12, h2⟩ | ⟨hc12, h2⟩
                · rw [hc12]
                  cbv
                  obtain ⟨hg13, h2⟩ := grdS h2
                  refine ⟨room_of hO hg13, ?_⟩
                  obtain ⟨hg14, h2⟩ := grdS h2
                  refine ⟨room_of hO hg14, ?_⟩
                  obtain ⟨hg15, h2⟩ := grdS h2
                  refine ⟨inr_of hO hg15, ?_⟩
                  cases h2
                  try dsimp only at h1
                  cases h1
                  exact ⟨_, [0, 1, 2, 3, 4, 9], nextI hI1 hi1, by cbv; try simp, by first | exact Nat.lt_succ_self _ | omega⟩
                · rw [hc12]
                  cbv
                  obtain ⟨hg13, h2⟩ := grdS h2
                  refine ⟨room_of hO hg13, ?_⟩
                  obtain ⟨hg14, h2⟩ := grdS h2
                  refine ⟨room_of hO hg14, ?_⟩
                  obtain ⟨hg15, h2⟩ := grdS h2
                  refine ⟨inr_of hO hg15, ?_⟩
                  cases h2
                  try dsimp only at h1
                  cases h1
                  exact ⟨_, [0, 1, 2, 3, 4, 9], nextI hI1 hi1, by cbv; try simp, by first | exact Nat.lt_succ_self _ | omega⟩
          · as_aux_lemma =>
            refine ⟨?_, ?_, trivial⟩
            · as_aux_lemma =>
              obtain ⟨⟨n336, n337⟩, hv, h1⟩ := bindS h1
              try dsimp only at h1
              refine call_go hO hX (fn_ref16_Granule hO hv) (by kernel_rfl) [0] rfl ⟨rfl, rfl, trivial⟩ rfl ?_
              rintro _ _ ⟨rfl, rfl⟩
              cbv
              refine ⟨?_, ?_, trivial⟩
              · as_aux_lemma =>
                obtain ⟨⟨n338, n339⟩, hv, h1⟩ := bindS h1
                try dsimp only at h1
                refine call_go hO hX (fn_ref16_Granule hO hv) (by kernel_rfl) [1] rfl ⟨rfl, rfl, trivial⟩ rfl ?_
                rintro _ _ ⟨rfl, rfl⟩
                cbv
                obtain ⟨x225, h2, h1⟩ := bindS h1
                rcases condS h2 with ⟨hc11, h2⟩ | ⟨hc11, h2⟩
                · as_aux_lemma =>
                  rw [hc11]
                  cbv
                  cases h2
                  try dsimp only at h1
                  rcases condS h1 with ⟨hc12, h1⟩ | ⟨hc12, h1⟩
                  · rw [hc12]
                    cbv
                    cases h1
                    cases exitI hi1
                    try dsimp only at h0
                    cases h0
                    refine fin_nil hX .i2 8 rfl ?_
                    cbv
                    exact fin_ok hX rfl ⟨[8], _, _, ⟨rfl, rfl⟩, rfl, rfl, rfl, rfl, by cbv; try simp⟩
                  · rw [hc12]
                    cbv
                    obtain ⟨⟨i31, k16, l141⟩, h2, h1⟩ := bindS h1
                    rcases condS h2 with ⟨hc13, h2⟩ | ⟨hc13, h2⟩
                    · rw [hc13]
                      cbv
                      obtain ⟨hg14, h2⟩ := grdS h2
                      refine ⟨room_of hO hg14, ?_⟩
                      obtain ⟨hg15, h2⟩ := grdS h2
                      refine ⟨room_of hO hg15, ?_⟩
                      obtain ⟨hg16, h2⟩ := grdS h2
                      refine ⟨inr_of hO hg16, ?_⟩
                      cases h2
                      try dsimp only at h1
                      cases h1
                      exact ⟨_, [0, 1, 2, 3, 4, 9], nextI hI1 hi1, by cbv; try simp, by first | exact Nat.lt_succ_self _ | omega⟩
                    · rw [hc13]
                      cbv
                      obtain ⟨hg14, h2⟩ := grdS h2
                      refine ⟨room_of hO hg14, ?_⟩
                      obtain ⟨hg15, h2⟩ := grdS h2
                      refine ⟨room_of hO hg15, ?_⟩
                      obtain ⟨hg16, h2⟩ := grdS h2
                      refine ⟨inr_of hO hg16, ?_⟩
                      cases h2
                      try dsimp only at h1
                      cases h1
                      exact ⟨_, [0, 1, 2, 3, 4, 9], nextI hI1 hi1, by cbv; try simp, by first | exact Nat.lt_succ_self _ | omega⟩
                · rw [hc11]
                  cbv
                  cases h2
                  try dsimp only at h1
                  replace h1 := condF h1 rfl
                  obtain ⟨⟨i31, k16, l141⟩, h2, h1⟩ := bindS h1
                  rcases condS h2 with ⟨hc12, h2⟩ | ⟨hc12, h2⟩
                  · rw [hc12]
                    cbv
                    obtain ⟨hg13, h2⟩ := grdS h2
                    refine ⟨room_of hO hg13, ?_⟩
                    obtain ⟨hg14, h2⟩ := grdS h2
                    refine ⟨room_of hO hg14, ?_⟩
                    obtain ⟨hg15, h2⟩ := grdS h2
                    refine ⟨inr_of hO hg15, ?_⟩
                    cases h2
                    try dsimp only at h1
                    cases h1
                    exact ⟨_, [0, 1, 2, 3, 4, 9], nextI hI1 hi1, by cbv; try simp, by first | exact Nat.lt_succ_self _ | omega⟩
                  · rw [hc12]
                    cbv
                    obtain ⟨hg13, h2⟩ := grdS h2
                    refine ⟨room_of hO hg13, ?_⟩
                    obtain ⟨hg14, h2⟩ := grdS h2
                    refine ⟨room_of hO hg14, ?_⟩
                    obtain ⟨hg15, h2⟩ := grdS h2
                    refine ⟨inr_of hO hg15, ?_⟩
                    cases h2
                    try dsimp only at h1
                    cases h1
                    exact ⟨_, [0, 1, 2, 3, 4, 9], nextI hI1 hi1, by cbv; try simp, by first | exact Nat.lt_succ_self _ | omega⟩
              · as_aux_lemma =>
                obtain ⟨⟨n338, n339⟩, hv, h1⟩ := bindS h1
                try dsimp only at h1
                refine call_go hO hX (fn_ref16_Granule hO hv) (by kernel_rfl) [1] rfl ⟨rfl, rfl, trivial⟩ rfl ?_
                rintro _ _ ⟨rfl, rfl⟩
                cbv
                obtain ⟨x225, h2, h1⟩ := bindS h1
                rcases condS h2 with ⟨hc11, h2⟩ | ⟨hc11, h2⟩
                · as_aux_lemma =>
                  rw [hc11]
                  cbv
                  cases h2
                  try dsimp only at h1
                  rcases condS h1 with ⟨hc12, h1⟩ | ⟨hc12, h1⟩
                  · rw [hc12]
                    cbv
                    cases h1
                    cases exitI hi1
                    try dsimp only at h0
                    cases h0
                    refine fin_nil hX .i2 8 rfl ?_
                    cbv
                    exact fin_ok hX rfl ⟨[8], _, _, ⟨rfl, rfl⟩, rfl, rfl, rfl, rfl, by cbv; try simp⟩
                  · rw [hc12]
                    cbv
                    obtain ⟨⟨i31, k16, l141⟩, h2, h1⟩ := bindS h1
                    rcases condS h2 with ⟨hc13, h2⟩ | ⟨hc13, h2⟩
                    · rw [hc13]
                      cbv
                      obtain ⟨hg14, h2⟩ := grdS h2
                      refine ⟨room_of hO hg14, ?_⟩
                      obtain ⟨hg15, h2⟩ := grdS h2
                      refine ⟨room_of hO hg15, ?_⟩
                      obtain ⟨hg16, h2⟩ := grdS h2
                      refine ⟨inr_of hO hg16, ?_⟩
                      cases h2
                      try dsimp only at h1
                      cases h1
                      exact ⟨_, [0, 1, 2, 3, 4, 9], nextI hI1 hi1, by cbv; try simp, by first | exact Nat.lt_succ_self _ | omega⟩
                    · rw [hc13]
                      cbv
                      obtain ⟨hg14, h2⟩ := grdS h2
                      refine ⟨room_of hO hg14, ?_⟩
                      obtain ⟨hg15, h2⟩ := grdS h2
                      refine ⟨room_of hO hg15, ?_⟩
                      obtain ⟨hg16, h2⟩ := grdS h2
                      refine ⟨inr_of hO hg16, ?_⟩
                      cases h2
                      try dsimp only at h1
                      cases h1
                      exact ⟨_, [0, 1, 2, 3, 4, 9], nextI hI1 hi1, by cbv; try simp, by first | exact Nat.lt_succ_self _ | omega⟩
                · rw [hc11]
                  cbv
                  cases h2
                  try dsimp only at h1
                  replace h1 := condF h1 rfl
                  obtain ⟨⟨i31, k16, l141⟩, h2, h1⟩ := bindS h1
                  rcases condS h2 with ⟨hc12, h2⟩ | ⟨hc12, h2⟩
                  · rw [hc12]
                    cbv
                    obtain ⟨hg13, h2⟩ := grdS h2
                    refine ⟨room_of hO hg13, ?_⟩
                    obtain ⟨hg14, h2⟩ := grdS h2
                    refine ⟨room_of hO hg14, ?_⟩
                    obtain ⟨hg15, h2⟩ := grdS h2
                    refine ⟨inr_of hO hg15, ?_⟩
                    cases h2
                    try dsimp only at h1
                    cases h1
                    exact ⟨_, [0, 1, 2, 3, 4, 9], nextI hI1 hi1, by cbv; try simp, by first | exact Nat.lt_succ_self _ | omega⟩
                  · rw [hc12]
                    cbv
                    obtain ⟨hg13, h2⟩ := grdS h2
                    refine ⟨room_of hO hg13, ?_⟩
                    obtain ⟨hg14, h2⟩ := grdS h2
                    refine ⟨room_of hO hg14, ?_⟩
                    obtain ⟨hg15, h2⟩ := grdS h2
                    refine ⟨inr_of hO hg15, ?_⟩
                    cases h2
                    try dsimp only at h1
                    cases h1
                    exact ⟨_, [0, 1, 2, 3, 4, 9], nextI hI1 hi1, by cbv; try simp, by first | exact Nat.lt_succ_self _ | omega⟩
            · as_aux_lemma =>
              obtain ⟨⟨n336, n337⟩, hv, h1⟩ := bindS h1
              try dsimp only at h1
              refine call_go hO hX (fn_ref16_Granule hO hv) (by kernel_rfl) [0] rfl ⟨rfl, rfl, trivial⟩ rfl ?_
              rintro _ _ ⟨rfl, rfl⟩
              cbv
              obtain ⟨⟨n338, n339⟩, hv, h1⟩ := bindS h1
              try dsimp only at h1
              refine call_go hO hX (fn_ref16_Granule hO hv) (by kernel_rfl) [1] rfl ⟨rfl, rfl, trivial⟩ rfl ?_
              rintro _ _ ⟨rfl, rfl⟩
              cbv
              obtain ⟨x225, h2, h1⟩ := bindS h1
              rcases condS h2 with ⟨hc11, h2⟩ | ⟨hc11, h2⟩
              · as_aux_lemma =>
                rw [hc11]
                cbv
                cases h2
                try dsimp only at h1
                rcases condS h1 with ⟨hc12, h1⟩ | ⟨hc12, h1⟩
                · rw [hc12]
                  cbv
                  cases h1
                  cases exitI hi1
                  try dsimp only at h0
                  cases h0
                  refine fin_nil hX .i2 8 rfl ?_
                  cbv
                  exact fin_ok hX rfl ⟨[8], _, _, ⟨rfl, rfl⟩, rfl, rfl, rfl, rfl, by cbv; try simp⟩
                · rw [hc12]
                  cbv
                  obtain ⟨⟨i31, k16, l141⟩, h2, h1⟩ := bindS h1
                  rcases condS h2 with ⟨hc13, h2⟩ | ⟨hc13, h2⟩
                  · rw [hc13]
                    cbv
                    obtain ⟨hg14, h2⟩ := grdS h2
                    refine ⟨room_of hO hg14, ?_⟩
                    obtain ⟨hg15, h2⟩ := grdS h2
                    refine ⟨room_of hO hg15, ?_⟩
                    obtain ⟨hg16, h2⟩ := grdS h2
                    refine ⟨inr_of hO hg16, ?_⟩
                    cases h2
                    try dsimp only at h1
                    cases h1
                    exact ⟨_, [0, 1, 2, 3, 4, 9], nextI hI1 hi1, by cbv; try simp, by first | exact Nat.lt_succ_self _ | omega⟩
                  · rw [hc13]
                    cbv
                    obtain ⟨hg14, h2⟩ := grdS h2
                    refine ⟨room_of hO hg14, ?_⟩
                    obtain ⟨hg15, h2⟩ := grdS h2
                    refine ⟨room_of hO hg15, ?_⟩
                    obtain ⟨hg16, h2⟩ := grdS h2
                    refine ⟨inr_of hO hg16, ?_⟩
                    cases h2
                    try dsimp only at h1
                    cases h1
                    exact ⟨_, [0, 1, 2, 3, 4, 9], nextI hI1 hi1, by cbv; try simp, by first | exact Nat.lt_succ_self _ | omega⟩
              · rw [hc11]
                cbv
                cases h2
                try dsimp only at h1
                replace h1 := condF h1 rfl
                obtain ⟨⟨i31, k16, l141⟩, h2, h1⟩ := bindS h1
                rcases condS h2 with ⟨hc12, h2⟩ | ⟨hc12, h2⟩
                · rw [hc12]
                  cbv
                  obtain ⟨hg13, h2⟩ := grdS h2
                  refine ⟨room_of hO hg13, ?_⟩
                  obtain ⟨hg14, h2⟩ := grdS h2
                  refine ⟨room_of hO hg14, ?_⟩
                  obtain ⟨hg15, h2⟩ := grdS h2
                  refine ⟨inr_of hO hg15, ?_⟩
                  cases h2
                  try dsimp only at h1
                  cases h1
                  exact ⟨_, [0, 1, 2, 3, 4, 9], nextI hI1 hi1, by cbv; try simp, by first | exact Nat.lt_succ_self _ | omega⟩
                · rw [hc12]
                  cbv
                  obtain ⟨hg13, h2⟩ := grdS h2
                  refine ⟨room_of hO hg13, ?_⟩
                  obtain ⟨hg14, h2⟩ := grdS h2
                  refine ⟨room_of hO hg14, ?_⟩
                  obtain ⟨hg15, h2⟩ := grdS h2
                  refine ⟨inr_of hO hg15, ?_⟩
                  cases h2
                  try dsimp only at h1
                  cases h1
                  exact ⟨_, [0, 1, 2, 3, 4, 9], nextI hI1 hi1, by cbv; try simp, by first | exact Nat.lt_succ_self _ | omega⟩
        · rw [hc10]
          cbv
          cases h1
          cases exitI hi1
          try dsimp only at h0
          obtain ⟨hg11, h0⟩ := grdS h0
          refine ⟨inr_of hO hg11, ?_⟩
          obtain ⟨hg12, h0⟩ := grdS h0
          refine ⟨idx_of hO hg12, ?_⟩
          obtain ⟨hg13, h0⟩ := grdS h0
          refine ⟨kin_of hO hg13, ?_⟩
          obtain ⟨hg14, h0⟩ := grdS h0
          refine ⟨idx_of hO hg14, ?_⟩
          obtain ⟨hg15, h0⟩ := grdS h0
          refine ⟨kin_of hO hg15, ?_⟩
          obtain ⟨hg16, h0⟩ := grdS h0
          refine ⟨inr_of hO hg16, ?_⟩
          rcases condS h0 with ⟨hc17, h0⟩ | ⟨hc17, h0⟩
          · rw [hc17]
            cbv
            cases h0
            refine fin_nil hX .i2 6 rfl ?_
            cbv
            exact fin_ok hX rfl ⟨[6], _, _, ⟨rfl, rfl⟩, rfl, rfl, rfl, rfl, by cbv; try simp⟩
          · rw [hc17]
            cbv
            obtain ⟨⟨n340, n341, l143, n342⟩, hv, h0⟩ := bindS h0
            try dsimp only at h0
            refine call_go hO hX (fn_ref16_Make hO hv) (by kernel_rfl) [5] rfl ⟨rfl, rfl, trivial⟩ rfl ?_
            rintro _ _ ⟨rfl, rfl⟩
            cbv
            cases h0
            exact fin_ok hX rfl ⟨[6], _, _, ⟨rfl, rfl⟩, rfl, rfl, rfl, rfl, by cbv; try simp⟩
      · as_aux_lemma =>
        rw [hc9]
        cbv
        cases h1
        try dsimp only at h0
        obtain ⟨n330, hv, h0⟩ := bindS h0
        refine call_go hO hX (fn_ref16_start hO hv) (by kernel_rfl) [0] rfl ⟨rfl, rfl, trivial⟩ rfl ?_
        rintro _ _ ⟨rfl, rfl⟩
        cbv
        obtain ⟨n331, hv, h0⟩ := bindS h0
        refine call_go hO hX (fn_ref16_start hO hv) (by kernel_rfl) [1] rfl ⟨rfl, rfl, trivial⟩ rfl ?_
        rintro _ _ ⟨rfl, rfl⟩
        cbv
        obtain ⟨e1, hi, h0⟩ := bindS h0
        obtain ⟨I1, hI1, hi⟩ := loopS hi
        refine loop1 tab_holds eqs_holds mixed [(4, (.seg 1 [0, 1, 2, 3, 4, 5, 6, 7, 8, 9, 10, 11, 12, 13, 14, 15, 16, 17] .fin), []), (10, (.seg 1 [0, 1, 3, 4] (.seg 2 [2] (.seg 2 [5] (.seg 1 [6, 7] .fin)))), []), (13, (.seg 1 [0, 1, 3, 4] (.alt 2 (.alt 5 (.alt 6 (.seg 2 [7] (.seg 3 [8] (.seg 3 [9] .fin))) (.alt 7 (.seg 2 [6] (.seg 3 [8] (.seg 3 [9] .fin))) .no)) (.alt 6 (.alt 5 (.seg 2 [7] (.seg 3 [8] (.seg 3 [9] .fin))) (.alt 7 (.seg 2 [5] (.seg 3 [8] (.seg 3 [9] .fin))) .no)) (.alt 7 (.alt 5 (.seg 2 [6] (.seg 3 [8] (.seg 3 [9] .fin))) (.alt 6 (.seg 2 [5] (.seg 3 [8] (.seg 3 [9] .fin))) .no)) .no))) (.alt 6 (.alt 2 (.alt 5 (.seg 2 [7] (.seg 3 [8] (.seg 3 [9] .fin))) (.alt 7 (.seg 2 [5] (.seg 3 [8] (.seg 3 [9] .fin))) .no)) (.alt 7 (.seg 2 [2] (.seg 2 [5] (.seg 3 [8] (.seg 3 [9] .fin)))) .no)) (.alt 7 (.alt 2 (.alt 5 (.seg 2 [6] (.seg 3 [8] (.seg 3 [9] .fin))) (.alt 6 (.seg 2 [5] (.seg 3 [8] (.seg 3 [9] .fin))) .no)) (.alt 6 (.seg 2 [2] (.seg 2 [5] (.seg 3 [8] (.seg 3 [9] .fin)))) .no)) .no)))), []), (21, (.seg 1 [0, 1, 2, 3, 4, 5, 6, 7, 8, 9, 10, 11, 12, 13] .fin), [])] hO hX I1 (fun y => [(17, .junk), (19, .junk), (28, .junk), (32, .junk), (36, .junk), (40, .junk), (11, .c (.int .i64 y.2.1)), (12, .c (.int .i64 y.2.2.1)), (13, .c (.sl 5))]) (fun y => [(5, .own 49 .i2 y.2.2.2)]) (fun y => y.1) _ (by kernel_rfl) hi (by cbv; try simp) ?_
        rintro ⟨n1, i29, k14, l139⟩ hi
        cbv
        rw [hI1] at hi
        obtain ⟨n1, rfl, x1, h1, hi1⟩ := iterS hi
        unfold m_ref16_Merge_L1 at h1
        try dsimp only at h1
        refine ⟨inr_of hO hg7, ?_⟩
        rcases condS h1 with ⟨hc10, h1⟩ | ⟨hc10, h1⟩
        · as_aux_lemma =>
          rw [hc10]
          cbv
          refine ⟨?_, ?_, ?_, trivial⟩
          · as_aux_lemma =>
            obtain ⟨⟨n336, n337⟩, hv, h1⟩ := bindS h1
            try dsimp only at h1
            refine call_go hO hX (fn_ref16_Granule hO hv) (by kernel_rfl) [0] rfl ⟨rfl, rfl, trivial⟩ rfl ?_
            rintro _ _ ⟨rfl, rfl⟩
            cbv
            refine ⟨?_, ?_, ?_, trivial⟩
            · as_aux_lemma =>
              obtain ⟨⟨n338, n339⟩, hv, h1⟩ := bindS h1
              try dsimp only at h1
              refine call_go hO hX (fn_ref16_Granule hO hv) (by kernel_rfl) [1] rfl ⟨rfl, rfl, trivial⟩ rfl ?_
              rintro _ _ ⟨rfl, rfl⟩
              cbv
              refine ⟨?_, ?_, trivial⟩
              · as_aux_lemma =>
                obtain ⟨x225, h2, h1⟩ := bindS h1
                rcases condS h2 with ⟨hc11, h2⟩ | ⟨hc11, h2⟩
                · as_aux_lemma =>
                  rw [hc11]
                  cbv
                  cases h2
                  try dsimp only at h1
                  rcases condS h1 with ⟨hc12, h1⟩ | ⟨hc12, h1⟩
                  · rw [hc12]
                    cbv
                    cases h1
                    cases exitI hi1
                    try dsimp only at h0
                    cases h0
                    refine fin_nil hX .i2 8 rfl ?_
                    cbv
                    exact fin_ok hX rfl ⟨[8], _, _, ⟨rfl, rfl⟩, rfl, rfl, rfl, rfl, by cbv; try simp⟩
                  · rw [hc12]
                    cbv
                    obtain ⟨⟨i31, k16, l141⟩, h2, h1⟩ := bindS h1
                    rcases condS h2 with ⟨hc13, h2⟩ | ⟨hc13, h2⟩
                    · rw [hc13]
                      cbv
                      obtain ⟨hg14, h2⟩ := grdS h2
                      refine ⟨room_of hO hg14, ?_⟩
                      obtain ⟨hg15, h2⟩ := grdS h2
                      refine ⟨room_of hO hg15, ?_⟩
                      obtain ⟨hg16, h2⟩ := grdS h2
                      refine ⟨inr_of hO hg16, ?_⟩
                      cases h2
                      try dsimp only at h1
                      cases h1
                      exact ⟨_, [0, 1, 2, 3, 4, 9], nextI hI1 hi1, by cbv; try simp, by first | exact Nat.lt_succ_self _ | omega⟩
                    · rw [hc13]
                      cbv
                      obtain ⟨hg14, h2⟩ := grdS h2
                      refine ⟨room_of hO hg14, ?_⟩
                      obtain ⟨hg15, h2⟩ := grdS h2
                      refine ⟨room_of hO hg15, ?_⟩
                      obtain ⟨hg16, h2⟩ := grdS h2
                      refine ⟨inr_of hO hg16, ?_⟩
                      cases h2
                      try dsimp only at h1
                      cases h1
                      exact ⟨_, [0, 1, 2, 3, 4, 9], nextI hI1 hi1, by cbv; try simp, by first | exact Nat.lt_succ_self _ | omega⟩
                · rw [hc11]
                  cbv
                  cases h2
                  try dsimp only at h1
                  replace h1 := condF h1 rfl
                  obtain ⟨⟨i31, k16, l141⟩, h2, h1⟩ := bindS h1
                  rcases condS h2 with ⟨hc12, h2⟩ | ⟨hc12, h2⟩
                  · rw [hc12]
                    cbv
                    obtain ⟨hg13, h2⟩ := grdS h2
                    refine ⟨room_of hO hg13, ?_⟩
                    obtain ⟨hg14, h2⟩ := grdS h2
                    refine ⟨room_of hO hg14, ?_⟩
                    obtain ⟨hg15, h2⟩ := grdS h2
                    refine ⟨inr_of hO hg15, ?_⟩
                    cases h2
                    try dsimp only at h1
                    cases h1
                    exact ⟨_, [0, 1, 2, 3, 4, 9], nextI hI1 hi1, by cbv; try simp, by first | exact Nat.lt_succ_self _ | omega⟩
                  · rw [hc12]
                    cbv
                    obtain ⟨hg13, h2⟩ := grdS h2
                    refine ⟨room_of hO hg13, ?_⟩
                    obtain ⟨hg14, h2⟩ := grdS h2
                    refine ⟨room_of hO hg14, ?_⟩
                    obtain ⟨hg15, h2⟩ := grdS h2
                    refine ⟨inr_of hO hg15, ?_⟩
                    cases h2
                    try dsimp only at h1
                    cases h1
                    exact ⟨_, [0, 1, 2, 3, 4, 9], nextI hI1 hi1, by cbv; try simp, by first | exact Nat.lt_succ_self _ | omega⟩
              · as_aux_lemma =>
                obtain ⟨x225, h2, h1⟩ := bindS h1
                rcases condS h2 with ⟨hc11, h2⟩ | ⟨hc11, h2⟩
                · as_aux_lemma =>
                  rw [hc11]
                  cbv
                  cases h2
                  try dsimp only at h1
                  rcases condS h1 with ⟨hc12, h1⟩ | ⟨hc12, h1⟩
                  · rw [hc12]
                    cbv
                    cases h1
                    cases exitI hi1
                    try dsimp only at h0
                    cases h0
                    refine fin_nil hX .i2 8 rfl ?_
                    cbv
                    exact fin_ok hX rfl ⟨[8], _, _, ⟨rfl, rfl⟩, rfl, rfl, rfl, rfl, by cbv; try simp⟩
                  · rw [hc12]
                    cbv
                    obtain ⟨⟨i31, k16, l141⟩, h2, h1⟩ := bindS h1
                    rcases condS h2 with ⟨hc13, h2⟩ | ⟨hc13, h2⟩
                    · rw [hc13]
                      cbv
                      obtain ⟨hg14, h2⟩ := grdS h2
                      refine ⟨room_of hO hg14, ?_⟩
                      obtain ⟨hg15, h2⟩ := grdS h2
                      refine ⟨room_of hO hg15, ?_⟩
                      obtain ⟨hg16, h2⟩ := grdS h2
                      refine ⟨inr_of hO hg16, ?_⟩
                      cases h2
                      try dsimp only at h1
                      cases h1
                      exact ⟨_, [0, 1, 2, 3, 4, 9], nextI hI1 hi1, by cbv; try simp, by first | exact Nat.lt_succ_self _ | omega⟩
                    · rw [hc13]
                      cbv
                      obtain ⟨hg14, h2⟩ := grdS h2
                      refine ⟨room_of hO hg14, ?_⟩
                      obtain ⟨hg15, h2⟩ := grdS h2
                      refine ⟨room_of hO hg15, ?_⟩
                      obtain ⟨hg16, h2⟩ := grdS h2
                      refine ⟨inr_of hO hg16, ?_⟩
                      cases h2
                      try dsimp only at h1
                      cases h1
                      exact ⟨_, [0, 1, 2, 3, 4, 9], nextI hI1 hi1, by cbv; try simp, by first | exact Nat.lt_succ_self _ | omega⟩
                · rw [hc11]
                  cbv
                  cases h2
                  try dsimp only at h1
                  replace h1 := condF h1 rfl
                  obtain ⟨⟨i31, k16, l141⟩, h2, h1⟩ := bindS h1
                  rcases condS h2 with ⟨hc12, h2⟩ | ⟨hc12, h2⟩
                  · rw [hc12]
                    cbv
                    obtain ⟨hg13, h2⟩ := grdS h2
                    refine ⟨room_of hO hg13, ?_⟩
                    obtain ⟨hg14, h2⟩ := grdS h2
                    refine ⟨room_of hO hg14, ?_⟩
                    obtain ⟨hg15, h2⟩ := grdS h2
                    refine ⟨inr_of hO hg15, ?_⟩
                    cases h2
                    try dsimp only at h1
                    cases h1
                    exact ⟨_, [0, 1, 2, 3, 4, 9], nextI hI1 hi1, by cbv; try simp, by first | exact Nat.lt_succ_self _ | omega⟩
                  · rw [hc12]
                    cbv
                    obtain ⟨hg13, h2⟩ := grdS h2
                    refine ⟨room_of hO hg13, ?_⟩
                    obtain ⟨hg14, h2⟩ := grdS h2
                    refine ⟨room_of hO hg14, ?_⟩
                    obtain ⟨hg15, h2⟩ := grdS h2
                    refine ⟨inr_of hO hg15, ?_⟩
                    cases h2
                    try dsimp only at h1
                    cases h1
                    exact ⟨_, [0, 1, 2, 3, 4, 9], nextI hI1 hi1, by cbv; try simp, by first | exact Nat.lt_succ_self _ | omega⟩
            · as_aux_lemma =>
              refine ⟨?_, ?_, trivial⟩
              · as_aux_lemma =>
                obtain ⟨⟨n338, n339⟩, hv, h1⟩ := bindS h1
                try dsimp only at h1
                refine call_go hO hX (fn_ref16_Granule hO hv) (by kernel_rfl) [1] rfl ⟨rfl, rfl, trivial⟩ rfl ?_
                rintro _ _ ⟨rfl, rfl⟩
                cbv
                obtain ⟨x225, h2, h1⟩ := bindS h1
                rcases condS h2 with ⟨hc11, h2⟩ | ⟨hc11, h2⟩
                · as_aux_lemma =>
                  rw [hc11]
                  cbv
                  cases h2
                  try dsimp only at h1
                  rcases condS h1 with ⟨hc12, h1⟩ | ⟨hc12, h1⟩
                  · rw [hc12]
                    cbv
                    cases h1
                    cases exitI hi1
                    try dsimp only at h0
                    cases h0
                    refine fin_nil hX .i2 8 rfl ?_
                    cbv
                    exact fin_ok hX rfl ⟨[8], _, _, ⟨rfl, rfl⟩, rfl, rfl, rfl, rfl, by cbv; try simp⟩
                  · rw [hc12]
                    cbv
                    obtain ⟨⟨i31, k16, l141⟩, h2, h1⟩ := bindS h1
                    rcases condS h2 with ⟨hc13, h2⟩ | ⟨hc13, h2⟩
                    · rw [hc13]
                      cbv
                      obtain ⟨hg14, h2⟩ := grdS h2
                      refine ⟨room_of hO hg14, ?_⟩
                      obtain ⟨hg15, h2⟩ := grdS h2
                      refine ⟨room_of hO hg15, ?_⟩
                      obtain ⟨hg16, h2⟩ := grdS h2
                      refine ⟨inr_of hO hg16, ?_⟩
                      cases h2
                      try dsimp only at h1
                      cases h1
                      exact ⟨_, [0, 1, 2, 3, 4, 9], nextI hI1 hi1, by cbv; try simp, by first | exact Nat.lt_succ_self _ | omega⟩
                    · rw [hc13]
                      cbv
                      obtain ⟨hg14, h2⟩ := grdS h2
                      refine ⟨room_of hO hg14, ?_⟩
                      obtain ⟨hg15, h2⟩ := grdS h2
                      refine ⟨room_of hO hg15, ?_⟩
                      obtain ⟨hg16, h2⟩ := grdS h2
                      refine ⟨inr_of hO hg16, ?_⟩
                      cases h2
                      try dsimp only at h1
                      cases h1
                      exact ⟨_, [0, 1, 2, 3, 4, 9], nextI hI1 hi1, by cbv; try simp, by first | exact Nat.lt_succ_self _ | omega⟩
                · rw [hc11]
                  cbv
                  cases h2
                  try dsimp only at h1
                  replace h1 := condF h1 rfl
                  obtain ⟨⟨i31, k16, l141⟩, h2, h1⟩ := bindS h1
                  rcases condS h2 with ⟨hc12, h2⟩ | ⟨hc12, h2⟩
                  · rw [hc12]
                    cbv
                    obtain ⟨hg13, h2⟩ := grdS h2
                    refine ⟨room_of hO hg13, ?_⟩
                    obtain ⟨hg14, h2⟩ := grdS h2
                    refine ⟨room_of hO hg14, ?_⟩
                    obtain ⟨hg15, h2⟩ := grdS h2
                    refine ⟨inr_of hO hg15, ?_⟩
                    cases h2
                    try dsimp only at h1
                    cases h1
                    exact ⟨_, [0, 1, 2, 3, 4, 9], nextI hI1 hi1, by cbv; try simp, by first | exact Nat.lt_succ_self _ | omega⟩
                  · rw [hc12]
                    cbv
                    obtain ⟨hg13, h2⟩ := grdS h2
                    refine ⟨room_of hO hg13, ?_⟩
                    obtain ⟨hg14, h2⟩ := grdS h2
                    refine ⟨room_of hO hg14, ?_⟩
                    obtain ⟨hg15, h2⟩ := grdS h2
                    refine ⟨inr_of hO hg15, ?_⟩
                    cases h2
                    try dsimp only at h1
                    cases h1
                    exact ⟨_, [0, 1, 2, 3, 4, 9], nextI hI1 hi1, by cbv; try simp, by first | exact Nat.lt_succ_self _ | omega⟩
              · as_aux_lemma =>
                obtain ⟨⟨n338, n339⟩, hv, h1⟩ := bindS h1
                try dsimp only at h1
                refine call_go hO hX (fn_ref16_Granule hO hv) (by kernel_rfl) [1] rfl ⟨rfl, rfl, trivial⟩ rfl ?_
                rintro _ _ ⟨rfl, rfl⟩
                cbv
                obtain ⟨x225, h2, h1⟩ := bindS h1
                rcases condS h2 with ⟨hc11, h2⟩ | ⟨hc11, h2⟩
                · as_aux_lemma =>
                  rw [hc11]
                  cbv
                  cases h2
                  try dsimp only at h1
                  rcases condS h1 with ⟨hc12, h1⟩ | ⟨hc12, h1⟩
                  · rw [hc12]
                    cbv
                    cases h1
                    cases exitI hi1
                    try dsimp only at h0
                    cases h0
                    refine fin_nil hX .i2 8 rfl ?_
                    cbv
                    exact fin_ok hX rfl ⟨[8], _, _, ⟨rfl, rfl⟩, rfl, rfl, rfl, rfl, by cbv; try simp⟩
                  · rw [hc12]
                    cbv
                    obtain ⟨⟨i31, k16, l141⟩, h2, h1⟩ := bindS h1
                    rcases condS h2 with ⟨hc13, h2⟩ | ⟨hc13, h2⟩
                    · rw [hc13]
                      cbv
                      obtain ⟨hg14, h2⟩ := grdS h2
                      refine ⟨room_of hO hg14, ?_⟩
                      obtain ⟨hg15, h2⟩ := grdS h2
                      refine ⟨room_of hO hg15, ?_⟩
                      obtain ⟨hg16, h2⟩ := grdS h2
                      refine ⟨inr_of hO hg16, ?_⟩
                      cases h2
                      try dsimp only at h1
                      cases h1
                      exact ⟨_, [0, 1, 2, 3, 4, 9], nextI hI1 hi1, by cbv; try simp, by first | exact Nat.lt_succ_self _ | omega⟩
                    · rw [hc13]
                      cbv
                      obtain ⟨hg14, h2⟩ := grdS h2
                      refine ⟨room_of hO hg14, ?_⟩
                      obtain ⟨hg15, h2⟩ := grdS h2
                      refine ⟨room_of hO hg15, ?_⟩
                      obtain ⟨hg16, h2⟩ := grdS h2
                      refine ⟨inr_of hO hg16, ?_⟩
                      cases h2
                      try dsimp only at h1
                      cases h1
                      exact ⟨_, [0, 1, 2, 3, 4, 9], nextI hI1 hi1, by cbv; try simp, by first | exact Nat.lt_succ_self _ | omega⟩
                · rw [hc11]
                  cbv
                  cases h2
                  try dsimp only at h1
                  replace h1 := condF h1 rfl
                  obtain ⟨⟨i31, k16, l141⟩, h2, h1⟩ := bindS h1
                  rcases condS h2 with ⟨hc12, h2⟩ | ⟨hc12, h2⟩
                  · rw [hc12]
                    cbv
                    obtain ⟨hg13, h2⟩ := grdS h2
                    refine ⟨room_of hO hg13, ?_⟩
                    obtain ⟨hg14, h2⟩ := grdS h2
                    refine ⟨room_of hO hg14, ?_⟩
                    obtain ⟨hg15, h2⟩ := grdS h2
                    refine ⟨inr_of hO hg15, ?_⟩
                    cases h2
                    try dsimp only at h1
                    cases h1
                    exact ⟨_, [0, 1, 2, 3, 4, 9], nextI hI1 hi1, by cbv; try simp, by first | exact Nat.lt_succ_self _ | omega⟩
                  · rw [hc12]
                    cbv
                    obtain ⟨hg13, h2⟩ := grdS h2
                    refine ⟨room_of hO hg13, ?_⟩
                    obtain ⟨hg14, h2⟩ := grdS h2
                    refine ⟨room_of hO hg14, ?_⟩
                    obtain ⟨hg15, h2⟩ := grdS h2
                    refine ⟨inr_of hO hg15, ?_⟩
                    cases h2
                    try dsimp only at h1
                    cases h1
                    exact ⟨_, [0, 1, 2, 3, 4, 9], nextI hI1 hi1, by cbv; try simp, by first | exact Nat.lt_succ_self _ | omega⟩
            · as_aux_lemma =>
              refine ⟨?_, ?_, trivial⟩
              · as_aux_lemma =>
                obtain ⟨⟨n338, n339⟩, hv, h1⟩ := bindS h1
                try dsimp only at h1
                refine call_go hO hX (fn_ref16_Granule hO hv) (by kernel_rfl) [1] rfl ⟨rfl, rfl, trivial⟩ rfl ?_
                rintro _ _ ⟨rfl, rfl⟩
                cbv
                obtain ⟨x225, h2, h1⟩ := bindS h1
                rcases condS h2 with ⟨hc11, h2⟩ | ⟨hc11, h2⟩
                · as_aux_lemma =>
                  rw [hc11]
                  cbv
                  cases h2
                  try dsimp only at h1
                  rcases condS h1 with ⟨hc12, h1⟩ | ⟨hc12, h1⟩
                  · rw [hc12]
                    cbv
                    cases h1
                    cases exitI hi1
                    try dsimp only at h0
                    cases h0
                    refine fin_nil hX .i2 8 rfl ?_
                    cbv
                    exact fin_ok hX rfl ⟨[8], _, _, ⟨rfl, rfl⟩, rfl, rfl, rfl, rfl, by cbv; try simp⟩
                  · rw [hc12]
                    cbv
                    obtain ⟨⟨i31, k16, l141⟩, h2, h1⟩ := bindS h1
                    rcases condS h2 with ⟨hc13, h2⟩ | ⟨hc13, h2⟩
                    · rw [hc13]
                      cbv
                      obtain ⟨hg14, h2⟩ := grdS h2
                      refine ⟨room_of hO hg14, ?_⟩
                      obtain ⟨hg15, h2⟩ := grdS h2
                      refine ⟨room_of hO hg15, ?_⟩
                      obtain ⟨hg16, h2⟩ := grdS h2
                      refine ⟨inr_of hO hg16, ?_⟩
                      cases h2
                      try dsimp only at h1
                      cases h1
                      exact ⟨_, [0, 1, 2, 3, 4, 9], nextI hI1 hi1, by cbv; try simp, by first | exact Nat.lt_succ_self _ | omega⟩
                    · rw [hc13]
                      cbv
                      obtain ⟨hg14, h2⟩ := grdS h2
                      refine ⟨room_of hO hg14, ?_⟩
                      obtain ⟨hg15, h2⟩ := grdS h2
                      refine ⟨room_of hO hg15, ?_⟩
                      obtain ⟨hg16, h2⟩ := grdS h2
                      refine ⟨inr_of hO hg16, ?_⟩
                      cases h2
                      try dsimp only at h1
                      cases h1
                      exact ⟨_, [0, 1, 2, 3, 4, 9], nextI hI1 hi1, by cbv; try simp, by first | exact Nat.lt_succ_self _ | omega⟩
                · rw [hc11]
                  cbv
                  cases h2
                  try dsimp only at h1
                  replace h1 := condF h1 rfl
                  obtain ⟨⟨i31, k16, l141⟩, h2, h1⟩ := bindS h1
                  rcases condS h2 with ⟨hc12, h2⟩ | ⟨hc12, h2⟩
                  · rw [hc12]
                    cbv
                    obtain ⟨hg13, h2⟩ := grdS h2
                    refine ⟨room_of hO hg13, ?_⟩
                    obtain ⟨hg14, h2⟩ := grdS h2
                    refine ⟨room_of hO hg14, ?_⟩
                    obtain ⟨hg15, h2⟩ := grdS h2
                    refine ⟨inr_of hO hg15, ?_⟩
                    cases h2
                    try dsimp only at h1
                    cases h1
                    exact ⟨_, [0, 1, 2, 3, 4, 9], nextI hI1 hi1, by cbv; try simp, by first | exact Nat.lt_succ_self _ | omega⟩
                  · rw [hc12]
                    cbv
                    obtain ⟨hg13, h2⟩ := grdS h2
                    refine ⟨room_of hO hg13, ?_⟩
                    obtain ⟨hg14, h2⟩ := grdS h2
                    refine ⟨room_of hO hg14, ?_⟩
                    obtain ⟨hg15, h2⟩ := grdS h2
                    refine ⟨inr_of hO hg15, ?_⟩
                    cases h2
                    try dsimp only at h1
                    cases h1
                    exact ⟨_, [0, 1, 2, 3, 4, 9], nextI hI1 hi1, by cbv; try simp, by first | exact Nat.lt_succ_self _ | omega⟩
              · as_aux_lemma =>
                obtain ⟨⟨n338, n339⟩, hv, h1⟩ := bindS h1
                try dsimp only at h1
                refine call_go hO hX (fn_ref16_Granule hO hv) (by kernel_rfl) [1] rfl ⟨rfl, rfl, trivial⟩ rfl ?_
                rintro _ _ ⟨rfl, rfl⟩
                cbv
                obtain ⟨x225, h2, h1⟩ := bindS h1
                rcases condS h2 with ⟨hc11, h2⟩ | ⟨hc11, h2⟩
                · as_aux_lemma =>
                  rw [hc11]
                  cbv
                  cases h2
                  try dsimp only at h1
                  rcases condS h1 with ⟨hc12, h1⟩ | ⟨hc12, h1⟩
                  · rw [hc12]
                    cbv
                    cases h1
                    cases exitI hi1
                    try dsimp only at h0
                    cases h0
                    refine fin_nil hX .i2 8 rfl ?_
                    cbv
                    exact fin_ok hX rfl ⟨[8], _, _, ⟨rfl, rfl⟩, rfl, rfl, rfl, rfl, by cbv; try simp⟩
                  · rw [hc12]
                    cbv
                    obtain ⟨⟨i31, k16, l141⟩, h2, h1⟩ := bindS h1
                    rcases condS h2 with ⟨hc13, h2⟩ | ⟨hc13, h2⟩
                    · rw [hc13]
                      cbv
                      obtain ⟨hg14, h2⟩ := grdS h2
                      refine ⟨room_of hO hg14, ?_⟩
                      obtain ⟨hg15, h2⟩ := grdS h2
                      refine ⟨room_of hO hg15, ?_⟩
                      obtain ⟨hg16, h2⟩ := grdS h2
                      refine ⟨inr_of hO hg16, ?_⟩
                      cases h2
                      try dsimp only at h1
                      cases h1
                      exact ⟨_, [0, 1, 2, 3, 4, 9], nextI hI1 hi1, by cbv; try simp, by first | exact Nat.lt_succ_self _ | omega⟩
                    · rw [hc13]
                      cbv
                      obtain ⟨hg14, h2⟩ := grdS h2
                      refine ⟨room_of hO hg14, ?_⟩
                      obtain ⟨hg15, h2⟩ := grdS h2
                      refine ⟨room_of hO hg15, ?_⟩
                      obtain ⟨hg16, h2⟩ := grdS h2
                      refine ⟨inr_of hO hg16, ?_⟩
                      cases h2
                      try dsimp only at h1
                      cases h1
                      exact ⟨_, [0, 1, 2, 3, 4, 9], nextI hI1 hi1, by cbv; try simp, by first | exact Nat.lt_succ_self _ | omega⟩
                · rw [hc11]
                  cbv
                  cases h2
                  try dsimp only at h1
                  replace h1 := condF h1 rfl
                  obtain ⟨⟨i31, k16, l141⟩, h2, h1⟩ := bindS h1
                  rcases condS h2 with ⟨hc12, h2⟩ | ⟨hc12, h2⟩
                  · rw [hc12]
                    cbv
                    obtain ⟨hg13, h2⟩ := grdS h2
                    refine ⟨room_of hO hg13, ?_⟩
                    obtain ⟨hg14, h2⟩ := grdS h2
                    refine ⟨room_of hO hg14, ?_⟩
                    obtain ⟨hg15, h2⟩ := grdS h2
                    refine ⟨inr_of hO hg15, ?_⟩
                    cases h2
                    try dsimp only at h1
                    cases h1
                    exact ⟨_, [0, 1, 2, 3, 4, 9], nextI hI1 hi1, by cbv; try simp, by first | exact Nat.lt_succ_self _ | omega⟩
                  · rw [hc12]
                    cbv
                    obtain ⟨hg13, h2⟩ := grdS h2
                    refine ⟨room_of hO hg13, ?_⟩
                    obtain ⟨hg14, h2⟩ := grdS h2
                    refine ⟨room_of hO hg14, ?_⟩
                    obtain ⟨hg15, h2⟩ := grdS h2
                    refine ⟨inr_of hO hg15, ?_⟩
                    cases h2
                    try dsimp only at h1
                    cases h1
                    exact ⟨_, [0, 1, 2, 3, 4, 9], nextI hI1 hi1, by cbv; try simp, by first | exact Nat.lt_succ_self _ | omega⟩
          · as_aux_lemma =>
            refine ⟨?_, ?_, trivial⟩
            · as_aux_lemma =>
              obtain ⟨⟨n336, n337⟩, hv, h1⟩ := bindS h1
              try dsimp only at h1
              refine call_go hO hX (fn_ref16_Granule hO hv) (by kernel_rfl) [0] rfl ⟨rfl, rfl, trivial⟩ rfl ?_
              rintro _ _ ⟨rfl, rfl⟩
              cbv
              refine ⟨?_, ?_, trivial⟩
              · as_aux_lemma =>
                obtain ⟨⟨n338, n339⟩, hv, h1⟩ := bindS h1
                try dsimp only at h1
                refine call_go hO hX (fn_ref16_Granule hO hv) (by kernel_rfl) [1] rfl ⟨rfl, rfl, trivial⟩ rfl ?_
                rintro _ _ ⟨rfl, rfl⟩
                cbv
                obtain ⟨x225, h2, h1⟩ := bindS h1
                rcases condS h2 with ⟨hc11, h2⟩ | ⟨hc11, h2⟩
                · as_aux_lemma =>
                  rw [hc11]
                  cbv
                  cases h2
                  try dsimp only at h1
                  rcases condS h1 with ⟨hc12, h1⟩ | ⟨hc12, h1⟩
                  · rw [hc12]
                    cbv
                    cases h1
                    cases exitI hi1
                    try dsimp only at h0
                    cases h0
                    refine fin_nil hX .i2 8 rfl ?_
                    cbv
                    exact fin_ok hX rfl ⟨[8], _, _, ⟨rfl, rfl⟩, rfl, rfl, rfl, rfl, by cbv; try simp⟩
                  · rw [hc12]
                    cbv
                    obtain ⟨⟨i31, k16, l141⟩, h2, h1⟩ := bindS h1
                    rcases condS h2 with ⟨hc13, h2⟩ | ⟨hc13, h2⟩
                    · rw [hc13]
                      cbv
                      obtain ⟨hg14, h2⟩ := grdS h2
                      refine ⟨room_of hO hg14, ?_⟩
                      obtain ⟨hg15, h2⟩ := grdS h2
                      refine ⟨room_of hO hg15, ?_⟩
                      obtain ⟨hg16, h2⟩ := grdS h2
                      refine ⟨inr_of hO hg16, ?_⟩
                      cases h2
                      try dsimp only at h1
                      cases h1
                      exact ⟨_, [0, 1, 2, 3, 4, 9], nextI hI1 hi1, by cbv; try simp, by first | exact Nat.lt_succ_self _ | omega⟩
                    · rw [hc13]
                      cbv
                      obtain ⟨hg14, h2⟩ := grdS h2
                      refine ⟨room_of hO hg14, ?_⟩
                      obtain ⟨hg15, h2⟩ := grdS h2
                      refine ⟨room_of hO hg15, ?_⟩
                      obtain ⟨hg16, h2⟩ := grdS h2
                      refine ⟨inr_of hO hg16, ?_⟩
                      cases h2
                      try dsimp only at h1
                      cases h1
                      exact ⟨_, [0, 1, 2, 3, 4, 9], nextI hI1 hi1, by cbv; try simp, by first | exact Nat.lt_succ_self _ | omega⟩
                · rw [hc11]
                  cbv
                  cases h2
                  try dsimp only at h1
                  replace h1 := condF h1 rfl
                  obtain ⟨⟨i31, k16, l141⟩, h2, h1⟩ := bindS h1
                  rcases condS h2 with ⟨hc12, h2⟩ | ⟨hc12, h2⟩
                  · rw [hc12]
                    cbv
                    obtain ⟨hg13, h2⟩ := grdS h2
                    refine ⟨room_of hO hg13, ?_⟩
                    obtain ⟨hg14, h2⟩ := grdS h2
                    refine ⟨room_of hO hg14, ?_⟩
                    obtain ⟨hg15, h2⟩ := grdS h2
                    refine ⟨inr_of hO hg15, ?_⟩
                    cases h2
                    try dsimp only at h1
                    cases h1
                    exact ⟨_, [0, 1, 2, 3, 4, 9], nextI hI1 hi1, by cbv; try simp, by first | exact Nat.lt_succ_self _ | omega⟩
                  · rw [hc12]
                    cbv
                    obtain ⟨hg13, h2⟩ := grdS h2
                    refine ⟨room_of hO hg13, ?_⟩
                    obtain ⟨hg14, h2⟩ := grdS h2
                    refine ⟨room_of hO hg14, ?_⟩
                    obtain ⟨hg15, h2⟩ := grdS h2
                    refine ⟨inr_of hO hg15, ?_⟩
                    cases h2
                    try dsimp only at h1
                    cases h1
                    exact ⟨_, [0, 1, 2, 3, 4, 9], nextI hI1 hi1, by cbv; try simp, by first | exact Nat.lt_succ_self _ | omega⟩
              · as_aux_lemma =>
                obtain ⟨⟨n338, n339⟩, hv, h1⟩ := bindS h1
                try dsimp only at h1
                refine call_go hO hX (fn_ref16_Granule hO hv) (by kernel_rfl) [1] rfl ⟨rfl, rfl, trivial⟩ rfl ?_
                rintro _ _ ⟨rfl, rfl⟩
                cbv
                obtain ⟨x225, h2, h1⟩ := bindS h1
                rcases condS h2 with ⟨hc11, h2⟩ | ⟨hc11, h2⟩
                · as_aux_lemma =>
                  rw [hc11]
                  cbv
                  cases h2
                  try dsimp only at h1
                  rcases condS h1 with ⟨hc12, h1⟩ | ⟨hc12, h1⟩
                  · rw [hc12]
                    cbv
                    cases h1
                    cases exitI hi1
                    try dsimp only at h0
                    cases h0
                    refine fin_nil hX .i2 8 rfl ?_
                    cbv
                    exact fin_ok hX rfl ⟨[8], _, _, ⟨rfl, rfl⟩, rfl, rfl, rfl, rfl, by cbv; try simp⟩
                  · rw [hc12]
                    cbv
                    obtain ⟨⟨i31, k16, l141⟩, h2, h1⟩ := bindS h1
                    rcases condS h2 with ⟨hc13, h2⟩ | ⟨hc13, h2⟩
                    · rw [hc13]
                      cbv
                      obtain ⟨hg14, h2⟩ := grdS h2
                      refine ⟨room_of hO hg14, ?_⟩
                      obtain ⟨hg15, h2⟩ := grdS h2
                      refine ⟨room_of hO hg15, ?_⟩
                      obtain ⟨hg16, h2⟩ := grdS h2
                      refine ⟨inr_of hO hg16, ?_⟩
                      cases h2
                      try dsimp only at h1
                      cases h1
                      exact ⟨_, [0, 1, 2, 3, 4, 9], nextI hI1 hi1, by cbv; try simp, by first | exact Nat.lt_succ_self _ | omega⟩
                    · rw [hc13]
                      cbv
                      obtain ⟨hg14, h2⟩ := grdS h2
                      refine ⟨room_of hO hg14, ?_⟩
                      obtain ⟨hg15, h2⟩ := grdS h2
                      refine ⟨room_of hO hg15, ?_⟩
                      obtain ⟨hg16, h2⟩ := grdS h2
                      refine ⟨inr_of hO hg16, ?_⟩
                      cases h2
                      try dsimp only at h1
                      cases h1
                      exact ⟨_, [0, 1, 2, 3, 4, 9], nextI hI1 hi1, by cbv; try simp, by first | exact Nat.lt_succ_self _ | omega⟩
                · rw [hc11]
                  cbv
                  cases h2
                  try dsimp only at h1
                  replace h1 := condF h1 rfl
                  obtain ⟨⟨i31, k16, l141⟩, h2, h1⟩ := bindS h1
                  rcases condS h2 with ⟨hc12, h2⟩ | ⟨hc12, h2⟩
                  · rw [hc12]
                    cbv
                    obtain ⟨hg13, h2⟩ := grdS h2
                    refine ⟨room_of hO hg13, ?_⟩
                    obtain ⟨hg14, h2⟩ := grdS h2
                    refine ⟨room_of hO hg14, ?_⟩
                    obtain ⟨hg15, h2⟩ := grdS h2
                    refine ⟨inr_of hO hg15, ?_⟩
                    cases h2
                    try dsimp only at h1
                    cases h1
                    exact ⟨_, [0, 1, 2, 3, 4, 9], nextI hI1 hi1, by cbv; try simp, by first | exact Nat.lt_succ_self _ | omega⟩
                  · rw [hc12]
                    cbv
                    obtain ⟨hg13, h2⟩ := grdS h2
                    refine ⟨room_of hO hg13, ?_⟩
                    obtain ⟨hg14, h2⟩ := grdS h2
                    refine ⟨room_of hO hg14, ?_⟩
                    obtain ⟨hg15, h2⟩ := grdS h2
                    refine ⟨inr_of hO hg15, ?_⟩
                    cases h2
                    try dsimp only at h1
                    cases h1
                    exact ⟨_, [0, 1, 2, 3, 4, 9], nextI hI1 hi1, by cbv; try simp, by first | exact Nat.lt_succ_self _ | omega⟩
            · as_aux_lemma =>
              obtain ⟨⟨n336, n337⟩, hv, h1⟩ := bindS h1
              try dsimp only at h1
              refine call_go hO hX (fn_ref16_Granule hO hv) (by kernel_rfl) [0] rfl ⟨rfl, rfl, trivial⟩ rfl ?_
              rintro _ _ ⟨rfl, rfl⟩
              cbv
              obtain ⟨⟨n338, n339⟩, hv, h1⟩ := bindS h1
              try dsimp only at h1
              refine call_go hO hX (fn_ref16_Granule hO hv) (by kernel_rfl) [1] rfl ⟨rfl, rfl, trivial⟩ rfl ?_
              rintro _ _ ⟨rfl, rfl⟩
              cbv
              obtain ⟨x225, h2, h1⟩ := bindS h1
              rcases condS h2 with ⟨hc11, h2⟩ | ⟨hc11, h2⟩
              · as_aux_lemma =>
                rw [hc11]
                cbv
                cases h2
                try dsimp only at h1
                rcases condS h1 with ⟨hc12, h1⟩ | ⟨hc12, h1⟩
                · rw [hc12]
                  cbv
                  cases h1
                  cases exitI hi1
                  try dsimp only at h0
                  cases h0
                  refine fin_nil hX .i2 8 rfl ?_
                  cbv
                  exact fin_ok hX rfl ⟨[8], _, _, ⟨rfl, rfl⟩, rfl, rfl, rfl, rfl, by cbv; try simp⟩
                · rw [hc12]
                  cbv
                  obtain ⟨⟨i31, k16, l141⟩, h2, h1⟩ := bindS h1
                  rcases condS h2 with ⟨hc13, h2⟩ | ⟨hc13, h2⟩
                  · rw [hc13]
                    cbv
                    obtain ⟨hg14, h2⟩ := grdS h2
                    refine ⟨room_of hO hg14, ?_⟩
                    obtain ⟨hg15, h2⟩ := grdS h2
                    refine ⟨room_of hO hg15, ?_⟩
                    obtain ⟨hg16, h2⟩ := grdS h2
                    refine ⟨inr_of hO hg16, ?_⟩
                    cases h2
                    try dsimp only at h1
                    cases h1
                    exact ⟨_, [0, 1, 2, 3, 4, 9], nextI hI1 hi1, by cbv; try simp, by first | exact Nat.lt_succ_self _ | omega⟩
                  · rw [hc13]
                    cbv
                    obtain ⟨hg14, h2⟩ := grdS h2
                    refine ⟨room_of hO hg14, ?_⟩
                    obtain ⟨hg15, h2⟩ := grdS h2
                    refine ⟨room_of hO hg15, ?_⟩
                    obtain ⟨hg16, h2⟩ := grdS h2
                    refine ⟨inr_of hO hg16, ?_⟩
                    cases h2
                    try dsimp only at h1
                    cases h1
                    exact ⟨_, [0, 1, 2, 3, 4, 9], nextI hI1 hi1, by cbv; try simp, by first | exact Nat.lt_succ_self _ | omega⟩
              · rw [hc11]
                cbv
                cases h2
                try dsimp only at h1
                replace h1 := condF h1 rfl
                obtain ⟨⟨i31, k16, l141⟩, h2, h1⟩ := bindS h1
                rcases condS h2 with ⟨hc12, h2⟩ | ⟨hc12, h2⟩
                · rw [hc12]
                  cbv
                  obtain ⟨hg13, h2⟩ := grdS h2
                  refine ⟨room_of hO hg13, ?_⟩
                  obtain ⟨hg14, h2⟩ := grdS h2
                  refine ⟨room_of hO hg14, ?_⟩
                  obtain ⟨hg15, h2⟩ := grdS h2
                  refine ⟨inr_of hO hg15, ?_⟩
                  cases h2
                  try dsimp only at h1
                  cases h1
                  exact ⟨_, [0, 1, 2, 3, 4, 9], nextI hI1 hi1, by cbv; try simp, by first | exact Nat.lt_succ_self _ | omega⟩
                · rw [hc12]
                  cbv
                  obtain ⟨hg13, h2⟩ := grdS h2
                  refine ⟨room_of hO hg13, ?_⟩
                  obtain ⟨hg14, h2⟩ := grdS h2
                  refine ⟨room_of hO hg14, ?_⟩
                  obtain ⟨hg15, h2⟩ := grdS h2
                  refine ⟨inr_of hO hg15, ?_⟩
                  cases h2
                  try dsimp only at h1
                  cases h1
                  exact ⟨_, [0, 1, 2, 3, 4, 9], nextI hI1 hi1, by cbv; try simp, by first | exact Nat.lt_succ_self _ | omega⟩
          · as_aux_lemma =>
            refine ⟨?_, ?_, trivial⟩
            · as_aux_lemma =>
              obtain ⟨⟨n336, n337⟩, hv, h1⟩ := bindS h1
              try dsimp only at h1
              refine call_go hO hX (fn_ref16_Granule hO hv) (by kernel_rfl) [0] rfl ⟨rfl, rfl, trivial⟩ rfl ?_
              rintro _ _ ⟨rfl, rfl⟩
              cbv
              refine ⟨?_, ?_, trivial⟩
              · as_aux_lemma =>
                obtain ⟨⟨n338, n339⟩, hv, h1⟩ := bindS h1
                try dsimp only at h1
                refine call_go hO hX (fn_ref16_Granule hO hv) (by kernel_rfl) [1] rfl ⟨rfl, rfl, trivial⟩ rfl ?_
                rintro _ _ ⟨rfl, rfl⟩
                cbv
                obtain ⟨x225, h2, h1⟩ := bindS h1
                rcases condS h2 with ⟨hc11, h2⟩ | ⟨hc11, h2⟩
                · as_aux_lemma =>
                  rw [hc11]
                  cbv
                  cases h2
                  try dsimp only at h1
                  rcases condS h1 with ⟨hc12, h1⟩ | ⟨hc12, h1⟩
                  · rw [hc12]
                    cbv
                    cases h1
                    cases exitI hi1
                    try dsimp only at h0
                    cases h0
                    refine fin_nil hX .i2 8 rfl ?_
                    cbv
                    exact fin_ok hX rfl ⟨[8], _, _, ⟨rfl, rfl⟩, rfl, rfl, rfl, rfl, by cbv; try simp⟩
                  · rw [hc12]
                    cbv
                    obtain ⟨⟨i31, k16, l141⟩, h2, h1⟩ := bindS h1
                    rcases condS h2 with ⟨hc13, h2⟩ | ⟨hc13, h2⟩
                    · rw [hc13]
                      cbv
                      obtain ⟨hg14, h2⟩ := grdS h2
                      refine ⟨room_of hO hg14, ?_⟩
                      obtain ⟨hg15, h2⟩ := grdS h2
                      refine ⟨room_of hO hg15, ?_⟩
                      obtain ⟨hg16, h2⟩ := grdS h2
                      refine ⟨inr_of hO hg16, ?_⟩
                      cases h2
                      try dsimp only at h1
                      cases h1
                      exact ⟨_, [0, 1, 2, 3, 4, 9], nextI hI1 hi1, by cbv; try simp, by first | exact Nat.lt_succ_self _ | omega⟩
                    · rw [hc13]
                      cbv
                      obtain ⟨hg14, h2⟩ := grdS h2
                      refine ⟨room_of hO hg14, ?_⟩
                      obtain ⟨hg15, h2⟩ := grdS h2
                      refine ⟨room_of hO hg15, ?_⟩
                      obtain ⟨hg16, h2⟩ := grdS h2
                      refine ⟨inr_of hO hg16, ?_⟩
                      cases h2
                      try dsimp only at h1
                      cases h1
                      exact ⟨_, [0, 1, 2, 3, 4, 9], nextI hI1 hi1, by cbv; try simp, by first | exact Nat.lt_succ_self _ | omega⟩
                · rw [hc11]
                  cbv
                  cases h2
                  try dsimp only at h1
                  replace h1 := condF h1 rfl
                  obtain ⟨⟨i31, k16, l141⟩, h2, h1⟩ := bindS h1
                  rcases condS h2 with ⟨hc12, h2⟩ | ⟨hc12, h2⟩
                  · rw [hc12]
                    cbv
                    obtain ⟨hg13, h2⟩ := grdS h2
                    refine ⟨room_of hO hg13, ?_⟩
                    obtain ⟨hg14, h2⟩ := grdS h2
                    refine ⟨room_of hO hg14, ?_⟩
                    obtain ⟨hg15, h2⟩ := grdS h2
                    refine ⟨inr_of hO hg15, ?_⟩
                    cases h2
                    try dsimp only at h1
                    cases h1
                    exact ⟨_, [0, 1, 2, 3, 4, 9], nextI hI1 hi1, by cbv; try simp, by first | exact Nat.lt_succ_self _ | omega⟩
                  · rw [hc12]
                    cbv
                    obtain ⟨hg13, h2⟩ := grdS h2
                    refine ⟨room_of hO hg13, ?_⟩
                    obtain ⟨hg14, h2⟩ := grdS h2
                    refine ⟨room_of hO hg14, ?_⟩
                    obtain ⟨hg15, h2⟩ := grdS h2
                    refine ⟨inr_of hO hg15, ?_⟩
                    cases h2
                    try dsimp only at h1
                    cases h1
                    exact ⟨_, [0, 1, 2, 3, 4, 9], nextI hI1 hi1, by cbv; try simp, by first | exact Nat.lt_succ_self _ | omega⟩
              · as_aux_lemma =>
                obtain ⟨⟨n338, n339⟩, hv, h1⟩ := bindS h1
                try dsimp only at h1
                refine call_go hO hX (fn_ref16_Granule hO hv) (by kernel_rfl) [1] rfl ⟨rfl, rfl, trivial⟩ rfl ?_
                rintro _ _ ⟨rfl, rfl⟩
                cbv
                obtain ⟨x225, h2, h1⟩ := bindS h1
                rcases condS h2 with ⟨hc11, h2⟩ | ⟨hc11, h2⟩
                · as_aux_lemma =>
                  rw [hc11]
                  cbv
                  cases h2
                  try dsimp only at h1
                  rcases condS h1 with ⟨hc12, h1⟩ | ⟨hc12, h1⟩
                  · rw [hc12]
                    cbv
                    cases h1
                    cases exitI hi1
                    try dsimp only at h0
                    cases h0
                    refine fin_nil hX .i2 8 rfl ?_
                    cbv
                    exact fin_ok hX rfl ⟨[8], _, _, ⟨rfl, rfl⟩, rfl, rfl, rfl, rfl, by cbv; try simp⟩
                  · rw [hc12]
                    cbv
                    obtain ⟨⟨i31, k16, l141⟩, h2, h1⟩ := bindS h1
                    rcases condS h2 with ⟨hc13, h2⟩ | ⟨hc13, h2⟩
                    · rw [hc13]
                      cbv
                      obtain ⟨hg14, h2⟩ := grdS h2
                      refine ⟨room_of hO hg14, ?_⟩
                      obtain ⟨hg15, h2⟩ := grdS h2
                      refine ⟨room_of hO hg15, ?_⟩
                      obtain ⟨hg16, h2⟩ := grdS h2
                      refine ⟨inr_of hO hg16, ?_⟩
                      cases h2
                      try dsimp only at h1
                      cases h1
                      exact ⟨_, [0, 1, 2, 3, 4, 9], nextI hI1 hi1, by cbv; try simp, by first | exact Nat.lt_succ_self _ | omega⟩
                    · rw [hc13]
                      cbv
                      obtain ⟨hg14, h2⟩ := grdS h2
                      refine ⟨room_of hO hg14, ?_⟩
                      obtain ⟨hg15, h2⟩ := grdS h2
                      refine ⟨room_of hO hg15, ?_⟩
                      obtain ⟨hg16, h2⟩ := grdS h2
                      refine ⟨inr_of hO hg16, ?_⟩
                      cases h2
                      try dsimp only at h1
                      cases h1
                      exact ⟨_, [0, 1, 2, 3, 4, 9], nextI hI1 hi1, by cbv; try simp, by first | exact Nat.lt_succ_self _ | omega⟩
                · rw [hc11]
                  cbv
                  cases h2
                  try dsimp only at h1
                  replace h1 := condF h1 rfl
                  obtain ⟨⟨i31, k16, l141⟩, h2, h1⟩ := bindS h1
                  rcases condS h2 with ⟨hc12, h2⟩ | ⟨hc12, h2⟩
                  · rw [hc12]
                    cbv
                    obtain ⟨hg13, h2⟩ := grdS h2
                    refine ⟨room_of hO hg13, ?_⟩
                    obtain ⟨hg14, h2⟩ := grdS h2
                    refine ⟨room_of hO hg14, ?_⟩
                    obtain ⟨hg15, h2⟩ := grdS h2
                    refine ⟨inr_of hO hg15, ?_⟩
                    cases h2
                    try dsimp only at h1
                    cases h1
                    exact ⟨_, [0, 1, 2, 3, 4, 9], nextI hI1 hi1, by cbv; try simp, by first | exact Nat.lt_succ_self _ | omega⟩
                  · rw [hc12]
                    cbv
                    obtain ⟨hg13, h2⟩ := grdS h2
                    refine ⟨room_of hO hg13, ?_⟩
                    obtain ⟨hg14, h2⟩ := grdS h2
                    refine ⟨room_of hO hg14, ?_⟩
                    obtain ⟨hg15, h2⟩ := grdS h2
                    refine ⟨inr_of hO hg15, ?_⟩
                    cases h2
                    try dsimp only at h1
                    cases h1
                    exact ⟨_, [0, 1, 2, 3, 4, 9], nextI hI1 hi1, by cbv; try simp, by first | exact Nat.lt_succ_self _ | omega⟩
            · as_aux_lemma =>
              obtain ⟨⟨n336, n337⟩, hv, h1⟩ := bindS h1
              try dsimp only at h1
              refine call_go hO hX (fn_ref16_Granule hO hv) (by kernel_rfl) [0] rfl ⟨rfl, rfl, trivial⟩ rfl ?_
              rintro _ _ ⟨rfl, rfl⟩
              cbv
              obtain ⟨⟨n338, n339⟩, hv, h1⟩ := bindS h1
              try dsimp only at h1
              refine call_go hO hX (fn_ref16_Granule hO hv) (by kernel_rfl) [1] rfl ⟨rfl, rfl, trivial⟩ rfl ?_
              rintro _ _ ⟨rfl, rfl⟩
              cbv
              obtain ⟨x225, h2, h1⟩ := bindS h1
              rcases condS h2 with ⟨hc11, h2⟩ | ⟨hc11, h2⟩
              · as_aux_lemma =>
                rw [hc11]
                cbv
                cases h2
                try dsimp only at h1
                rcases condS h1 with ⟨hc12, h1⟩ | ⟨hc12, h1⟩
                · rw [hc12]
                  cbv
                  cases h1
                  cases exitI hi1
                  try dsimp only at h0
                  cases h0
                  refine fin_nil hX .i2 8 rfl ?_
                  cbv
                  exact fin_ok hX rfl ⟨[8], _, _, ⟨rfl, rfl⟩, rfl, rfl, rfl, rfl, by cbv; try simp⟩
                · rw [hc12]
                  cbv
                  obtain ⟨⟨i31, k16, l141⟩, h2, h1⟩ := bindS h1
                  rcases condS h2 with ⟨hc13, h2⟩ | ⟨hc13, h2⟩
                  · rw [hc13]
                    cbv
                    obtain ⟨hg14, h2⟩ := grdS h2
                    refine ⟨room_of hO hg14, ?_⟩
                    obtain ⟨hg15, h2⟩ := grdS h2
                    refine ⟨room_of hO hg15, ?_⟩
                    obtain ⟨hg16, h2⟩ := grdS h2
                    refine ⟨inr_of hO hg16, ?_⟩
                    cases h2
                    try dsimp only at h1
                    cases h1
                    exact ⟨_, [0, 1, 2, 3, 4, 9], nextI hI1 hi1, by cbv; try simp, by first | exact Nat.lt_succ_self _ | omega⟩
                  · rw [hc13]
                    cbv
                    obtain ⟨hg14, h2⟩ := grdS h2
                    refine ⟨room_of hO hg14, ?_⟩
                    obtain ⟨hg15, h2⟩ := grdS h2
                    refine ⟨room_of hO hg15, ?_⟩
                    obtain ⟨hg16, h2⟩ := grdS h2
                    refine ⟨inr_of hO hg16, ?_⟩
                    cases h2
                    try dsimp only at h1
                    cases h1
                    exact ⟨_, [0, 1, 2, 3, 4, 9], nextI hI1 hi1, by cbv; try simp, by first | exact Nat.lt_succ_self _ | omega⟩
              · rw [hc11]
                cbv
                cases h2
                try dsimp only at h1
                replace h1 := condF h1 rfl
                obtain ⟨⟨i31, k16, l141⟩, h2, h1⟩ := bindS h1
                rcases condS h2 with ⟨hc12, h2⟩ | ⟨hc12, h2⟩
                · rw [hc12]
                  cbv
                  obtain ⟨hg13, h2⟩ := grdS h2
                  refine ⟨room_of hO hg13, ?_⟩
                  obtain ⟨hg14, h2⟩ := grdS h2
                  refine ⟨room_of hO hg14, ?_⟩
                  obtain ⟨hg15, h2⟩ := grdS h2
                  refine ⟨inr_of hO hg15, ?_⟩
                  cases h2
                  try dsimp only at h1
                  cases h1
                  exact ⟨_, [0, 1, 2, 3, 4, 9], nextI hI1 hi1, by cbv; try simp, by first | exact Nat.lt_succ_self _ | omega⟩
                · rw [hc12]
                  cbv
                  obtain ⟨hg13, h2⟩ := grdS h2
                  refine ⟨room_of hO hg13, ?_⟩
                  obtain ⟨hg14, h2⟩ := grdS h2
                  refine ⟨room_of hO hg14, ?_⟩
                  obtain ⟨hg15, h2⟩ := grdS h2
                  refine ⟨inr_of hO hg15, ?_⟩
                  cases h2
                  try dsimp only at h1
                  cases h1
                  exact ⟨_, [0, 1, 2, 3, 4, 9], nextI hI1 hi1, by cbv; try simp, by first | exact Nat.lt_succ_self _ | omega⟩
        · rw [hc10]
          cbv
          cases h1
          cases exitI hi1
          try dsimp only at h0
          obtain ⟨hg11, h0⟩ := grdS h0
          refine ⟨inr_of hO hg11, ?_⟩
          obtain ⟨hg12, h0⟩ := grdS h0
          refine ⟨idx_of hO hg12, ?_⟩
          obtain ⟨hg13, h0⟩ := grdS h0
          refine ⟨kin_of hO hg13, ?_⟩
          obtain ⟨hg14, h0⟩ := grdS h0
          refine ⟨idx_of hO hg14, ?_⟩
          obtain ⟨hg15, h0⟩ := grdS h0
          refine ⟨kin_of hO hg15, ?_⟩
          obtain ⟨hg16, h0⟩ := grdS h0
          refine ⟨inr_of hO hg16, ?_⟩
          rcases condS h0 with ⟨hc17, h0⟩ | ⟨hc17, h0⟩
          · rw [hc17]
            cbv
            cases h0
            refine fin_nil hX .i2 6 rfl ?_
            cbv
            exact fin_ok hX rfl ⟨[6], _, _, ⟨rfl, rfl⟩, rfl, rfl, rfl, rfl, by cbv; try simp⟩
          · rw [hc17]
            cbv
            obtain ⟨⟨n340, n341, l143, n342⟩, hv, h0⟩ := bindS h0
            try dsimp only at h0
            refine call_go hO hX (fn_ref16_Make hO hv) (by kernel_rfl) [5] rfl ⟨rfl, rfl, trivial⟩ rfl ?_
            rintro _ _ ⟨rfl, rfl⟩
            cbv
            cases h0
            exact fin_ok hX rfl ⟨[6], _, _, ⟨rfl, rfl⟩, rfl, rfl, rfl, rfl, by cbv; try simp⟩
end Go.Proofs.Ytoklfjkanipjkaa
