/-
  The code does what its models say (printed by lift.py).
-/
import Derived.Test.YtfhfifcfkimgpaaHM
import Derived.Test.YtfhfifcfkimgpaaManW2
import Derived.Test.YtfhfifcfkimgpaaJW0
import Derived.Test.YtfhfifcfkimgpaaJW2
import Derived.Test.YtfhfifcfkimgpaaJW6
import Derived.Test.YtfhfifcfkimgpaaJW14
namespace Go.Proofs.Ytfhfifcfkimgpaa
open Go.RowKit
set_option maxRecDepth 100000

set_option maxHeartbeats 40000000 in
theorem fn_interval_Meet {O0 : Ops} (hO0 : O0 = std) {a_1 : Int} {a_2 : Int} {b_1 : Int} {b_2 : Int} {r1 : Int} {r2 : Int} {r3 : Bool} (h : m_interval_Meet O0 a_1 a_2 b_1 b_2 = some (r1, r2, r3)) :
    Fn Try.prog 74 [.agg [.int .i64 a_1, .int .i64 a_2], .agg [.int .i64 b_1, .int .i64 b_2]] [] (fun v c => v = .tup [.many [.int .i64 r1, .int .i64 r2], .one (.bool r3)] ∧ c = []) := by
  refine fn_run tab_holds eqs_holds mixed [] Try.func74 (by kernel_rfl) (by kernel_rfl) (Nat.le_of_ble_eq_true rfl) ?_
  intro O X hO hX
  rw [hO0, ← hO] at h
  unfold m_interval_Meet at h
  have h0 := h; clear h
  cbv
  obtain ⟨x418, h1, h0⟩ := bindS h0
  obtain ⟨b154, hv, h1⟩ := bindS h1
  refine call_is hO hX (fn_interval_Valid hO hv) (by kernel_rfl) [] rfl trivial rfl ?_
  cbv
  rcases condS h1 with ⟨hc1, h1⟩ | ⟨hc1, h1⟩
  · rw [hc1]
    cbv
    cases h1
    try dsimp only at h0
    replace h0 := condT h0 rfl
    cases h0
    exact fin_ok hX rfl ⟨[], _, _, ⟨rfl, rfl⟩, rfl, rfl, rfl, rfl, by cbv; try simp⟩
  · rw [hc1]
    cbv
    obtain ⟨b155, hv, h1⟩ := bindS h1
    refine call_is hO hX (fn_interval_Valid hO hv) (by kernel_rfl) [] rfl trivial rfl ?_
    cbv
    rcases condS h1 with ⟨hc2, h1⟩ | ⟨hc2, h1⟩
    · rw [hc2]
      cbv
      cases h1
      try dsimp only at h0
      replace h0 := condT h0 rfl
      cases h0
      exact fin_ok hX rfl ⟨[], _, _, ⟨rfl, rfl⟩, rfl, rfl, rfl, rfl, by cbv; try simp⟩
    · rw [hc2]
      cbv
      cases h1
      try dsimp only at h0
      rcases condS h0 with ⟨hc3, h0⟩ | ⟨hc3, h0⟩
      · rw [hc3]
        cbv
        cases h0
        exact fin_ok hX rfl ⟨[], _, _, ⟨rfl, rfl⟩, rfl, rfl, rfl, rfl, by cbv; try simp⟩
      · rw [hc3]
        cbv
        cases h0
        exact fin_ok hX rfl ⟨[], _, _, ⟨rfl, rfl⟩, rfl, rfl, rfl, rfl, by cbv; try simp⟩
set_option maxHeartbeats 40000000 in
theorem fn_periodic_Window {O0 : Ops} (hO0 : O0 = std) {p_1 : Int} {in_1 : Int} {in_2 : Int} {p_2 : List (Int × Int)} {r1 : List (Int × Int)} {r2 : Int} (h : m_periodic_Window O0 p_1 in_1 in_2 p_2 = some (r1, r2)) :
    Fn Try.prog 39 [.agg [.int .i64 p_1, .sl 0], .agg [.int .i64 in_1, .int .i64 in_2]] [.arr false .i2 p_2] (fun v c => v = .tup [.one (.sl 1), .one (.int .i64 r2)] ∧ c = [.own 38 .i2 r1]) := by
  refine fn_run tab_holds eqs_holds mixed [(8, (.seg 1 [0, 1, 2, 3, 4, 5] (.seg 2 [6] (.seg 1 [7, 8] .fin))), []), (18, (.seg 1 [0, 1, 2, 3, 4, 5, 6, 7, 8, 9, 10, 11, 12, 13] .fin), [])] Try.func39 (by kernel_rfl) (by kernel_rfl) (Nat.le_of_ble_eq_true rfl) ?_
  intro O X hO hX
  rw [hO0, ← hO] at h
  unfold m_periodic_Window at h
  have h0 := h; clear h
  cbv
  obtain ⟨x413, h1, h0⟩ := bindS h0
  obtain ⟨b152, hv, h1⟩ := bindS h1
  refine call_is hO hX (fn_periodic_Valid hO hv) (by kernel_rfl) [0] rfl ⟨rfl, rfl, trivial⟩ rfl ?_
  cbv
  rcases condS h1 with ⟨hc1, h1⟩ | ⟨hc1, h1⟩
  · rw [hc1]
    cbv
    cases h1
    try dsimp only at h0
    replace h0 := condT h0 rfl
    cases h0
    exact fin_ok hX rfl ⟨[4], _, _, ⟨rfl, rfl⟩, rfl, rfl, rfl, rfl, by cbv; try simp⟩
  · as_aux_lemma =>
    rw [hc1]
    cbv
    obtain ⟨b153, hv, h1⟩ := bindS h1
    refine call_is hO hX (fn_interval_Valid hO hv) (by kernel_rfl) [] rfl trivial rfl ?_
    cbv
    cases h1
    try dsimp only at h0
    rcases condS h0 with ⟨hc2, h0⟩ | ⟨hc2, h0⟩
    · rw [hc2]
      cbv
      cases h0
      exact fin_ok hX rfl ⟨[4], _, _, ⟨rfl, rfl⟩, rfl, rfl, rfl, rfl, by cbv; try simp⟩
    · as_aux_lemma =>
      rw [hc2]
      cbv
      obtain ⟨e1, h1, h0⟩ := bindS h0
      rcases condS h1 with ⟨hc3, h1⟩ | ⟨hc3, h1⟩
      · rw [hc3]
        cbv
        rcases condS h1 with ⟨hc4, h1⟩ | ⟨hc4, h1⟩
        · rw [hc4]
          cbv
          cases h1
          try dsimp only at h0
          cases h0
          exact fin_ok hX rfl ⟨[4], _, _, ⟨rfl, rfl⟩, rfl, rfl, rfl, rfl, by cbv; try simp⟩
        · rw [hc4]
          cbv
          cases h1
          try dsimp only at h0
          cases h0
          exact fin_ok hX rfl ⟨[4], _, _, ⟨rfl, rfl⟩, rfl, rfl, rfl, rfl, by cbv; try simp⟩
      · as_aux_lemma =>
        rw [hc3]
        cbv
        cases h1
        try dsimp only at h0
        obtain ⟨n146, hv, h0⟩ := bindS h0
        refine call_is hO hX (fn_integer_Mod hO hv) (by kernel_rfl) [] rfl trivial rfl ?_
        cbv
        obtain ⟨hg5, h0⟩ := grdS h0
        refine ⟨inr_of hO hg5, ?_⟩
        obtain ⟨e1, hi, h0⟩ := bindS h0
        obtain ⟨I2, hI2, hi⟩ := loopS hi
        refine loop1 tab_holds eqs_holds mixed [(8, (.seg 1 [0, 1, 2, 3, 4, 5] (.seg 2 [6] (.seg 1 [7, 8] .fin))), []), (18, (.seg 1 [0, 1, 2, 3, 4, 5, 6, 7, 8, 9, 10, 11, 12, 13] .fin), [])] hO hX I2 (fun y => [(21, .junk), (30, .junk), (32, .junk), (34, .junk), (6, .c (.sl 4)), (7, .c (.int .i64 y.2.1))]) (fun y => [(4, .own 38 .i2 y.2.2)]) (fun y => y.1) _ (by kernel_rfl) hi (by cbv; try simp) ?_
        refine allp ?_
        intro n2
        refine allp ?_
        intro at22
        intro l234 hi
        cbv
        rw [hI2] at hi
        obtain ⟨n2, rfl, x2, h1, hi2⟩ := iterS hi
        unfold m_periodic_Window_L2 at h1
        try dsimp only at h1
        obtain ⟨x425, h2, h1⟩ := bindS h1
        rcases condS h2 with ⟨hc6, h2⟩ | ⟨hc6, h2⟩
        · as_aux_lemma =>
          rw [hc6]
          cbv
          cases h2
          try dsimp only at h1
          rcases condS h1 with ⟨hc7, h1⟩ | ⟨hc7, h1⟩
          · as_aux_lemma =>
            rw [hc7]
            cbv
            obtain ⟨l244, hi, h1⟩ := bindS h1
            obtain ⟨I1, hI1, hi⟩ := loopS hi
            refine loop1 tab_holds eqs_holds mixed [(8, (.seg 1 [0, 1, 2, 3, 4, 5] (.seg 2 [6] (.seg 1 [7, 8] .fin))), []), (18, (.seg 1 [0, 1, 2, 3, 4, 5, 6, 7, 8, 9, 10, 11, 12, 13] .fin), [])] hO hX I1 (fun y => [(39, .junk), (43, .junk), (52, .junk), (6, .c (.sl 4)), (55, .c (.int .i64 y.2.1))]) (fun y => [(4, .own 38 .i2 y.2.2)]) (fun y => y.1) _ (by kernel_rfl) hi (by cbv; try simp) ?_
            refine allp ?_
            intro n1
            refine allp ?_
            intro x429
            intro l239 hi
            cbv
            rw [hI1] at hi
            obtain ⟨n1, rfl, x1, h2, hi1⟩ := iterS hi
            unfold m_periodic_Window_L1 at h2
            try dsimp only at h2
            rcases condS h2 with ⟨hc8, h2⟩ | ⟨hc8, h2⟩
            · as_aux_lemma =>
              rw [hc8]
              cbv
              obtain ⟨hg9, h2⟩ := grdS h2
              refine ⟨idx_of hO hg9, ?_⟩
              obtain ⟨hg10, h2⟩ := grdS h2
              refine ⟨kin_of hO hg10, ?_⟩
              obtain ⟨hg11, h2⟩ := grdS h2
              refine ⟨inr_of hO hg11, ?_⟩
              obtain ⟨hg12, h2⟩ := grdS h2
              refine ⟨inr_of hO hg12, ?_⟩
              obtain ⟨⟨n153, n154, b159⟩, hv, h2⟩ := bindS h2
              try dsimp only at h2
              refine call_is hO hX (fn_interval_Meet hO hv) (by kernel_rfl) [] rfl trivial rfl ?_
              cbv
              obtain ⟨l243, h3, h2⟩ := bindS h2
              rcases condS h3 with ⟨hc13, h3⟩ | ⟨hc13, h3⟩
              · rw [hc13]
                cbv
                cases h3
                try dsimp only at h2
                obtain ⟨hg14, h2⟩ := grdS h2
                refine ⟨inr_of hO hg14, ?_⟩
                cases h2
                exact ⟨_, [0, 1, 2, 3, 4], nextI hI1 hi1, by cbv; try simp, by first | exact Nat.lt_succ_self _ | omega⟩
              · as_aux_lemma =>
                rw [hc13]
                cbv
                obtain ⟨x431, h4, h3⟩ := bindS h3
                rcases condS h4 with ⟨hc15, h4⟩ | ⟨hc15, h4⟩
                · as_aux_lemma =>
                  rw [hc15]
                  cbv
                  obtain ⟨hg16, h4⟩ := grdS h4
                  refine ⟨inr_of hO hg16, ?_⟩
                  obtain ⟨hg17, h4⟩ := grdS h4
                  refine ⟨idx_of hO hg17, ?_⟩
                  obtain ⟨hg18, h4⟩ := grdS h4
                  refine ⟨kin_of hO hg18, ?_⟩
                  cases h4
                  try dsimp only at h3
                  obtain ⟨l241, h4, h3⟩ := bindS h3
                  rcases condS h4 with ⟨hc19, h4⟩ | ⟨hc19, h4⟩
                  · rw [hc19]
                    cbv
                    obtain ⟨hg20, h4⟩ := grdS h4
                    refine ⟨inr_of hO hg20, ?_⟩
                    obtain ⟨hg21, h4⟩ := grdS h4
                    refine ⟨idx_of hO hg21, ?_⟩
                    obtain ⟨hg22, h4⟩ := grdS h4
                    refine ⟨kin_of hO hg22, ?_⟩
                    cases h4
                    try dsimp only at h3
                    cases h3
                    try dsimp only at h2
                    obtain ⟨hg23, h2⟩ := grdS h2
                    refine ⟨inr_of hO hg23, ?_⟩
                    cases h2
                    exact ⟨_, [0, 1, 2, 3, 4], nextI hI1 hi1, by cbv; try simp, by first | exact Nat.lt_succ_self _ | omega⟩
                  · rw [hc19]
                    cbv
                    obtain ⟨hg24, h4⟩ := grdS h4
                    refine ⟨room_of hO hg24, ?_⟩
                    obtain ⟨hg25, h4⟩ := grdS h4
                    refine ⟨room_of hO hg25, ?_⟩
                    cases h4
                    try dsimp only at h3
                    cases h3
                    try dsimp only at h2
                    obtain ⟨hg26, h2⟩ := grdS h2
                    refine ⟨inr_of hO hg26, ?_⟩
                    cases h2
                    exact ⟨_, [0, 1, 2, 3, 8], nextI hI1 hi1, by cbv; try simp, by first | exact Nat.lt_succ_self _ | omega⟩
                · rw [hc15]
                  cbv
                  cases h4
                  try dsimp only at h3
                  obtain ⟨l241, h4, h3⟩ := bindS h3
                  replace h4 := condF h4 rfl
                  obtain ⟨hg27, h4⟩ := grdS h4
                  refine ⟨room_of hO hg27, ?_⟩
                  obtain ⟨hg28, h4⟩ := grdS h4
                  refine ⟨room_of hO hg28, ?_⟩
                  cases h4
                  try dsimp only at h3
                  cases h3
                  try dsimp only at h2
                  obtain ⟨hg29, h2⟩ := grdS h2
                  refine ⟨inr_of hO hg29, ?_⟩
                  cases h2
                  exact ⟨_, [0, 1, 2, 3, 8], nextI hI1 hi1, by cbv; try simp, by first | exact Nat.lt_succ_self _ | omega⟩
            · rw [hc8]
              cbv
              cases h2
              cases exitI hi1
              try dsimp only at h1
              rcases condS h1 with ⟨hc30, h1⟩ | ⟨hc30, h1⟩
              · rw [hc30]
                cbv
                cases h1
                cases exitI hi2
                try dsimp only at h0
                cases h0
                exact fin_ok hX rfl ⟨[5], _, _, ⟨rfl, rfl⟩, rfl, rfl, rfl, rfl, by cbv; try simp⟩
              · rw [hc30]
                cbv
                obtain ⟨hg31, h1⟩ := grdS h1
                refine ⟨inr_of hO hg31, ?_⟩
                cases h1
                exact ⟨_, [0, 1, 2, 3, 4], nextI hI2 hi2, by cbv; try simp, by first | exact Nat.lt_succ_self _ | omega⟩
          · rw [hc7]
            cbv
            cases h1
            cases exitI hi2
            try dsimp only at h0
            cases h0
            exact fin_ok hX rfl ⟨[4], _, _, ⟨rfl, rfl⟩, rfl, rfl, rfl, rfl, by cbv; try simp⟩
        · rw [hc6]
          cbv
          cases h2
          try dsimp only at h1
          replace h1 := condF h1 rfl
          cases h1
          cases exitI hi2
          try dsimp only at h0
          cases h0
          exact fin_ok hX rfl ⟨[4], _, _, ⟨rfl, rfl⟩, rfl, rfl, rfl, rfl, by cbv; try simp⟩
set_option maxHeartbeats 40000000 in
theorem fn_ref13_Window {O0 : Ops} (hO0 : O0 = std) {p_1 : Int} {in_1 : Int} {in_2 : Int} {p_2 : List (Int × Int)} {r1 : List (Int × Int)} {r2 : Int} (h : m_ref13_Window O0 p_1 in_1 in_2 p_2 = some (r1, r2)) :
    Fn Try.prog 40 [.agg [.int .i64 p_1, .sl 0], .agg [.int .i64 in_1, .int .i64 in_2]] [.arr false .i2 p_2] (fun v c => v = .tup [.one (.sl 1), .one (.int .i64 r2)] ∧ c = [.own 38 .i2 r1]) := by
  refine fn_run tab_holds eqs_holds mixed [(8, (.seg 1 [0, 1, 2, 3, 4, 5] (.seg 2 [6] (.seg 1 [7, 8] .fin))), []), (14, (.seg 1 [0, 1, 2, 3, 4, 5, 6, 7, 8, 9, 10, 11, 12, 13, 14, 15, 16, 17, 18, 19, 20, 21, 22, 23] .fin), [])] Try.func40 (by kernel_rfl) (by kernel_rfl) (Nat.le_of_ble_eq_true rfl) ?_
  intro O X hO hX
  rw [hO0, ← hO] at h
  unfold m_ref13_Window at h
  have h0 := h; clear h
  cbv
  obtain ⟨x437, h1, h0⟩ := bindS h0
  obtain ⟨b164, hv, h1⟩ := bindS h1
  refine call_is hO hX (fn_ref13_Valid hO hv) (by kernel_rfl) [0] rfl ⟨rfl, rfl, trivial⟩ rfl ?_
  cbv
  rcases condS h1 with ⟨hc1, h1⟩ | ⟨hc1, h1⟩
  · rw [hc1]
    cbv
    cases h1
    try dsimp only at h0
    replace h0 := condT h0 rfl
    cases h0
    exact fin_ok hX rfl ⟨[4], _, _, ⟨rfl, rfl⟩, rfl, rfl, rfl, rfl, by cbv; try simp⟩
  · as_aux_lemma =>
    rw [hc1]
    cbv
    obtain ⟨b165, hv, h1⟩ := bindS h1
    refine call_is hO hX (fn_ref13_Span hO hv) (by kernel_rfl) [] rfl trivial rfl ?_
    cbv
    cases h1
    try dsimp only at h0
    rcases condS h0 with ⟨hc2, h0⟩ | ⟨hc2, h0⟩
    · rw [hc2]
      cbv
      cases h0
      exact fin_ok hX rfl ⟨[4], _, _, ⟨rfl, rfl⟩, rfl, rfl, rfl, rfl, by cbv; try simp⟩
    · as_aux_lemma =>
      rw [hc2]
      cbv
      rcases condS h0 with ⟨hc3, h0⟩ | ⟨hc3, h0⟩
      · rw [hc3]
        cbv
        cases h0
        exact fin_ok hX rfl ⟨[4], _, _, ⟨rfl, rfl⟩, rfl, rfl, rfl, rfl, by cbv; try simp⟩
      · as_aux_lemma =>
        rw [hc3]
        cbv
        rcases condS h0 with ⟨hc4, h0⟩ | ⟨hc4, h0⟩
        · rw [hc4]
          cbv
          cases h0
          exact fin_ok hX rfl ⟨[4], _, _, ⟨rfl, rfl⟩, rfl, rfl, rfl, rfl, by cbv; try simp⟩
        · as_aux_lemma =>
          rw [hc4]
          cbv
          obtain ⟨n171, hv, h0⟩ := bindS h0
          refine call_is hO hX (fn_ref01_Mod hO hv) (by kernel_rfl) [] rfl trivial rfl ?_
          cbv
          obtain ⟨hg5, h0⟩ := grdS h0
          refine ⟨inr_of hO hg5, ?_⟩
          obtain ⟨e1, hi, h0⟩ := bindS h0
          obtain ⟨I2, hI2, hi⟩ := loopS hi
          refine loop1 tab_holds eqs_holds mixed [(8, (.seg 1 [0, 1, 2, 3, 4, 5] (.seg 2 [6] (.seg 1 [7, 8] .fin))), []), (14, (.seg 1 [0, 1, 2, 3, 4, 5, 6, 7, 8, 9, 10, 11, 12, 13, 14, 15, 16, 17, 18, 19, 20, 21, 22, 23] .fin), [])] hO hX I2 (fun y => [(19, .junk), (23, .junk), (28, .junk), (30, .junk), (32, .junk), (6, .c (.sl 4)), (7, .c (.int .i64 y.2.1))]) (fun y => [(4, .own 38 .i2 y.2.2)]) (fun y => y.1) _ (by kernel_rfl) hi (by cbv; try simp) ?_
          refine allp ?_
          intro n2
          refine allp ?_
          intro at24
          intro l253 hi
          cbv
          rw [hI2] at hi
          obtain ⟨n2, rfl, x2, h1, hi2⟩ := iterS hi
          unfold m_ref13_Window_L2 at h1
          try dsimp only at h1
          rcases condS h1 with ⟨hc6, h1⟩ | ⟨hc6, h1⟩
          · as_aux_lemma =>
            rw [hc6]
            cbv
            obtain ⟨l259, hi, h1⟩ := bindS h1
            obtain ⟨I1, hI1, hi⟩ := loopS hi
            refine loop1 tab_holds eqs_holds mixed [(8, (.seg 1 [0, 1, 2, 3, 4, 5] (.seg 2 [6] (.seg 1 [7, 8] .fin))), []), (14, (.seg 1 [0, 1, 2, 3, 4, 5, 6, 7, 8, 9, 10, 11, 12, 13, 14, 15, 16, 17, 18, 19, 20, 21, 22, 23] .fin), [])] hO hX I1 (fun y => [(37, .junk), (6, .c (.sl 4)), (8, .c (.int .i64 y.2.1))]) (fun y => [(4, .own 38 .i2 y.2.2)]) (fun y => y.1) _ (by kernel_rfl) hi (by cbv; try simp) ?_
            refine allp ?_
            intro n1
            refine allp ?_
            intro i64
            intro l256 hi
            cbv
            rw [hI1] at hi
            obtain ⟨n1, rfl, x1, h2, hi1⟩ := iterS hi
            unfold m_ref13_Window_L1 at h2
            try dsimp only at h2
            rcases condS h2 with ⟨hc7, h2⟩ | ⟨hc7, h2⟩
            · as_aux_lemma =>
              rw [hc7]
              cbv
              obtain ⟨hg8, h2⟩ := grdS h2
              refine ⟨idx_of hO hg8, ?_⟩
              obtain ⟨hg9, h2⟩ := grdS h2
              refine ⟨kin_of hO hg9, ?_⟩
              obtain ⟨hg10, h2⟩ := grdS h2
              refine ⟨inr_of hO hg10, ?_⟩
              refine ⟨idx_of hO hg8, ?_⟩
              refine ⟨kin_of hO hg9, ?_⟩
              obtain ⟨hg11, h2⟩ := grdS h2
              refine ⟨inr_of hO hg11, ?_⟩
              rcases condS h2 with ⟨hc12, h2⟩ | ⟨hc12, h2⟩
              · rw [hc12]
                cbv
                obtain ⟨hg13, h2⟩ := grdS h2
                refine ⟨inr_of hO hg13, ?_⟩
                cases h2
                exact ⟨_, [0, 1, 2, 3, 4], nextI hI1 hi1, by cbv; try simp, by first | exact Nat.lt_succ_self _ | omega⟩
              · as_aux_lemma =>
                rw [hc12]
                cbv
                obtain ⟨x445, h3, h2⟩ := bindS h2
                rcases condS h3 with ⟨hc14, h3⟩ | ⟨hc14, h3⟩
                · rw [hc14]
                  cbv
                  obtain ⟨hg15, h3⟩ := grdS h3
                  refine ⟨inr_of hO hg15, ?_⟩
                  obtain ⟨hg16, h3⟩ := grdS h3
                  refine ⟨idx_of hO hg16, ?_⟩
                  obtain ⟨hg17, h3⟩ := grdS h3
                  refine ⟨kin_of hO hg17, ?_⟩
                  cases h3
                  try dsimp only at h2
                  obtain ⟨l258, h3, h2⟩ := bindS h2
                  rcases condS h3 with ⟨hc18, h3⟩ | ⟨hc18, h3⟩
                  · rw [hc18]
                    cbv
                    obtain ⟨hg19, h3⟩ := grdS h3
                    refine ⟨inr_of hO hg19, ?_⟩
                    obtain ⟨hg20, h3⟩ := grdS h3
                    refine ⟨idx_of hO hg20, ?_⟩
                    obtain ⟨hg21, h3⟩ := grdS h3
                    refine ⟨kin_of hO hg21, ?_⟩
                    cases h3
                    try dsimp only at h2
                    obtain ⟨hg22, h2⟩ := grdS h2
                    refine ⟨inr_of hO hg22, ?_⟩
                    cases h2
                    exact ⟨_, [0, 1, 2, 3, 4], nextI hI1 hi1, by cbv; try simp, by first | exact Nat.lt_succ_self _ | omega⟩
                  · rw [hc18]
                    cbv
                    obtain ⟨hg23, h3⟩ := grdS h3
                    refine ⟨room_of hO hg23, ?_⟩
                    obtain ⟨hg24, h3⟩ := grdS h3
                    refine ⟨room_of hO hg24, ?_⟩
                    cases h3
                    try dsimp only at h2
                    obtain ⟨hg25, h2⟩ := grdS h2
                    refine ⟨inr_of hO hg25, ?_⟩
                    cases h2
                    exact ⟨_, [0, 1, 2, 3, 6], nextI hI1 hi1, by cbv; try simp, by first | exact Nat.lt_succ_self _ | omega⟩
                · rw [hc14]
                  cbv
                  cases h3
                  try dsimp only at h2
                  obtain ⟨l258, h3, h2⟩ := bindS h2
                  replace h3 := condF h3 rfl
                  obtain ⟨hg26, h3⟩ := grdS h3
                  refine ⟨room_of hO hg26, ?_⟩
                  obtain ⟨hg27, h3⟩ := grdS h3
                  refine ⟨room_of hO hg27, ?_⟩
                  cases h3
                  try dsimp only at h2
                  obtain ⟨hg28, h2⟩ := grdS h2
                  refine ⟨inr_of hO hg28, ?_⟩
                  cases h2
                  exact ⟨_, [0, 1, 2, 3, 6], nextI hI1 hi1, by cbv; try simp, by first | exact Nat.lt_succ_self _ | omega⟩
            · rw [hc7]
              cbv
              cases h2
              cases exitI hi1
              try dsimp only at h1
              rcases condS h1 with ⟨hc29, h1⟩ | ⟨hc29, h1⟩
              · rw [hc29]
                cbv
                cases h1
                cases exitI hi2
                try dsimp only at h0
                cases h0
                exact fin_ok hX rfl ⟨[5], _, _, ⟨rfl, rfl⟩, rfl, rfl, rfl, rfl, by cbv; try simp⟩
              · rw [hc29]
                cbv
                obtain ⟨hg30, h1⟩ := grdS h1
                refine ⟨inr_of hO hg30, ?_⟩
                cases h1
                exact ⟨_, [0, 1, 2, 3, 4], nextI hI2 hi2, by cbv; try simp, by first | exact Nat.lt_succ_self _ | omega⟩
          · rw [hc6]
            cbv
            cases h1
            cases exitI hi2
            try dsimp only at h0
            cases h0
            exact fin_ok hX rfl ⟨[4], _, _, ⟨rfl, rfl⟩, rfl, rfl, rfl, rfl, by cbv; try simp⟩
set_option maxHeartbeats 40000000 in
theorem fn_ref13_below {O0 : Ops} (hO0 : O0 = std) {p_1 : Int} {x_1 : Int} {p_2 : List (Int × Int)} {r1 : Int} (h : m_ref13_below O0 p_1 x_1 p_2 = some r1) :
    Fn Try.prog 75 [.agg [.int .i64 p_1, .sl 0], .c (.int .i64 x_1)] [.arr false .i2 p_2] (fun v c => v = .c (.int .i64 r1) ∧ c = []) := by
  refine fn_run tab_holds eqs_holds mixed [(6, (.seg 1 [0, 1, 2, 3, 4, 5, 6, 7, 8, 9, 10, 11, 12, 13, 14, 15] .fin), []), (7, (.seg 1 [0, 1, 2, 3, 4, 5, 6, 7, 8, 9, 10, 11, 12, 13, 14, 15, 16, 17, 18] .fin), [])] Try.func75 (by kernel_rfl) (by kernel_rfl) (Nat.le_of_ble_eq_true rfl) ?_
  intro O X hO hX
  rw [hO0, ← hO] at h
  unfold m_ref13_below at h
  have h0 := h; clear h
  cbv
  obtain ⟨⟨n173, n174, n175⟩, hv, h0⟩ := bindS h0
  try dsimp only at h0
  refine call_is hO hX (fn_ref01_Div hO hv) (by kernel_rfl) [] rfl trivial rfl ?_
  cbv
  obtain ⟨⟨each2, part2⟩, hi, h0⟩ := bindS h0
  obtain ⟨I1, hI1, hi⟩ := loopS hi
  refine loop1 tab_holds eqs_holds mixed [(6, (.seg 1 [0, 1, 2, 3, 4, 5, 6, 7, 8, 9, 10, 11, 12, 13, 14, 15] .fin), []), (7, (.seg 1 [0, 1, 2, 3, 4, 5, 6, 7, 8, 9, 10, 11, 12, 13, 14, 15, 16, 17, 18] .fin), [])] hO hX I1 (fun y => [(13, .junk), (8, .c (.int .i64 y.2.1)), (9, .c (.int .i64 y.2.2.1)), (10, .c (.int .i64 y.2.2.2))]) (fun _ => []) (fun y => y.1) _ (by kernel_rfl) hi (by cbv; try simp) ?_
  refine allp ?_
  intro n1
  refine allp ?_
  intro each1
  refine allp ?_
  intro part1
  intro i65 hi
  cbv
  rw [hI1] at hi
  obtain ⟨n1, rfl, x1, h1, hi1⟩ := iterS hi
  unfold m_ref13_below_L1 at h1
  try dsimp only at h1
  rcases condS h1 with ⟨hc1, h1⟩ | ⟨hc1, h1⟩
  · rw [hc1]
    cbv
    obtain ⟨hg2, h1⟩ := grdS h1
    refine ⟨idx_of hO hg2, ?_⟩
    obtain ⟨hg3, h1⟩ := grdS h1
    refine ⟨kin_of hO hg3, ?_⟩
    obtain ⟨hg4, h1⟩ := grdS h1
    refine ⟨inr_of hO hg4, ?_⟩
    refine ⟨idx_of hO hg2, ?_⟩
    refine ⟨kin_of hO hg3, ?_⟩
    obtain ⟨hg5, h1⟩ := grdS h1
    refine ⟨inr_of hO hg5, ?_⟩
    refine ⟨idx_of hO hg2, ?_⟩
    refine ⟨kin_of hO hg3, ?_⟩
    refine ⟨idx_of hO hg2, ?_⟩
    refine ⟨kin_of hO hg3, ?_⟩
    obtain ⟨hg6, h1⟩ := grdS h1
    refine ⟨inr_of hO hg6, ?_⟩
    obtain ⟨hg7, h1⟩ := grdS h1
    refine ⟨inr_of hO hg7, ?_⟩
    obtain ⟨hg8, h1⟩ := grdS h1
    refine ⟨inr_of hO hg8, ?_⟩
    cases h1
    exact ⟨_, [0, 1], nextI hI1 hi1, by cbv; try simp, by first | exact Nat.lt_succ_self _ | omega⟩
  · rw [hc1]
    cbv
    cases h1
    cases exitI hi1
    try dsimp only at h0
    obtain ⟨hg9, h0⟩ := grdS h0
    refine ⟨inr_of hO hg9, ?_⟩
    obtain ⟨hg10, h0⟩ := grdS h0
    refine ⟨inr_of hO hg10, ?_⟩
    cases h0
    exact fin_ok hX rfl ⟨[], _, _, ⟨rfl, rfl⟩, rfl, rfl, rfl, rfl, by cbv; try simp⟩
set_option maxHeartbeats 40000000 in
theorem fn_ref13_Count {O0 : Ops} (hO0 : O0 = std) {p_1 : Int} {in_1 : Int} {in_2 : Int} {p_2 : List (Int × Int)} {r1 : Int} (h : m_ref13_Count O0 p_1 in_1 in_2 p_2 = some r1) :
    Fn Try.prog 42 [.agg [.int .i64 p_1, .sl 0], .agg [.int .i64 in_1, .int .i64 in_2]] [.arr false .i2 p_2] (fun v c => v = .c (.int .i64 r1) ∧ c = []) := by
  refine fn_run tab_holds eqs_holds mixed [(1, (.seg 1 [0, 1, 2, 4, 5, 6] (.seg 2 [3] (.seg 2 [7] (.seg 1 [8, 9] .fin)))), [])] Try.func42 (by kernel_rfl) (by kernel_rfl) (Nat.le_of_ble_eq_true rfl) ?_
  intro O X hO hX
  rw [hO0, ← hO] at h
  unfold m_ref13_Count at h
  have h0 := h; clear h
  cbv
  obtain ⟨n176, hv, h0⟩ := bindS h0
  refine call_is hO hX (fn_ref13_below hO hv) (by kernel_rfl) [0] rfl ⟨rfl, rfl, trivial⟩ rfl ?_
  cbv
  obtain ⟨n177, hv, h0⟩ := bindS h0
  refine call_is hO hX (fn_ref13_below hO hv) (by kernel_rfl) [0] rfl ⟨rfl, rfl, trivial⟩ rfl ?_
  cbv
  obtain ⟨hg1, h0⟩ := grdS h0
  refine ⟨inr_of hO hg1, ?_⟩
  cases h0
  exact fin_ok hX rfl ⟨[], _, _, ⟨rfl, rfl⟩, rfl, rfl, rfl, rfl, by cbv; try simp⟩
end Go.Proofs.Ytfhfifcfkimgpaa
