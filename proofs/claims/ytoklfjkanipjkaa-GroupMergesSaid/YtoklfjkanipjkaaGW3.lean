/-
  The code does what its models say (printed by lift.py).
-/
import Derived.Test.YtoklfjkanipjkaaGM
import Derived.Test.YtoklfjkanipjkaaManW
import Derived.Test.YtoklfjkanipjkaaGW0
import Derived.Test.YtoklfjkanipjkaaGW1
import Derived.Test.YtoklfjkanipjkaaGW2
namespace Go.Proofs.Ytoklfjkanipjkaa
open Go.RowKit
set_option maxRecDepth 100000

set_option maxHeartbeats 4000000 in
theorem fn_group_Pick {O0 : Ops} (hO0 : O0 = std) {c_1 : Int} {c_2 : Int} {m_1 : Int} {c_3 : List (Int × Int)} {ks_1 : List Int} {r1 : Int} {r2 : Int} {r3 : List (Int × Int)} {r4 : Int} (h : m_group_Pick O0 c_1 c_2 m_1 c_3 ks_1 = some (r1, r2, r3, r4)) :
    Fn Try.prog 21 [.agg [.int .i64 c_1, .int .i64 c_2, .sl 0], .c (.int .i64 m_1), .c (.sl 1)] [.arr false .i2 c_3, .arr false .i1 ks_1] (fun v c => v = .tup [.many [.int .i64 r1, .int .i64 r2, .sl 2], .one (.int .i64 r4)] ∧ c = [.arr true .i2 r3]) := by
  refine fn_run tab_holds eqs_holds mixed [] Try.func21 (by kernel_rfl) (by kernel_rfl) (Nat.le_of_ble_eq_true rfl) ?_
  intro O X hO hX
  rw [hO0, ← hO] at h
  unfold m_group_Pick at h
  have h0 := h; clear h
  cbv
  obtain ⟨x115, h1, h0⟩ := bindS h0
  obtain ⟨b41, hv, h1⟩ := bindS h1
  refine call_go hO hX (fn_granule_Valid hO hv) (by kernel_rfl) [0] rfl ⟨rfl, rfl, trivial⟩ rfl ?_
  rintro _ _ ⟨rfl, rfl⟩
  cbv
  rcases condS h1 with ⟨hc0, h1⟩ | ⟨hc0, h1⟩
  · rw [hc0]
    cbv
    cases h1
    try dsimp only at h0
    replace h0 := condT h0 rfl
    cases h0
    refine fin_nil hX .i2 6 rfl ?_
    cbv
    exact fin_ok hX rfl ⟨[6], _, _, ⟨rfl, rfl⟩, rfl, rfl, rfl, rfl, by cbv; try simp⟩
  · as_aux_lemma =>
    rw [hc0]
    cbv
    rcases condS h1 with ⟨hc1, h1⟩ | ⟨hc1, h1⟩
    · rw [hc1]
      cbv
      cases h1
      try dsimp only at h0
      replace h0 := condT h0 rfl
      cases h0
      refine fin_nil hX .i2 6 rfl ?_
      cbv
      exact fin_ok hX rfl ⟨[6], _, _, ⟨rfl, rfl⟩, rfl, rfl, rfl, rfl, by cbv; try simp⟩
    · as_aux_lemma =>
      rw [hc1]
      cbv
      rcases condS h1 with ⟨hc2, h1⟩ | ⟨hc2, h1⟩
      · rw [hc2]
        cbv
        cases h1
        try dsimp only at h0
        replace h0 := condT h0 rfl
        cases h0
        refine fin_nil hX .i2 6 rfl ?_
        cbv
        exact fin_ok hX rfl ⟨[6], _, _, ⟨rfl, rfl⟩, rfl, rfl, rfl, rfl, by cbv; try simp⟩
      · as_aux_lemma =>
        rw [hc2]
        cbv
        cases h1
        try dsimp only at h0
        rcases condS h0 with ⟨hc3, h0⟩ | ⟨hc3, h0⟩
        · rw [hc3]
          cbv
          cases h0
          refine fin_nil hX .i2 6 rfl ?_
          cbv
          exact fin_ok hX rfl ⟨[6], _, _, ⟨rfl, rfl⟩, rfl, rfl, rfl, rfl, by cbv; try simp⟩
        · as_aux_lemma =>
          rw [hc3]
          cbv
          obtain ⟨e1, hi, h0⟩ := bindS h0
          obtain ⟨I1, hI1, hi⟩ := loopS hi
          refine loop1 tab_holds eqs_holds mixed [] hO hX I1 (fun y => [(32, .c (.int .i64 y.2))]) (fun _ => []) (fun y => y.1) _ (by kernel_rfl) hi (by cbv; try simp) ?_
          rintro ⟨n1, x116⟩ hi
          cbv
          rw [hI1] at hi
          obtain ⟨n1, rfl, x1, h1, hi1⟩ := iterS hi
          unfold m_group_Pick_L1 at h1
          try dsimp only at h1
          rcases condS h1 with ⟨hc4, h1⟩ | ⟨hc4, h1⟩
          · as_aux_lemma =>
            rw [hc4]
            cbv
            obtain ⟨hg5, h1⟩ := grdS h1
            refine ⟨idx_of hO hg5, ?_⟩
            obtain ⟨hg6, h1⟩ := grdS h1
            refine ⟨kin_of hO hg6, ?_⟩
            obtain ⟨x119, h2, h1⟩ := bindS h1
            rcases condS h2 with ⟨hc7, h2⟩ | ⟨hc7, h2⟩
            · rw [hc7]
              cbv
              cases h2
              try dsimp only at h1
              replace h1 := condT h1 rfl
              cases h1
              cases exitI hi1
              try dsimp only at h0
              cases h0
              refine fin_nil hX .i2 6 rfl ?_
              cbv
              exact fin_ok hX rfl ⟨[6], _, _, ⟨rfl, rfl⟩, rfl, rfl, rfl, rfl, by cbv; try simp⟩
            · as_aux_lemma =>
              rw [hc7]
              cbv
              rcases condS h2 with ⟨hc8, h2⟩ | ⟨hc8, h2⟩
              · rw [hc8]
                cbv
                cases h2
                try dsimp only at h1
                replace h1 := condT h1 rfl
                cases h1
                cases exitI hi1
                try dsimp only at h0
                cases h0
                refine fin_nil hX .i2 6 rfl ?_
                cbv
                exact fin_ok hX rfl ⟨[6], _, _, ⟨rfl, rfl⟩, rfl, rfl, rfl, rfl, by cbv; try simp⟩
              · rw [hc8]
                cbv
                rcases condS h2 with ⟨hc9, h2⟩ | ⟨hc9, h2⟩
                · rw [hc9]
                  cbv
                  obtain ⟨hg10, h2⟩ := grdS h2
                  refine ⟨inr_of hO hg10, ?_⟩
                  obtain ⟨hg11, h2⟩ := grdS h2
                  refine ⟨idx_of hO hg11, ?_⟩
                  obtain ⟨hg12, h2⟩ := grdS h2
                  refine ⟨kin_of hO hg12, ?_⟩
                  cases h2
                  try dsimp only at h1
                  rcases condS h1 with ⟨hc13, h1⟩ | ⟨hc13, h1⟩
                  · rw [hc13]
                    cbv
                    cases h1
                    cases exitI hi1
                    try dsimp only at h0
                    cases h0
                    refine fin_nil hX .i2 6 rfl ?_
                    cbv
                    exact fin_ok hX rfl ⟨[6], _, _, ⟨rfl, rfl⟩, rfl, rfl, rfl, rfl, by cbv; try simp⟩
                  · rw [hc13]
                    cbv
                    obtain ⟨hg14, h1⟩ := grdS h1
                    refine ⟨inr_of hO hg14, ?_⟩
                    cases h1
                    exact ⟨_, [0, 1, 2, 3, 4, 5], nextI hI1 hi1, by cbv; try simp, by first | exact Nat.lt_succ_self _ | omega⟩
                · rw [hc9]
                  cbv
                  cases h2
                  try dsimp only at h1
                  replace h1 := condF h1 rfl
                  obtain ⟨hg10, h1⟩ := grdS h1
                  refine ⟨inr_of hO hg10, ?_⟩
                  cases h1
                  exact ⟨_, [0, 1, 2, 3, 4, 5], nextI hI1 hi1, by cbv; try simp, by first | exact Nat.lt_succ_self _ | omega⟩
          · as_aux_lemma =>
            rw [hc4]
            cbv
            cases h1
            cases exitI hi1
            try dsimp only at h0
            obtain ⟨⟨n103, n104, n105⟩, hv, h0⟩ := bindS h0
            try dsimp only at h0
            refine call_go hO hX (fn_group_blocks hO hv) (by kernel_rfl) [0] rfl ⟨rfl, rfl, trivial⟩ rfl ?_
            rintro _ _ ⟨rfl, rfl⟩
            cbv
            obtain ⟨e1, h1, h0⟩ := bindS h0
            rcases condS h1 with ⟨hc5, h1⟩ | ⟨hc5, h1⟩
            · rw [hc5]
              cbv
              cases h1
              try dsimp only at h0
              cases h0
              refine fin_nil hX .i2 6 rfl ?_
              cbv
              exact fin_ok hX rfl ⟨[6], _, _, ⟨rfl, rfl⟩, rfl, rfl, rfl, rfl, by cbv; try simp⟩
            · rw [hc5]
              cbv
              obtain ⟨hg6, h1⟩ := grdS h1
              refine ⟨inr_of hO hg6, ?_⟩
              rcases condS h1 with ⟨hc7, h1⟩ | ⟨hc7, h1⟩
              · rw [hc7]
                cbv
                cases h1
                try dsimp only at h0
                cases h0
                refine fin_nil hX .i2 6 rfl ?_
                cbv
                exact fin_ok hX rfl ⟨[6], _, _, ⟨rfl, rfl⟩, rfl, rfl, rfl, rfl, by cbv; try simp⟩
              · rw [hc7]
                cbv
                cases h1
                try dsimp only at h0
                refine ⟨inr_of hO hg6, ?_⟩
                obtain ⟨⟨n115, n116, l54, n117⟩, hv, h0⟩ := bindS h0
                try dsimp only at h0
                refine call_go hO hX (fn_group_collect_3 hO hv) (by kernel_rfl) [2, 4, 3, 0, 1] rfl ⟨rfl, rfl, rfl, rfl, rfl, rfl, rfl, rfl, rfl, rfl, trivial⟩ rfl ?_
                rintro _ _ ⟨rfl, rfl⟩
                cbv
                cases h0
                exact fin_ok hX rfl ⟨[6], _, _, ⟨rfl, rfl⟩, rfl, rfl, rfl, rfl, by cbv; try simp⟩
set_option maxHeartbeats 4000000 in
theorem fn_ref16_Pick {O0 : Ops} (hO0 : O0 = std) {c_1 : Int} {c_2 : Int} {m_1 : Int} {c_3 : List (Int × Int)} {ks_1 : List Int} {r1 : Int} {r2 : Int} {r3 : List (Int × Int)} {r4 : Int} (h : m_ref16_Pick O0 c_1 c_2 m_1 c_3 ks_1 = some (r1, r2, r3, r4)) :
    Fn Try.prog 22 [.agg [.int .i64 c_1, .int .i64 c_2, .sl 0], .c (.int .i64 m_1), .c (.sl 1)] [.arr false .i2 c_3, .arr false .i1 ks_1] (fun v c => v = .tup [.many [.int .i64 r1, .int .i64 r2, .sl 2], .one (.int .i64 r4)] ∧ c = [.arr true .i2 r3]) := by
  refine fn_run tab_holds eqs_holds mixed [(6, (.seg 1 [0, 1, 2, 3, 4, 5, 6, 7, 8, 9, 10, 11, 12, 13, 14, 15, 16, 17, 18, 19, 20, 21, 22, 23, 24, 25, 26, 27, 28] .fin), []), (10, (.seg 1 [0, 1, 2, 3, 4, 5, 6] .fin), []), (21, (.seg 1 [0, 1, 2, 3, 4, 5, 6, 7, 8, 9] (.seg 2 [10] (.seg 2 [11] .fin))), [12, 13]), (22, (.seg 1 [0, 1, 2, 3, 4, 5, 6] (.seg 2 [7] (.seg 1 [8, 9] .fin))), [10, 11])] Try.func22 (by kernel_rfl) (by kernel_rfl) (Nat.le_of_ble_eq_true rfl) ?_
  intro O X hO hX
  rw [hO0, ← hO] at h
  unfold m_ref16_Pick at h
  have h0 := h; clear h
  cbv
  obtain ⟨x125, h1, h0⟩ := bindS h0
  rcases condS h1 with ⟨hc0, h1⟩ | ⟨hc0, h1⟩
  · rw [hc0]
    cbv
    cases h1
    try dsimp only at h0
    replace h0 := condT h0 rfl
    cases h0
    refine fin_nil hX .i2 4 rfl ?_
    cbv
    exact fin_ok hX rfl ⟨[4], _, _, ⟨rfl, rfl⟩, rfl, rfl, rfl, rfl, by cbv; try simp⟩
  · as_aux_lemma =>
    rw [hc0]
    cbv
    rcases condS h1 with ⟨hc1, h1⟩ | ⟨hc1, h1⟩
    · rw [hc1]
      cbv
      cases h1
      try dsimp only at h0
      replace h0 := condT h0 rfl
      cases h0
      refine fin_nil hX .i2 4 rfl ?_
      cbv
      exact fin_ok hX rfl ⟨[4], _, _, ⟨rfl, rfl⟩, rfl, rfl, rfl, rfl, by cbv; try simp⟩
    · as_aux_lemma =>
      rw [hc1]
      cbv
      cases h1
      try dsimp only at h0
      rcases condS h0 with ⟨hc2, h0⟩ | ⟨hc2, h0⟩
      · rw [hc2]
        cbv
        cases h0
        refine fin_nil hX .i2 4 rfl ?_
        cbv
        exact fin_ok hX rfl ⟨[4], _, _, ⟨rfl, rfl⟩, rfl, rfl, rfl, rfl, by cbv; try simp⟩
      · as_aux_lemma =>
        rw [hc2]
        cbv
        obtain ⟨e1, hi, h0⟩ := bindS h0
        obtain ⟨I1, hI1, hi⟩ := loopS hi
        refine loop1 tab_holds eqs_holds mixed [(6, (.seg 1 [0, 1, 2, 3, 4, 5, 6, 7, 8, 9, 10, 11, 12, 13, 14, 15, 16, 17, 18, 19, 20, 21, 22, 23, 24, 25, 26, 27, 28] .fin), []), (10, (.seg 1 [0, 1, 2, 3, 4, 5, 6] .fin), []), (21, (.seg 1 [0, 1, 2, 3, 4, 5, 6, 7, 8, 9] (.seg 2 [10] (.seg 2 [11] .fin))), [12, 13]), (22, (.seg 1 [0, 1, 2, 3, 4, 5, 6] (.seg 2 [7] (.seg 1 [8, 9] .fin))), [10, 11])] hO hX I1 (fun y => [(8, .c (.int .i64 y.2))]) (fun _ => []) (fun y => y.1) _ (by kernel_rfl) hi (by cbv; try simp) ?_
        rintro ⟨n1, i11⟩ hi
        cbv
        rw [hI1] at hi
        obtain ⟨n1, rfl, x1, h1, hi1⟩ := iterS hi
        unfold m_ref16_Pick_L1 at h1
        try dsimp only at h1
        rcases condS h1 with ⟨hc3, h1⟩ | ⟨hc3, h1⟩
        · as_aux_lemma =>
          rw [hc3]
          cbv
          obtain ⟨x128, h2, h1⟩ := bindS h1
          rcases condS h2 with ⟨hc4, h2⟩ | ⟨hc4, h2⟩
          · rw [hc4]
            cbv
            obtain ⟨hg5, h2⟩ := grdS h2
            refine ⟨idx_of hO hg5, ?_⟩
            obtain ⟨hg6, h2⟩ := grdS h2
            refine ⟨kin_of hO hg6, ?_⟩
            cases h2
            try dsimp only at h1
            replace h1 := condT h1 rfl
            cases h1
            cases exitI hi1
            try dsimp only at h0
            cases h0
            refine fin_nil hX .i2 4 rfl ?_
            cbv
            exact fin_ok hX rfl ⟨[4], _, _, ⟨rfl, rfl⟩, rfl, rfl, rfl, rfl, by cbv; try simp⟩
          · as_aux_lemma =>
            rw [hc4]
            cbv
            rcases condS h2 with ⟨hc5, h2⟩ | ⟨hc5, h2⟩
            · rw [hc5]
              cbv
              obtain ⟨hg6, h2⟩ := grdS h2
              refine ⟨idx_of hO hg6, ?_⟩
              obtain ⟨hg7, h2⟩ := grdS h2
              refine ⟨kin_of hO hg7, ?_⟩
              cases h2
              try dsimp only at h1
              replace h1 := condT h1 rfl
              refine ⟨idx_of hO hg6, ?_⟩
              refine ⟨kin_of hO hg7, ?_⟩
              cases h1
              cases exitI hi1
              try dsimp only at h0
              cases h0
              refine fin_nil hX .i2 4 rfl ?_
              cbv
              exact fin_ok hX rfl ⟨[4], _, _, ⟨rfl, rfl⟩, rfl, rfl, rfl, rfl, by cbv; try simp⟩
            · as_aux_lemma =>
              rw [hc5]
              cbv
              rcases condS h2 with ⟨hc6, h2⟩ | ⟨hc6, h2⟩
              · rw [hc6]
                cbv
                obtain ⟨hg7, h2⟩ := grdS h2
                refine ⟨idx_of hO hg7, ?_⟩
                obtain ⟨hg8, h2⟩ := grdS h2
                refine ⟨kin_of hO hg8, ?_⟩
                refine ⟨idx_of hO hg7, ?_⟩
                refine ⟨kin_of hO hg8, ?_⟩
                refine ⟨idx_of hO hg7, ?_⟩
                refine ⟨kin_of hO hg8, ?_⟩
                obtain ⟨hg9, h2⟩ := grdS h2
                refine ⟨inr_of hO hg9, ?_⟩
                obtain ⟨hg10, h2⟩ := grdS h2
                refine ⟨idx_of hO hg10, ?_⟩
                obtain ⟨hg11, h2⟩ := grdS h2
                refine ⟨kin_of hO hg11, ?_⟩
                cases h2
                try dsimp only at h1
                rcases condS h1 with ⟨hc12, h1⟩ | ⟨hc12, h1⟩
                · rw [hc12]
                  cbv
                  cases h1
                  cases exitI hi1
                  try dsimp only at h0
                  cases h0
                  refine fin_nil hX .i2 4 rfl ?_
                  cbv
                  exact fin_ok hX rfl ⟨[4], _, _, ⟨rfl, rfl⟩, rfl, rfl, rfl, rfl, by cbv; try simp⟩
                · rw [hc12]
                  cbv
                  obtain ⟨hg13, h1⟩ := grdS h1
                  refine ⟨inr_of hO hg13, ?_⟩
                  cases h1
                  exact ⟨_, [0, 1, 2, 3], nextI hI1 hi1, by cbv; try simp, by first | exact Nat.lt_succ_self _ | omega⟩
              · rw [hc6]
                cbv
                obtain ⟨hg7, h2⟩ := grdS h2
                refine ⟨idx_of hO hg7, ?_⟩
                obtain ⟨hg8, h2⟩ := grdS h2
                refine ⟨kin_of hO hg8, ?_⟩
                cases h2
                try dsimp only at h1
                replace h1 := condF h1 rfl
                refine ⟨idx_of hO hg7, ?_⟩
                refine ⟨kin_of hO hg8, ?_⟩
                obtain ⟨hg9, h1⟩ := grdS h1
                refine ⟨inr_of hO hg9, ?_⟩
                cases h1
                exact ⟨_, [0, 1, 2, 3], nextI hI1 hi1, by cbv; try simp, by first | exact Nat.lt_succ_self _ | omega⟩
        · as_aux_lemma =>
          rw [hc3]
          cbv
          cases h1
          cases exitI hi1
          try dsimp only at h0
          obtain ⟨n121, hv, h0⟩ := bindS h0
          refine call_go hO hX (fn_ref01_Gcd hO hv) (by kernel_rfl) [] rfl trivial rfl ?_
          rintro _ _ ⟨rfl, rfl⟩
          cbv
          obtain ⟨hg4, h0⟩ := grdS h0
          refine ⟨nz_of hO hg4, ?_⟩
          obtain ⟨hg5, h0⟩ := grdS h0
          refine ⟨inr_of hO hg5, ?_⟩
          obtain ⟨hg6, h0⟩ := grdS h0
          refine ⟨nz_of hO hg6, ?_⟩
          obtain ⟨hg7, h0⟩ := grdS h0
          refine ⟨inr_of hO hg7, ?_⟩
          rcases condS h0 with ⟨hc8, h0⟩ | ⟨hc8, h0⟩
          · rw [hc8]
            cbv
            cases h0
            refine fin_nil hX .i2 4 rfl ?_
            cbv
            exact fin_ok hX rfl ⟨[4], _, _, ⟨rfl, rfl⟩, rfl, rfl, rfl, rfl, by cbv; try simp⟩
          · as_aux_lemma =>
            rw [hc8]
            cbv
            refine ⟨nz_of hO hg4, ?_⟩
            obtain ⟨hg9, h0⟩ := grdS h0
            refine ⟨inr_of hO hg9, ?_⟩
            obtain ⟨hg10, h0⟩ := grdS h0
            refine ⟨inr_of hO hg10, ?_⟩
            rcases condS h0 with ⟨hc11, h0⟩ | ⟨hc11, h0⟩
            · rw [hc11]
              cbv
              cases h0
              refine fin_nil hX .i2 4 rfl ?_
              cbv
              exact fin_ok hX rfl ⟨[4], _, _, ⟨rfl, rfl⟩, rfl, rfl, rfl, rfl, by cbv; try simp⟩
            · as_aux_lemma =>
              rw [hc11]
              cbv
              obtain ⟨l61, hi, h0⟩ := bindS h0
              obtain ⟨I3, hI3, hi⟩ := loopS hi
              refine loop1 tab_holds eqs_holds mixed [(6, (.seg 1 [0, 1, 2, 3, 4, 5, 6, 7, 8, 9, 10, 11, 12, 13, 14, 15, 16, 17, 18, 19, 20, 21, 22, 23, 24, 25, 26, 27, 28] .fin), []), (10, (.seg 1 [0, 1, 2, 3, 4, 5, 6] .fin), []), (21, (.seg 1 [0, 1, 2, 3, 4, 5, 6, 7, 8, 9] (.seg 2 [10] (.seg 2 [11] .fin))), [12, 13]), (22, (.seg 1 [0, 1, 2, 3, 4, 5, 6] (.seg 2 [7] (.seg 1 [8, 9] .fin))), [10, 11])] hO hX I3 (fun y => [(62, .junk), (71, .junk), (11, .c (.sl 4)), (12, .c (.int .i64 y.2.1))]) (fun y => [(4, .own 49 .i2 y.2.2)]) (fun y => y.1) _ (by kernel_rfl) hi (by cbv; try simp) ?_
              rintro ⟨n3, b47, l58⟩ hi
              cbv
              rw [hI3] at hi
              obtain ⟨n3, rfl, x3, h1, hi3⟩ := iterS hi
              unfold m_ref16_Pick_L3 at h1
              try dsimp only at h1
              refine ⟨nz_of hO hg4, ?_⟩
              refine ⟨inr_of hO hg9, ?_⟩
              rcases condS h1 with ⟨hc12, h1⟩ | ⟨hc12, h1⟩
              · as_aux_lemma =>
                rw [hc12]
                cbv
                obtain ⟨l60, hi, h1⟩ := bindS h1
                obtain ⟨I2, hI2, hi⟩ := loopS hi
                refine loop1 tab_holds eqs_holds mixed [(6, (.seg 1 [0, 1, 2, 3, 4, 5, 6, 7, 8, 9, 10, 11, 12, 13, 14, 15, 16, 17, 18, 19, 20, 21, 22, 23, 24, 25, 26, 27, 28] .fin), []), (10, (.seg 1 [0, 1, 2, 3, 4, 5, 6] .fin), []), (21, (.seg 1 [0, 1, 2, 3, 4, 5, 6, 7, 8, 9] (.seg 2 [10] (.seg 2 [11] .fin))), [12, 13]), (22, (.seg 1 [0, 1, 2, 3, 4, 5, 6] (.seg 2 [7] (.seg 1 [8, 9] .fin))), [10, 11])] hO hX I2 (fun y => [(11, .c (.sl 4)), (13, .c (.int .i64 y.2.1))]) (fun y => [(4, .own 49 .i2 y.2.2)]) (fun y => y.1) _ (by kernel_rfl) hi (by cbv; try simp) ?_
                rintro ⟨n2, i15, l59⟩ hi
                cbv
                rw [hI2] at hi
                obtain ⟨n2, rfl, x2, h2, hi2⟩ := iterS hi
                unfold m_ref16_Pick_L2 at h2
                try dsimp only at h2
                rcases condS h2 with ⟨hc13, h2⟩ | ⟨hc13, h2⟩
                · rw [hc13]
                  cbv
                  obtain ⟨hg14, h2⟩ := grdS h2
                  refine ⟨inr_of hO hg14, ?_⟩
                  obtain ⟨hg15, h2⟩ := grdS h2
                  refine ⟨idx_of hO hg15, ?_⟩
                  obtain ⟨hg16, h2⟩ := grdS h2
                  refine ⟨kin_of hO hg16, ?_⟩
                  obtain ⟨hg17, h2⟩ := grdS h2
                  refine ⟨inr_of hO hg17, ?_⟩
                  obtain ⟨⟨n128, n129⟩, hv, h2⟩ := bindS h2
                  try dsimp only at h2
                  refine call_go hO hX (fn_ref16_Granule hO hv) (by kernel_rfl) [0] rfl ⟨rfl, rfl, trivial⟩ rfl ?_
                  rintro _ _ ⟨rfl, rfl⟩
                  cbv
                  obtain ⟨hg18, h2⟩ := grdS h2
                  refine ⟨room_of hO hg18, ?_⟩
                  obtain ⟨hg19, h2⟩ := grdS h2
                  refine ⟨room_of hO hg19, ?_⟩
                  obtain ⟨hg20, h2⟩ := grdS h2
                  refine ⟨inr_of hO hg20, ?_⟩
                  cases h2
                  exact ⟨_, [0, 1, 2, 3, 6], nextI hI2 hi2, by cbv; try simp, by first | exact Nat.lt_succ_self _ | omega⟩
                · rw [hc13]
                  cbv
                  cases h2
                  cases exitI hi2
                  try dsimp only at h1
                  obtain ⟨hg14, h1⟩ := grdS h1
                  refine ⟨inr_of hO hg14, ?_⟩
                  cases h1
                  exact ⟨_, [0, 1, 2, 3, 4], nextI hI3 hi3, by cbv; try simp, by first | exact Nat.lt_succ_self _ | omega⟩
              · rw [hc12]
                cbv
                cases h1
                cases exitI hi3
                try dsimp only at h0
                refine ⟨nz_of hO hg4, ?_⟩
                refine ⟨inr_of hO hg5, ?_⟩
                obtain ⟨hg13, h0⟩ := grdS h0
                refine ⟨inr_of hO hg13, ?_⟩
                obtain ⟨⟨n130, n131, l62, n132⟩, hv, h0⟩ := bindS h0
                try dsimp only at h0
                refine call_go hO hX (fn_ref16_Make hO hv) (by kernel_rfl) [4] rfl ⟨rfl, rfl, trivial⟩ rfl ?_
                rintro _ _ ⟨rfl, rfl⟩
                cbv
                cases h0
                exact fin_ok hX rfl ⟨[5], _, _, ⟨rfl, rfl⟩, rfl, rfl, rfl, rfl, by cbv; try simp⟩
set_option maxHeartbeats 4000000 in
theorem fn_law16_GroupPicks {O0 : Ops} (hO0 : O0 = std) {c_1 : Int} {c_2 : Int} {m_1 : Int} {c_3 : List (Int × Int)} {ks_1 : List Int} {r1 : Bool} (h : m_law16_GroupPicks O0 c_1 c_2 m_1 c_3 ks_1 = some r1) :
    Fn Try.prog 5 [.agg [.int .i64 c_1, .int .i64 c_2, .sl 0], .c (.int .i64 m_1), .c (.sl 1)] [.arr false .i2 c_3, .arr false .i1 ks_1] (fun v c => v = .c (.bool r1) ∧ c = []) := by
  refine fn_run tab_holds eqs_holds mixed [] Try.func5 (by kernel_rfl) (by kernel_rfl) (Nat.le_of_ble_eq_true rfl) ?_
  intro O X hO hX
  rw [hO0, ← hO] at h
  unfold m_law16_GroupPicks at h
  have h0 := h; clear h
  cbv
  obtain ⟨b39, hv, h0⟩ := bindS h0
  refine call_go hO hX (fn_law16_awake hO hv) (by kernel_rfl) [] rfl trivial rfl ?_
  rintro _ _ ⟨rfl, rfl⟩
  cbv
  rcases condS h0 with ⟨hc0, h0⟩ | ⟨hc0, h0⟩
  · rw [hc0]
    cbv
    cases h0
    exact fin_ok hX rfl ⟨[], _, _, ⟨rfl, rfl⟩, rfl, rfl, rfl, rfl, by cbv; try simp⟩
  · as_aux_lemma =>
    rw [hc0]
    cbv
    obtain ⟨x113, h1, h0⟩ := bindS h0
    obtain ⟨b40, hv, h1⟩ := bindS h1
    refine call_go hO hX (fn_law16_great hO hv) (by kernel_rfl) [3, 0] rfl ⟨rfl, rfl, rfl, rfl, trivial⟩ rfl ?_
    rintro _ _ ⟨rfl, rfl⟩
    cbv
    rcases condS h1 with ⟨hc1, h1⟩ | ⟨hc1, h1⟩
    · rw [hc1]
      cbv
      cases h1
      try dsimp only at h0
      replace h0 := condT h0 rfl
      cases h0
      exact fin_ok hX rfl ⟨[], _, _, ⟨rfl, rfl⟩, rfl, rfl, rfl, rfl, by cbv; try simp⟩
    · as_aux_lemma =>
      rw [hc1]
      cbv
      cases h1
      try dsimp only at h0
      rcases condS h0 with ⟨hc2, h0⟩ | ⟨hc2, h0⟩
      · rw [hc2]
        cbv
        cases h0
        exact fin_ok hX rfl ⟨[], _, _, ⟨rfl, rfl⟩, rfl, rfl, rfl, rfl, by cbv; try simp⟩
      · rw [hc2]
        cbv
        obtain ⟨⟨n118, n119, l55, n120⟩, hv, h0⟩ := bindS h0
        try dsimp only at h0
        refine call_go hO hX (fn_group_Pick hO hv) (by kernel_rfl) [0, 1] rfl ⟨rfl, rfl, rfl, rfl, trivial⟩ rfl ?_
        rintro _ _ ⟨rfl, rfl⟩
        cbv
        obtain ⟨b44, hv, h0⟩ := bindS h0
        refine call_go hO hX (fn_ref16_Valid hO hv) (by kernel_rfl) [0] rfl ⟨rfl, rfl, trivial⟩ rfl ?_
        rintro _ _ ⟨rfl, rfl⟩
        cbv
        rcases condS h0 with ⟨hc3, h0⟩ | ⟨hc3, h0⟩
        · rw [hc3]
          cbv
          refine call_nil hO hX .i2 6 rfl ?_
          cbv
          obtain ⟨b45, hv, h0⟩ := bindS h0
          refine call_go hO hX (fn_law16_is hO hv) (by kernel_rfl) [4, 6] rfl ⟨rfl, rfl, rfl, rfl, trivial⟩ rfl ?_
          rintro _ _ ⟨rfl, rfl⟩
          cbv
          cases h0
          exact fin_ok hX rfl ⟨[], _, _, ⟨rfl, rfl⟩, rfl, rfl, rfl, rfl, by cbv; try simp⟩
        · rw [hc3]
          cbv
          obtain ⟨⟨n133, n134, l63, n135⟩, hv, h0⟩ := bindS h0
          try dsimp only at h0
          refine call_go hO hX (fn_ref16_Pick hO hv) (by kernel_rfl) [0, 1] rfl ⟨rfl, rfl, rfl, rfl, trivial⟩ rfl ?_
          rintro _ _ ⟨rfl, rfl⟩
          cbv
          obtain ⟨b48, hv, h0⟩ := bindS h0
          refine call_go hO hX (fn_law16_is hO hv) (by kernel_rfl) [4, 6] rfl ⟨rfl, rfl, rfl, rfl, trivial⟩ rfl ?_
          rintro _ _ ⟨rfl, rfl⟩
          cbv
          cases h0
          exact fin_ok hX rfl ⟨[], _, _, ⟨rfl, rfl⟩, rfl, rfl, rfl, rfl, by cbv; try simp⟩
set_option maxHeartbeats 4000000 in
theorem fn_ref16_Custom {O0 : Ops} (hO0 : O0 = std) {origin_1 : Int} {lengths_1 : List Int} {r1 : Int} {r2 : Int} {r3 : List (Int × Int)} {r4 : Int} (h : m_ref16_Custom O0 origin_1 lengths_1 = some (r1, r2, r3, r4)) :
    Fn Try.prog 24 [.c (.int .i64 origin_1), .c (.sl 0)] [.arr false .i1 lengths_1] (fun v c => v = .tup [.many [.int .i64 r1, .int .i64 r2, .sl 1], .one (.int .i64 r4)] ∧ c = [.arr true .i2 r3]) := by
  refine fn_run tab_holds eqs_holds mixed [] Try.func24 (by kernel_rfl) (by kernel_rfl) (Nat.le_of_ble_eq_true rfl) ?_
  intro O X hO hX
  rw [hO0, ← hO] at h
  unfold m_ref16_Custom at h
  have h0 := h; clear h
  cbv
  rcases condS h0 with ⟨hc0, h0⟩ | ⟨hc0, h0⟩
  · rw [hc0]
    cbv
    cases h0
    refine fin_nil hX .i2 2 rfl ?_
    cbv
    exact fin_ok hX rfl ⟨[2], _, _, ⟨rfl, rfl⟩, rfl, rfl, rfl, rfl, by cbv; try simp⟩
  · as_aux_lemma =>
    rw [hc0]
    cbv
    obtain ⟨e1, hi, h0⟩ := bindS h0
    obtain ⟨I1, hI1, hi⟩ := loopS hi
    refine loop1 tab_holds eqs_holds mixed [] hO hX I1 (fun y => [(6, .c (.int .i64 y.2))]) (fun _ => []) (fun y => y.1) _ (by kernel_rfl) hi (by cbv; try simp) ?_
    rintro ⟨n1, i16⟩ hi
    cbv
    rw [hI1] at hi
    obtain ⟨n1, rfl, x1, h1, hi1⟩ := iterS hi
    unfold m_ref16_Custom_L1 at h1
    try dsimp only at h1
    rcases condS h1 with ⟨hc1, h1⟩ | ⟨hc1, h1⟩
    · as_aux_lemma =>
      rw [hc1]
      cbv
      obtain ⟨x132, h2, h1⟩ := bindS h1
      rcases condS h2 with ⟨hc2, h2⟩ | ⟨hc2, h2⟩
      · rw [hc2]
        cbv
        obtain ⟨hg3, h2⟩ := grdS h2
        refine ⟨idx_of hO hg3, ?_⟩
        obtain ⟨hg4, h2⟩ := grdS h2
        refine ⟨kin_of hO hg4, ?_⟩
        cases h2
        try dsimp only at h1
        replace h1 := condT h1 rfl
        cases h1
        cases exitI hi1
        try dsimp only at h0
        cases h0
        refine fin_nil hX .i2 2 rfl ?_
        cbv
        exact fin_ok hX rfl ⟨[2], _, _, ⟨rfl, rfl⟩, rfl, rfl, rfl, rfl, by cbv; try simp⟩
      · rw [hc2]
        cbv
        obtain ⟨hg3, h2⟩ := grdS h2
        refine ⟨idx_of hO hg3, ?_⟩
        obtain ⟨hg4, h2⟩ := grdS h2
        refine ⟨kin_of hO hg4, ?_⟩
        cases h2
        try dsimp only at h1
        refine ⟨idx_of hO hg3, ?_⟩
        refine ⟨kin_of hO hg4, ?_⟩
        rcases condS h1 with ⟨hc5, h1⟩ | ⟨hc5, h1⟩
        · rw [hc5]
          cbv
          cases h1
          cases exitI hi1
          try dsimp only at h0
          cases h0
          refine fin_nil hX .i2 2 rfl ?_
          cbv
          exact fin_ok hX rfl ⟨[2], _, _, ⟨rfl, rfl⟩, rfl, rfl, rfl, rfl, by cbv; try simp⟩
        · rw [hc5]
          cbv
          obtain ⟨hg6, h1⟩ := grdS h1
          refine ⟨inr_of hO hg6, ?_⟩
          cases h1
          exact ⟨_, [0, 1], nextI hI1 hi1, by cbv; try simp, by first | exact Nat.lt_succ_self _ | omega⟩
    · as_aux_lemma =>
      rw [hc1]
      cbv
      cases h1
      cases exitI hi1
      try dsimp only at h0
      rcases condS h0 with ⟨hc2, h0⟩ | ⟨hc2, h0⟩
      · rw [hc2]
        cbv
        cases h0
        refine fin_nil hX .i2 2 rfl ?_
        cbv
        exact fin_ok hX rfl ⟨[2], _, _, ⟨rfl, rfl⟩, rfl, rfl, rfl, rfl, by cbv; try simp⟩
      · as_aux_lemma =>
        rw [hc2]
        cbv
        obtain ⟨sum5, hi, h0⟩ := bindS h0
        obtain ⟨I2, hI2, hi⟩ := loopS hi
        refine loop1 tab_holds eqs_holds mixed [] hO hX I2 (fun y => [(7, .c (.int .i64 y.2.1)), (8, .c (.int .i64 y.2.2))]) (fun _ => []) (fun y => y.1) _ (by kernel_rfl) hi (by cbv; try simp) ?_
        rintro ⟨n2, sum4, i17⟩ hi
        cbv
        rw [hI2] at hi
        obtain ⟨n2, rfl, x2, h1, hi2⟩ := iterS hi
        unfold m_ref16_Custom_L2 at h1
        try dsimp only at h1
        rcases condS h1 with ⟨hc3, h1⟩ | ⟨hc3, h1⟩
        · rw [hc3]
          cbv
          obtain ⟨hg4, h1⟩ := grdS h1
          refine ⟨idx_of hO hg4, ?_⟩
          obtain ⟨hg5, h1⟩ := grdS h1
          refine ⟨kin_of hO hg5, ?_⟩
          obtain ⟨hg6, h1⟩ := grdS h1
          refine ⟨inr_of hO hg6, ?_⟩
          obtain ⟨hg7, h1⟩ := grdS h1
          refine ⟨inr_of hO hg7, ?_⟩
          cases h1
          exact ⟨_, [0, 1], nextI hI2 hi2, by cbv; try simp, by first | exact Nat.lt_succ_self _ | omega⟩
        · as_aux_lemma =>
          rw [hc3]
          cbv
          cases h1
          cases exitI hi2
          try dsimp only at h0
          rcases condS h0 with ⟨hc4, h0⟩ | ⟨hc4, h0⟩
          · rw [hc4]
            cbv
            cases h0
            refine fin_nil hX .i2 2 rfl ?_
            cbv
            exact fin_ok hX rfl ⟨[2], _, _, ⟨rfl, rfl⟩, rfl, rfl, rfl, rfl, by cbv; try simp⟩
          · as_aux_lemma =>
            rw [hc4]
            cbv
            obtain ⟨x134, h1, h0⟩ := bindS h0
            rcases condS h1 with ⟨hc5, h1⟩ | ⟨hc5, h1⟩
            · rw [hc5]
              cbv
              cases h1
              try dsimp only at h0
              replace h0 := condT h0 rfl
              cases h0
              refine fin_nil hX .i2 2 rfl ?_
              cbv
              exact fin_ok hX rfl ⟨[2], _, _, ⟨rfl, rfl⟩, rfl, rfl, rfl, rfl, by cbv; try simp⟩
            · as_aux_lemma =>
              rw [hc5]
              cbv
              cases h1
              try dsimp only at h0
              rcases condS h0 with ⟨hc6, h0⟩ | ⟨hc6, h0⟩
              · rw [hc6]
                cbv
                cases h0
                refine fin_nil hX .i2 2 rfl ?_
                cbv
                exact fin_ok hX rfl ⟨[2], _, _, ⟨rfl, rfl⟩, rfl, rfl, rfl, rfl, by cbv; try simp⟩
              · as_aux_lemma =>
                rw [hc6]
                cbv
                obtain ⟨l66, hi, h0⟩ := bindS h0
                obtain ⟨I3, hI3, hi⟩ := loopS hi
                refine loop1 tab_holds eqs_holds mixed [] hO hX I3 (fun y => [(9, .c (.sl 2)), (10, .c (.int .i64 y.2.1)), (11, .c (.int .i64 y.2.2.1))]) (fun y => [(2, .own 49 .i2 y.2.2.2)]) (fun y => y.1) _ (by kernel_rfl) hi (by cbv; try simp) ?_
                rintro ⟨n3, at2, i19, l65⟩ hi
                cbv
                rw [hI3] at hi
                obtain ⟨n3, rfl, x3, h1, hi3⟩ := iterS hi
                unfold m_ref16_Custom_L3 at h1
                try dsimp only at h1
                rcases condS h1 with ⟨hc7, h1⟩ | ⟨hc7, h1⟩
                · rw [hc7]
                  cbv
                  obtain ⟨hg8, h1⟩ := grdS h1
                  refine ⟨idx_of hO hg8, ?_⟩
                  obtain ⟨hg9, h1⟩ := grdS h1
                  refine ⟨kin_of hO hg9, ?_⟩
                  obtain ⟨hg10, h1⟩ := grdS h1
                  refine ⟨inr_of hO hg10, ?_⟩
                  obtain ⟨hg11, h1⟩ := grdS h1
                  refine ⟨room_of hO hg11, ?_⟩
                  obtain ⟨hg12, h1⟩ := grdS h1
                  refine ⟨room_of hO hg12, ?_⟩
                  refine ⟨idx_of hO hg8, ?_⟩
                  refine ⟨kin_of hO hg9, ?_⟩
                  refine ⟨inr_of hO hg10, ?_⟩
                  obtain ⟨hg13, h1⟩ := grdS h1
                  refine ⟨inr_of hO hg13, ?_⟩
                  cases h1
                  exact ⟨_, [0, 1, 4], nextI hI3 hi3, by cbv; try simp, by first | exact Nat.lt_succ_self _ | omega⟩
                · rw [hc7]
                  cbv
                  cases h1
                  cases exitI hi3
                  try dsimp only at h0
                  obtain ⟨⟨n139, n140, l67, n141⟩, hv, h0⟩ := bindS h0
                  try dsimp only at h0
                  refine call_go hO hX (fn_ref16_Make hO hv) (by kernel_rfl) [2] rfl ⟨rfl, rfl, trivial⟩ rfl ?_
                  rintro _ _ ⟨rfl, rfl⟩
                  cbv
                  cases h0
                  exact fin_ok hX rfl ⟨[3], _, _, ⟨rfl, rfl⟩, rfl, rfl, rfl, rfl, by cbv; try simp⟩
set_option maxHeartbeats 4000000 in
theorem fn_ref16_Fiscal {O0 : Ops} (hO0 : O0 = std) {origin_1 : Int} {pattern_1 : List Int} {r1 : Int} {r2 : Int} {r3 : List (Int × Int)} {r4 : Int} (h : m_ref16_Fiscal O0 origin_1 pattern_1 = some (r1, r2, r3, r4)) :
    Fn Try.prog 26 [.c (.int .i64 origin_1), .c (.sl 0)] [.arr false .i1 pattern_1] (fun v c => v = .tup [.many [.int .i64 r1, .int .i64 r2, .sl 1], .one (.int .i64 r4)] ∧ c = [.arr true .i2 r3]) := by
  refine fn_run tab_holds eqs_holds mixed [] Try.func26 (by kernel_rfl) (by kernel_rfl) (Nat.le_of_ble_eq_true rfl) ?_
  intro O X hO hX
  rw [hO0, ← hO] at h
  unfold m_ref16_Fiscal at h
  have h0 := h; clear h
  cbv
  obtain ⟨e1, hi, h0⟩ := bindS h0
  obtain ⟨I1, hI1, hi⟩ := loopS hi
  refine loop1 tab_holds eqs_holds mixed [] hO hX I1 (fun y => [(6, .c (.sl 2)), (7, .c (.int .i64 y.2.1))]) (fun y => [(2, .own 3 .i1 y.2.2)]) (fun y => y.1) _ (by kernel_rfl) hi (by cbv; try simp) ?_
  rintro ⟨n1, i21, l70⟩ hi
  cbv
  rw [hI1] at hi
  obtain ⟨n1, rfl, x1, h1, hi1⟩ := iterS hi
  unfold m_ref16_Fiscal_L1 at h1
  try dsimp only at h1
  rcases condS h1 with ⟨hc0, h1⟩ | ⟨hc0, h1⟩
  · as_aux_lemma =>
    rw [hc0]
    cbv
    obtain ⟨x138, h2, h1⟩ := bindS h1
    rcases condS h2 with ⟨hc1, h2⟩ | ⟨hc1, h2⟩
    · rw [hc1]
      cbv
      obtain ⟨hg2, h2⟩ := grdS h2
      refine ⟨idx_of hO hg2, ?_⟩
      obtain ⟨hg3, h2⟩ := grdS h2
      refine ⟨kin_of hO hg3, ?_⟩
      cases h2
      try dsimp only at h1
      replace h1 := condT h1 rfl
      cases h1
      cases exitI hi1
      try dsimp only at h0
      cases h0
      refine fin_nil hX .i2 3 rfl ?_
      cbv
      exact fin_ok hX rfl ⟨[3], _, _, ⟨rfl, rfl⟩, rfl, rfl, rfl, rfl, by cbv; try simp⟩
    · rw [hc1]
      cbv
      obtain ⟨hg2, h2⟩ := grdS h2
      refine ⟨idx_of hO hg2, ?_⟩
      obtain ⟨hg3, h2⟩ := grdS h2
      refine ⟨kin_of hO hg3, ?_⟩
      cases h2
      try dsimp only at h1
      refine ⟨idx_of hO hg2, ?_⟩
      refine ⟨kin_of hO hg3, ?_⟩
      rcases condS h1 with ⟨hc4, h1⟩ | ⟨hc4, h1⟩
      · rw [hc4]
        cbv
        cases h1
        cases exitI hi1
        try dsimp only at h0
        cases h0
        refine fin_nil hX .i2 3 rfl ?_
        cbv
        exact fin_ok hX rfl ⟨[3], _, _, ⟨rfl, rfl⟩, rfl, rfl, rfl, rfl, by cbv; try simp⟩
      · rw [hc4]
        cbv
        refine ⟨idx_of hO hg2, ?_⟩
        refine ⟨kin_of hO hg3, ?_⟩
        obtain ⟨hg5, h1⟩ := grdS h1
        refine ⟨inr_of hO hg5, ?_⟩
        obtain ⟨hg6, h1⟩ := grdS h1
        refine ⟨room_of hO hg6, ?_⟩
        obtain ⟨hg7, h1⟩ := grdS h1
        refine ⟨room_of hO hg7, ?_⟩
        obtain ⟨hg8, h1⟩ := grdS h1
        refine ⟨inr_of hO hg8, ?_⟩
        cases h1
        exact ⟨_, [0, 1, 4], nextI hI1 hi1, by cbv; try simp, by first | exact Nat.lt_succ_self _ | omega⟩
  · rw [hc0]
    cbv
    cases h1
    cases exitI hi1
    try dsimp only at h0
    obtain ⟨⟨n148, n149, l72, n150⟩, hv, h0⟩ := bindS h0
    try dsimp only at h0
    refine call_go hO hX (fn_ref16_Custom hO hv) (by kernel_rfl) [2] rfl ⟨rfl, rfl, trivial⟩ rfl ?_
    rintro _ _ ⟨rfl, rfl⟩
    cbv
    cases h0
    exact fin_ok hX rfl ⟨[3], _, _, ⟨rfl, rfl⟩, rfl, rfl, rfl, rfl, by cbv; try simp⟩
set_option maxHeartbeats 4000000 in
theorem fn_group_Fill_1 {O0 : Ops} (hO0 : O0 = std) {k_1 : Int} {x_1 : Int} {x_2 : Int} {x_3 : List (Int × Int)} {r1 : Int} {r2 : Int} {r3 : Bool} (h : m_group_Fill_1 O0 k_1 x_1 x_2 x_3 = some (r1, r2, r3)) :
    Fn Try.prog 62 [.c (.int .i64 k_1), .c (.ptr 0 0)] [.ro 24 [.int .i64 x_1, .int .i64 x_2, .sl 1], .arr false .i2 x_3] (fun v c => v = .tup [.many [.int .i64 r1, .int .i64 r2], .one (.bool r3)] ∧ c = []) := by
  refine fn_run tab_holds eqs_holds mixed [(1, (.seg 1 [0, 1, 4, 5, 6] (.seg 2 [2] (.seg 1 [3] (.seg 2 [7] (.seg 1 [8, 9] .fin))))), [10, 11])] Try.func62 (by kernel_rfl) (by kernel_rfl) (Nat.le_of_ble_eq_true rfl) ?_
  intro O X hO hX
  rw [hO0, ← hO] at h
  unfold m_group_Fill_1 at h
  have h0 := h; clear h
  cbv
  obtain ⟨hg0, h0⟩ := grdS h0
  refine ⟨inr_of hO hg0, ?_⟩
  obtain ⟨⟨n154, n155⟩, hv, h0⟩ := bindS h0
  try dsimp only at h0
  refine call_go hO hX (fn_group_at hO hv) (by kernel_rfl) [1] rfl ⟨rfl, rfl, trivial⟩ rfl ?_
  rintro _ _ ⟨rfl, rfl⟩
  cbv
  obtain ⟨⟨n156, n157⟩, hv, h0⟩ := bindS h0
  try dsimp only at h0
  refine call_go hO hX (fn_group_at hO hv) (by kernel_rfl) [1] rfl ⟨rfl, rfl, trivial⟩ rfl ?_
  rintro _ _ ⟨rfl, rfl⟩
  cbv
  cases h0
  exact fin_ok hX rfl ⟨[], _, _, ⟨rfl, rfl⟩, rfl, rfl, rfl, rfl, by cbv; try simp⟩
set_option maxHeartbeats 4000000 in
theorem fn_group_collect_4 {O0 : Ops} (hO0 : O0 = std) {period_1 : Int} {n_1 : Int} {c_1 : Int} {c_2 : Int} {c_3 : List (Int × Int)} {r1 : Int} {r2 : Int} {r3 : List (Int × Int)} {r4 : Int} (h : m_group_collect_4 O0 period_1 n_1 c_1 c_2 c_3 = some (r1, r2, r3, r4)) :
    Fn Try.prog 48 [.c (.int .i64 period_1), .c (.int .i64 n_1), .c (.fn 62 [0])] [.ro 24 [.int .i64 c_1, .int .i64 c_2, .sl 1], .arr false .i2 c_3] (fun v c => v = .tup [.many [.int .i64 r1, .int .i64 r2, .sl 2], .one (.int .i64 r4)] ∧ c = [.arr true .i2 r3]) := by
  refine fn_run tab_holds eqs_holds mixed [] Try.func48 (by kernel_rfl) (by kernel_rfl) (Nat.le_of_ble_eq_true rfl) ?_
  intro O X hO hX
  rw [hO0, ← hO] at h
  unfold m_group_collect_4 at h
  have h0 := h; clear h
  cbv
  obtain ⟨l79, hi, h0⟩ := bindS h0
  obtain ⟨I1, hI1, hi⟩ := loopS hi
  refine loop1 tab_holds eqs_holds mixed [] hO hX I1 (fun y => [(8, .c (.sl 3)), (13, .c (.int .i64 y.2.1))]) (fun y => [(3, .own 49 .i2 y.2.2)]) (fun y => y.1) _ (by kernel_rfl) hi (by cbv; try simp) ?_
  rintro ⟨n1, x140, l76⟩ hi
  cbv
  rw [hI1] at hi
  obtain ⟨n1, rfl, x1, h1, hi1⟩ := iterS hi
  unfold m_group_collect_4_L1 at h1
  try dsimp only at h1
  rcases condS h1 with ⟨hc0, h1⟩ | ⟨hc0, h1⟩
  · rw [hc0]
    cbv
    obtain ⟨⟨n160, n161, b53⟩, hv, h1⟩ := bindS h1
    try dsimp only at h1
    refine call_go hO hX (fn_group_Fill_1 hO hv) (by kernel_rfl) [0, 1] rfl ⟨rfl, rfl, rfl, rfl, trivial⟩ rfl ?_
    rintro _ _ ⟨rfl, rfl⟩
    cbv
    obtain ⟨l78, h2, h1⟩ := bindS h1
    rcases condS h2 with ⟨hc1, h2⟩ | ⟨hc1, h2⟩
    · rw [hc1]
      cbv
      obtain ⟨hg2, h2⟩ := grdS h2
      refine ⟨room_of hO hg2, ?_⟩
      obtain ⟨hg3, h2⟩ := grdS h2
      refine ⟨room_of hO hg3, ?_⟩
      cases h2
      try dsimp only at h1
      obtain ⟨hg4, h1⟩ := grdS h1
      refine ⟨inr_of hO hg4, ?_⟩
      cases h1
      exact ⟨_, [0, 1, 2, 6], nextI hI1 hi1, by cbv; try simp, by first | exact Nat.lt_succ_self _ | omega⟩
    · rw [hc1]
      cbv
      cases h2
      try dsimp only at h1
      obtain ⟨hg2, h1⟩ := grdS h1
      refine ⟨inr_of hO hg2, ?_⟩
      cases h1
      exact ⟨_, [0, 1, 2, 3], nextI hI1 hi1, by cbv; try simp, by first | exact Nat.lt_succ_self _ | omega⟩
  · rw [hc0]
    cbv
    cases h1
    cases exitI hi1
    try dsimp only at h0
    rcases condS h0 with ⟨hc1, h0⟩ | ⟨hc1, h0⟩
    · rw [hc1]
      cbv
      cases h0
      refine fin_nil hX .i2 4 rfl ?_
      cbv
      exact fin_ok hX rfl ⟨[4], _, _, ⟨rfl, rfl⟩, rfl, rfl, rfl, rfl, by cbv; try simp⟩
    · rw [hc1]
      cbv
      obtain ⟨⟨n162, n163, l80, n164⟩, hv, h0⟩ := bindS h0
      try dsimp only at h0
      refine call_go hO hX (fn_group_made hO hv) (by kernel_rfl) [3] rfl ⟨rfl, rfl, trivial⟩ rfl ?_
      rintro _ _ ⟨rfl, rfl⟩
      cbv
      cases h0
      exact fin_ok hX rfl ⟨[4], _, _, ⟨rfl, rfl⟩, rfl, rfl, rfl, rfl, by cbv; try simp⟩
set_option maxHeartbeats 4000000 in
theorem fn_group_Fill {O0 : Ops} (hO0 : O0 = std) {c_1 : Int} {c_2 : Int} {c_3 : List (Int × Int)} {r1 : Int} {r2 : Int} {r3 : List (Int × Int)} {r4 : Int} (h : m_group_Fill O0 c_1 c_2 c_3 = some (r1, r2, r3, r4)) :
    Fn Try.prog 27 [.agg [.int .i64 c_1, .int .i64 c_2, .sl 0]] [.arr false .i2 c_3] (fun v c => v = .tup [.many [.int .i64 r1, .int .i64 r2, .sl 1], .one (.int .i64 r4)] ∧ c = [.arr true .i2 r3]) := by
  refine fn_run tab_holds eqs_holds mixed [] Try.func27 (by kernel_rfl) (by kernel_rfl) (Nat.le_of_ble_eq_true rfl) ?_
  intro O X hO hX
  rw [hO0, ← hO] at h
  unfold m_group_Fill at h
  have h0 := h; clear h
  cbv
  obtain ⟨b51, hv, h0⟩ := bindS h0
  refine call_go hO hX (fn_granule_Valid hO hv) (by kernel_rfl) [0] rfl ⟨rfl, rfl, trivial⟩ rfl ?_
  rintro _ _ ⟨rfl, rfl⟩
  cbv
  rcases condS h0 with ⟨hc0, h0⟩ | ⟨hc0, h0⟩
  · rw [hc0]
    cbv
    cases h0
    refine fin_nil hX .i2 3 rfl ?_
    cbv
    exact fin_ok hX rfl ⟨[3], _, _, ⟨rfl, rfl⟩, rfl, rfl, rfl, rfl, by cbv; try simp⟩
  · rw [hc0]
    cbv
    obtain ⟨⟨n165, n166, l81, n167⟩, hv, h0⟩ := bindS h0
    try dsimp only at h0
    refine call_go hO hX (fn_group_collect_4 hO hv) (by kernel_rfl) [1, 0] rfl ⟨rfl, rfl, rfl, rfl, trivial⟩ rfl ?_
    rintro _ _ ⟨rfl, rfl⟩
    cbv
    cases h0
    exact fin_ok hX rfl ⟨[3], _, _, ⟨rfl, rfl⟩, rfl, rfl, rfl, rfl, by cbv; try simp⟩
set_option maxHeartbeats 4000000 in
theorem fn_ref16_Fill {O0 : Ops} (hO0 : O0 = std) {c_1 : Int} {c_2 : Int} {c_3 : List (Int × Int)} {r1 : Int} {r2 : Int} {r3 : List (Int × Int)} {r4 : Int} (h : m_ref16_Fill O0 c_1 c_2 c_3 = some (r1, r2, r3, r4)) :
    Fn Try.prog 28 [.agg [.int .i64 c_1, .int .i64 c_2, .sl 0]] [.arr false .i2 c_3] (fun v c => v = .tup [.many [.int .i64 r1, .int .i64 r2, .sl 1], .one (.int .i64 r4)] ∧ c = [.arr true .i2 r3]) := by
  refine fn_run tab_holds eqs_holds mixed [(5, (.seg 1 [0, 1, 2, 5, 6, 7] (.seg 2 [3] (.seg 1 [4] (.seg 2 [8] (.seg 1 [9, 10] (.seg 2 [11] .fin)))))), [12, 13])] Try.func28 (by kernel_rfl) (by kernel_rfl) (Nat.le_of_ble_eq_true rfl) ?_
  intro O X hO hX
  rw [hO0, ← hO] at h
  unfold m_ref16_Fill at h
  have h0 := h; clear h
  cbv
  obtain ⟨l84, hi, h0⟩ := bindS h0
  obtain ⟨I1, hI1, hi⟩ := loopS hi
  refine loop1 tab_holds eqs_holds mixed [(5, (.seg 1 [0, 1, 2, 5, 6, 7] (.seg 2 [3] (.seg 1 [4] (.seg 2 [8] (.seg 1 [9, 10] (.seg 2 [11] .fin)))))), [12, 13])] hO hX I1 (fun y => [(4, .c (.sl 3)), (5, .c (.int .i64 y.2.1))]) (fun y => [(3, .own 49 .i2 y.2.2)]) (fun y => y.1) _ (by kernel_rfl) hi (by cbv; try simp) ?_
  rintro ⟨n1, k4, l83⟩ hi
  cbv
  rw [hI1] at hi
  obtain ⟨n1, rfl, x1, h1, hi1⟩ := iterS hi
  unfold m_ref16_Fill_L1 at h1
  try dsimp only at h1
  rcases condS h1 with ⟨hc0, h1⟩ | ⟨hc0, h1⟩
  · rw [hc0]
    cbv
    obtain ⟨hg1, h1⟩ := grdS h1
    refine ⟨inr_of hO hg1, ?_⟩
    obtain ⟨⟨n175, n176⟩, hv, h1⟩ := bindS h1
    try dsimp only at h1
    refine call_go hO hX (fn_ref16_Granule hO hv) (by kernel_rfl) [0] rfl ⟨rfl, rfl, trivial⟩ rfl ?_
    rintro _ _ ⟨rfl, rfl⟩
    cbv
    obtain ⟨⟨n177, n178⟩, hv, h1⟩ := bindS h1
    try dsimp only at h1
    refine call_go hO hX (fn_ref16_Granule hO hv) (by kernel_rfl) [0] rfl ⟨rfl, rfl, trivial⟩ rfl ?_
    rintro _ _ ⟨rfl, rfl⟩
    cbv
    obtain ⟨hg2, h1⟩ := grdS h1
    refine ⟨room_of hO hg2, ?_⟩
    obtain ⟨hg3, h1⟩ := grdS h1
    refine ⟨room_of hO hg3, ?_⟩
    refine ⟨inr_of hO hg1, ?_⟩
    cases h1
    exact ⟨_, [0, 1, 2, 5], nextI hI1 hi1, by cbv; try simp, by first | exact Nat.lt_succ_self _ | omega⟩
  · rw [hc0]
    cbv
    cases h1
    cases exitI hi1
    try dsimp only at h0
    obtain ⟨⟨n179, n180, l85, n181⟩, hv, h0⟩ := bindS h0
    try dsimp only at h0
    refine call_go hO hX (fn_ref16_Make hO hv) (by kernel_rfl) [3] rfl ⟨rfl, rfl, trivial⟩ rfl ?_
    rintro _ _ ⟨rfl, rfl⟩
    cbv
    cases h0
    exact fin_ok hX rfl ⟨[4], _, _, ⟨rfl, rfl⟩, rfl, rfl, rfl, rfl, by cbv; try simp⟩
set_option maxHeartbeats 4000000 in
theorem fn_granule_Gapless {O0 : Ops} (hO0 : O0 = std) {c_1 : Int} {c_2 : Int} {c_3 : List (Int × Int)} {r1 : Bool} (h : m_granule_Gapless O0 c_1 c_2 c_3 = some r1) :
    Fn Try.prog 29 [.agg [.int .i64 c_1, .int .i64 c_2, .sl 0]] [.arr false .i2 c_3] (fun v c => v = .c (.bool r1) ∧ c = []) := by
  refine fn_run tab_holds eqs_holds mixed [] Try.func29 (by kernel_rfl) (by kernel_rfl) (Nat.le_of_ble_eq_true rfl) ?_
  intro O X hO hX
  rw [hO0, ← hO] at h
  unfold m_granule_Gapless at h
  have h0 := h; clear h
  cbv
  obtain ⟨b59, hv, h0⟩ := bindS h0
  refine call_go hO hX (fn_granule_Valid hO hv) (by kernel_rfl) [0] rfl ⟨rfl, rfl, trivial⟩ rfl ?_
  rintro _ _ ⟨rfl, rfl⟩
  cbv
  rcases condS h0 with ⟨hc0, h0⟩ | ⟨hc0, h0⟩
  · rw [hc0]
    cbv
    cases h0
    exact fin_ok hX rfl ⟨[], _, _, ⟨rfl, rfl⟩, rfl, rfl, rfl, rfl, by cbv; try simp⟩
  · as_aux_lemma =>
    rw [hc0]
    cbv
    obtain ⟨e1, hi, h0⟩ := bindS h0
    obtain ⟨I1, hI1, hi⟩ := loopS hi
    refine loop1 tab_holds eqs_holds mixed [] hO hX I1 (fun y => [(9, .junk), (12, .c (.int .i64 y.2))]) (fun _ => []) (fun y => y.1) _ (by kernel_rfl) hi (by cbv; try simp) ?_
    rintro ⟨n1, x143⟩ hi
    cbv
    rw [hI1] at hi
    obtain ⟨n1, rfl, x1, h1, hi1⟩ := iterS hi
    unfold m_granule_Gapless_L1 at h1
    try dsimp only at h1
    rcases condS h1 with ⟨hc1, h1⟩ | ⟨hc1, h1⟩
    · as_aux_lemma =>
      rw [hc1]
      cbv
      obtain ⟨hg2, h1⟩ := grdS h1
      refine ⟨idx_of hO hg2, ?_⟩
      obtain ⟨hg3, h1⟩ := grdS h1
      refine ⟨kin_of hO hg3, ?_⟩
      obtain ⟨hg4, h1⟩ := grdS h1
      refine ⟨inr_of hO hg4, ?_⟩
      obtain ⟨next2, h2, h1⟩ := bindS h1
      rcases condS h2 with ⟨hc5, h2⟩ | ⟨hc5, h2⟩
      · rw [hc5]
        cbv
        refine ⟨inr_of hO hg4, ?_⟩
        obtain ⟨hg6, h2⟩ := grdS h2
        refine ⟨idx_of hO hg6, ?_⟩
        obtain ⟨hg7, h2⟩ := grdS h2
        refine ⟨kin_of hO hg7, ?_⟩
        cases h2
        try dsimp only at h1
        rcases condS h1 with ⟨hc8, h1⟩ | ⟨hc8, h1⟩
        · rw [hc8]
          cbv
          cases h1
          cases exitI hi1
          try dsimp only at h0
          cases h0
          exact fin_ok hX rfl ⟨[], _, _, ⟨rfl, rfl⟩, rfl, rfl, rfl, rfl, by cbv; try simp⟩
        · rw [hc8]
          cbv
          refine ⟨inr_of hO hg4, ?_⟩
          cases h1
          exact ⟨_, [0, 1], nextI hI1 hi1, by cbv; try simp, by first | exact Nat.lt_succ_self _ | omega⟩
      · rw [hc5]
        cbv
        cases h2
        try dsimp only at h1
        rcases condS h1 with ⟨hc6, h1⟩ | ⟨hc6, h1⟩
        · rw [hc6]
          cbv
          cases h1
          cases exitI hi1
          try dsimp only at h0
          cases h0
          exact fin_ok hX rfl ⟨[], _, _, ⟨rfl, rfl⟩, rfl, rfl, rfl, rfl, by cbv; try simp⟩
        · rw [hc6]
          cbv
          refine ⟨inr_of hO hg4, ?_⟩
          cases h1
          exact ⟨_, [0, 1], nextI hI1 hi1, by cbv; try simp, by first | exact Nat.lt_succ_self _ | omega⟩
    · rw [hc1]
      cbv
      cases h1
      cases exitI hi1
      try dsimp only at h0
      cases h0
      exact fin_ok hX rfl ⟨[], _, _, ⟨rfl, rfl⟩, rfl, rfl, rfl, rfl, by cbv; try simp⟩
end Go.Proofs.Ytoklfjkanipjkaa
