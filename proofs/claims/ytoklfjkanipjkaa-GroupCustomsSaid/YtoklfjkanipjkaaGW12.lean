/-
  The code does what its models say (printed by lift.py).
-/
import Derived.Test.YtoklfjkanipjkaaGM
import Derived.Test.YtoklfjkanipjkaaManW
import Derived.Test.YtoklfjkanipjkaaGW1
import Derived.Test.YtoklfjkanipjkaaGW11
namespace Go.Proofs.Ytoklfjkanipjkaa
open Go.RowKit
set_option maxRecDepth 100000

set_option maxHeartbeats 4000000 in
theorem fn_group_Pick {O0 : Ops} (hO0 : O0 = std) {c_1 : Int} {c_2 : Int} {m_1 : Int} {c_3 : List (Int × Int)} {ks_1 : List Int} {r1 : Int} {r2 : Int} {r3 : List (Int × Int)} {r4 : Int} (h : m_group_Pick O0 c_1 c_2 m_1 c_3 ks_1 = some (r1, r2, r3, r4)) :
    Fn Try.prog 21 [.agg [.int .i64 c_1, .int .i64 c_2, .sl 0], .c (.int .i64 m_1), .c (.sl 1)] [.arr false .i2 c_3, .arr false .i1 ks_1] (fun v c => v = .tup [.many [.int .i64 r1, .int .i64 r2, .sl 2], .one (.int .i64 r4)] ∧ c = [.arr true .i2 r3]) := by
  refine fn_run tab_holds eqs_holds mixed [] Try.func21 (by kernel_rfl) (by kernel_rfl) (Nat.le_of_ble_eq_true rfl) ?_
  intro O X hO hX
  rw [hO0, ← hO] at h
  unfold m_group_Pick at h
  have h0 := h; clear h
  cbv
  obtain ⟨x115, h1, h0⟩ := bindS h0
  obtain ⟨b41, hv, h1⟩ := bindS h1
  refine call_go hO hX (fn_granule_Valid hO hv) (by kernel_rfl) [0] rfl ⟨rfl, rfl, trivial⟩ rfl ?_
  rintro _ _ ⟨rfl, rfl⟩
  cbv
  rcases condS h1 with ⟨hc0, h1⟩ | ⟨hc0, h1⟩
  · rw [hc0]
    cbv
    cases h1
    try dsimp only at h0
    replace h0 := condT h0 rfl
    cases h0
    refine fin_nil hX .i2 6 rfl ?_
    cbv
    exact fin_ok hX rfl ⟨[6], _, _, ⟨rfl, rfl⟩, rfl, rfl, rfl, rfl, by cbv; try simp⟩
  · rw [hc0]
    cbv
    rcases condS h1 with ⟨hc1, h1⟩ | ⟨hc1, h1⟩
    · rw [hc1]
      cbv
      cases h1
      try dsimp only at h0
      replace h0 := condT h0 rfl
      cases h0
      refine fin_nil hX .i2 6 rfl ?_
      cbv
      exact fin_ok hX rfl ⟨[6], _, _, ⟨rfl, rfl⟩, rfl, rfl, rfl, rfl, by cbv; try simp⟩
    · rw [hc1]
      cbv
      rcases condS h1 with ⟨hc2, h1⟩ | ⟨hc2, h1⟩
      · rw [hc2]
        cbv
        cases h1
        try dsimp only at h0
        replace h0 := condT h0 rfl
        cases h0
        refine fin_nil hX .i2 6 rfl ?_
        cbv
        exact fin_ok hX rfl ⟨[6], _, _, ⟨rfl, rfl⟩, rfl, rfl, rfl, rfl, by cbv; try simp⟩
      · rw [hc2]
        cbv
        cases h1
        try dsimp only at h0
        rcases condS h0 with ⟨hc3, h0⟩ | ⟨hc3, h0⟩
        · rw [hc3]
          cbv
          cases h0
          refine fin_nil hX .i2 6 rfl ?_
          cbv
          exact fin_ok hX rfl ⟨[6], _, _, ⟨rfl, rfl⟩, rfl, rfl, rfl, rfl, by cbv; try simp⟩
        · rw [hc3]
          cbv
          obtain ⟨e1, hi, h0⟩ := bindS h0
          obtain ⟨I1, hI1, hi⟩ := loopS hi
          refine loop1 tab_holds eqs_holds mixed [] hO hX I1 (fun y => [(32, .c (.int .i64 y.2))]) (fun _ => []) (fun y => y.1) _ (by kernel_rfl) hi (by cbv; try simp) ?_
          rintro ⟨n1, x116⟩ hi
          cbv
          rw [hI1] at hi
          obtain ⟨n1, rfl, x1, h1, hi1⟩ := iterS hi
          unfold m_group_Pick_L1 at h1
          try dsimp only at h1
          rcases condS h1 with ⟨hc4, h1⟩ | ⟨hc4, h1⟩
          · rw [hc4]
            cbv
            obtain ⟨hg5, h1⟩ := grdS h1
            refine ⟨idx_of hO hg5, ?_⟩
            obtain ⟨hg6, h1⟩ := grdS h1
            refine ⟨kin_of hO hg6, ?_⟩
            obtain ⟨x119, h2, h1⟩ := bindS h1
            rcases condS h2 with ⟨hc7, h2⟩ | ⟨hc7, h2⟩
            · rw [hc7]
              cbv
              cases h2
              try dsimp only at h1
              replace h1 := condT h1 rfl
              cases h1
              cases exitI hi1
              try dsimp only at h0
              cases h0
              refine fin_nil hX .i2 6 rfl ?_
              cbv
              exact fin_ok hX rfl ⟨[6], _, _, ⟨rfl, rfl⟩, rfl, rfl, rfl, rfl, by cbv; try simp⟩
            · rw [hc7]
              cbv
              rcases condS h2 with ⟨hc8, h2⟩ | ⟨hc8, h2⟩
              · rw [hc8]
                cbv
                cases h2
                try dsimp only at h1
                replace h1 := condT h1 rfl
                cases h1
                cases exitI hi1
                try dsimp only at h0
                cases h0
                refine fin_nil hX .i2 6 rfl ?_
                cbv
                exact fin_ok hX rfl ⟨[6], _, _, ⟨rfl, rfl⟩, rfl, rfl, rfl, rfl, by cbv; try simp⟩
              · rw [hc8]
                cbv
                rcases condS h2 with ⟨hc9, h2⟩ | ⟨hc9, h2⟩
                · rw [hc9]
                  cbv
                  obtain ⟨hg10, h2⟩ := grdS h2
                  refine ⟨inr_of hO hg10, ?_⟩
                  obtain ⟨hg11, h2⟩ := grdS h2
                  refine ⟨idx_of hO hg11, ?_⟩
                  obtain ⟨hg12, h2⟩ := grdS h2
                  refine ⟨kin_of hO hg12, ?_⟩
                  cases h2
                  try dsimp only at h1
                  rcases condS h1 with ⟨hc13, h1⟩ | ⟨hc13, h1⟩
                  · rw [hc13]
                    cbv
                    cases h1
                    cases exitI hi1
                    try dsimp only at h0
                    cases h0
                    refine fin_nil hX .i2 6 rfl ?_
                    cbv
                    exact fin_ok hX rfl ⟨[6], _, _, ⟨rfl, rfl⟩, rfl, rfl, rfl, rfl, by cbv; try simp⟩
                  · rw [hc13]
                    cbv
                    obtain ⟨hg14, h1⟩ := grdS h1
                    refine ⟨inr_of hO hg14, ?_⟩
                    cases h1
                    exact ⟨_, [0, 1, 2, 3, 4, 5], nextI hI1 hi1, by cbv; try simp, by first | exact Nat.lt_succ_self _ | omega⟩
                · rw [hc9]
                  cbv
                  cases h2
                  try dsimp only at h1
                  replace h1 := condF h1 rfl
                  obtain ⟨hg10, h1⟩ := grdS h1
                  refine ⟨inr_of hO hg10, ?_⟩
                  cases h1
                  exact ⟨_, [0, 1, 2, 3, 4, 5], nextI hI1 hi1, by cbv; try simp, by first | exact Nat.lt_succ_self _ | omega⟩
          · rw [hc4]
            cbv
            cases h1
            cases exitI hi1
            try dsimp only at h0
            obtain ⟨⟨n103, n104, n105⟩, hv, h0⟩ := bindS h0
            try dsimp only at h0
            refine call_go hO hX (fn_group_blocks hO hv) (by kernel_rfl) [0] rfl ⟨rfl, rfl, trivial⟩ rfl ?_
            rintro _ _ ⟨rfl, rfl⟩
            cbv
            obtain ⟨e1, h1, h0⟩ := bindS h0
            rcases condS h1 with ⟨hc5, h1⟩ | ⟨hc5, h1⟩
            · rw [hc5]
              cbv
              cases h1
              try dsimp only at h0
              cases h0
              refine fin_nil hX .i2 6 rfl ?_
              cbv
              exact fin_ok hX rfl ⟨[6], _, _, ⟨rfl, rfl⟩, rfl, rfl, rfl, rfl, by cbv; try simp⟩
            · rw [hc5]
              cbv
              obtain ⟨hg6, h1⟩ := grdS h1
              refine ⟨inr_of hO hg6, ?_⟩
              rcases condS h1 with ⟨hc7, h1⟩ | ⟨hc7, h1⟩
              · rw [hc7]
                cbv
                cases h1
                try dsimp only at h0
                cases h0
                refine fin_nil hX .i2 6 rfl ?_
                cbv
                exact fin_ok hX rfl ⟨[6], _, _, ⟨rfl, rfl⟩, rfl, rfl, rfl, rfl, by cbv; try simp⟩
              · rw [hc7]
                cbv
                cases h1
                try dsimp only at h0
                refine ⟨inr_of hO hg6, ?_⟩
                obtain ⟨⟨n115, n116, l54, n117⟩, hv, h0⟩ := bindS h0
                try dsimp only at h0
                refine call_go hO hX (fn_group_collect_3 hO hv) (by kernel_rfl) [2, 4, 3, 0, 1] rfl ⟨rfl, rfl, rfl, rfl, rfl, rfl, rfl, rfl, rfl, rfl, trivial⟩ rfl ?_
                rintro _ _ ⟨rfl, rfl⟩
                cbv
                cases h0
                exact fin_ok hX rfl ⟨[6], _, _, ⟨rfl, rfl⟩, rfl, rfl, rfl, rfl, by cbv; try simp⟩
end Go.Proofs.Ytoklfjkanipjkaa
