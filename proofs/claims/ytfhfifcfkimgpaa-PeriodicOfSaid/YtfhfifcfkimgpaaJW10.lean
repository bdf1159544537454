/-
  The code does what its models say (printed by lift.py).
-/
import Derived.Test.YtfhfifcfkimgpaaHM
import Derived.Test.YtfhfifcfkimgpaaManW2
import Derived.Test.YtfhfifcfkimgpaaJW6
import Derived.Test.YtfhfifcfkimgpaaJW7
import Derived.Test.YtfhfifcfkimgpaaJW8
import Derived.Test.YtfhfifcfkimgpaaJW9
namespace Go.Proofs.Ytfhfifcfkimgpaa
open Go.RowKit
set_option maxRecDepth 100000

set_option maxHeartbeats 40000000 in
theorem fn_ref13_Of {O0 : Ops} (hO0 : O0 = std) {period_1 : Int} {l_1 : List (Int × Int)} {r1 : Int} {r2 : List (Int × Int)} {r3 : Int} (h : m_ref13_Of O0 period_1 l_1 = some (r1, r2, r3)) :
    Fn Try.prog 20 [.c (.int .i64 period_1), .c (.sl 0)] [.arr false .i2 l_1] (fun v c => v = .tup [.many [.int .i64 r1, .sl 1], .one (.int .i64 r3)] ∧ c = [.arr true .i2 r2]) := by
  refine fn_run tab_holds eqs_holds mixed [(15, (.seg 1 [0, 1, 2, 3, 4, 5, 6, 7, 8, 9, 10, 11, 12] .fin), []), (17, (.seg 1 [0, 1, 2, 3, 4, 5, 6, 7, 8, 9, 10, 11, 13, 14] (.seg 2 [12] (.seg 2 [15] (.seg 1 [16] .fin)))), [])] Try.func20 (by kernel_rfl) (by kernel_rfl) (Nat.le_of_ble_eq_true rfl) ?_
  intro O X hO hX
  rw [hO0, ← hO] at h
  unfold m_ref13_Of at h
  have h0 := h; clear h
  cbv
  obtain ⟨x110, h1, h0⟩ := bindS h0
  rcases condS h1 with ⟨hc1, h1⟩ | ⟨hc1, h1⟩
  · rw [hc1]
    cbv
    cases h1
    try dsimp only at h0
    replace h0 := condT h0 rfl
    cases h0
    refine fin_nil hX .i2 2 rfl ?_
    cbv
    exact fin_ok hX rfl ⟨[2], _, _, ⟨rfl, rfl⟩, rfl, rfl, rfl, rfl, by cbv; try simp⟩
  · as_aux_lemma =>
    rw [hc1]
    cbv
    cases h1
    try dsimp only at h0
    rcases condS h0 with ⟨hc2, h0⟩ | ⟨hc2, h0⟩
    · rw [hc2]
      cbv
      cases h0
      refine fin_nil hX .i2 2 rfl ?_
      cbv
      exact fin_ok hX rfl ⟨[2], _, _, ⟨rfl, rfl⟩, rfl, rfl, rfl, rfl, by cbv; try simp⟩
    · as_aux_lemma =>
      rw [hc2]
      cbv
      obtain ⟨e1, hi, h0⟩ := bindS h0
      obtain ⟨I1, hI1, hi⟩ := loopS hi
      refine loop1 tab_holds eqs_holds mixed [(15, (.seg 1 [0, 1, 2, 3, 4, 5, 6, 7, 8, 9, 10, 11, 12] .fin), []), (17, (.seg 1 [0, 1, 2, 3, 4, 5, 6, 7, 8, 9, 10, 11, 13, 14] (.seg 2 [12] (.seg 2 [15] (.seg 1 [16] .fin)))), [])] hO hX I1 (fun y => [(6, .c (.int .i64 y.2))]) (fun _ => []) (fun y => y.1) _ (by kernel_rfl) hi (by cbv; try simp) ?_
      refine allp ?_
      intro n1
      intro i8 hi
      cbv
      rw [hI1] at hi
      obtain ⟨n1, rfl, x1, h1, hi1⟩ := iterS hi
      unfold m_ref13_Of_L1 at h1
      try dsimp only at h1
      rcases condS h1 with ⟨hc3, h1⟩ | ⟨hc3, h1⟩
      · rw [hc3]
        cbv
        obtain ⟨hg4, h1⟩ := grdS h1
        refine ⟨idx_of hO hg4, ?_⟩
        obtain ⟨hg5, h1⟩ := grdS h1
        refine ⟨kin_of hO hg5, ?_⟩
        obtain ⟨b27, hv, h1⟩ := bindS h1
        refine call_is hO hX (fn_ref13_Span hO hv) (by kernel_rfl) [] rfl trivial rfl ?_
        cbv
        rcases condS h1 with ⟨hc6, h1⟩ | ⟨hc6, h1⟩
        · rw [hc6]
          cbv
          cases h1
          cases exitI hi1
          try dsimp only at h0
          cases h0
          refine fin_nil hX .i2 2 rfl ?_
          cbv
          exact fin_ok hX rfl ⟨[2], _, _, ⟨rfl, rfl⟩, rfl, rfl, rfl, rfl, by cbv; try simp⟩
        · rw [hc6]
          cbv
          obtain ⟨hg7, h1⟩ := grdS h1
          refine ⟨inr_of hO hg7, ?_⟩
          cases h1
          exact ⟨_, [0, 1], nextI hI1 hi1, by cbv; try simp, by first | exact Nat.lt_succ_self _ | omega⟩
      · as_aux_lemma =>
        rw [hc3]
        cbv
        cases h1
        cases exitI hi1
        try dsimp only at h0
        rcases condS h0 with ⟨hc8, h0⟩ | ⟨hc8, h0⟩
        · rw [hc8]
          cbv
          cases h0
          refine fin_nil hX .i2 2 rfl ?_
          cbv
          exact fin_ok hX rfl ⟨[2], _, _, ⟨rfl, rfl⟩, rfl, rfl, rfl, rfl, by cbv; try simp⟩
        · as_aux_lemma =>
          rw [hc8]
          cbv
          obtain ⟨l115, hi, h0⟩ := bindS h0
          obtain ⟨I2, hI2, hi⟩ := loopS hi
          refine loop1 tab_holds eqs_holds mixed [(15, (.seg 1 [0, 1, 2, 3, 4, 5, 6, 7, 8, 9, 10, 11, 12] .fin), []), (17, (.seg 1 [0, 1, 2, 3, 4, 5, 6, 7, 8, 9, 10, 11, 13, 14] (.seg 2 [12] (.seg 2 [15] (.seg 1 [16] .fin)))), [])] hO hX I2 (fun y => [(7, .c (.sl 2)), (8, .c (.int .i64 y.2.1))]) (fun y => [(2, .own 38 .i2 y.2.2)]) (fun y => y.1) _ (by kernel_rfl) hi (by cbv; try simp) ?_
          refine allp ?_
          intro n2
          refine allp ?_
          intro i29
          intro l108 hi
          cbv
          rw [hI2] at hi
          obtain ⟨n2, rfl, x2, h1, hi2⟩ := iterS hi
          unfold m_ref13_Of_L2 at h1
          try dsimp only at h1
          rcases condS h1 with ⟨hc9, h1⟩ | ⟨hc9, h1⟩
          · as_aux_lemma =>
            rw [hc9]
            cbv
            obtain ⟨hg10, h1⟩ := grdS h1
            refine ⟨idx_of hO hg10, ?_⟩
            obtain ⟨hg11, h1⟩ := grdS h1
            refine ⟨kin_of hO hg11, ?_⟩
            refine ⟨idx_of hO hg10, ?_⟩
            refine ⟨kin_of hO hg11, ?_⟩
            obtain ⟨hg12, h1⟩ := grdS h1
            refine ⟨inr_of hO hg12, ?_⟩
            obtain ⟨l113, h2, h1⟩ := bindS h1
            rcases condS h2 with ⟨hc13, h2⟩ | ⟨hc13, h2⟩
            · as_aux_lemma =>
              rw [hc13]
              cbv
              refine ⟨idx_of hO hg10, ?_⟩
              refine ⟨kin_of hO hg11, ?_⟩
              obtain ⟨n42, hv, h2⟩ := bindS h2
              refine call_is hO hX (fn_ref01_Mod hO hv) (by kernel_rfl) [] rfl trivial rfl ?_
              cbv
              obtain ⟨l111, h3, h2⟩ := bindS h2
              refine ⟨idx_of hO hg10, ?_⟩
              refine ⟨kin_of hO hg11, ?_⟩
              refine ⟨idx_of hO hg10, ?_⟩
              refine ⟨kin_of hO hg11, ?_⟩
              refine ⟨inr_of hO hg12, ?_⟩
              obtain ⟨e3, hv, h3⟩ := bindS h3
              rcases e3 with _ | l109
              · try dsimp only at h3
                refine call_is hO hX (fn_ref13_rotated hO hv) (by kernel_rfl) [4] rfl ⟨rfl, rfl, trivial⟩ rfl ?_
                cbv
                cases h3
                try dsimp only at h2
                cases h2
                try dsimp only at h1
                obtain ⟨l114, hv, h1⟩ := bindS h1
                refine call_is hO hX (fn_ref13_Lists hO hv) (by kernel_rfl) [2, 4] rfl ⟨rfl, rfl, rfl, rfl, trivial⟩ rfl ?_
                cbv
                obtain ⟨hg14, h1⟩ := grdS h1
                refine ⟨inr_of hO hg14, ?_⟩
                cases h1
                exact ⟨_, [0, 1, 5], nextI hI2 hi2, by cbv; try simp, by first | exact Nat.lt_succ_self _ | omega⟩
              · try dsimp only at h3
                refine call_is hO hX (fn_ref13_rotated hO hv) (by kernel_rfl) [4] rfl ⟨rfl, rfl, trivial⟩ rfl ?_
                cbv
                cases h3
                try dsimp only at h2
                cases h2
                try dsimp only at h1
                obtain ⟨l114, hv, h1⟩ := bindS h1
                refine call_is hO hX (fn_ref13_Lists hO hv) (by kernel_rfl) [2, 5] rfl ⟨rfl, rfl, rfl, rfl, trivial⟩ rfl ?_
                cbv
                obtain ⟨hg15, h1⟩ := grdS h1
                refine ⟨inr_of hO hg15, ?_⟩
                cases h1
                exact ⟨_, [0, 1, 6], nextI hI2 hi2, by cbv; try simp, by first | exact Nat.lt_succ_self _ | omega⟩
            · rw [hc13]
              cbv
              cases h2
              try dsimp only at h1
              obtain ⟨l114, hv, h1⟩ := bindS h1
              refine call_is hO hX (fn_ref13_Lists hO hv) (by kernel_rfl) [2, 3] rfl ⟨rfl, rfl, rfl, rfl, trivial⟩ rfl ?_
              cbv
              obtain ⟨hg16, h1⟩ := grdS h1
              refine ⟨inr_of hO hg16, ?_⟩
              cases h1
              exact ⟨_, [0, 1, 4], nextI hI2 hi2, by cbv; try simp, by first | exact Nat.lt_succ_self _ | omega⟩
          · rw [hc9]
            cbv
            cases h1
            cases exitI hi2
            try dsimp only at h0
            obtain ⟨e1, h1, h0⟩ := bindS h0
            obtain ⟨⟨n45, l127⟩, hv, h1⟩ := bindS h1
            try dsimp only at h1
            refine call_is hO hX (fn_ref13_Least hO hv) (by kernel_rfl) [2] rfl ⟨rfl, rfl, trivial⟩ rfl ?_
            cbv
            obtain ⟨e1, hv, h1⟩ := bindS h1
            rcases e1 with ⟨n46, n47⟩ | ⟨n48, n49⟩
            · try dsimp only at h1
              refine call_is hO hX (fn_ref13_limited hO hv) (by kernel_rfl) [3] rfl ⟨rfl, rfl, trivial⟩ rfl ?_
              cbv
              cases h1
              try dsimp only at h0
              cases h0
              refine fin_nil hX .i2 4 rfl ?_
              cbv
              exact fin_ok hX rfl ⟨[4], _, _, ⟨rfl, rfl⟩, rfl, rfl, rfl, rfl, by cbv; try simp⟩
            · try dsimp only at h1
              refine call_is hO hX (fn_ref13_limited hO hv) (by kernel_rfl) [3] rfl ⟨rfl, rfl, trivial⟩ rfl ?_
              cbv
              cases h1
              try dsimp only at h0
              cases h0
              refine fin_frz hX 3 ?_
              cbv
              exact fin_ok hX rfl ⟨[3], _, _, ⟨rfl, rfl⟩, rfl, rfl, rfl, rfl, by cbv; try simp⟩
end Go.Proofs.Ytfhfifcfkimgpaa
