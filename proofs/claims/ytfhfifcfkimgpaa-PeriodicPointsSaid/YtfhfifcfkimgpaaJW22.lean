/-
  The code does what its models say (printed by lift.py).
-/
import Derived.Test.YtfhfifcfkimgpaaHM
import Derived.Test.YtfhfifcfkimgpaaManW2
import Derived.Test.YtfhfifcfkimgpaaJW0
import Derived.Test.YtfhfifcfkimgpaaJW1
import Derived.Test.YtfhfifcfkimgpaaJW2
namespace Go.Proofs.Ytfhfifcfkimgpaa
open Go.RowKit
set_option maxRecDepth 100000

set_option maxHeartbeats 40000000 in
theorem fn_periodic_Move {O0 : Ops} (hO0 : O0 = std) {p_1 : Int} {n_1 : Int} {p_2 : List (Int × Int)} {r1 : Int} {r2 : List (Int × Int)} {r3 : Int} (h : m_periodic_Move O0 p_1 n_1 p_2 = some (r1, r2, r3)) :
    Fn Try.prog 31 [.agg [.int .i64 p_1, .sl 0], .c (.int .i64 n_1)] [.arr false .i2 p_2] (fun v c => v = .tup [.many [.int .i64 r1, .sl 1], .one (.int .i64 r3)] ∧ c = [.arr true .i2 r2]) := by
  refine fn_run tab_holds eqs_holds mixed [(12, (.seg 1 [0, 1, 2, 3, 4] (.seg 2 [5] (.seg 2 [6] (.seg 1 [7, 8] .fin)))), [9, 10])] Try.func31 (by kernel_rfl) (by kernel_rfl) (Nat.le_of_ble_eq_true rfl) ?_
  intro O X hO hX
  rw [hO0, ← hO] at h
  unfold m_periodic_Move at h
  have h0 := h; clear h
  cbv
  obtain ⟨b105, hv, h0⟩ := bindS h0
  refine call_is hO hX (fn_periodic_Valid hO hv) (by kernel_rfl) [0] rfl ⟨rfl, rfl, trivial⟩ rfl ?_
  cbv
  rcases condS h0 with ⟨hc1, h0⟩ | ⟨hc1, h0⟩
  · rw [hc1]
    cbv
    cases h0
    refine fin_nil hX .i2 3 rfl ?_
    cbv
    exact fin_ok hX rfl ⟨[3], _, _, ⟨rfl, rfl⟩, rfl, rfl, rfl, rfl, by cbv; try simp⟩
  · as_aux_lemma =>
    rw [hc1]
    cbv
    obtain ⟨x328, h1, h0⟩ := bindS h0
    rcases condS h1 with ⟨hc2, h1⟩ | ⟨hc2, h1⟩
    · rw [hc2]
      cbv
      cases h1
      try dsimp only at h0
      replace h0 := condT h0 rfl
      cases h0
      refine fin_nil hX .i2 3 rfl ?_
      cbv
      exact fin_ok hX rfl ⟨[3], _, _, ⟨rfl, rfl⟩, rfl, rfl, rfl, rfl, by cbv; try simp⟩
    · as_aux_lemma =>
      rw [hc2]
      cbv
      cases h1
      try dsimp only at h0
      rcases condS h0 with ⟨hc3, h0⟩ | ⟨hc3, h0⟩
      · rw [hc3]
        cbv
        cases h0
        refine fin_nil hX .i2 3 rfl ?_
        cbv
        exact fin_ok hX rfl ⟨[3], _, _, ⟨rfl, rfl⟩, rfl, rfl, rfl, rfl, by cbv; try simp⟩
      · as_aux_lemma =>
        rw [hc3]
        cbv
        obtain ⟨n117, hv, h0⟩ := bindS h0
        refine call_is hO hX (fn_integer_Mod hO hv) (by kernel_rfl) [] rfl trivial rfl ?_
        cbv
        obtain ⟨l204, hi, h0⟩ := bindS h0
        obtain ⟨I1, hI1, hi⟩ := loopS hi
        refine loop1 tab_holds eqs_holds mixed [(12, (.seg 1 [0, 1, 2, 3, 4] (.seg 2 [5] (.seg 2 [6] (.seg 1 [7, 8] .fin)))), [9, 10])] hO hX I1 (fun y => [(22, .junk), (25, .junk), (7, .c (.sl 3)), (28, .c (.int .i64 y.2.1))]) (fun y => [(3, .own 38 .i2 y.2.2)]) (fun y => y.1) _ (by kernel_rfl) hi (by cbv; try simp) ?_
        refine allp ?_
        intro n1
        refine allp ?_
        intro x330
        intro l203 hi
        cbv
        rw [hI1] at hi
        obtain ⟨n1, rfl, x1, h1, hi1⟩ := iterS hi
        unfold m_periodic_Move_L1 at h1
        try dsimp only at h1
        rcases condS h1 with ⟨hc4, h1⟩ | ⟨hc4, h1⟩
        · rw [hc4]
          cbv
          obtain ⟨hg5, h1⟩ := grdS h1
          refine ⟨idx_of hO hg5, ?_⟩
          obtain ⟨hg6, h1⟩ := grdS h1
          refine ⟨kin_of hO hg6, ?_⟩
          obtain ⟨hg7, h1⟩ := grdS h1
          refine ⟨inr_of hO hg7, ?_⟩
          obtain ⟨hg8, h1⟩ := grdS h1
          refine ⟨inr_of hO hg8, ?_⟩
          obtain ⟨hg9, h1⟩ := grdS h1
          refine ⟨room_of hO hg9, ?_⟩
          obtain ⟨hg10, h1⟩ := grdS h1
          refine ⟨room_of hO hg10, ?_⟩
          obtain ⟨hg11, h1⟩ := grdS h1
          refine ⟨inr_of hO hg11, ?_⟩
          cases h1
          exact ⟨_, [0, 1, 2, 6], nextI hI1 hi1, by cbv; try simp, by first | exact Nat.lt_succ_self _ | omega⟩
        · rw [hc4]
          cbv
          cases h1
          cases exitI hi1
          try dsimp only at h0
          obtain ⟨l205, hv, h0⟩ := bindS h0
          refine call_is hO hX (fn_periodic_fold hO hv) (by kernel_rfl) [3] rfl ⟨rfl, rfl, trivial⟩ rfl ?_
          cbv
          obtain ⟨⟨n118, l206, n119⟩, hv, h0⟩ := bindS h0
          try dsimp only at h0
          refine call_is hO hX (fn_periodic_limited hO hv) (by kernel_rfl) [4] rfl ⟨rfl, rfl, trivial⟩ rfl ?_
          cbv
          cases h0
          exact fin_ok hX rfl ⟨[5], _, _, ⟨rfl, rfl⟩, rfl, rfl, rfl, rfl, by cbv; try simp⟩
end Go.Proofs.Ytfhfifcfkimgpaa
