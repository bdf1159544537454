/-
  The code does what its models say (printed by lift.py).
-/
import Derived.Test.YtfhfifcfkimgpaaHM
import Derived.Test.YtfhfifcfkimgpaaManW2
import Derived.Test.YtfhfifcfkimgpaaJW2
import Derived.Test.YtfhfifcfkimgpaaJW5
import Derived.Test.YtfhfifcfkimgpaaJW13
import Derived.Test.YtfhfifcfkimgpaaJW14
import Derived.Test.YtfhfifcfkimgpaaJW15
import Derived.Test.YtfhfifcfkimgpaaJW16
import Derived.Test.YtfhfifcfkimgpaaJW17
namespace Go.Proofs.Ytfhfifcfkimgpaa
open Go.RowKit
set_option maxRecDepth 100000

set_option maxHeartbeats 40000000 in
theorem fn_law13_PeriodicValid {O0 : Ops} (hO0 : O0 = std) {p_1 : Int} {q_1 : Int} {x_1 : Int} {p_2 : List (Int × Int)} {q_2 : List (Int × Int)} {r1 : Bool} (h : m_law13_PeriodicValid O0 p_1 q_1 x_1 p_2 q_2 = some r1) :
    Fn Try.prog 9 [.agg [.int .i64 p_1, .sl 0], .agg [.int .i64 q_1, .sl 1], .c (.int .i64 x_1)] [.arr false .i2 p_2, .arr false .i2 q_2] (fun v c => v = .c (.bool r1) ∧ c = []) := by
  refine fn_run tab_holds eqs_holds mixed [(3, (.seg 1 [0, 2] (.seg 2 [1] (.seg 2 [3] (.seg 1 [4, 5] .fin)))), [])] Try.func9 (by kernel_rfl) (by kernel_rfl) (Nat.le_of_ble_eq_true rfl) ?_
  intro O X hO hX
  rw [hO0, ← hO] at h
  unfold m_law13_PeriodicValid at h
  have h0 := h; clear h
  cbv
  obtain ⟨x174, h1, h0⟩ := bindS h0
  obtain ⟨b41, hv, h1⟩ := bindS h1
  refine call_is hO hX (fn_law13_awake hO hv) (by kernel_rfl) [] rfl trivial rfl ?_
  cbv
  rcases condS h1 with ⟨hc1, h1⟩ | ⟨hc1, h1⟩
  · rw [hc1]
    cbv
    cases h1
    try dsimp only at h0
    replace h0 := condT h0 rfl
    obtain ⟨b44, hv, h0⟩ := bindS h0
    refine call_is hO hX (fn_law13_awake hO hv) (by kernel_rfl) [] rfl trivial rfl ?_
    cbv
    cases h0
    exact fin_ok hX rfl ⟨[], _, _, ⟨rfl, rfl⟩, rfl, rfl, rfl, rfl, by cbv; try simp⟩
  · as_aux_lemma =>
    rw [hc1]
    cbv
    obtain ⟨b42, hv, h1⟩ := bindS h1
    refine call_is hO hX (fn_law13_long hO hv) (by kernel_rfl) [0] rfl ⟨rfl, rfl, trivial⟩ rfl ?_
    cbv
    rcases condS h1 with ⟨hc2, h1⟩ | ⟨hc2, h1⟩
    · rw [hc2]
      cbv
      cases h1
      try dsimp only at h0
      replace h0 := condT h0 rfl
      obtain ⟨b44, hv, h0⟩ := bindS h0
      refine call_is hO hX (fn_law13_awake hO hv) (by kernel_rfl) [] rfl trivial rfl ?_
      cbv
      cases h0
      exact fin_ok hX rfl ⟨[], _, _, ⟨rfl, rfl⟩, rfl, rfl, rfl, rfl, by cbv; try simp⟩
    · as_aux_lemma =>
      rw [hc2]
      cbv
      obtain ⟨b43, hv, h1⟩ := bindS h1
      refine call_is hO hX (fn_law13_long hO hv) (by kernel_rfl) [1] rfl ⟨rfl, rfl, trivial⟩ rfl ?_
      cbv
      cases h1
      try dsimp only at h0
      rcases condS h0 with ⟨hc3, h0⟩ | ⟨hc3, h0⟩
      · rw [hc3]
        cbv
        obtain ⟨b44, hv, h0⟩ := bindS h0
        refine call_is hO hX (fn_law13_awake hO hv) (by kernel_rfl) [] rfl trivial rfl ?_
        cbv
        cases h0
        exact fin_ok hX rfl ⟨[], _, _, ⟨rfl, rfl⟩, rfl, rfl, rfl, rfl, by cbv; try simp⟩
      · as_aux_lemma =>
        rw [hc3]
        cbv
        obtain ⟨b47, hv, h0⟩ := bindS h0
        refine call_is hO hX (fn_ref13_Valid hO hv) (by kernel_rfl) [0] rfl ⟨rfl, rfl, trivial⟩ rfl ?_
        cbv
        obtain ⟨b48, hv, h0⟩ := bindS h0
        refine call_is hO hX (fn_ref13_Valid hO hv) (by kernel_rfl) [1] rfl ⟨rfl, rfl, trivial⟩ rfl ?_
        cbv
        obtain ⟨x203, h1, h0⟩ := bindS h0
        obtain ⟨b49, hv, h1⟩ := bindS h1
        refine call_is hO hX (fn_periodic_Valid hO hv) (by kernel_rfl) [0] rfl ⟨rfl, rfl, trivial⟩ rfl ?_
        cbv
        rcases condS h1 with ⟨hc4, h1⟩ | ⟨hc4, h1⟩
        · as_aux_lemma =>
          rw [hc4]
          cbv
          obtain ⟨b53, hv, h1⟩ := bindS h1
          refine call_is hO hX (fn_periodic_Has hO hv) (by kernel_rfl) [0] rfl ⟨rfl, rfl, trivial⟩ rfl ?_
          cbv
          rcases condS h1 with ⟨hc5, h1⟩ | ⟨hc5, h1⟩
          · rw [hc5]
            cbv
            obtain ⟨b54, hv, h1⟩ := bindS h1
            refine call_is hO hX (fn_ref13_Has hO hv) (by kernel_rfl) [0] rfl ⟨rfl, rfl, trivial⟩ rfl ?_
            cbv
            rcases condS h1 with ⟨hc6, h1⟩ | ⟨hc6, h1⟩
            · rw [hc6]
              cbv
              obtain ⟨b61, hv, h1⟩ := bindS h1
              refine call_is hO hX (fn_periodic_Equal hO hv) (by kernel_rfl) [0, 1] rfl ⟨rfl, rfl, rfl, rfl, trivial⟩ rfl ?_
              cbv
              rcases condS h1 with ⟨hc7, h1⟩ | ⟨hc7, h1⟩
              · rw [hc7]
                cbv
                obtain ⟨b62, hv, h1⟩ := bindS h1
                refine call_is hO hX (fn_ref13_Equal hO hv) (by kernel_rfl) [0, 1] rfl ⟨rfl, rfl, rfl, rfl, trivial⟩ rfl ?_
                cbv
                cases h1
                try dsimp only at h0
                cases h0
                exact fin_ok hX rfl ⟨[], _, _, ⟨rfl, rfl⟩, rfl, rfl, rfl, rfl, by cbv; try simp⟩
              · rw [hc7]
                cbv
                cases h1
                try dsimp only at h0
                cases h0
                exact fin_ok hX rfl ⟨[], _, _, ⟨rfl, rfl⟩, rfl, rfl, rfl, rfl, by cbv; try simp⟩
            · rw [hc6]
              cbv
              cases h1
              try dsimp only at h0
              cases h0
              exact fin_ok hX rfl ⟨[], _, _, ⟨rfl, rfl⟩, rfl, rfl, rfl, rfl, by cbv; try simp⟩
          · rw [hc5]
            cbv
            rcases condS h1 with ⟨hc8, h1⟩ | ⟨hc8, h1⟩
            · rw [hc8]
              cbv
              obtain ⟨b63, hv, h1⟩ := bindS h1
              refine call_is hO hX (fn_periodic_Equal hO hv) (by kernel_rfl) [0, 1] rfl ⟨rfl, rfl, rfl, rfl, trivial⟩ rfl ?_
              cbv
              cases h1
              try dsimp only at h0
              cases h0
              exact fin_ok hX rfl ⟨[], _, _, ⟨rfl, rfl⟩, rfl, rfl, rfl, rfl, by cbv; try simp⟩
            · rw [hc8]
              cbv
              cases h1
              try dsimp only at h0
              cases h0
              exact fin_ok hX rfl ⟨[], _, _, ⟨rfl, rfl⟩, rfl, rfl, rfl, rfl, by cbv; try simp⟩
        · rw [hc4]
          cbv
          cases h1
          try dsimp only at h0
          cases h0
          exact fin_ok hX rfl ⟨[], _, _, ⟨rfl, rfl⟩, rfl, rfl, rfl, rfl, by cbv; try simp⟩
end Go.Proofs.Ytfhfifcfkimgpaa
