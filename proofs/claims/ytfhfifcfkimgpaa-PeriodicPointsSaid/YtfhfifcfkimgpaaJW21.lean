/-
  The code does what its models say (printed by lift.py).
-/
import Derived.Test.YtfhfifcfkimgpaaHM
import Derived.Test.YtfhfifcfkimgpaaHG
import Derived.Test.YtfhfifcfkimgpaaManW2
import Derived.Test.YtfhfifcfkimgpaaJW1
import Derived.Test.YtfhfifcfkimgpaaJW2
import Derived.Test.YtfhfifcfkimgpaaJW3
import Derived.Test.YtfhfifcfkimgpaaJW4
namespace Go.Proofs.Ytfhfifcfkimgpaa
open Go.RowKit
set_option maxRecDepth 100000

set_option maxHeartbeats 40000000 in
theorem fn_periodic_Not_1 {O0 : Ops} (hO0 : O0 = std) {a_1 : Bool} {b_1 : Bool} {r1 : Bool} (h : m_periodic_Not_1 O0 a_1 b_1 = some r1) :
    Fn Try.prog 65 [.c (.bool a_1), .c (.bool b_1)] [] (fun v c => v = .c (.bool r1) ∧ c = []) := by
  refine fn_run tab_holds eqs_holds mixed [] Try.func65 (by kernel_rfl) (by kernel_rfl) (Nat.le_of_ble_eq_true rfl) ?_
  intro O X hO hX
  rw [hO0, ← hO] at h
  unfold m_periodic_Not_1 at h
  have h0 := h; clear h
  cbv
  obtain ⟨x299, h1, h0⟩ := bindS h0
  rcases condS h1 with ⟨hc1, h1⟩ | ⟨hc1, h1⟩
  · rw [hc1]
    cbv
    cases h1
    try dsimp only at h0
    cases h0
    exact fin_ok hX rfl ⟨[], _, _, ⟨rfl, rfl⟩, rfl, rfl, rfl, rfl, by cbv; try simp⟩
  · rw [hc1]
    cbv
    cases h1
    try dsimp only at h0
    cases h0
    exact fin_ok hX rfl ⟨[], _, _, ⟨rfl, rfl⟩, rfl, rfl, rfl, rfl, by cbv; try simp⟩
theorem fn_periodic_combine_4 {O0 : Ops} (hO0 : O0 = std) {a_1 : List (Int × Int)} {b_1 : List (Int × Int)} {r1 : List (Int × Int)} (h : m_periodic_combine_4 O0 a_1 b_1 = some r1) :
    Fn Try.prog 64 [.c (.sl 0), .c (.sl 1), .c (.fn 65 [])] [.arr false .i2 a_1, .arr false .i2 b_1] (fun v c => v = .c (.sl 2) ∧ c = [.own 38 .i2 r1]) :=
  fn_g_combine (by kernel_rfl) (@fun _ hO _ _ _ h => fn_periodic_Not_1 hO h) hO0 h
set_option maxHeartbeats 40000000 in
theorem fn_periodic_Not {O0 : Ops} (hO0 : O0 = std) {p_1 : Int} {p_2 : List (Int × Int)} {r1 : Int} {r2 : List (Int × Int)} {r3 : Int} (h : m_periodic_Not O0 p_1 p_2 = some (r1, r2, r3)) :
    Fn Try.prog 25 [.agg [.int .i64 p_1, .sl 0]] [.arr false .i2 p_2] (fun v c => v = .tup [.many [.int .i64 r1, .sl 1], .one (.int .i64 r3)] ∧ c = [.arr true .i2 r2]) := by
  refine fn_run tab_holds eqs_holds mixed [(3, (.seg 1 [0, 1, 2, 3, 4, 6, 7] (.seg 2 [5] (.seg 2 [8] (.seg 2 [9] (.seg 1 [10, 11] .fin))))), [12, 13])] Try.func25 (by kernel_rfl) (by kernel_rfl) (Nat.le_of_ble_eq_true rfl) ?_
  intro O X hO hX
  rw [hO0, ← hO] at h
  unfold m_periodic_Not at h
  have h0 := h; clear h
  cbv
  obtain ⟨b95, hv, h0⟩ := bindS h0
  refine call_is hO hX (fn_periodic_Valid hO hv) (by kernel_rfl) [0] rfl ⟨rfl, rfl, trivial⟩ rfl ?_
  cbv
  rcases condS h0 with ⟨hc1, h0⟩ | ⟨hc1, h0⟩
  · rw [hc1]
    cbv
    cases h0
    refine fin_nil hX .i2 3 rfl ?_
    cbv
    exact fin_ok hX rfl ⟨[3], _, _, ⟨rfl, rfl⟩, rfl, rfl, rfl, rfl, by cbv; try simp⟩
  · rw [hc1]
    cbv
    obtain ⟨l196, hv, h0⟩ := bindS h0
    refine call_is hO hX (fn_periodic_combine_4 hO hv) (by kernel_rfl) [3, 0] rfl ⟨rfl, rfl, rfl, rfl, trivial⟩ rfl ?_
    cbv
    obtain ⟨⟨n106, l197, n107⟩, hv, h0⟩ := bindS h0
    try dsimp only at h0
    refine call_is hO hX (fn_periodic_limited hO hv) (by kernel_rfl) [4] rfl ⟨rfl, rfl, trivial⟩ rfl ?_
    cbv
    cases h0
    exact fin_ok hX rfl ⟨[5], _, _, ⟨rfl, rfl⟩, rfl, rfl, rfl, rfl, by cbv; try simp⟩
end Go.Proofs.Ytfhfifcfkimgpaa
