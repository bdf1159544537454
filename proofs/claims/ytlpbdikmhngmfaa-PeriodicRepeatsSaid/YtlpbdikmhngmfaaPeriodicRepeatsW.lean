/-
  The walk of PeriodicRepeats, as the row takes it.
-/
import Derived.Test.YtlpbdikmhngmfaaArr8
import Derived.Test.YtlpbdikmhngmfaaQW18
import Derived.Test.YtlpbdikmhngmfaaQ1
namespace Go.Proofs.Ytlpbdikmhngmfaa
open Go.RowKit
theorem periodicRepeats_walk (p0 : Int) (A0 : Option Addr) (c0 : Nat) (l0 : List Sp) (n1 : Int) (A2 : Option Addr) (c2 : Nat) (l2 : List Int) (w : World) (h0 : SpsR w A0 l0) (hc0 : l0.length ≤ c0) (hm0 : c0 ≤ maxLen) (ha1 : 0 ≤ n1) (hz1 : n1 ≤ 255) (h2 : I8R w A2 l2) (hc2 : l2.length ≤ c2) (hm2 : c2 ≤ maxLen) (hb2 : ∀ k, k < l2.length → -128 ≤ l2.getD k 0 ∧ l2.getD k 0 ≤ 127) :
    Calls Try.prog 3 #[.agg #[.int .i64 p0, .slice A0 l0.length c0], .int .u8 n1, .slice A2 l2.length c2] w fun e w' => e = .returned (.bool true) ∧ Below w.heap.size w w' := by
  refine fn_true (fn_law13_PeriodicRepeats rfl (pl_PeriodicRepeats p0 n1 l0 l2 ha1 hz1 hb2)) w [.arr false A0 c0 .i2 l0, .arr false A2 c2 .c1 l2] rfl (hok_ro fun d hd => ?_) _ rfl
  simp at hd
  rcases hd with rfl | rfl
  · exact sps_arr h0 hc0 hm0
  · exact i8_arr h2 hc2 hm2
end Go.Proofs.Ytlpbdikmhngmfaa
