/-
  The walk of GroupKeeps, as the row takes it.
-/
import Derived.Test.YtebkfbkgmbgobaaArr
import Derived.Test.YtebkfbkgmbgobaaKW14
import Derived.Test.YtebkfbkgmbgobaaK4
namespace Go.Proofs.Ytebkfbkgmbgobaa
open Go.RowKit
theorem groupKeeps_walk (o0 p0 : Int) (A0 : Option Addr) (c0 : Nat) (l0 : List Sp) (o1 p1 : Int) (A1 : Option Addr) (c1 : Nat) (l1 : List Sp) (p2 : Int) (A2 : Option Addr) (c2 : Nat) (l2 : List Sp) (n3 : Int) (n4 : Int) (w : World) (h0 : SpsR w A0 l0) (hc0 : l0.length ≤ c0) (hm0 : c0 ≤ maxLen) (h1 : SpsR w A1 l1) (hc1 : l1.length ≤ c1) (hm1 : c1 ≤ maxLen) (h2 : SpsR w A2 l2) (hc2 : l2.length ≤ c2) (hm2 : c2 ≤ maxLen) :
    Calls Try.prog 4 #[.agg #[.int .i64 o0, .int .i64 p0, .slice A0 l0.length c0], .agg #[.int .i64 o1, .int .i64 p1, .slice A1 l1.length c1], .agg #[.int .i64 p2, .slice A2 l2.length c2], .int .i64 n3, .int .i64 n4] w fun e w' => e = .returned (.bool true) ∧ Below w.heap.size w w' := by
  refine fn_true (fn_law16_GroupKeeps rfl (pl_GroupKeeps o0 p0 o1 p1 p2 n3 n4 l0 l1 l2)) w [.arr false A0 c0 .i2 l0, .arr false A1 c1 .i2 l1, .arr false A2 c2 .i2 l2] rfl (hok_ro fun d hd => ?_) _ rfl
  simp at hd
  rcases hd with rfl | rfl | rfl
  · exact sps_arr h0 hc0 hm0
  · exact sps_arr h1 hc1 hm1
  · exact sps_arr h2 hc2 hm2
end Go.Proofs.Ytebkfbkgmbgobaa
