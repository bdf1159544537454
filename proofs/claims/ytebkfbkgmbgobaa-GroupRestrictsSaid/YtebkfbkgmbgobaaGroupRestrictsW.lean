/-
  The walk of GroupRestricts, as the row takes it.
-/
import Derived.Test.YtebkfbkgmbgobaaArr
import Derived.Test.YtebkfbkgmbgobaaKW11
import Derived.Test.YtebkfbkgmbgobaaK2
namespace Go.Proofs.Ytebkfbkgmbgobaa
open Go.RowKit
theorem groupRestricts_walk (o0 p0 : Int) (A0 : Option Addr) (c0 : Nat) (l0 : List Sp) (p1 : Int) (A1 : Option Addr) (c1 : Nat) (l1 : List Sp) (w : World) (h0 : SpsR w A0 l0) (hc0 : l0.length ≤ c0) (hm0 : c0 ≤ maxLen) (h1 : SpsR w A1 l1) (hc1 : l1.length ≤ c1) (hm1 : c1 ≤ maxLen) :
    Calls Try.prog 3 #[.agg #[.int .i64 o0, .int .i64 p0, .slice A0 l0.length c0], .agg #[.int .i64 p1, .slice A1 l1.length c1]] w fun e w' => e = .returned (.bool true) ∧ Below w.heap.size w w' := by
  refine fn_true (fn_law16_GroupRestricts rfl (pl_GroupRestricts o0 p0 p1 l0 l1)) w [.arr false A0 c0 .i2 l0, .arr false A1 c1 .i2 l1] rfl (hok_ro fun d hd => ?_) _ rfl
  simp at hd
  rcases hd with rfl | rfl
  · exact sps_arr h0 hc0 hm0
  · exact sps_arr h1 hc1 hm1
end Go.Proofs.Ytebkfbkgmbgobaa
