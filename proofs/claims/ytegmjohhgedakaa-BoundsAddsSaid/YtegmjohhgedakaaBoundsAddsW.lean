/-
  The walk of BoundsAdds, as the row takes it.
-/
import Derived.Test.YtegmjohhgedakaaArrM
import Derived.Test.YtegmjohhgedakaaBW16
import Derived.Test.YtegmjohhgedakaaB11
namespace Go.Proofs.Ytegmjohhgedakaa
open Go.RowKit
theorem boundsAdds_walk (n0 : Int) (A1 : Option Addr) (c1 : Nat) (l1 : List (Int × Int × Int)) (x2 y2 z2 : Int) (A3 : Option Addr) (c3 : Nat) (rs3 : List Value) (l3 : List (List Int)) (w : World) (ha0 : -9223372036854775808 ≤ n0) (hz0 : n0 ≤ 9223372036854775807) (h1 : BdsR w A1 l1) (hc1 : l1.length ≤ c1) (hm1 : c1 ≤ maxLen) (h3 : MatOk w A3 c3 rs3 l3) :
    Calls Try.prog 8 #[.int .i64 n0, .slice A1 l1.length c1, .agg #[.int .i64 x2, .int .i64 y2, .int .i64 z2], .slice A3 l3.length c3] w fun e w' => e = .returned (.bool true) ∧ Below w.heap.size w w' := by
  refine fn_true (fn_law45_BoundsAdds rfl (pl_BoundsAdds n0 x2 y2 z2 l1 l3 ha0 hz0)) w [.arr false A1 c1 .i3 l1, .mat false A3 c3 rs3 l3] rfl (hok_ro fun d hd => ?_) _ rfl
  simp at hd
  rcases hd with rfl | rfl
  · exact bds_arr h1 hc1 hm1
  · exact mat_arr h3
end Go.Proofs.Ytegmjohhgedakaa
