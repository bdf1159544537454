/-
  The walk of BoundsTriangle, as the row takes it.
-/
import Derived.Test.YtegmjohhgedakaaArrB
import Derived.Test.YtegmjohhgedakaaBW14
import Derived.Test.YtegmjohhgedakaaB6
namespace Go.Proofs.Ytegmjohhgedakaa
open Go.RowKit
theorem boundsTriangle_walk (n0 : Int) (A1 : Option Addr) (c1 : Nat) (l1 : List (Int × Int × Int)) (n2 : Int) (n3 : Int) (w : World) (ha0 : -9223372036854775808 ≤ n0) (hz0 : n0 ≤ 9223372036854775807) (h1 : BdsR w A1 l1) (hc1 : l1.length ≤ c1) (hm1 : c1 ≤ maxLen) (ha2 : 0 ≤ n2) (hz2 : n2 ≤ 255) (ha3 : 0 ≤ n3) (hz3 : n3 ≤ 255) :
    Calls Try.prog 6 #[.int .i64 n0, .slice A1 l1.length c1, .int .u8 n2, .int .u8 n3] w fun e w' => e = .returned (.bool true) ∧ Below w.heap.size w w' := by
  refine fn_true (fn_law45_BoundsTriangle rfl (pl_BoundsTriangle n0 n2 n3 l1 ha0 hz0 ha2 hz2 ha3 hz3)) w [.arr false A1 c1 .i3 l1] rfl (hok_ro fun d hd => ?_) _ rfl
  simp at hd
  subst hd
  exact bds_arr h1 hc1 hm1
end Go.Proofs.Ytegmjohhgedakaa
