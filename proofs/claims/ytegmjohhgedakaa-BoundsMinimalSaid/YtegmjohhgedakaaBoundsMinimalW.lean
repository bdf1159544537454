/-
  The walk of BoundsMinimal, as the row takes it.
-/
import Derived.Test.YtegmjohhgedakaaArrB
import Derived.Test.YtegmjohhgedakaaBmW0
import Derived.Test.YtegmjohhgedakaaB12
namespace Go.Proofs.Ytegmjohhgedakaa
open Go.RowKit
theorem boundsMinimal_walk (n0 : Int) (A1 : Option Addr) (c1 : Nat) (l1 : List (Int × Int × Int)) (w : World) (ha0 : -9223372036854775808 ≤ n0) (hz0 : n0 ≤ 9223372036854775807) (h1 : BdsR w A1 l1) (hc1 : l1.length ≤ c1) (hm1 : c1 ≤ maxLen) :
    Calls Try.prog 10 #[.int .i64 n0, .slice A1 l1.length c1] w fun e w' => e = .returned (.bool true) ∧ Below w.heap.size w w' := by
  refine fn_true (fn_law45_BoundsMinimal rfl (pl_BoundsMinimal n0 l1 ha0 hz0)) w [.arr false A1 c1 .i3 l1] rfl (hok_ro fun d hd => ?_) _ rfl
  simp at hd
  subst hd
  exact bds_arr h1 hc1 hm1
end Go.Proofs.Ytegmjohhgedakaa
