/-
  The walk of GranulePoints, as the row takes it.
-/
import Derived.Test.YtlpbdikmhngmfaaArr
import Derived.Test.YtlpbdikmhngmfaaQW21
import Derived.Test.YtlpbdikmhngmfaaQ2
namespace Go.Proofs.Ytlpbdikmhngmfaa
open Go.RowKit
theorem granulePoints_walk (o0 p0 : Int) (A0 : Option Addr) (c0 : Nat) (l0 : List Sp) (n1 : Int) (w : World) (h0 : SpsR w A0 l0) (hc0 : l0.length ≤ c0) (hm0 : c0 ≤ maxLen) (ha1 : -9223372036854775808 ≤ n1) (hz1 : n1 ≤ 9223372036854775807) :
    Calls Try.prog 5 #[.agg #[.int .i64 o0, .int .i64 p0, .slice A0 l0.length c0], .int .i64 n1] w fun e w' => e = .returned (.bool true) ∧ Below w.heap.size w w' := by
  refine fn_true (fn_law15_GranulePoints rfl (pl_GranulePoints o0 p0 n1 l0 ha1 hz1)) w [.arr false A0 c0 .i2 l0] rfl (hok_ro fun d hd => ?_) _ rfl
  simp at hd
  subst hd
  exact sps_arr h0 hc0 hm0
end Go.Proofs.Ytlpbdikmhngmfaa
