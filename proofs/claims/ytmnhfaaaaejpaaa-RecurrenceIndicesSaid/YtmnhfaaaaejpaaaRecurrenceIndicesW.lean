/-
  The walk of RecurrenceIndices, as the row takes it.
-/
import Derived.Test.YtmnhfaaaaejpaaaArr
import Derived.Test.YtmnhfaaaaejpaaaNW7
import Derived.Test.YtmnhfaaaaejpaaaN2
namespace Go.Proofs.Ytmnhfaaaaejpaaa
open Go.RowKit
theorem recurrenceIndices_walk (n0 : Int) (n1 : Int) (w : World) (ha0 : -9223372036854775808 ≤ n0) (hz0 : n0 ≤ 9223372036854775807) (ha1 : -9223372036854775808 ≤ n1) (hz1 : n1 ≤ 9223372036854775807) :
    Calls Try.prog 8 #[.int .i64 n0, .int .i64 n1] w fun e w' => e = .returned (.bool true) ∧ Below w.heap.size w w' := by
  refine fn_true (fn_law29_RecurrenceIndices rfl (pl_RecurrenceIndices n0 n1 ha0 hz0 ha1 hz1)) w [] rfl (hok_ro fun d hd => by simp at hd) _ rfl
end Go.Proofs.Ytmnhfaaaaejpaaa
