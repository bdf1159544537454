/-
  The walk of RecurrenceDaily, as the row takes it.
-/
import Derived.Test.YtmnhfaaaaejpaaaArr
import Derived.Test.YtmnhfaaaaejpaaaNW8
import Derived.Test.YtmnhfaaaaejpaaaN2
namespace Go.Proofs.Ytmnhfaaaaejpaaa
open Go.RowKit
theorem recurrenceDaily_walk (n0 : Int) (n1 : Int) (n2 : Int) (n3 : Int) (w : World) (ha0 : 0 ≤ n0) (hz0 : n0 ≤ 255) (ha1 : -9223372036854775808 ≤ n1) (hz1 : n1 ≤ 9223372036854775807) (ha2 : -9223372036854775808 ≤ n2) (hz2 : n2 ≤ 9223372036854775807) (ha3 : -32768 ≤ n3) (hz3 : n3 ≤ 32767) :
    Calls Try.prog 4 #[.int .u8 n0, .int .i64 n1, .int .i64 n2, .int .i16 n3] w fun e w' => e = .returned (.bool true) ∧ Below w.heap.size w w' := by
  refine fn_true (fn_law29_RecurrenceDaily rfl (pl_RecurrenceDaily n0 n1 n2 n3 ha0 hz0 ha1 hz1 ha2 hz2 ha3 hz3)) w [] rfl (hok_ro fun d hd => by simp at hd) _ rfl
end Go.Proofs.Ytmnhfaaaaejpaaa
