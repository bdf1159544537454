/-
  '==' and '!=' between two spans.
-/
import Derived.Test.YtnieceplfjmocaaBase
import Derived.Test.YtnieceplfjmocaaProg
namespace Go.Proofs.Ytnieceplfjmocaa
open Go.RowKit Go.BigFrame

theorem eql_span (a b c d : Int) (w : World) :
    (binOp .eql 28 (.agg #[.int .i64 a, .int .i64 b]) (.agg #[.int .i64 c, .int .i64 d])).run Try.prog w = .ok (.bool (a == c && b == d)) w := by
  by_cases h1 : a = c <;> by_cases h2 : b = d <;> simp [go_sem, h1, h2]
theorem neq_span (a b c d : Int) (w : World) :
    (binOp .neq 28 (.agg #[.int .i64 a, .int .i64 b]) (.agg #[.int .i64 c, .int .i64 d])).run Try.prog w = .ok (.bool !(a == c && b == d)) w := by
  by_cases h1 : a = c <;> by_cases h2 : b = d <;> simp [go_sem, h1, h2]
theorem field_span0 (a b : Int) (w : World) : (Instr.field 28 (.agg #[.int .i64 a, .int .i64 b]) 0).run Try.prog w = .ok (.int .i64 a) w := by kernel_rfl
theorem field_span1 (a b : Int) (w : World) : (Instr.field 28 (.agg #[.int .i64 a, .int .i64 b]) 1).run Try.prog w = .ok (.int .i64 b) w := by kernel_rfl
end Go.Proofs.Ytnieceplfjmocaa
