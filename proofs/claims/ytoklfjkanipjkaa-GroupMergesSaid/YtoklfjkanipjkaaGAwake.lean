import Derived.Test.YtoklfjkanipjkaaGM
namespace Go.Proofs.Ytoklfjkanipjkaa
open Go.RowKit
set_option maxRecDepth 100000
theorem awake16 : m_law16_awake std = some true := by kernel_rfl
end Go.Proofs.Ytoklfjkanipjkaa
