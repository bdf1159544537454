/-
  The table of types, with sums of int that wrap round.
-/
import Derived.Test.YtkdffpncpikdmaaTabEq
namespace Go.Proofs.Ytkdffpncpikdmaa
open Go.RowKit
def tabW : Tab := (3, ⟨false, 1, 8, [.int .i64 0], [], none, some .i1, some .i64, false, false, true⟩) :: tab
theorem tabw_holds : TabOk Try.prog tabW := tab_ok (by kernel_rfl)
theorem eqsw_holds : EqOk Try.prog tabW := by
  intro T ti hti he
  simp only [tabW, getTI] at hti
  cases hb : Nat.beq 3 T with
  | true =>
    rw [hb] at hti
    injection hti with hti
    subst hti
    cases he
  | false =>
    rw [hb] at hti
    exact eqs_holds T ti hti he
end Go.Proofs.Ytkdffpncpikdmaa
