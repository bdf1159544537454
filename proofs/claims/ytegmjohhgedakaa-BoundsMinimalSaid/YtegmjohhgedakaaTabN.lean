/-
  The table of types, where nil of []int stays nil (for a function whose result may be nil).
-/
import Derived.Test.YtegmjohhgedakaaTabEq
namespace Go.Proofs.Ytegmjohhgedakaa
open Go.RowKit
def tabN : Tab := (26, ⟨false, 1, 24, [.raw (.slice none 0 0)], [], some 3, none, none, false, false, true⟩) :: tab
theorem tabn_holds : TabOk Try.prog tabN := tab_ok (by kernel_rfl)
theorem eqsn_holds : EqOk Try.prog tabN := by
  intro T ti hti he
  simp only [tabN, getTI] at hti
  cases hb : Nat.beq 26 T with
  | true =>
    rw [hb] at hti
    injection hti with hti
    subst hti
    cases he
  | false =>
    rw [hb] at hti
    exact eqs_holds T ti hti he
end Go.Proofs.Ytegmjohhgedakaa
