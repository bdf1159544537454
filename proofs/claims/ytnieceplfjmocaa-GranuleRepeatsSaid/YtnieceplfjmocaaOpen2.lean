/-
  More of the laws' arguments, opened.
-/
import Derived.Test.YtnieceplfjmocaaOpen
namespace Go.Proofs.Ytnieceplfjmocaa
open Go.ChangeShapes Go.WideShapes Go.ChangeAt Go.RowKit Go.Joins Go.Deep
set_option maxRecDepth 100000
section
variable {H : Type} {enc : TypeId × Value → H} {w : World} {base b0 : Nat} {spare : Nat → Bool} {held : Bool}
theorem open_u8 {v : Value} {d : DataW H} {p : List MemPlace} (hv : Value.okWide Try.prog w .any b0 5 v) (h : DataW.Trod enc Try.prog w base spare held 5 v d p) :
    ∃ n, v = .int .u8 n ∧ 0 ≤ n ∧ n ≤ 255 := by
  obtain ⟨n, rfl, _, _, hw⟩ := open_int (P := Try.prog) (t := 5) (k := .u8) Try.underlying5 hv h
  have := bounds_u8 hw
  exact ⟨n, rfl, by omega, by omega⟩
end
end Go.Proofs.Ytnieceplfjmocaa
