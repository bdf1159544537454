/-
  Models of functions whose walks are made by hand.
-/
import Derived.Test.YtmnhfaaaaejpaaaGreatLift
namespace Go.Proofs.YtmnhfaaaaejpaaaGreat
open Go.RowKit
/-- an integer that 64 bits hold -/
def fits (x : Int) : Bool := decide (-9223372036854775808 ≤ x) && decide (x ≤ 9223372036854775807)
def m_integer_Mul (_O : Ops) (a b : Int) : Option (Int × Int) := grd (fits a) <| grd (fits b) <| some (bif fits (a * b) then (a * b, 0) else (0, 9))
end Go.Proofs.YtmnhfaaaaejpaaaGreat
