/-
  Models of functions whose walks are made by hand: the reference's product, the length of a month.
-/
import Derived.Test.YtmnhfaaaaejpaaaGreatManM2
namespace Go.Proofs.YtmnhfaaaaejpaaaGreat
open Go.RowKit
def cYear (y : Int) : Bool := decide (1 ≤ y) && decide (y ≤ 9999)
def cLeap (y : Int) : Bool := cYear y && ((y % 4 == 0) && (!(y % 100 == 0) || (y % 400 == 0)))
def cTab (m : Int) : Int := if m = 2 then 28 else if m = 4 ∨ m = 6 ∨ m = 9 ∨ m = 11 then 30 else 31
def cLen (y m : Int) : Int := if cYear y = false ∨ m < 1 ∨ 12 < m then 0 else if m = 2 ∧ cLeap y = true then 29 else cTab m
theorem cYear_iff {y : Int} : cYear y = true ↔ 1 ≤ y ∧ y ≤ 9999 := by simp [cYear]
/-- the length of a month of a year of the range -/
def m_civil_Length (_O : Ops) (y m : Int) : Option Int := grd (cYear y) <| grd (decide (1 ≤ m)) <| grd (decide (m ≤ 12)) <| some (cLen y m)
end Go.Proofs.YtmnhfaaaaejpaaaGreat
