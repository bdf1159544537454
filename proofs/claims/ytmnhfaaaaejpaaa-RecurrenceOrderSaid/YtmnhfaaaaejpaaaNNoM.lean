/-
  The model of a function that the laws at hand never reach: it has no answer.
-/
import Derived.Test.YtmnhfaaaaejpaaaManN
namespace Go.Proofs.Ytmnhfaaaaejpaaa
open Go.RowKit
def m_recurrence_place (_O : Ops) (_r_1 : Int) (_r_2 : Int) (_r_3 : Int) (_r_4 : Int) (_r_5 : Int) (_start_1 : Int) (_l_1 : Int) (_r_6 : List Int) (_r_7 : List Int) (_r_8 : List Int) (_r_9 : List Int) (_r_10 : List (Int × Int)) (_r_11 : List Int) (_r_12 : List Int) (_r_13 : List Int) (_r_14 : List Int) : Option (Int × Int) := none
end Go.Proofs.Ytmnhfaaaaejpaaa
