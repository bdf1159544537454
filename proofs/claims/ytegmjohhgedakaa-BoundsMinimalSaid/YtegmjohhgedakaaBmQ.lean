/-
  Equations of models (printed by lift.py).
-/
import Derived.Test.YtegmjohhgedakaaBmM
namespace Go.Proofs.Ytegmjohhgedakaa
open Go.RowKit
set_option maxRecDepth 100000

theorem m_bounds_Minimal_eq (n_1 : Int) (l_1 : List (Int × Int × Int)) : m_bounds_Minimal std n_1 l_1 =
((Option.bind (m_bounds_Cycle std n_1 l_1) fun (l80, n55) =>
  bif (!(n55 == 0)) then
    (some (([] : List Int), n55))
  else
    Option.bind (m_sortI std l80) fun l81 =>
    (some (l81, 0))) : Option (List Int × Int)) := rfl
theorem m_cmp_isNaN_eq (x_1 : Int) : m_cmp_isNaN std x_1 =
(((some (!(x_1 == x_1)))) : Option (Bool)) := rfl
theorem m_cmp_Less_eq (x_1 : Int) (y_1 : Int) : m_cmp_Less std x_1 y_1 =
((Option.bind (
    Option.bind (m_cmp_isNaN std x_1) fun b86 =>
    bif b86 then
      Option.bind (m_cmp_isNaN std y_1) fun b87 =>
      bif (!b87) then
        (some true)
      else
        (some (decide (x_1 < y_1)))
    else
      (some (decide (x_1 < y_1))) : Option ((Bool))) fun x241 =>
  (some x241)) : Option (Bool)) := rfl
theorem m_slices_IsSorted_L1_eq (x_1 : List Int) (i21 : Int) : m_slices_IsSorted_L1 std x_1 i21 =
((bif (decide (0 < i21)) then
    grd (okIdx i21 ((List.length x_1))) <|
    grd (okKin ((Int.toNat i21)) ((List.length x_1))) <|
    grd (okI .i64 ((i21 - 1))) <|
    grd (okIdx ((i21 - 1)) ((List.length x_1))) <|
    grd (okKin ((Int.toNat (i21 - 1))) ((List.length x_1))) <|
    Option.bind (m_cmp_Less std ((List.getD x_1 (Int.toNat i21) 0)) ((List.getD x_1 (Int.toNat (i21 - 1)) 0))) fun b88 =>
    bif b88 then
      (some (Sum.inr (Sum.inl ())))
    else
      (some (Sum.inl (i21 - 1)))
  else
    (some (Sum.inr (Sum.inr ())))) : Option ((Int) ⊕ ((Unit) ⊕ (Unit)))) := rfl
theorem m_slices_IsSorted_eq (x_1 : List Int) : m_slices_IsSorted std x_1 =
((grd (okI .i64 (((((List.length x_1) : Nat) : Int) - 1))) <|
  Option.bind (loop (m_slices_IsSorted_L1 std x_1) ((((List.length x_1) : Nat) : Int) - 1)) fun e => match e with
  | .inl _ =>
    (some false)
  | .inr (_) =>
    (some true)) : Option (Bool)) := rfl
theorem m_ref45_Part_L1_eq (at_1 : List Int) (l_1 : List (Int × Int × Int)) (i23 : Int) (l85 : List (Int × Int × Int)) : m_ref45_Part_L1 std at_1 l_1 (i23, l85) =
((bif (decide (i23 < (((List.length at_1) : Nat) : Int))) then
    grd (okIdx i23 ((List.length at_1))) <|
    grd (okKin ((Int.toNat i23)) ((List.length at_1))) <|
    grd (okIdx ((List.getD at_1 (Int.toNat i23) 0)) ((List.length l_1))) <|
    grd (okKin ((Int.toNat (List.getD at_1 (Int.toNat i23) 0))) ((List.length l_1))) <|
    grd (okRoom ((List.length l85))) <|
    grd (okRoom ((List.length [((List.getD l_1 (Int.toNat (List.getD at_1 (Int.toNat i23) 0)) (0, 0, 0)).1, (List.getD l_1 (Int.toNat (List.getD at_1 (Int.toNat i23) 0)) (0, 0, 0)).2.1, (List.getD l_1 (Int.toNat (List.getD at_1 (Int.toNat i23) 0)) (0, 0, 0)).2.2)]))) <|
    grd (okI .i64 ((i23 + 1))) <|
    (some (Sum.inl ((i23 + 1), (l85 ++ [((List.getD l_1 (Int.toNat (List.getD at_1 (Int.toNat i23) 0)) (0, 0, 0)).1, (List.getD l_1 (Int.toNat (List.getD at_1 (Int.toNat i23) 0)) (0, 0, 0)).2.1, (List.getD l_1 (Int.toNat (List.getD at_1 (Int.toNat i23) 0)) (0, 0, 0)).2.2)]))))
  else
    (some (Sum.inr l85))) : Option ((Int × List (Int × Int × Int)) ⊕ (List (Int × Int × Int)))) := rfl
theorem m_ref45_Part_eq (l_1 : List (Int × Int × Int)) (at_1 : List Int) : m_ref45_Part std l_1 at_1 =
((Option.bind (loop (m_ref45_Part_L1 std at_1 l_1) (0, ([] : List (Int × Int × Int)))) fun l86 =>
  (some l86)) : Option (List (Int × Int × Int))) := rfl
theorem m_law45_BoundsMinimal_L1_eq (l82 : List Int) (l_1 : List (Int × Int × Int)) (n_1 : Int) (x244 : Int) : m_law45_BoundsMinimal_L1 std l82 l_1 n_1 x244 =
((bif (decide (x244 < (((List.length l82) : Nat) : Int))) then
    Option.bind (m_clone_i1 std l82) fun l88 =>
    grd (okI .i64 ((x244 + 1))) <|
    Option.bind (m_delI std l88 x244 ((x244 + 1))) fun l89 =>
    Option.bind (m_ref45_Part std l_1 l89) fun l90 =>
    Option.bind (m_ref45_Consistent std n_1 l90) fun b91 =>
    bif (!b91) then
      (some (Sum.inr (Sum.inl ())))
    else
      (some (Sum.inl (x244 + 1)))
  else
    (some (Sum.inr (Sum.inr ())))) : Option ((Int) ⊕ ((Unit) ⊕ (Unit)))) := rfl
theorem m_law45_BoundsMinimal_eq (n_1 : Int) (l_1 : List (Int × Int × Int)) : m_law45_BoundsMinimal std n_1 l_1 =
((Option.bind (
    Option.bind (m_law45_awake std) fun b81 =>
    bif (!b81) then
      (some true)
    else
      Option.bind (m_law45_long std l_1) fun b82 =>
      bif b82 then
        (some true)
      else
        Option.bind (m_ref45_Valid std n_1 l_1) fun b83 =>
        (some (!b83)) : Option ((Bool))) fun x236 =>
  bif x236 then
    Option.bind (m_law45_awake std) fun b84 =>
    (some b84)
  else
    Option.bind (m_bounds_Minimal std n_1 l_1) fun (l82, n56) =>
    Option.bind (m_ref45_Consistent std n_1 l_1) fun b85 =>
    bif b85 then
      Option.bind (
        bif (n56 == 7) then
          (some ((((List.length l82) : Nat) : Int) == 0))
        else
          (some false) : Option ((Bool))) fun x238 =>
      (some x238)
    else
      Option.bind (
        bif (!(n56 == 0)) then
          (some true)
        else
          bif ((((List.length l82) : Nat) : Int) == 0) then
            (some true)
          else
            Option.bind (m_slices_IsSorted std l82) fun b89 =>
            bif (!b89) then
              (some true)
            else
              Option.bind (m_clone_i1 std l82) fun l83 =>
              Option.bind (m_compI std l83) fun l84 =>
              bif (!((((List.length l84) : Nat) : Int) == (((List.length l82) : Nat) : Int))) then
                (some true)
              else
                bif (decide ((List.getD l82 (Int.toNat 0) 0) < 0)) then
                  grd (okIdx 0 ((List.length l82))) <|
                  grd (okKin ((Int.toNat 0)) ((List.length l82))) <|
                  (some true)
                else
                  grd (okIdx 0 ((List.length l82))) <|
                  grd (okKin ((Int.toNat 0)) ((List.length l82))) <|
                  grd (okI .i64 (((((List.length l82) : Nat) : Int) - 1))) <|
                  grd (okIdx (((((List.length l82) : Nat) : Int) - 1)) ((List.length l82))) <|
                  grd (okKin ((Int.toNat ((((List.length l82) : Nat) : Int) - 1))) ((List.length l82))) <|
                  (some (decide ((((List.length l_1) : Nat) : Int) ≤ (List.getD l82 (Int.toNat ((((List.length l82) : Nat) : Int) - 1)) 0)))) : Option ((Bool))) fun x243 =>
      bif x243 then
        (some false)
      else
        Option.bind (m_ref45_Part std l_1 l82) fun l87 =>
        Option.bind (m_ref45_Consistent std n_1 l87) fun b90 =>
        bif b90 then
          (some false)
        else
          Option.bind (loop (m_law45_BoundsMinimal_L1 std l82 l_1 n_1) 0) fun e => match e with
          | .inl _ =>
            (some false)
          | .inr (_) =>
            (some true)) : Option (Bool)) := rfl
end Go.Proofs.Ytegmjohhgedakaa
