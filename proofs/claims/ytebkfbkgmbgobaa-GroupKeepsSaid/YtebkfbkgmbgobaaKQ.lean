/-
  Equations of models (printed by lift.py).
-/
import Derived.Test.YtebkfbkgmbgobaaKM
namespace Go.Proofs.Ytebkfbkgmbgobaa
open Go.RowKit
set_option maxRecDepth 100000

theorem m_law16_days_eq : m_law16_days std =
(((some (0, 1, [(0, 1)]))) : Option (Int × Int × List (Int × Int))) := rfl
theorem m_granule_half_eq (x_1 : Int) : m_granule_half std x_1 =
((Option.bind (
    bif (decide ((-2199023255552) ≤ x_1)) then
      (some (decide (x_1 ≤ 2199023255552)))
    else
      (some false) : Option ((Bool))) fun x2 =>
  (some x2)) : Option (Bool)) := rfl
theorem m_interval_line_eq (x_1 : Int) : m_interval_line std x_1 =
((Option.bind (
    bif (decide ((-4398046511104) ≤ x_1)) then
      (some (decide (x_1 ≤ 4398046511104)))
    else
      (some false) : Option ((Bool))) fun x5 =>
  (some x5)) : Option (Bool)) := rfl
theorem m_interval_Valid_eq (s_1 : Int) (s_2 : Int) : m_interval_Valid std s_1 s_2 =
((Option.bind (
    Option.bind (m_interval_line std s_1) fun b2 =>
    bif b2 then
      Option.bind (m_interval_line std s_2) fun b3 =>
      bif b3 then
        (some (decide (s_1 < s_2)))
      else
        (some false)
    else
      (some false) : Option ((Bool))) fun x8 =>
  (some x8)) : Option (Bool)) := rfl
theorem m_granule_ascending_L1_eq (l_1 : List (Int × Int)) (x3 : Int) : m_granule_ascending_L1 std l_1 x3 =
((bif (decide (x3 < (((List.length l_1) : Nat) : Int))) then
    grd (okIdx x3 ((List.length l_1))) <|
    grd (okKin ((Int.toNat x3)) ((List.length l_1))) <|
    Option.bind (
      Option.bind (m_interval_Valid std ((List.getD l_1 (Int.toNat x3) (0, 0)).1) ((List.getD l_1 (Int.toNat x3) (0, 0)).2)) fun b4 =>
      bif (!b4) then
        (some true)
      else
        bif (decide (0 < x3)) then
          grd (okI .i64 ((x3 - 1))) <|
          grd (okIdx ((x3 - 1)) ((List.length l_1))) <|
          grd (okKin ((Int.toNat (x3 - 1))) ((List.length l_1))) <|
          (some (decide ((List.getD l_1 (Int.toNat x3) (0, 0)).1 < (List.getD l_1 (Int.toNat (x3 - 1)) (0, 0)).2)))
        else
          (some false) : Option ((Bool))) fun x11 =>
    bif x11 then
      (some (Sum.inr (Sum.inl ())))
    else
      grd (okI .i64 ((x3 + 1))) <|
      (some (Sum.inl (x3 + 1)))
  else
    (some (Sum.inr (Sum.inr ())))) : Option ((Int) ⊕ ((Unit) ⊕ (Unit)))) := rfl
theorem m_granule_ascending_eq (l_1 : List (Int × Int)) : m_granule_ascending std l_1 =
((Option.bind (loop (m_granule_ascending_L1 std l_1) 0) fun e => match e with
  | .inl _ =>
    (some false)
  | .inr (_) =>
    (some (decide (0 < (((List.length l_1) : Nat) : Int))))) : Option (Bool)) := rfl
theorem m_granule_least_L1_eq (l_1 : List (Int × Int)) (m1 : Int) (period_1 : Int) (same1 : Bool) (i1 : Int) : m_granule_least_L1 std l_1 m1 period_1 (same1, i1) =
((Option.bind (
    bif (decide ((i1 + m1) < (((List.length l_1) : Nat) : Int))) then
      grd (okI .i64 ((i1 + m1))) <|
      (some same1)
    else
      grd (okI .i64 ((i1 + m1))) <|
      (some false) : Option ((Bool))) fun x17 =>
  bif x17 then
    grd (okIdx ((i1 + m1)) ((List.length l_1))) <|
    grd (okKin ((Int.toNat (i1 + m1))) ((List.length l_1))) <|
    grd (okIdx i1 ((List.length l_1))) <|
    grd (okKin ((Int.toNat i1)) ((List.length l_1))) <|
    grd (okI .i64 (((List.getD l_1 (Int.toNat i1) (0, 0)).1 + (Int.tdiv period_1 (Int.tdiv (((List.length l_1) : Nat) : Int) m1))))) <|
    grd (okI .i64 (((List.getD l_1 (Int.toNat i1) (0, 0)).2 + (Int.tdiv period_1 (Int.tdiv (((List.length l_1) : Nat) : Int) m1))))) <|
    grd (okI .i64 ((i1 + 1))) <|
    (some (Sum.inl ((((List.getD l_1 (Int.toNat (i1 + m1)) (0, 0)).1 == ((List.getD l_1 (Int.toNat i1) (0, 0)).1 + (Int.tdiv period_1 (Int.tdiv (((List.length l_1) : Nat) : Int) m1)))) && ((List.getD l_1 (Int.toNat (i1 + m1)) (0, 0)).2 == ((List.getD l_1 (Int.toNat i1) (0, 0)).2 + (Int.tdiv period_1 (Int.tdiv (((List.length l_1) : Nat) : Int) m1))))), (i1 + 1))))
  else
    (some (Sum.inr same1))) : Option ((Bool × Int) ⊕ (Bool))) := rfl
theorem m_granule_least_L2_eq (l_1 : List (Int × Int)) (period_1 : Int) (m1 : Int) : m_granule_least_L2 std l_1 period_1 m1 =
((bif (decide (m1 < (((List.length l_1) : Nat) : Int))) then
    Option.bind (
      bif (!((Int.tmod (((List.length l_1) : Nat) : Int) m1) == 0)) then
        grd (okNz m1) <|
        (some true)
      else
        grd (okNz m1) <|
        grd (okI .i64 ((Int.tdiv (((List.length l_1) : Nat) : Int) m1))) <|
        grd (okNz ((Int.tdiv (((List.length l_1) : Nat) : Int) m1))) <|
        (some (!((Int.tmod period_1 (Int.tdiv (((List.length l_1) : Nat) : Int) m1)) == 0))) : Option ((Bool))) fun x15 =>
    bif x15 then
      grd (okI .i64 ((m1 + 1))) <|
      (some (Sum.inl (m1 + 1)))
    else
      grd (okI .i64 ((Int.tdiv (((List.length l_1) : Nat) : Int) m1))) <|
      grd (okNz ((Int.tdiv (((List.length l_1) : Nat) : Int) m1))) <|
      grd (okI .i64 ((Int.tdiv period_1 (Int.tdiv (((List.length l_1) : Nat) : Int) m1)))) <|
      Option.bind (loop (m_granule_least_L1 std l_1 m1 period_1) (true, 0)) fun same2 =>
      bif same2 then
        (some (Sum.inr (Sum.inl m1)))
      else
        grd (okI .i64 ((m1 + 1))) <|
        (some (Sum.inl (m1 + 1)))
  else
    (some (Sum.inr (Sum.inr ())))) : Option ((Int) ⊕ ((Int) ⊕ (Unit)))) := rfl
theorem m_granule_least_eq (period_1 : Int) (l_1 : List (Int × Int)) : m_granule_least std period_1 l_1 =
((Option.bind (loop (m_granule_least_L2 std l_1 period_1) 1) fun e => match e with
  | .inl x18 =>
    (some x18)
  | .inr (_) =>
    (some (((List.length l_1) : Nat) : Int))) : Option (Int)) := rfl
theorem m_granule_Valid_eq (c_1 : Int) (c_2 : Int) (c_3 : List (Int × Int)) : m_granule_Valid std c_1 c_2 c_3 =
((Option.bind (
    bif (decide ((((List.length c_3) : Nat) : Int) < 1)) then
      (some true)
    else
      bif (decide (5000 < (((List.length c_3) : Nat) : Int))) then
        (some true)
      else
        bif (decide (c_2 < 1)) then
          (some true)
        else
          bif (decide (12622780800 < c_2)) then
            (some true)
          else
            Option.bind (m_granule_half std c_1) fun b1 =>
            bif (!b1) then
              (some true)
            else
              Option.bind (m_granule_ascending std c_3) fun b5 =>
              bif (!b5) then
                (some true)
              else
                bif (!((List.getD c_3 (Int.toNat 0) (0, 0)).1 == 0)) then
                  grd (okIdx 0 ((List.length c_3))) <|
                  grd (okKin ((Int.toNat 0)) ((List.length c_3))) <|
                  (some true)
                else
                  grd (okIdx 0 ((List.length c_3))) <|
                  grd (okKin ((Int.toNat 0)) ((List.length c_3))) <|
                  grd (okI .i64 (((((List.length c_3) : Nat) : Int) - 1))) <|
                  grd (okIdx (((((List.length c_3) : Nat) : Int) - 1)) ((List.length c_3))) <|
                  grd (okKin ((Int.toNat ((((List.length c_3) : Nat) : Int) - 1))) ((List.length c_3))) <|
                  (some (decide (c_2 < (List.getD c_3 (Int.toNat ((((List.length c_3) : Nat) : Int) - 1)) (0, 0)).2))) : Option ((Bool))) fun x13 =>
  bif x13 then
    (some false)
  else
    Option.bind (m_granule_least std c_2 c_3) fun n3 =>
    (some (n3 == (((List.length c_3) : Nat) : Int)))) : Option (Bool)) := rfl
theorem m_integer_size_eq (a_1 : Int) : m_integer_size std a_1 =
((bif (decide (a_1 < 0)) then
    grd (okI .u64 a_1) <|
    grd (okI .u64 ((0 - a_1))) <|
    (some (0 - a_1))
  else
    grd (okI .u64 a_1) <|
    (some a_1)) : Option (Int)) := rfl
theorem m_integer_signed_eq (m_1 : Int) (neg_1 : Bool) : m_integer_signed std m_1 neg_1 =
((Option.bind (
    bif neg_1 then
      (some (true, (decide (m_1 ≤ 9223372036854775808))))
    else
      (some (false, false)) : Option ((Bool × Bool))) fun (neg2, x24) =>
  Option.bind (
    bif x24 then
      grd (okI .u64 ((0 - m_1))) <|
      grd (okI .i64 ((0 - m_1))) <|
      (some (Sum.inl (0 - m_1)))
    else
      Option.bind (
        bif (!neg2) then
          (some (decide (m_1 ≤ 9223372036854775807)))
        else
          (some false) : Option ((Bool))) fun x26 =>
      bif x26 then
        grd (okI .i64 m_1) <|
        (some (Sum.inl m_1))
      else
        (some (Sum.inr ())) : Option (((Int) ⊕ (Unit)))) fun e => match e with
  | .inl x28 =>
    (some (x28, true))
  | .inr (_) =>
    (some (0, false))) : Option (Int × Bool)) := rfl
theorem m_integer_Gcd_L1_eq (x21 : Int) (y1 : Int) : m_integer_Gcd_L1 std (x21, y1) =
((bif (!(y1 == 0)) then
    grd (okNz y1) <|
    (some (Sum.inl (y1, (Int.tmod x21 y1))))
  else
    (some (Sum.inr x21))) : Option ((Int × Int) ⊕ (Int))) := rfl
theorem m_integer_Gcd_eq (a_1 : Int) (b_1 : Int) : m_integer_Gcd std a_1 b_1 =
((Option.bind (m_integer_size std a_1) fun n4 =>
  Option.bind (m_integer_size std b_1) fun n5 =>
  Option.bind (loop (m_integer_Gcd_L1 std) (n4, n5)) fun x22 =>
  Option.bind (m_integer_signed std x22 false) fun (n6, _) =>
  (some n6)) : Option (Int)) := rfl
theorem m_group_blocks_eq (c_1 : Int) (c_2 : Int) (m_1 : Int) (c_3 : List (Int × Int)) : m_group_blocks std c_1 c_2 m_1 c_3 =
((Option.bind (m_integer_Gcd std ((((List.length c_3) : Nat) : Int)) m_1) fun n7 =>
  grd (okNz n7) <|
  grd (okI .i64 ((Int.tdiv m_1 n7))) <|
  Option.bind (m_integer_Mul std c_2 ((Int.tdiv m_1 n7))) fun (n8, n9) =>
  Option.bind (
    bif (!(n9 == 0)) then
      (some true)
    else
      (some (decide (12622780800 < n8))) : Option ((Bool))) fun x30 =>
  bif x30 then
    (some (0, 0, 9))
  else
    grd (okI .i64 ((Int.tdiv (((List.length c_3) : Nat) : Int) n7))) <|
    (some (n8, (Int.tdiv (((List.length c_3) : Nat) : Int) n7), 0))) : Option (Int × Int × Int)) := rfl
theorem m_integer_Div_eq (a_1 : Int) (b_1 : Int) : m_integer_Div std a_1 b_1 =
((Option.bind (
    bif (b_1 == 0) then
      (some (Sum.inl 10))
    else
      Option.bind (
        bif (a_1 == (-9223372036854775808)) then
          (some (b_1 == (-1)))
        else
          (some false) : Option ((Bool))) fun x35 =>
      bif x35 then
        (some (Sum.inl 9))
      else
        (some (Sum.inr ())) : Option (((Int) ⊕ (Unit)))) fun e => match e with
  | .inl x37 =>
    (some (0, 0, x37))
  | .inr (_) =>
    grd (okNz b_1) <|
    grd (okI .i64 ((Int.tdiv a_1 b_1))) <|
    Option.bind (
      bif (!((Int.tmod a_1 b_1) == 0)) then
        (some (!((decide ((Int.tmod a_1 b_1) < 0)) == (decide (b_1 < 0)))))
      else
        (some false) : Option ((Bool))) fun x39 =>
    Option.bind (
      bif x39 then
        grd (okI .i64 (((Int.tdiv a_1 b_1) - 1))) <|
        grd (okI .i64 (((Int.tmod a_1 b_1) + b_1))) <|
        (some (((Int.tdiv a_1 b_1) - 1), ((Int.tmod a_1 b_1) + b_1)))
      else
        (some ((Int.tdiv a_1 b_1), (Int.tmod a_1 b_1))) : Option ((Int × Int))) fun (q2, r2) =>
    (some (q2, r2, 0))) : Option (Int × Int × Int)) := rfl
theorem m_integer_Mod_eq (a_1 : Int) (b_1 : Int) : m_integer_Mod std a_1 b_1 =
((Option.bind (m_integer_Div std a_1 b_1) fun (_, n14, _) =>
  (some n14)) : Option (Int)) := rfl
theorem m_integer_Floor_eq (a_1 : Int) (b_1 : Int) : m_integer_Floor std a_1 b_1 =
((Option.bind (m_integer_Div std a_1 b_1) fun (n17, _, _) =>
  (some n17)) : Option (Int)) := rfl
theorem m_group_at_eq (c_1 : Int) (c_2 : Int) (k_1 : Int) (c_3 : List (Int × Int)) : m_group_at std c_1 c_2 k_1 c_3 =
((Option.bind (m_integer_Mod std k_1 ((((List.length c_3) : Nat) : Int))) fun n16 =>
  grd (okIdx n16 ((List.length c_3))) <|
  grd (okKin ((Int.toNat n16)) ((List.length c_3))) <|
  Option.bind (m_integer_Floor std k_1 ((((List.length c_3) : Nat) : Int))) fun n20 =>
  grd (okI .i64 ((c_2 * n20))) <|
  grd (okI .i64 ((c_1 + (c_2 * n20)))) <|
  grd (okI .i64 (((List.getD c_3 (Int.toNat n16) (0, 0)).1 + (c_1 + (c_2 * n20))))) <|
  grd (okI .i64 (((List.getD c_3 (Int.toNat n16) (0, 0)).2 + (c_1 + (c_2 * n20))))) <|
  (some (((List.getD c_3 (Int.toNat n16) (0, 0)).1 + (c_1 + (c_2 * n20))), ((List.getD c_3 (Int.toNat n16) (0, 0)).2 + (c_1 + (c_2 * n20)))))) : Option (Int × Int)) := rfl
theorem m_group_Groups_1_eq (j_1 : Int) (x_1 : Int) (x_2 : Int) (x_3 : Int) (x_4 : Int) (x_5 : List (Int × Int)) : m_group_Groups_1 std j_1 x_1 x_2 x_3 x_4 x_5 =
((grd (okI .i64 ((j_1 * x_4))) <|
  grd (okI .i64 ((x_3 + (j_1 * x_4)))) <|
  grd (okI .i64 ((j_1 + 1))) <|
  grd (okI .i64 (((j_1 + 1) * x_4))) <|
  grd (okI .i64 ((x_3 + ((j_1 + 1) * x_4)))) <|
  grd (okI .i64 (((x_3 + ((j_1 + 1) * x_4)) - 1))) <|
  Option.bind (m_group_at std x_1 x_2 ((x_3 + (j_1 * x_4))) x_5) fun (n21, _) =>
  Option.bind (m_group_at std x_1 x_2 (((x_3 + ((j_1 + 1) * x_4)) - 1)) x_5) fun (_, n24) =>
  (some (n21, n24, true))) : Option (Int × Int × Bool)) := rfl
theorem m_granule_line_eq (x_1 : Int) : m_granule_line std x_1 =
((Option.bind (
    bif (decide ((-4398046511104) ≤ x_1)) then
      (some (decide (x_1 ≤ 4398046511104)))
    else
      (some false) : Option ((Bool))) fun x46 =>
  (some x46)) : Option (Bool)) := rfl
theorem m_granule_Of_L1_eq (l_1 : List (Int × Int)) (x51 : Int) (l10 : List (Int × Int)) : m_granule_Of_L1 std l_1 (x51, l10) =
((bif (decide (x51 < (((List.length l_1) : Nat) : Int))) then
    grd (okIdx x51 ((List.length l_1))) <|
    grd (okKin ((Int.toNat x51)) ((List.length l_1))) <|
    grd (okI .i64 (((List.getD l_1 (Int.toNat x51) (0, 0)).1 - (List.getD l_1 (Int.toNat 0) (0, 0)).1))) <|
    grd (okI .i64 (((List.getD l_1 (Int.toNat x51) (0, 0)).2 - (List.getD l_1 (Int.toNat 0) (0, 0)).1))) <|
    grd (okRoom ((List.length l10))) <|
    grd (okRoom ((List.length [(((List.getD l_1 (Int.toNat x51) (0, 0)).1 - (List.getD l_1 (Int.toNat 0) (0, 0)).1), ((List.getD l_1 (Int.toNat x51) (0, 0)).2 - (List.getD l_1 (Int.toNat 0) (0, 0)).1))]))) <|
    grd (okI .i64 ((x51 + 1))) <|
    (some (Sum.inl ((x51 + 1), (l10 ++ [(((List.getD l_1 (Int.toNat x51) (0, 0)).1 - (List.getD l_1 (Int.toNat 0) (0, 0)).1), ((List.getD l_1 (Int.toNat x51) (0, 0)).2 - (List.getD l_1 (Int.toNat 0) (0, 0)).1))]))))
  else
    (some (Sum.inr l10))) : Option ((Int × List (Int × Int)) ⊕ (List (Int × Int)))) := rfl
theorem m_granule_Of_eq (origin_1 : Int) (period_1 : Int) (l_1 : List (Int × Int)) : m_granule_Of std origin_1 period_1 l_1 =
((Option.bind (
    bif (decide (period_1 < 1)) then
      (some true)
    else
      bif (decide (12622780800 < period_1)) then
        (some true)
      else
        Option.bind (m_granule_ascending std l_1) fun b10 =>
        bif (!b10) then
          (some true)
        else
          grd (okI .i64 (((((List.length l_1) : Nat) : Int) - 1))) <|
          grd (okIdx (((((List.length l_1) : Nat) : Int) - 1)) ((List.length l_1))) <|
          grd (okKin ((Int.toNat ((((List.length l_1) : Nat) : Int) - 1))) ((List.length l_1))) <|
          grd (okIdx 0 ((List.length l_1))) <|
          grd (okKin ((Int.toNat 0)) ((List.length l_1))) <|
          grd (okI .i64 (((List.getD l_1 (Int.toNat ((((List.length l_1) : Nat) : Int) - 1)) (0, 0)).2 - (List.getD l_1 (Int.toNat 0) (0, 0)).1))) <|
          (some (decide (period_1 < ((List.getD l_1 (Int.toNat ((((List.length l_1) : Nat) : Int) - 1)) (0, 0)).2 - (List.getD l_1 (Int.toNat 0) (0, 0)).1)))) : Option ((Bool))) fun x44 =>
  bif x44 then
    (some (0, 0, ([] : List (Int × Int)), 1))
  else
    bif (decide (5000 < (((List.length l_1) : Nat) : Int))) then
      (some (0, 0, ([] : List (Int × Int)), 5))
    else
      grd (okIdx 0 ((List.length l_1))) <|
      grd (okKin ((Int.toNat 0)) ((List.length l_1))) <|
      Option.bind (
        Option.bind (m_granule_line std origin_1) fun b11 =>
        bif (!b11) then
          (some true)
        else
          grd (okI .i64 ((origin_1 + (List.getD l_1 (Int.toNat 0) (0, 0)).1))) <|
          Option.bind (m_granule_half std ((origin_1 + (List.getD l_1 (Int.toNat 0) (0, 0)).1))) fun b12 =>
          (some (!b12)) : Option ((Bool))) fun x48 =>
      bif x48 then
        (some (0, 0, ([] : List (Int × Int)), 2))
      else
        grd (okI .i64 ((origin_1 + (List.getD l_1 (Int.toNat 0) (0, 0)).1))) <|
        Option.bind (loop (m_granule_Of_L1 std l_1) (0, ([] : List (Int × Int)))) fun l11 =>
        Option.bind (m_granule_least std period_1 l11) fun n29 =>
        grd (okNz n29) <|
        grd (okI .i64 ((Int.tdiv (((List.length l11) : Nat) : Int) n29))) <|
        grd (okNz ((Int.tdiv (((List.length l11) : Nat) : Int) n29))) <|
        grd (okI .i64 ((Int.tdiv period_1 (Int.tdiv (((List.length l11) : Nat) : Int) n29)))) <|
        grd (okRng n29 ((List.length l11))) <|
        grd (okRng n29 ((Int.toNat n29))) <|
        (some ((origin_1 + (List.getD l_1 (Int.toNat 0) (0, 0)).1), (Int.tdiv period_1 (Int.tdiv (((List.length l11) : Nat) : Int) n29)), (List.take ((Int.toNat n29) - 0) (List.drop 0 l11)), 0))) : Option (Int × Int × List (Int × Int) × Int)) := rfl
theorem m_group_made_L1_eq (l_1 : List (Int × Int)) (x42 : Int) (l8 : List (Int × Int)) : m_group_made_L1 std l_1 (x42, l8) =
((bif (decide (x42 < (((List.length l_1) : Nat) : Int))) then
    grd (okIdx x42 ((List.length l_1))) <|
    grd (okKin ((Int.toNat x42)) ((List.length l_1))) <|
    grd (okI .i64 (((List.getD l_1 (Int.toNat x42) (0, 0)).1 - (List.getD l_1 (Int.toNat 0) (0, 0)).1))) <|
    grd (okI .i64 (((List.getD l_1 (Int.toNat x42) (0, 0)).2 - (List.getD l_1 (Int.toNat 0) (0, 0)).1))) <|
    grd (okRoom ((List.length l8))) <|
    grd (okRoom ((List.length [(((List.getD l_1 (Int.toNat x42) (0, 0)).1 - (List.getD l_1 (Int.toNat 0) (0, 0)).1), ((List.getD l_1 (Int.toNat x42) (0, 0)).2 - (List.getD l_1 (Int.toNat 0) (0, 0)).1))]))) <|
    grd (okI .i64 ((x42 + 1))) <|
    (some (Sum.inl ((x42 + 1), (l8 ++ [(((List.getD l_1 (Int.toNat x42) (0, 0)).1 - (List.getD l_1 (Int.toNat 0) (0, 0)).1), ((List.getD l_1 (Int.toNat x42) (0, 0)).2 - (List.getD l_1 (Int.toNat 0) (0, 0)).1))]))))
  else
    (some (Sum.inr l8))) : Option ((Int × List (Int × Int)) ⊕ (List (Int × Int)))) := rfl
theorem m_group_made_eq (period_1 : Int) (l_1 : List (Int × Int)) : m_group_made std period_1 l_1 =
((grd (okIdx 0 ((List.length l_1))) <|
  grd (okKin ((Int.toNat 0)) ((List.length l_1))) <|
  grd (okRng ((((List.length l_1) : Nat) : Int)) ((Int.toNat (((List.length l_1) : Nat) : Int)))) <|
  grd (okRng 0 ((Int.toNat (((List.length l_1) : Nat) : Int)))) <|
  grd (okRoom ((Int.toNat (((List.length l_1) : Nat) : Int)))) <|
  Option.bind (loop (m_group_made_L1 std l_1) (0, (List.replicate (Int.toNat 0) (0, 0)))) fun l9 =>
  Option.bind (m_granule_Of std ((List.getD l_1 (Int.toNat 0) (0, 0)).1) period_1 l9) fun (n30, n31, l12, n32) =>
  (some (n30, n31, l12, n32))) : Option (Int × Int × List (Int × Int) × Int)) := rfl
theorem m_group_collect_L1_eq (c_1 : Int) (c_2 : Int) (c_3 : Int) (c_4 : Int) (c_5 : List (Int × Int)) (n_1 : Int) (x40 : Int) (l4 : List (Int × Int)) : m_group_collect_L1 std c_1 c_2 c_3 c_4 c_5 n_1 (x40, l4) =
((bif (decide (x40 < n_1)) then
    Option.bind (m_group_Groups_1 std x40 c_1 c_2 c_3 c_4 c_5) fun (n27, n28, b9) =>
    Option.bind (
      bif b9 then
        grd (okRoom ((List.length l4))) <|
        grd (okRoom ((List.length [(n27, n28)]))) <|
        (some (l4 ++ [(n27, n28)]))
      else
        (some l4) : Option ((List (Int × Int)))) fun l6 =>
    grd (okI .i64 ((x40 + 1))) <|
    (some (Sum.inl ((x40 + 1), l6)))
  else
    (some (Sum.inr l4))) : Option ((Int × List (Int × Int)) ⊕ (List (Int × Int)))) := rfl
theorem m_group_collect_eq (period_1 : Int) (n_1 : Int) (c_1 : Int) (c_2 : Int) (c_3 : Int) (c_4 : Int) (c_5 : List (Int × Int)) : m_group_collect std period_1 n_1 c_1 c_2 c_3 c_4 c_5 =
((Option.bind (loop (m_group_collect_L1 std c_1 c_2 c_3 c_4 c_5 n_1) (0, ([] : List (Int × Int)))) fun l7 =>
  bif ((((List.length l7) : Nat) : Int) == 0) then
    (some (0, 0, ([] : List (Int × Int)), 7))
  else
    Option.bind (m_group_made std period_1 l7) fun (n33, n34, l13, n35) =>
    (some (n33, n34, l13, n35))) : Option (Int × Int × List (Int × Int) × Int)) := rfl
theorem m_group_Groups_eq (c_1 : Int) (c_2 : Int) (first_1 : Int) (m_1 : Int) (c_3 : List (Int × Int)) : m_group_Groups std c_1 c_2 first_1 m_1 c_3 =
((Option.bind (
    Option.bind (m_granule_Valid std c_1 c_2 c_3) fun b6 =>
    bif (!b6) then
      (some true)
    else
      bif (decide (m_1 < 1)) then
        (some true)
      else
        bif (decide (12622780800 < m_1)) then
          (some true)
        else
          bif (decide (first_1 < (-268435456))) then
            (some true)
          else
            (some (decide (268435456 < first_1))) : Option ((Bool))) fun x20 =>
  bif x20 then
    (some (0, 0, ([] : List (Int × Int)), 1))
  else
    Option.bind (m_group_blocks std c_1 c_2 m_1 c_3) fun (n10, n11, n12) =>
    Option.bind (
      bif (!(n12 == 0)) then
        (some (Sum.inl n12))
      else
        bif (decide (5000 < n11)) then
          (some (Sum.inl 5))
        else
          (some (Sum.inr ())) : Option (((Int) ⊕ (Unit)))) fun e => match e with
    | .inl x32 =>
      (some (0, 0, ([] : List (Int × Int)), x32))
    | .inr (_) =>
      Option.bind (m_group_collect std n10 n11 c_1 c_2 first_1 m_1 c_3) fun (n36, n37, l14, n38) =>
      (some (n36, n37, l14, n38))) : Option (Int × Int × List (Int × Int) × Int)) := rfl
theorem m_group_Custom_1_eq (n_1 : Int) : m_group_Custom_1 std n_1 =
((Option.bind (
    bif (decide (n_1 < 1)) then
      (some true)
    else
      (some (decide (12622780800 < n_1))) : Option ((Bool))) fun x60 =>
  (some x60)) : Option (Bool)) := rfl
theorem m_slices_IndexFunc_L1_eq (s_1 : List Int) (x58 : Int) : m_slices_IndexFunc_L1 std s_1 x58 =
((bif (decide (x58 < (((List.length s_1) : Nat) : Int))) then
    grd (okIdx x58 ((List.length s_1))) <|
    grd (okKin ((Int.toNat x58)) ((List.length s_1))) <|
    Option.bind (m_group_Custom_1 std ((List.getD s_1 (Int.toNat x58) 0))) fun b13 =>
    bif b13 then
      (some (Sum.inr (Sum.inl x58)))
    else
      grd (okI .i64 ((x58 + 1))) <|
      (some (Sum.inl (x58 + 1)))
  else
    (some (Sum.inr (Sum.inr ())))) : Option ((Int) ⊕ ((Int) ⊕ (Unit)))) := rfl
theorem m_slices_IndexFunc_eq (s_1 : List Int) : m_slices_IndexFunc std s_1 =
((Option.bind (loop (m_slices_IndexFunc_L1 std s_1) 0) fun e => match e with
  | .inl x61 =>
    (some x61)
  | .inr (_) =>
    (some (-1))) : Option (Int)) := rfl
theorem m_slices_ContainsFunc_eq (s_1 : List Int) : m_slices_ContainsFunc std s_1 =
((Option.bind (m_slices_IndexFunc std s_1) fun n42 =>
  (some (decide (0 ≤ n42)))) : Option (Bool)) := rfl
theorem m_group_Custom_L1_eq (lengths_1 : List Int) (sum2 : Int) (x65 : Int) (l18 : List (Int × Int)) : m_group_Custom_L1 std lengths_1 (sum2, x65, l18) =
((bif (decide (x65 < (((List.length lengths_1) : Nat) : Int))) then
    grd (okIdx x65 ((List.length lengths_1))) <|
    grd (okKin ((Int.toNat x65)) ((List.length lengths_1))) <|
    grd (okI .i64 ((sum2 + (List.getD lengths_1 (Int.toNat x65) 0)))) <|
    grd (okRoom ((List.length l18))) <|
    grd (okRoom ((List.length [(sum2, (sum2 + (List.getD lengths_1 (Int.toNat x65) 0)))]))) <|
    grd (okI .i64 ((x65 + 1))) <|
    (some (Sum.inl ((sum2 + (List.getD lengths_1 (Int.toNat x65) 0)), (x65 + 1), (l18 ++ [(sum2, (sum2 + (List.getD lengths_1 (Int.toNat x65) 0)))]))))
  else
    (some (Sum.inr (sum2, l18)))) : Option ((Int × Int × List (Int × Int)) ⊕ (Int × List (Int × Int)))) := rfl
theorem m_group_Custom_eq (origin_1 : Int) (lengths_1 : List Int) : m_group_Custom std origin_1 lengths_1 =
((Option.bind (
    bif ((((List.length lengths_1) : Nat) : Int) == 0) then
      (some true)
    else
      Option.bind (m_slices_ContainsFunc std lengths_1) fun b14 =>
      (some b14) : Option ((Bool))) fun x63 =>
  bif x63 then
    (some (0, 0, ([] : List (Int × Int)), 1))
  else
    bif (decide (5000 < (((List.length lengths_1) : Nat) : Int))) then
      (some (0, 0, ([] : List (Int × Int)), 5))
    else
      Option.bind (loop (m_group_Custom_L1 std lengths_1) (0, 0, ([] : List (Int × Int)))) fun (sum3, l19) =>
      bif (decide (12622780800 < sum3)) then
        (some (0, 0, ([] : List (Int × Int)), 9))
      else
        Option.bind (m_granule_Of std origin_1 sum3 l19) fun (n43, n44, l20, n45) =>
        (some (n43, n44, l20, n45))) : Option (Int × Int × List (Int × Int) × Int)) := rfl
theorem m_group_Fiscal_L1_eq (pattern_1 : List Int) (x55 : Int) (l16 : List Int) : m_group_Fiscal_L1 std pattern_1 (x55, l16) =
((bif (decide (x55 < (((List.length pattern_1) : Nat) : Int))) then
    grd (okIdx x55 ((List.length pattern_1))) <|
    grd (okKin ((Int.toNat x55)) ((List.length pattern_1))) <|
    Option.bind (
      bif (decide ((List.getD pattern_1 (Int.toNat x55) 0) < 1)) then
        (some true)
      else
        (some (decide (60 < (List.getD pattern_1 (Int.toNat x55) 0)))) : Option ((Bool))) fun x57 =>
    bif x57 then
      (some (Sum.inr (Sum.inl ())))
    else
      grd (okI .i64 ((7 * (List.getD pattern_1 (Int.toNat x55) 0)))) <|
      grd (okRoom ((List.length l16))) <|
      grd (okRoom ((List.length [(7 * (List.getD pattern_1 (Int.toNat x55) 0))]))) <|
      grd (okI .i64 ((x55 + 1))) <|
      (some (Sum.inl ((x55 + 1), (l16 ++ [(7 * (List.getD pattern_1 (Int.toNat x55) 0))]))))
  else
    (some (Sum.inr (Sum.inr l16)))) : Option ((Int × List Int) ⊕ ((Unit) ⊕ (List Int)))) := rfl
theorem m_group_Fiscal_eq (origin_1 : Int) (pattern_1 : List Int) : m_group_Fiscal std origin_1 pattern_1 =
((Option.bind (loop (m_group_Fiscal_L1 std pattern_1) (0, ([] : List Int))) fun e => match e with
  | .inl _ =>
    (some (0, 0, ([] : List (Int × Int)), 1))
  | .inr (l17) =>
    Option.bind (m_group_Custom std origin_1 l17) fun (n46, n47, l21, n48) =>
    (some (n46, n47, l21, n48))) : Option (Int × Int × List (Int × Int) × Int)) := rfl
theorem m_ref12_Same_L1_eq (a_1 : List (Int × Int)) (b_1 : List (Int × Int)) (i2 : Int) : m_ref12_Same_L1 std a_1 b_1 i2 =
((bif (decide (i2 < (((List.length a_1) : Nat) : Int))) then
    Option.bind (
      bif (!((List.getD a_1 (Int.toNat i2) (0, 0)).1 == (List.getD b_1 (Int.toNat i2) (0, 0)).1)) then
        grd (okIdx i2 ((List.length a_1))) <|
        grd (okKin ((Int.toNat i2)) ((List.length a_1))) <|
        grd (okIdx i2 ((List.length b_1))) <|
        grd (okKin ((Int.toNat i2)) ((List.length b_1))) <|
        (some true)
      else
        grd (okIdx i2 ((List.length a_1))) <|
        grd (okKin ((Int.toNat i2)) ((List.length a_1))) <|
        grd (okIdx i2 ((List.length b_1))) <|
        grd (okKin ((Int.toNat i2)) ((List.length b_1))) <|
        (some (!((List.getD a_1 (Int.toNat i2) (0, 0)).2 == (List.getD b_1 (Int.toNat i2) (0, 0)).2))) : Option ((Bool))) fun x67 =>
    bif x67 then
      (some (Sum.inr (Sum.inl ())))
    else
      grd (okI .i64 ((i2 + 1))) <|
      (some (Sum.inl (i2 + 1)))
  else
    (some (Sum.inr (Sum.inr ())))) : Option ((Int) ⊕ ((Unit) ⊕ (Unit)))) := rfl
theorem m_ref12_Same_eq (a_1 : List (Int × Int)) (b_1 : List (Int × Int)) : m_ref12_Same std a_1 b_1 =
((bif (!((((List.length a_1) : Nat) : Int) == (((List.length b_1) : Nat) : Int))) then
    (some false)
  else
    Option.bind (loop (m_ref12_Same_L1 std a_1 b_1) 0) fun e => match e with
    | .inl _ =>
      (some false)
    | .inr (_) =>
      (some true)) : Option (Bool)) := rfl
theorem m_ref16_Same_eq (a_1 : Int) (a_2 : Int) (b_1 : Int) (b_2 : Int) (a_3 : List (Int × Int)) (b_3 : List (Int × Int)) : m_ref16_Same std a_1 a_2 b_1 b_2 a_3 b_3 =
((Option.bind (
    bif (a_1 == b_1) then
      bif (a_2 == b_2) then
        Option.bind (m_ref12_Same std a_3 b_3) fun b15 =>
        (some b15)
      else
        (some false)
    else
      (some false) : Option ((Bool))) fun x70 =>
  (some x70)) : Option (Bool)) := rfl
theorem m_slices_Equal_L1_eq (s1_1 : List (Int × Int)) (s2_1 : List (Int × Int)) (x71 : Int) : m_slices_Equal_L1 std s1_1 s2_1 x71 =
((bif (decide (x71 < (((List.length s1_1) : Nat) : Int))) then
    grd (okIdx x71 ((List.length s1_1))) <|
    grd (okKin ((Int.toNat x71)) ((List.length s1_1))) <|
    grd (okIdx x71 ((List.length s2_1))) <|
    grd (okKin ((Int.toNat x71)) ((List.length s2_1))) <|
    bif (!(((List.getD s1_1 (Int.toNat x71) (0, 0)).1 == (List.getD s2_1 (Int.toNat x71) (0, 0)).1) && ((List.getD s1_1 (Int.toNat x71) (0, 0)).2 == (List.getD s2_1 (Int.toNat x71) (0, 0)).2))) then
      (some (Sum.inr (Sum.inl ())))
    else
      grd (okI .i64 ((x71 + 1))) <|
      (some (Sum.inl (x71 + 1)))
  else
    (some (Sum.inr (Sum.inr ())))) : Option ((Int) ⊕ ((Unit) ⊕ (Unit)))) := rfl
theorem m_slices_Equal_eq (s1_1 : List (Int × Int)) (s2_1 : List (Int × Int)) : m_slices_Equal std s1_1 s2_1 =
((bif (!((((List.length s1_1) : Nat) : Int) == (((List.length s2_1) : Nat) : Int))) then
    (some false)
  else
    Option.bind (loop (m_slices_Equal_L1 std s1_1 s2_1) 0) fun e => match e with
    | .inl _ =>
      (some false)
    | .inr (_) =>
      (some true)) : Option (Bool)) := rfl
theorem m_law16_awake_eq : m_law16_awake std =
((Option.bind (m_law16_days std) fun (n1, n2, l1) =>
  Option.bind (m_group_Groups std n1 n2 4 7 l1) fun (n39, n40, l15, n41) =>
  Option.bind (m_group_Fiscal std 0 ([4, 4, 5])) fun (_, n50, l22, n51) =>
  Option.bind (
    bif (n41 == 0) then
      Option.bind (m_ref16_Same std n39 n40 4 7 l15 ([(0, 7)])) fun b16 =>
      bif b16 then
        bif (n51 == 0) then
          bif (n50 == 91) then
            Option.bind (m_slices_Equal std l22 ([(0, 28), (28, 56), (56, 91)])) fun b17 =>
            (some b17)
          else
            (some false)
        else
          (some false)
      else
        (some false)
    else
      (some false) : Option ((Bool))) fun x76 =>
  (some x76)) : Option (Bool)) := rfl
theorem m_law16_great_1_eq (c_1 : Int) (c_2 : Int) (c_3 : List (Int × Int)) : m_law16_great_1 std c_1 c_2 c_3 =
(((some (decide (40 < (((List.length c_3) : Nat) : Int))))) : Option (Bool)) := rfl
theorem m_slices_IndexFunc_2_eq (s_1 : Int) (s_2 : Int) (s_3 : List (Int × Int)) : m_slices_IndexFunc_2 std s_1 s_2 s_3 =
((Option.bind (m_law16_great_1 std s_1 s_2 s_3) fun b19 =>
  bif b19 then
    (some 0)
  else
    grd (okI .i64 ((0 + 1))) <|
    (some (-1))) : Option (Int)) := rfl
theorem m_slices_ContainsFunc_2_eq (s_1 : Int) (s_2 : Int) (s_3 : List (Int × Int)) : m_slices_ContainsFunc_2 std s_1 s_2 s_3 =
((Option.bind (m_slices_IndexFunc_2 std s_1 s_2 s_3) fun n52 =>
  (some (decide (0 ≤ n52)))) : Option (Bool)) := rfl
theorem m_law16_great_eq (l_1 : Int) (l_2 : Int) (l_3 : List (Int × Int)) : m_law16_great std l_1 l_2 l_3 =
((Option.bind (m_slices_ContainsFunc_2 std l_1 l_2 l_3) fun b20 =>
  (some b20)) : Option (Bool)) := rfl
theorem m_runs_Valid_L1_eq (l_1 : List (Int × Int)) (x79 : Int) : m_runs_Valid_L1 std l_1 x79 =
((bif (decide (x79 < (((List.length l_1) : Nat) : Int))) then
    grd (okIdx x79 ((List.length l_1))) <|
    grd (okKin ((Int.toNat x79)) ((List.length l_1))) <|
    Option.bind (
      Option.bind (m_interval_Valid std ((List.getD l_1 (Int.toNat x79) (0, 0)).1) ((List.getD l_1 (Int.toNat x79) (0, 0)).2)) fun b23 =>
      bif (!b23) then
        (some true)
      else
        bif (decide (0 < x79)) then
          grd (okI .i64 ((x79 - 1))) <|
          grd (okIdx ((x79 - 1)) ((List.length l_1))) <|
          grd (okKin ((Int.toNat (x79 - 1))) ((List.length l_1))) <|
          (some (decide ((List.getD l_1 (Int.toNat x79) (0, 0)).1 ≤ (List.getD l_1 (Int.toNat (x79 - 1)) (0, 0)).2)))
        else
          (some false) : Option ((Bool))) fun x82 =>
    bif x82 then
      (some (Sum.inr (Sum.inl ())))
    else
      grd (okI .i64 ((x79 + 1))) <|
      (some (Sum.inl (x79 + 1)))
  else
    (some (Sum.inr (Sum.inr ())))) : Option ((Int) ⊕ ((Unit) ⊕ (Unit)))) := rfl
theorem m_runs_Valid_eq (l_1 : List (Int × Int)) : m_runs_Valid std l_1 =
((bif (decide (2000 < (((List.length l_1) : Nat) : Int))) then
    (some false)
  else
    Option.bind (loop (m_runs_Valid_L1 std l_1) 0) fun e => match e with
    | .inl _ =>
      (some false)
    | .inr (_) =>
      (some true)) : Option (Bool)) := rfl
theorem m_periodic_inside_eq (period_1 : Int) (l_1 : List (Int × Int)) : m_periodic_inside std period_1 l_1 =
((Option.bind (
    Option.bind (m_runs_Valid std l_1) fun b24 =>
    bif b24 then
      bif ((((List.length l_1) : Nat) : Int) == 0) then
        (some true)
      else
        bif (decide (0 ≤ (List.getD l_1 (Int.toNat 0) (0, 0)).1)) then
          grd (okIdx 0 ((List.length l_1))) <|
          grd (okKin ((Int.toNat 0)) ((List.length l_1))) <|
          grd (okI .i64 (((((List.length l_1) : Nat) : Int) - 1))) <|
          grd (okIdx (((((List.length l_1) : Nat) : Int) - 1)) ((List.length l_1))) <|
          grd (okKin ((Int.toNat ((((List.length l_1) : Nat) : Int) - 1))) ((List.length l_1))) <|
          (some (decide ((List.getD l_1 (Int.toNat ((((List.length l_1) : Nat) : Int) - 1)) (0, 0)).2 ≤ period_1)))
        else
          grd (okIdx 0 ((List.length l_1))) <|
          grd (okKin ((Int.toNat 0)) ((List.length l_1))) <|
          (some false)
    else
      (some false) : Option ((Bool))) fun x86 =>
  (some x86)) : Option (Bool)) := rfl
theorem m_periodic_repeats_L1_eq (l_1 : List (Int × Int)) (period_1 : Int) (x90 : Int) (l29 : List Int) : m_periodic_repeats_L1 std l_1 period_1 (x90, l29) =
((bif (decide (x90 < (((List.length l_1) : Nat) : Int))) then
    grd (okIdx x90 ((List.length l_1))) <|
    grd (okKin ((Int.toNat x90)) ((List.length l_1))) <|
    Option.bind (
      bif (decide (0 < (List.getD l_1 (Int.toNat x90) (0, 0)).1)) then
        (some true)
      else
        grd (okI .i64 (((((List.length l_1) : Nat) : Int) - 1))) <|
        grd (okIdx (((((List.length l_1) : Nat) : Int) - 1)) ((List.length l_1))) <|
        grd (okKin ((Int.toNat ((((List.length l_1) : Nat) : Int) - 1))) ((List.length l_1))) <|
        (some (decide ((List.getD l_1 (Int.toNat ((((List.length l_1) : Nat) : Int) - 1)) (0, 0)).2 < period_1))) : Option ((Bool))) fun x92 =>
    Option.bind (
      bif x92 then
        grd (okRoom ((List.length l29))) <|
        grd (okRoom ((List.length [(List.getD l_1 (Int.toNat x90) (0, 0)).1]))) <|
        (some (l29 ++ [(List.getD l_1 (Int.toNat x90) (0, 0)).1]))
      else
        (some l29) : Option ((List Int))) fun l31 =>
    Option.bind (
      bif (decide ((List.getD l_1 (Int.toNat x90) (0, 0)).2 < period_1)) then
        grd (okRoom ((List.length l31))) <|
        grd (okRoom ((List.length [(List.getD l_1 (Int.toNat x90) (0, 0)).2]))) <|
        (some (l31 ++ [(List.getD l_1 (Int.toNat x90) (0, 0)).2]))
      else
        grd (okIdx 0 ((List.length l_1))) <|
        grd (okKin ((Int.toNat 0)) ((List.length l_1))) <|
        Option.bind (
          bif (decide (0 < (List.getD l_1 (Int.toNat 0) (0, 0)).1)) then
            grd (okRoom ((List.length l31))) <|
            grd (okRoom ((List.length [0]))) <|
            (some (l31 ++ [0]))
          else
            (some l31) : Option ((List Int))) fun l33 =>
        (some l33) : Option ((List Int))) fun l35 =>
    grd (okI .i64 ((x90 + 1))) <|
    (some (Sum.inl ((x90 + 1), l35)))
  else
    (some (Sum.inr l29))) : Option ((Int × List Int) ⊕ (List Int))) := rfl
theorem m_periodic_repeats_L2_eq (l37 : List Int) (period_1 : Int) (q_1 : Int) (x93 : Int) : m_periodic_repeats_L2 std l37 period_1 q_1 x93 =
((bif (decide (x93 < (((List.length l37) : Nat) : Int))) then
    grd (okIdx x93 ((List.length l37))) <|
    grd (okKin ((Int.toNat x93)) ((List.length l37))) <|
    grd (okI .i64 (((List.getD l37 (Int.toNat x93) 0) + q_1))) <|
    Option.bind (
      bif (decide (period_1 ≤ ((List.getD l37 (Int.toNat x93) 0) + q_1))) then
        grd (okI .i64 ((((List.getD l37 (Int.toNat x93) 0) + q_1) - period_1))) <|
        (some (((List.getD l37 (Int.toNat x93) 0) + q_1) - period_1))
      else
        (some ((List.getD l37 (Int.toNat x93) 0) + q_1)) : Option ((Int))) fun y3 =>
    grd (okI .i64 ((x93 + (Int.tdiv ((((List.length l37) : Nat) : Int) * q_1) period_1)))) <|
    grd (okNz ((((List.length l37) : Nat) : Int))) <|
    grd (okIdx ((Int.tmod (x93 + (Int.tdiv ((((List.length l37) : Nat) : Int) * q_1) period_1)) (((List.length l37) : Nat) : Int))) ((List.length l37))) <|
    grd (okKin ((Int.toNat (Int.tmod (x93 + (Int.tdiv ((((List.length l37) : Nat) : Int) * q_1) period_1)) (((List.length l37) : Nat) : Int)))) ((List.length l37))) <|
    bif (!((List.getD l37 (Int.toNat (Int.tmod (x93 + (Int.tdiv ((((List.length l37) : Nat) : Int) * q_1) period_1)) (((List.length l37) : Nat) : Int))) 0) == y3)) then
      (some (Sum.inr (Sum.inl ())))
    else
      grd (okI .i64 ((x93 + 1))) <|
      (some (Sum.inl (x93 + 1)))
  else
    (some (Sum.inr (Sum.inr ())))) : Option ((Int) ⊕ ((Unit) ⊕ (Unit)))) := rfl
theorem m_periodic_repeats_eq (period_1 : Int) (q_1 : Int) (l_1 : List (Int × Int)) : m_periodic_repeats std period_1 q_1 l_1 =
((Option.bind (loop (m_periodic_repeats_L1 std l_1 period_1) (0, ([] : List Int))) fun l36 =>
  Option.bind (m_sortI std l36) fun l37 =>
  bif ((((List.length l37) : Nat) : Int) == 0) then
    (some true)
  else
    grd (okI .i64 (((((List.length l37) : Nat) : Int) * q_1))) <|
    grd (okNz period_1) <|
    grd (okI .i64 ((Int.tdiv ((((List.length l37) : Nat) : Int) * q_1) period_1))) <|
    grd (okI .i64 (((Int.tdiv ((((List.length l37) : Nat) : Int) * q_1) period_1) * period_1))) <|
    bif (!(((Int.tdiv ((((List.length l37) : Nat) : Int) * q_1) period_1) * period_1) == ((((List.length l37) : Nat) : Int) * q_1))) then
      (some false)
    else
      grd (okNz 2) <|
      bif (!((Int.tmod (Int.tdiv ((((List.length l37) : Nat) : Int) * q_1) period_1) 2) == 0)) then
        (some false)
      else
        Option.bind (loop (m_periodic_repeats_L2 std l37 period_1 q_1) 0) fun e => match e with
        | .inl _ =>
          (some false)
        | .inr (_) =>
          (some true)) : Option (Bool)) := rfl
theorem m_periodic_least_L1_eq (l_1 : List (Int × Int)) (period_1 : Int) (best1 : Int) (q3 : Int) : m_periodic_least_L1 std l_1 period_1 (best1, q3) =
((grd (okNz q3) <|
  grd (okI .i64 ((Int.tdiv period_1 q3))) <|
  bif (decide (q3 ≤ (Int.tdiv period_1 q3))) then
    bif (!((Int.tmod period_1 q3) == 0)) then
      grd (okI .i64 ((q3 + 1))) <|
      (some (Sum.inl (best1, (q3 + 1))))
    else
      Option.bind (m_periodic_repeats std period_1 q3 l_1) fun b26 =>
      bif b26 then
        (some (Sum.inr q3))
      else
        Option.bind (m_periodic_repeats std period_1 ((Int.tdiv period_1 q3)) l_1) fun b27 =>
        Option.bind (
          bif b27 then
            (some (Int.tdiv period_1 q3))
          else
            (some best1) : Option ((Int))) fun best3 =>
        grd (okI .i64 ((q3 + 1))) <|
        (some (Sum.inl (best3, (q3 + 1))))
  else
    (some (Sum.inr best1))) : Option ((Int × Int) ⊕ (Int))) := rfl
theorem m_periodic_least_L2_eq (best5 : Int) (l_1 : List (Int × Int)) (x95 : Int) (l40 : List (Int × Int)) : m_periodic_least_L2 std best5 l_1 (x95, l40) =
((bif (decide (x95 < (((List.length l_1) : Nat) : Int))) then
    grd (okIdx x95 ((List.length l_1))) <|
    grd (okKin ((Int.toNat x95)) ((List.length l_1))) <|
    Option.bind (
      bif (decide ((List.getD l_1 (Int.toNat x95) (0, 0)).1 < best5)) then
        grd (okRoom ((List.length l40))) <|
        grd (okRoom ((List.length [((List.getD l_1 (Int.toNat x95) (0, 0)).1, (mi (List.getD l_1 (Int.toNat x95) (0, 0)).2 best5))]))) <|
        (some (l40 ++ [((List.getD l_1 (Int.toNat x95) (0, 0)).1, (mi (List.getD l_1 (Int.toNat x95) (0, 0)).2 best5))]))
      else
        (some l40) : Option ((List (Int × Int)))) fun l42 =>
    grd (okI .i64 ((x95 + 1))) <|
    (some (Sum.inl ((x95 + 1), l42)))
  else
    (some (Sum.inr l40))) : Option ((Int × List (Int × Int)) ⊕ (List (Int × Int)))) := rfl
theorem m_periodic_least_eq (period_1 : Int) (l_1 : List (Int × Int)) : m_periodic_least std period_1 l_1 =
((Option.bind (loop (m_periodic_least_L1 std l_1 period_1) (period_1, 1)) fun best5 =>
  Option.bind (loop (m_periodic_least_L2 std best5 l_1) (0, ([] : List (Int × Int)))) fun l43 =>
  (some (best5, l43))) : Option (Int × List (Int × Int))) := rfl
theorem m_periodic_Valid_eq (p_1 : Int) (p_2 : List (Int × Int)) : m_periodic_Valid std p_1 p_2 =
((Option.bind (
    bif (decide (1 ≤ p_1)) then
      bif (decide (p_1 ≤ 12622780800)) then
        Option.bind (m_periodic_inside std p_1 p_2) fun b25 =>
        bif b25 then
          Option.bind (m_periodic_least std p_1 p_2) fun (n53, _) =>
          (some (n53 == p_1))
        else
          (some false)
      else
        (some false)
    else
      (some false) : Option ((Bool))) fun x99 =>
  (some x99)) : Option (Bool)) := rfl
theorem m_integer_Lcm_eq (a_1 : Int) (b_1 : Int) : m_integer_Lcm std a_1 b_1 =
((Option.bind (
    bif (decide (a_1 < 1)) then
      (some true)
    else
      (some (decide (b_1 < 1))) : Option ((Bool))) fun x103 =>
  bif x103 then
    (some (0, 2))
  else
    Option.bind (m_integer_Gcd std a_1 b_1) fun n54 =>
    grd (okNz n54) <|
    grd (okI .i64 ((Int.tdiv b_1 n54))) <|
    Option.bind (m_integer_Mul std a_1 ((Int.tdiv b_1 n54))) fun (n55, n56) =>
    (some (n55, n56))) : Option (Int × Int)) := rfl
theorem m_group_common_eq (a_1 : Int) (b_1 : Int) : m_group_common std a_1 b_1 =
((Option.bind (m_integer_Lcm std a_1 b_1) fun (n57, n58) =>
  Option.bind (
    bif (!(n58 == 0)) then
      (some true)
    else
      (some (decide (12622780800 < n57))) : Option ((Bool))) fun x105 =>
  bif x105 then
    (some (0, 9))
  else
    (some (n57, 0))) : Option (Int × Int)) := rfl
theorem m_runs_Measure_L1_eq (a_1 : List (Int × Int)) (n66 : Int) (x109 : Int) : m_runs_Measure_L1 std a_1 (n66, x109) =
((bif (decide (x109 < (((List.length a_1) : Nat) : Int))) then
    grd (okIdx x109 ((List.length a_1))) <|
    grd (okKin ((Int.toNat x109)) ((List.length a_1))) <|
    grd (okI .i64 (((List.getD a_1 (Int.toNat x109) (0, 0)).2 - (List.getD a_1 (Int.toNat x109) (0, 0)).1))) <|
    grd (okI .i64 ((n66 + ((List.getD a_1 (Int.toNat x109) (0, 0)).2 - (List.getD a_1 (Int.toNat x109) (0, 0)).1)))) <|
    grd (okI .i64 ((x109 + 1))) <|
    (some (Sum.inl ((n66 + ((List.getD a_1 (Int.toNat x109) (0, 0)).2 - (List.getD a_1 (Int.toNat x109) (0, 0)).1)), (x109 + 1))))
  else
    (some (Sum.inr n66))) : Option ((Int × Int) ⊕ (Int))) := rfl
theorem m_runs_Measure_eq (a_1 : List (Int × Int)) : m_runs_Measure std a_1 =
((Option.bind (m_runs_Valid std a_1) fun b31 =>
  bif (!b31) then
    (some 0)
  else
    Option.bind (loop (m_runs_Measure_L1 std a_1) (0, 0)) fun n67 =>
    (some n67)) : Option (Int)) := rfl
theorem m_runs_Rank_L1_eq (a_1 : List (Int × Int)) (x_1 : Int) (n69 : Int) (x110 : Int) : m_runs_Rank_L1 std a_1 x_1 (n69, x110) =
((bif (decide (x110 < (((List.length a_1) : Nat) : Int))) then
    grd (okIdx x110 ((List.length a_1))) <|
    grd (okKin ((Int.toNat x110)) ((List.length a_1))) <|
    Option.bind (
      bif (decide ((List.getD a_1 (Int.toNat x110) (0, 0)).1 < x_1)) then
        grd (okI .i64 (((mi (List.getD a_1 (Int.toNat x110) (0, 0)).2 x_1) - (List.getD a_1 (Int.toNat x110) (0, 0)).1))) <|
        grd (okI .i64 ((n69 + ((mi (List.getD a_1 (Int.toNat x110) (0, 0)).2 x_1) - (List.getD a_1 (Int.toNat x110) (0, 0)).1)))) <|
        (some (n69 + ((mi (List.getD a_1 (Int.toNat x110) (0, 0)).2 x_1) - (List.getD a_1 (Int.toNat x110) (0, 0)).1)))
      else
        (some n69) : Option ((Int))) fun n71 =>
    grd (okI .i64 ((x110 + 1))) <|
    (some (Sum.inl (n71, (x110 + 1))))
  else
    (some (Sum.inr n69))) : Option ((Int × Int) ⊕ (Int))) := rfl
theorem m_runs_Rank_eq (x_1 : Int) (a_1 : List (Int × Int)) : m_runs_Rank std x_1 a_1 =
((Option.bind (m_runs_Valid std a_1) fun b32 =>
  bif (!b32) then
    (some 0)
  else
    Option.bind (loop (m_runs_Rank_L1 std a_1 x_1) (0, 0)) fun n72 =>
    (some n72)) : Option (Int)) := rfl
theorem m_periodic_below_eq (p_1 : Int) (x_1 : Int) (p_2 : List (Int × Int)) : m_periodic_below std p_1 x_1 p_2 =
((Option.bind (m_integer_Div std x_1 p_1) fun (n63, n64, _) =>
  Option.bind (m_runs_Measure std p_2) fun n68 =>
  grd (okI .i64 ((n63 * n68))) <|
  Option.bind (m_runs_Rank std n64 p_2) fun n73 =>
  grd (okI .i64 (((n63 * n68) + n73))) <|
  (some ((n63 * n68) + n73))) : Option (Int)) := rfl
theorem m_periodic_Count_eq (p_1 : Int) (in_1 : Int) (in_2 : Int) (p_2 : List (Int × Int)) : m_periodic_Count std p_1 in_1 in_2 p_2 =
((Option.bind (
    Option.bind (m_periodic_Valid std p_1 p_2) fun b29 =>
    bif (!b29) then
      (some true)
    else
      Option.bind (m_interval_Valid std in_1 in_2) fun b30 =>
      (some (!b30)) : Option ((Bool))) fun x108 =>
  bif x108 then
    (some (0, 1))
  else
    Option.bind (m_periodic_below std p_1 in_2 p_2) fun n74 =>
    Option.bind (m_periodic_below std p_1 in_1 p_2) fun n75 =>
    grd (okI .i64 ((n74 - n75))) <|
    (some ((n74 - n75), 0))) : Option (Int × Int)) := rfl
theorem m_group_Restrict_1_eq (k_1 : Int) (x_1 : Int) (x_2 : Int) (x_3 : Int) (x_4 : List (Int × Int)) (x_5 : List (Int × Int)) : m_group_Restrict_1 std k_1 x_1 x_2 x_3 x_4 x_5 =
((Option.bind (m_group_at std x_1 x_2 k_1 x_4) fun (n61, n62) =>
  Option.bind (m_periodic_Count std x_3 n61 n62 x_5) fun (n76, n77) =>
  Option.bind (
    bif (n77 == 0) then
      grd (okI .i64 ((n62 - n61))) <|
      (some (n76 == (n62 - n61)))
    else
      (some false) : Option ((Bool))) fun x112 =>
  (some (n61, n62, x112))) : Option (Int × Int × Bool)) := rfl
theorem m_group_collect_2_L1_eq (c_1 : Int) (c_2 : Int) (c_3 : Int) (c_4 : List (Int × Int)) (c_5 : List (Int × Int)) (n_1 : Int) (x113 : Int) (l47 : List (Int × Int)) : m_group_collect_2_L1 std c_1 c_2 c_3 c_4 c_5 n_1 (x113, l47) =
((bif (decide (x113 < n_1)) then
    Option.bind (m_group_Restrict_1 std x113 c_1 c_2 c_3 c_4 c_5) fun (n80, n81, b34) =>
    Option.bind (
      bif b34 then
        grd (okRoom ((List.length l47))) <|
        grd (okRoom ((List.length [(n80, n81)]))) <|
        (some (l47 ++ [(n80, n81)]))
      else
        (some l47) : Option ((List (Int × Int)))) fun l49 =>
    grd (okI .i64 ((x113 + 1))) <|
    (some (Sum.inl ((x113 + 1), l49)))
  else
    (some (Sum.inr l47))) : Option ((Int × List (Int × Int)) ⊕ (List (Int × Int)))) := rfl
theorem m_group_collect_2_eq (period_1 : Int) (n_1 : Int) (c_1 : Int) (c_2 : Int) (c_3 : Int) (c_4 : List (Int × Int)) (c_5 : List (Int × Int)) : m_group_collect_2 std period_1 n_1 c_1 c_2 c_3 c_4 c_5 =
((Option.bind (loop (m_group_collect_2_L1 std c_1 c_2 c_3 c_4 c_5 n_1) (0, ([] : List (Int × Int)))) fun l50 =>
  bif ((((List.length l50) : Nat) : Int) == 0) then
    (some (0, 0, ([] : List (Int × Int)), 7))
  else
    Option.bind (m_group_made std period_1 l50) fun (n82, n83, l51, n84) =>
    (some (n82, n83, l51, n84))) : Option (Int × Int × List (Int × Int) × Int)) := rfl
theorem m_group_Restrict_eq (c_1 : Int) (c_2 : Int) (p_1 : Int) (c_3 : List (Int × Int)) (p_2 : List (Int × Int)) : m_group_Restrict std c_1 c_2 p_1 c_3 p_2 =
((Option.bind (
    Option.bind (m_granule_Valid std c_1 c_2 c_3) fun b22 =>
    bif (!b22) then
      (some true)
    else
      Option.bind (m_periodic_Valid std p_1 p_2) fun b28 =>
      (some (!b28)) : Option ((Bool))) fun x101 =>
  bif x101 then
    (some (0, 0, ([] : List (Int × Int)), 1))
  else
    Option.bind (m_group_common std c_2 p_1) fun (n59, n60) =>
    bif (!(n60 == 0)) then
      (some (0, 0, ([] : List (Int × Int)), n60))
    else
      grd (okNz c_2) <|
      grd (okI .i64 ((Int.tdiv n59 c_2))) <|
      grd (okI .i64 (((((List.length c_3) : Nat) : Int) * (Int.tdiv n59 c_2)))) <|
      bif (decide (5000 < ((((List.length c_3) : Nat) : Int) * (Int.tdiv n59 c_2)))) then
        (some (0, 0, ([] : List (Int × Int)), 5))
      else
        Option.bind (m_group_collect_2 std n59 (((((List.length c_3) : Nat) : Int) * (Int.tdiv n59 c_2))) c_1 c_2 p_1 c_3 p_2) fun (n85, n86, l52, n87) =>
        (some (n85, n86, l52, n87))) : Option (Int × Int × List (Int × Int) × Int)) := rfl
theorem m_ref16_repeats_L1_eq (d_1 : Int) (l_1 : List (Int × Int)) (part_1 : Int) (i4 : Int) : m_ref16_repeats_L1 std d_1 l_1 part_1 i4 =
((bif (decide (i4 < (((List.length l_1) : Nat) : Int))) then
    Option.bind (
      bif (!((List.getD l_1 (Int.toNat i4) (0, 0)).1 == ((List.getD l_1 (Int.toNat (i4 - d_1)) (0, 0)).1 + part_1))) then
        grd (okIdx i4 ((List.length l_1))) <|
        grd (okKin ((Int.toNat i4)) ((List.length l_1))) <|
        grd (okI .i64 ((i4 - d_1))) <|
        grd (okIdx ((i4 - d_1)) ((List.length l_1))) <|
        grd (okKin ((Int.toNat (i4 - d_1))) ((List.length l_1))) <|
        grd (okI .i64 (((List.getD l_1 (Int.toNat (i4 - d_1)) (0, 0)).1 + part_1))) <|
        (some true)
      else
        grd (okIdx i4 ((List.length l_1))) <|
        grd (okKin ((Int.toNat i4)) ((List.length l_1))) <|
        grd (okI .i64 ((i4 - d_1))) <|
        grd (okIdx ((i4 - d_1)) ((List.length l_1))) <|
        grd (okKin ((Int.toNat (i4 - d_1))) ((List.length l_1))) <|
        grd (okI .i64 (((List.getD l_1 (Int.toNat (i4 - d_1)) (0, 0)).1 + part_1))) <|
        grd (okI .i64 (((List.getD l_1 (Int.toNat (i4 - d_1)) (0, 0)).2 + part_1))) <|
        (some (!((List.getD l_1 (Int.toNat i4) (0, 0)).2 == ((List.getD l_1 (Int.toNat (i4 - d_1)) (0, 0)).2 + part_1)))) : Option ((Bool))) fun x120 =>
    bif x120 then
      (some (Sum.inr (Sum.inl ())))
    else
      grd (okI .i64 ((i4 + 1))) <|
      (some (Sum.inl (i4 + 1)))
  else
    (some (Sum.inr (Sum.inr ())))) : Option ((Int) ⊕ ((Unit) ⊕ (Unit)))) := rfl
theorem m_ref16_repeats_eq (part_1 : Int) (d_1 : Int) (l_1 : List (Int × Int)) : m_ref16_repeats std part_1 d_1 l_1 =
((Option.bind (loop (m_ref16_repeats_L1 std d_1 l_1 part_1) d_1) fun e => match e with
  | .inl _ =>
    (some false)
  | .inr (_) =>
    (some true)) : Option (Bool)) := rfl
theorem m_ref16_least_L1_eq (l_1 : List (Int × Int)) (period_1 : Int) (d1 : Int) : m_ref16_least_L1 std l_1 period_1 d1 =
((bif (decide (d1 < (((List.length l_1) : Nat) : Int))) then
    Option.bind (
      bif ((Int.tmod (((List.length l_1) : Nat) : Int) d1) == 0) then
        bif ((Int.tmod period_1 (Int.tdiv (((List.length l_1) : Nat) : Int) d1)) == 0) then
          grd (okNz d1) <|
          grd (okI .i64 ((Int.tdiv (((List.length l_1) : Nat) : Int) d1))) <|
          grd (okNz ((Int.tdiv (((List.length l_1) : Nat) : Int) d1))) <|
          grd (okI .i64 ((Int.tdiv period_1 (Int.tdiv (((List.length l_1) : Nat) : Int) d1)))) <|
          Option.bind (m_ref16_repeats std ((Int.tdiv period_1 (Int.tdiv (((List.length l_1) : Nat) : Int) d1))) d1 l_1) fun b35 =>
          (some b35)
        else
          grd (okNz d1) <|
          grd (okI .i64 ((Int.tdiv (((List.length l_1) : Nat) : Int) d1))) <|
          grd (okNz ((Int.tdiv (((List.length l_1) : Nat) : Int) d1))) <|
          (some false)
      else
        grd (okNz d1) <|
        (some false) : Option ((Bool))) fun x123 =>
    bif x123 then
      (some (Sum.inr (Sum.inl d1)))
    else
      grd (okI .i64 ((d1 + 1))) <|
      (some (Sum.inl (d1 + 1)))
  else
    (some (Sum.inr (Sum.inr ())))) : Option ((Int) ⊕ ((Int) ⊕ (Unit)))) := rfl
theorem m_ref16_least_eq (period_1 : Int) (l_1 : List (Int × Int)) : m_ref16_least std period_1 l_1 =
((Option.bind (loop (m_ref16_least_L1 std l_1 period_1) 1) fun e => match e with
  | .inl x124 =>
    (some x124)
  | .inr (_) =>
    (some (((List.length l_1) : Nat) : Int))) : Option (Int)) := rfl
theorem m_ref16_Valid_L1_eq (c_2 : Int) (c_3 : List (Int × Int)) (i3 : Int) : m_ref16_Valid_L1 std c_2 c_3 i3 =
((bif (decide (i3 < (((List.length c_3) : Nat) : Int))) then
    Option.bind (
      bif (decide ((List.getD c_3 (Int.toNat i3) (0, 0)).2 ≤ (List.getD c_3 (Int.toNat i3) (0, 0)).1)) then
        grd (okIdx i3 ((List.length c_3))) <|
        grd (okKin ((Int.toNat i3)) ((List.length c_3))) <|
        (some true)
      else
        bif (decide ((List.getD c_3 (Int.toNat i3) (0, 0)).1 < 0)) then
          grd (okIdx i3 ((List.length c_3))) <|
          grd (okKin ((Int.toNat i3)) ((List.length c_3))) <|
          (some true)
        else
          bif (decide (c_2 < (List.getD c_3 (Int.toNat i3) (0, 0)).2)) then
            grd (okIdx i3 ((List.length c_3))) <|
            grd (okKin ((Int.toNat i3)) ((List.length c_3))) <|
            (some true)
          else
            bif (decide (0 < i3)) then
              grd (okIdx i3 ((List.length c_3))) <|
              grd (okKin ((Int.toNat i3)) ((List.length c_3))) <|
              grd (okI .i64 ((i3 - 1))) <|
              grd (okIdx ((i3 - 1)) ((List.length c_3))) <|
              grd (okKin ((Int.toNat (i3 - 1))) ((List.length c_3))) <|
              (some (decide ((List.getD c_3 (Int.toNat i3) (0, 0)).1 < (List.getD c_3 (Int.toNat (i3 - 1)) (0, 0)).2)))
            else
              grd (okIdx i3 ((List.length c_3))) <|
              grd (okKin ((Int.toNat i3)) ((List.length c_3))) <|
              (some false) : Option ((Bool))) fun x118 =>
    bif x118 then
      (some (Sum.inr (Sum.inl ())))
    else
      grd (okI .i64 ((i3 + 1))) <|
      (some (Sum.inl (i3 + 1)))
  else
    (some (Sum.inr (Sum.inr ())))) : Option ((Int) ⊕ ((Unit) ⊕ (Unit)))) := rfl
theorem m_ref16_Valid_eq (c_1 : Int) (c_2 : Int) (c_3 : List (Int × Int)) : m_ref16_Valid std c_1 c_2 c_3 =
((Option.bind (
    bif (decide ((((List.length c_3) : Nat) : Int) < 1)) then
      (some true)
    else
      bif (decide (5000 < (((List.length c_3) : Nat) : Int))) then
        (some true)
      else
        bif (decide (c_2 < 1)) then
          (some true)
        else
          bif (decide (12622780800 < c_2)) then
            (some true)
          else
            bif (decide (2199023255552 < c_1)) then
              (some true)
            else
              bif (decide (c_1 < (-2199023255552))) then
                (some true)
              else
                grd (okIdx 0 ((List.length c_3))) <|
                grd (okKin ((Int.toNat 0)) ((List.length c_3))) <|
                (some (!((List.getD c_3 (Int.toNat 0) (0, 0)).1 == 0))) : Option ((Bool))) fun x115 =>
  bif x115 then
    (some false)
  else
    Option.bind (loop (m_ref16_Valid_L1 std c_2 c_3) 0) fun e => match e with
    | .inl _ =>
      (some false)
    | .inr (_) =>
      Option.bind (m_ref16_least std c_2 c_3) fun n91 =>
      (some (n91 == (((List.length c_3) : Nat) : Int)))) : Option (Bool)) := rfl
theorem m_ref12_Number_eq (x_1 : Int) : m_ref12_Number std x_1 =
((Option.bind (
    bif (decide ((-4398046511104) ≤ x_1)) then
      (some (decide (x_1 ≤ 4398046511104)))
    else
      (some false) : Option ((Bool))) fun x126 =>
  (some x126)) : Option (Bool)) := rfl
theorem m_ref12_Span_eq (s_1 : Int) (s_2 : Int) : m_ref12_Span std s_1 s_2 =
((Option.bind (
    Option.bind (m_ref12_Number std s_1) fun b37 =>
    bif b37 then
      Option.bind (m_ref12_Number std s_2) fun b38 =>
      bif b38 then
        (some (decide (s_1 < s_2)))
      else
        (some false)
    else
      (some false) : Option ((Bool))) fun x129 =>
  (some x129)) : Option (Bool)) := rfl
theorem m_ref12_Spans_L1_eq (l_1 : List (Int × Int)) (i5 : Int) : m_ref12_Spans_L1 std l_1 i5 =
((bif (decide (i5 < (((List.length l_1) : Nat) : Int))) then
    grd (okIdx i5 ((List.length l_1))) <|
    grd (okKin ((Int.toNat i5)) ((List.length l_1))) <|
    Option.bind (m_ref12_Span std ((List.getD l_1 (Int.toNat i5) (0, 0)).1) ((List.getD l_1 (Int.toNat i5) (0, 0)).2)) fun b39 =>
    bif (!b39) then
      (some (Sum.inr (Sum.inl ())))
    else
      grd (okI .i64 ((i5 + 1))) <|
      (some (Sum.inl (i5 + 1)))
  else
    (some (Sum.inr (Sum.inr ())))) : Option ((Int) ⊕ ((Unit) ⊕ (Unit)))) := rfl
theorem m_ref12_Spans_eq (l_1 : List (Int × Int)) : m_ref12_Spans std l_1 =
((Option.bind (loop (m_ref12_Spans_L1 std l_1) 0) fun e => match e with
  | .inl _ =>
    (some false)
  | .inr (_) =>
    (some true)) : Option (Bool)) := rfl
theorem m_ref12_Valid_L1_eq (l_1 : List (Int × Int)) (i6 : Int) : m_ref12_Valid_L1 std l_1 i6 =
((bif (decide (i6 < (((List.length l_1) : Nat) : Int))) then
    grd (okI .i64 ((i6 - 1))) <|
    grd (okIdx ((i6 - 1)) ((List.length l_1))) <|
    grd (okKin ((Int.toNat (i6 - 1))) ((List.length l_1))) <|
    grd (okIdx i6 ((List.length l_1))) <|
    grd (okKin ((Int.toNat i6)) ((List.length l_1))) <|
    bif (decide ((List.getD l_1 (Int.toNat i6) (0, 0)).1 ≤ (List.getD l_1 (Int.toNat (i6 - 1)) (0, 0)).2)) then
      (some (Sum.inr (Sum.inl ())))
    else
      grd (okI .i64 ((i6 + 1))) <|
      (some (Sum.inl (i6 + 1)))
  else
    (some (Sum.inr (Sum.inr ())))) : Option ((Int) ⊕ ((Unit) ⊕ (Unit)))) := rfl
theorem m_ref12_Valid_eq (l_1 : List (Int × Int)) : m_ref12_Valid std l_1 =
((Option.bind (
    bif (decide (2000 < (((List.length l_1) : Nat) : Int))) then
      (some true)
    else
      Option.bind (m_ref12_Spans std l_1) fun b40 =>
      (some (!b40)) : Option ((Bool))) fun x131 =>
  bif x131 then
    (some false)
  else
    Option.bind (loop (m_ref12_Valid_L1 std l_1) 1) fun e => match e with
    | .inl _ =>
      (some false)
    | .inr (_) =>
      (some true)) : Option (Bool)) := rfl
theorem m_ref12_Ends_L1_eq (i17 : Int) (l68 : List Int) (l_1 : List (Int × Int)) (i19 : Int) : m_ref12_Ends_L1 std i17 l68 l_1 i19 =
((Option.bind (
    bif (decide (0 < i19)) then
      grd (okI .i64 ((i19 - 1))) <|
      grd (okIdx ((i19 - 1)) ((List.length l68))) <|
      grd (okKin ((Int.toNat (i19 - 1))) ((List.length l68))) <|
      (some (decide ((List.getD l_1 (Int.toNat i17) (0, 0)).1 ≤ (List.getD l68 (Int.toNat (i19 - 1)) 0))))
    else
      (some false) : Option ((Bool))) fun x155 =>
  bif x155 then
    grd (okI .i64 ((i19 - 1))) <|
    (some (Sum.inl (i19 - 1)))
  else
    (some (Sum.inr i19))) : Option ((Int) ⊕ (Int))) := rfl
theorem m_ref12_Ends_L2_eq (i17 : Int) (l70 : List Int) (l_1 : List (Int × Int)) (i22 : Int) : m_ref12_Ends_L2 std i17 l70 l_1 i22 =
((Option.bind (
    bif (decide (0 < i22)) then
      grd (okI .i64 ((i22 - 1))) <|
      grd (okIdx ((i22 - 1)) ((List.length l70))) <|
      grd (okKin ((Int.toNat (i22 - 1))) ((List.length l70))) <|
      (some (decide ((List.getD l_1 (Int.toNat i17) (0, 0)).2 ≤ (List.getD l70 (Int.toNat (i22 - 1)) 0))))
    else
      (some false) : Option ((Bool))) fun x161 =>
  bif x161 then
    grd (okI .i64 ((i22 - 1))) <|
    (some (Sum.inl (i22 - 1)))
  else
    (some (Sum.inr i22))) : Option ((Int) ⊕ (Int))) := rfl
theorem m_ref12_Ends_L3_eq (l_1 : List (Int × Int)) (i17 : Int) (l68 : List Int) : m_ref12_Ends_L3 std l_1 (i17, l68) =
((bif (decide (i17 < (((List.length l_1) : Nat) : Int))) then
    Option.bind (
      grd (okIdx i17 ((List.length l_1))) <|
      grd (okKin ((Int.toNat i17)) ((List.length l_1))) <|
      Option.bind (loop (m_ref12_Ends_L1 std i17 l68 l_1) (((List.length l68) : Nat) : Int)) fun i20 =>
      Option.bind (
        bif (decide (i20 < (((List.length l68) : Nat) : Int))) then
          grd (okIdx i20 ((List.length l68))) <|
          grd (okKin ((Int.toNat i20)) ((List.length l68))) <|
          (some ((List.getD l68 (Int.toNat i20) 0) == (List.getD l_1 (Int.toNat i17) (0, 0)).1))
        else
          (some false) : Option ((Bool))) fun x157 =>
      bif x157 then
        (some l68)
      else
        grd (okRng i20 ((List.length l68))) <|
        grd (okRoom ((List.length ([] : List Int)))) <|
        grd (okRoom ((List.length (List.take ((Int.toNat i20) - 0) (List.drop 0 l68))))) <|
        grd (okRoom ((List.length (([] : List Int) ++ (List.take ((Int.toNat i20) - 0) (List.drop 0 l68)))))) <|
        grd (okRoom ((List.length [(List.getD l_1 (Int.toNat i17) (0, 0)).1]))) <|
        grd (okRoom ((List.length ((([] : List Int) ++ (List.take ((Int.toNat i20) - 0) (List.drop 0 l68))) ++ [(List.getD l_1 (Int.toNat i17) (0, 0)).1])))) <|
        grd (okRoom ((List.length (List.take ((List.length l68) - (Int.toNat i20)) (List.drop (Int.toNat i20) l68))))) <|
        (some (((([] : List Int) ++ (List.take ((Int.toNat i20) - 0) (List.drop 0 l68))) ++ [(List.getD l_1 (Int.toNat i17) (0, 0)).1]) ++ (List.take ((List.length l68) - (Int.toNat i20)) (List.drop (Int.toNat i20) l68)))) : Option ((List Int))) fun l70 =>
    Option.bind (
      Option.bind (loop (m_ref12_Ends_L2 std i17 l70 l_1) (((List.length l70) : Nat) : Int)) fun i23 =>
      Option.bind (
        bif (decide (i23 < (((List.length l70) : Nat) : Int))) then
          grd (okIdx i23 ((List.length l70))) <|
          grd (okKin ((Int.toNat i23)) ((List.length l70))) <|
          (some ((List.getD l70 (Int.toNat i23) 0) == (List.getD l_1 (Int.toNat i17) (0, 0)).2))
        else
          (some false) : Option ((Bool))) fun x163 =>
      bif x163 then
        (some l70)
      else
        grd (okRng i23 ((List.length l70))) <|
        grd (okRoom ((List.length ([] : List Int)))) <|
        grd (okRoom ((List.length (List.take ((Int.toNat i23) - 0) (List.drop 0 l70))))) <|
        grd (okRoom ((List.length (([] : List Int) ++ (List.take ((Int.toNat i23) - 0) (List.drop 0 l70)))))) <|
        grd (okRoom ((List.length [(List.getD l_1 (Int.toNat i17) (0, 0)).2]))) <|
        grd (okRoom ((List.length ((([] : List Int) ++ (List.take ((Int.toNat i23) - 0) (List.drop 0 l70))) ++ [(List.getD l_1 (Int.toNat i17) (0, 0)).2])))) <|
        grd (okRoom ((List.length (List.take ((List.length l70) - (Int.toNat i23)) (List.drop (Int.toNat i23) l70))))) <|
        (some (((([] : List Int) ++ (List.take ((Int.toNat i23) - 0) (List.drop 0 l70))) ++ [(List.getD l_1 (Int.toNat i17) (0, 0)).2]) ++ (List.take ((List.length l70) - (Int.toNat i23)) (List.drop (Int.toNat i23) l70)))) : Option ((List Int))) fun l72 =>
    grd (okI .i64 ((i17 + 1))) <|
    (some (Sum.inl ((i17 + 1), l72)))
  else
    (some (Sum.inr l68))) : Option ((Int × List Int) ⊕ (List Int))) := rfl
theorem m_ref12_Ends_eq (l_1 : List (Int × Int)) : m_ref12_Ends std l_1 =
((Option.bind (loop (m_ref12_Ends_L3 std l_1) (0, ([] : List Int))) fun l73 =>
  (some l73)) : Option (List Int)) := rfl
theorem m_ref12_In_L1_eq (l_1 : List (Int × Int)) (x_1 : Int) (i25 : Int) : m_ref12_In_L1 std l_1 x_1 i25 =
((bif (decide (i25 < (((List.length l_1) : Nat) : Int))) then
    Option.bind (
      bif (decide ((List.getD l_1 (Int.toNat i25) (0, 0)).1 ≤ x_1)) then
        grd (okIdx i25 ((List.length l_1))) <|
        grd (okKin ((Int.toNat i25)) ((List.length l_1))) <|
        (some (decide (x_1 < (List.getD l_1 (Int.toNat i25) (0, 0)).2)))
      else
        grd (okIdx i25 ((List.length l_1))) <|
        grd (okKin ((Int.toNat i25)) ((List.length l_1))) <|
        (some false) : Option ((Bool))) fun x165 =>
    bif x165 then
      (some (Sum.inr (Sum.inl ())))
    else
      grd (okI .i64 ((i25 + 1))) <|
      (some (Sum.inl (i25 + 1)))
  else
    (some (Sum.inr (Sum.inr ())))) : Option ((Int) ⊕ ((Unit) ⊕ (Unit)))) := rfl
theorem m_ref12_In_eq (x_1 : Int) (l_1 : List (Int × Int)) : m_ref12_In std x_1 l_1 =
((Option.bind (loop (m_ref12_In_L1 std l_1 x_1) 0) fun e => match e with
  | .inl _ =>
    (some true)
  | .inr (_) =>
    (some false)) : Option (Bool)) := rfl
theorem m_ref12_keep_eq (kind_1 : Int) (a_1 : Bool) (b_1 : Bool) : m_ref12_keep std kind_1 a_1 b_1 =
((Option.bind (
    bif (kind_1 == 1) then
      Option.bind (
        bif a_1 then
          (some true)
        else
          (some b_1) : Option ((Bool))) fun x167 =>
      (some (Sum.inl x167))
    else
      Option.bind (
        bif (kind_1 == 2) then
          Option.bind (
            bif a_1 then
              (some b_1)
            else
              (some false) : Option ((Bool))) fun x169 =>
          (some (Sum.inl x169))
        else
          bif (kind_1 == 3) then
            Option.bind (
              bif a_1 then
                (some (!b_1))
              else
                (some false) : Option ((Bool))) fun x171 =>
            (some (Sum.inl x171))
          else
            (some (Sum.inr ())) : Option (((Bool) ⊕ (Unit)))) fun e => match e with
      | .inl x173 =>
        (some (Sum.inl x173))
      | .inr (_) =>
        (some (Sum.inr ())) : Option (((Bool) ⊕ (Unit)))) fun e => match e with
  | .inl x175 =>
    (some x175)
  | .inr (_) =>
    (some (!(a_1 == b_1)))) : Option (Bool)) := rfl
theorem m_ref12_Combine_L1_eq (a_1 : List (Int × Int)) (b_1 : List (Int × Int)) (kind_1 : Int) (l74 : List Int) (i26 : Int) (l79 : List (Int × Int)) : m_ref12_Combine_L1 std a_1 b_1 kind_1 l74 (i26, l79) =
((grd (okI .i64 ((i26 + 1))) <|
  bif (decide ((i26 + 1) < (((List.length l74) : Nat) : Int))) then
    grd (okIdx i26 ((List.length l74))) <|
    grd (okKin ((Int.toNat i26)) ((List.length l74))) <|
    Option.bind (m_ref12_In std ((List.getD l74 (Int.toNat i26) 0)) a_1) fun b45 =>
    Option.bind (m_ref12_In std ((List.getD l74 (Int.toNat i26) 0)) b_1) fun b46 =>
    Option.bind (m_ref12_keep std kind_1 b45 b46) fun b47 =>
    Option.bind (
      bif b47 then
        Option.bind (
          grd (okIdx ((i26 + 1)) ((List.length l74))) <|
          grd (okKin ((Int.toNat (i26 + 1))) ((List.length l74))) <|
          Option.bind (
            bif (decide (0 < (((List.length l79) : Nat) : Int))) then
              grd (okI .i64 (((((List.length l79) : Nat) : Int) - 1))) <|
              grd (okIdx (((((List.length l79) : Nat) : Int) - 1)) ((List.length l79))) <|
              grd (okKin ((Int.toNat ((((List.length l79) : Nat) : Int) - 1))) ((List.length l79))) <|
              (some ((List.getD l79 (Int.toNat ((((List.length l79) : Nat) : Int) - 1)) (0, 0)).2 == (List.getD l74 (Int.toNat i26) 0)))
            else
              (some false) : Option ((Bool))) fun x179 =>
          bif x179 then
            grd (okI .i64 (((((List.length l79) : Nat) : Int) - 1))) <|
            grd (okIdx (((((List.length l79) : Nat) : Int) - 1)) ((List.length l79))) <|
            grd (okKin ((Int.toNat ((((List.length l79) : Nat) : Int) - 1))) ((List.length l79))) <|
            (some (List.set l79 (Int.toNat ((((List.length l79) : Nat) : Int) - 1)) ((List.getD l79 (Int.toNat ((((List.length l79) : Nat) : Int) - 1)) (0, 0)).1, (List.getD l74 (Int.toNat (i26 + 1)) 0))))
          else
            grd (okRoom ((List.length l79))) <|
            grd (okRoom ((List.length [((List.getD l74 (Int.toNat i26) 0), (List.getD l74 (Int.toNat (i26 + 1)) 0))]))) <|
            (some (l79 ++ [((List.getD l74 (Int.toNat i26) 0), (List.getD l74 (Int.toNat (i26 + 1)) 0))])) : Option ((List (Int × Int)))) fun l81 =>
        (some l81)
      else
        (some l79) : Option ((List (Int × Int)))) fun l83 =>
    (some (Sum.inl ((i26 + 1), l83)))
  else
    (some (Sum.inr l79))) : Option ((Int × List (Int × Int)) ⊕ (List (Int × Int)))) := rfl
theorem m_ref12_Combine_eq (kind_1 : Int) (a_1 : List (Int × Int)) (b_1 : List (Int × Int)) : m_ref12_Combine std kind_1 a_1 b_1 =
((grd (okRoom ((List.length ([] : List (Int × Int))))) <|
  grd (okRoom ((List.length a_1))) <|
  grd (okRoom ((List.length (([] : List (Int × Int)) ++ a_1)))) <|
  grd (okRoom ((List.length b_1))) <|
  Option.bind (m_ref12_Ends std (((([] : List (Int × Int)) ++ a_1) ++ b_1))) fun l74 =>
  Option.bind (loop (m_ref12_Combine_L1 std a_1 b_1 kind_1 l74) (0, ([] : List (Int × Int)))) fun l84 =>
  (some l84)) : Option (List (Int × Int))) := rfl
theorem m_ref16_again_L1_eq (p_1 : Int) (p_2 : List (Int × Int)) (part_1 : Int) (i9 : Int) (l58 : List (Int × Int)) : m_ref16_again_L1 std p_1 p_2 part_1 (i9, l58) =
((bif (decide (i9 < (((List.length p_2) : Nat) : Int))) then
    grd (okIdx i9 ((List.length p_2))) <|
    grd (okKin ((Int.toNat i9)) ((List.length p_2))) <|
    grd (okI .i64 (((List.getD p_2 (Int.toNat i9) (0, 0)).1 + part_1))) <|
    grd (okI .i64 (((List.getD p_2 (Int.toNat i9) (0, 0)).2 + part_1))) <|
    Option.bind (
      bif (decide (((List.getD p_2 (Int.toNat i9) (0, 0)).2 + part_1) ≤ p_1)) then
        grd (okRoom ((List.length l58))) <|
        grd (okRoom ((List.length [(((List.getD p_2 (Int.toNat i9) (0, 0)).1 + part_1), ((List.getD p_2 (Int.toNat i9) (0, 0)).2 + part_1))]))) <|
        (some (l58 ++ [(((List.getD p_2 (Int.toNat i9) (0, 0)).1 + part_1), ((List.getD p_2 (Int.toNat i9) (0, 0)).2 + part_1))]))
      else
        Option.bind (
          bif (decide (p_1 ≤ ((List.getD p_2 (Int.toNat i9) (0, 0)).1 + part_1))) then
            grd (okI .i64 ((((List.getD p_2 (Int.toNat i9) (0, 0)).1 + part_1) - p_1))) <|
            grd (okI .i64 ((((List.getD p_2 (Int.toNat i9) (0, 0)).2 + part_1) - p_1))) <|
            grd (okRoom ((List.length l58))) <|
            grd (okRoom ((List.length [((((List.getD p_2 (Int.toNat i9) (0, 0)).1 + part_1) - p_1), (((List.getD p_2 (Int.toNat i9) (0, 0)).2 + part_1) - p_1))]))) <|
            (some (l58 ++ [((((List.getD p_2 (Int.toNat i9) (0, 0)).1 + part_1) - p_1), (((List.getD p_2 (Int.toNat i9) (0, 0)).2 + part_1) - p_1))]))
          else
            grd (okRoom ((List.length l58))) <|
            grd (okRoom ((List.length [(((List.getD p_2 (Int.toNat i9) (0, 0)).1 + part_1), p_1)]))) <|
            grd (okI .i64 ((((List.getD p_2 (Int.toNat i9) (0, 0)).2 + part_1) - p_1))) <|
            grd (okRoom ((List.length (l58 ++ [(((List.getD p_2 (Int.toNat i9) (0, 0)).1 + part_1), p_1)])))) <|
            grd (okRoom ((List.length [(0, (((List.getD p_2 (Int.toNat i9) (0, 0)).2 + part_1) - p_1))]))) <|
            (some ((l58 ++ [(((List.getD p_2 (Int.toNat i9) (0, 0)).1 + part_1), p_1)]) ++ [(0, (((List.getD p_2 (Int.toNat i9) (0, 0)).2 + part_1) - p_1))])) : Option ((List (Int × Int)))) fun l60 =>
        (some l60) : Option ((List (Int × Int)))) fun l62 =>
    grd (okI .i64 ((i9 + 1))) <|
    (some (Sum.inl ((i9 + 1), l62)))
  else
    (some (Sum.inr l58))) : Option ((Int × List (Int × Int)) ⊕ (List (Int × Int)))) := rfl
theorem m_ref16_again_eq (p_1 : Int) (part_1 : Int) (p_2 : List (Int × Int)) : m_ref16_again std p_1 part_1 p_2 =
((Option.bind (loop (m_ref16_again_L1 std p_1 p_2 part_1) (0, ([] : List (Int × Int)))) fun l63 =>
  Option.bind (m_ref12_Combine std 1 l63 (([] : List (Int × Int)))) fun l85 =>
  Option.bind (m_ref12_Same std l85 p_2) fun b48 =>
  (some b48)) : Option (Bool)) := rfl
theorem m_ref16_Periodic_L1_eq (p_1 : Int) (p_2 : List (Int × Int)) (i7 : Int) : m_ref16_Periodic_L1 std p_1 p_2 i7 =
((bif (decide (i7 < (((List.length p_2) : Nat) : Int))) then
    Option.bind (
      bif (decide ((List.getD p_2 (Int.toNat i7) (0, 0)).1 < 0)) then
        grd (okIdx i7 ((List.length p_2))) <|
        grd (okKin ((Int.toNat i7)) ((List.length p_2))) <|
        (some true)
      else
        grd (okIdx i7 ((List.length p_2))) <|
        grd (okKin ((Int.toNat i7)) ((List.length p_2))) <|
        (some (decide (p_1 < (List.getD p_2 (Int.toNat i7) (0, 0)).2))) : Option ((Bool))) fun x135 =>
    bif x135 then
      (some (Sum.inr (Sum.inl ())))
    else
      grd (okI .i64 ((i7 + 1))) <|
      (some (Sum.inl (i7 + 1)))
  else
    (some (Sum.inr (Sum.inr ())))) : Option ((Int) ⊕ ((Unit) ⊕ (Unit)))) := rfl
theorem m_ref16_Periodic_L2_eq (p_1 : Int) (p_2 : List (Int × Int)) (k1 : Int) : m_ref16_Periodic_L2 std p_1 p_2 k1 =
((grd (okI .i64 ((2 * (((List.length p_2) : Nat) : Int)))) <|
  grd (okI .i64 (((2 * (((List.length p_2) : Nat) : Int)) + 1))) <|
  bif (decide (k1 ≤ ((2 * (((List.length p_2) : Nat) : Int)) + 1))) then
    Option.bind (
      bif ((Int.tmod p_1 k1) == 0) then
        grd (okNz k1) <|
        grd (okI .i64 ((Int.tdiv p_1 k1))) <|
        Option.bind (m_ref16_again std p_1 ((Int.tdiv p_1 k1)) p_2) fun b49 =>
        (some b49)
      else
        grd (okNz k1) <|
        (some false) : Option ((Bool))) fun x181 =>
    bif x181 then
      (some (Sum.inr (Sum.inl ())))
    else
      grd (okI .i64 ((k1 + 1))) <|
      (some (Sum.inl (k1 + 1)))
  else
    (some (Sum.inr (Sum.inr ())))) : Option ((Int) ⊕ ((Unit) ⊕ (Unit)))) := rfl
theorem m_ref16_Periodic_eq (p_1 : Int) (p_2 : List (Int × Int)) : m_ref16_Periodic std p_1 p_2 =
((Option.bind (
    bif (decide (p_1 < 1)) then
      (some true)
    else
      bif (decide (12622780800 < p_1)) then
        (some true)
      else
        Option.bind (m_ref12_Valid std p_2) fun b41 =>
        (some (!b41)) : Option ((Bool))) fun x133 =>
  bif x133 then
    (some false)
  else
    Option.bind (loop (m_ref16_Periodic_L1 std p_1 p_2) 0) fun e => match e with
    | .inl _ =>
      (some false)
    | .inr (_) =>
      Option.bind (
        bif ((((List.length p_2) : Nat) : Int) == 0) then
          (some true)
        else
          bif ((((List.length p_2) : Nat) : Int) == 1) then
            bif ((List.getD p_2 (Int.toNat 0) (0, 0)).1 == 0) then
              grd (okIdx 0 ((List.length p_2))) <|
              grd (okKin ((Int.toNat 0)) ((List.length p_2))) <|
              (some ((List.getD p_2 (Int.toNat 0) (0, 0)).2 == p_1))
            else
              grd (okIdx 0 ((List.length p_2))) <|
              grd (okKin ((Int.toNat 0)) ((List.length p_2))) <|
              (some false)
          else
            (some false) : Option ((Bool))) fun x139 =>
      bif x139 then
        (some (p_1 == 1))
      else
        Option.bind (loop (m_ref16_Periodic_L2 std p_1 p_2) 2) fun e => match e with
        | .inl _ =>
          (some false)
        | .inr (_) =>
          (some true)) : Option (Bool)) := rfl
theorem m_law16_is_eq (c_1 : Int) (c_2 : Int) (e_1 : Int) (want_1 : Int) (want_2 : Int) (f_1 : Int) (c_3 : List (Int × Int)) (want_3 : List (Int × Int)) : m_law16_is std c_1 c_2 e_1 want_1 want_2 f_1 c_3 want_3 =
((Option.bind (
    bif (e_1 == f_1) then
      Option.bind (m_ref16_Same std c_1 c_2 want_1 want_2 c_3 want_3) fun b51 =>
      bif b51 then
        bif (!(e_1 == 0)) then
          (some true)
        else
          Option.bind (m_ref16_Valid std c_1 c_2 c_3) fun b52 =>
          (some b52)
      else
        (some false)
    else
      (some false) : Option ((Bool))) fun x187 =>
  (some x187)) : Option (Bool)) := rfl
theorem m_ref01_Gcd_L1_eq (a1 : Int) (b54 : Int) : m_ref01_Gcd_L1 std (a1, b54) =
((bif (!(b54 == 0)) then
    bif (b54 == (-1)) then
      (some (Sum.inr (Sum.inl ())))
    else
      grd (okNz b54) <|
      (some (Sum.inl (b54, (Int.tmod a1 b54))))
  else
    (some (Sum.inr (Sum.inr a1)))) : Option ((Int × Int) ⊕ ((Unit) ⊕ (Int)))) := rfl
theorem m_ref01_Gcd_eq (a_1 : Int) (b_1 : Int) : m_ref01_Gcd std a_1 b_1 =
((Option.bind (loop (m_ref01_Gcd_L1 std) (a_1, b_1)) fun e => match e with
  | .inl _ =>
    (some 1)
  | .inr (a2) =>
    bif (a2 == (-9223372036854775808)) then
      (some 0)
    else
      Option.bind (
        bif (decide (a2 < 0)) then
          grd (okI .i64 ((0 - a2))) <|
          (some (0 - a2))
        else
          (some a2) : Option ((Int))) fun a4 =>
      (some a4)) : Option (Int)) := rfl
theorem m_ref16_common_eq (a_1 : Int) (b_1 : Int) : m_ref16_common std a_1 b_1 =
((Option.bind (m_ref01_Gcd std a_1 b_1) fun n92 =>
  grd (okNz n92) <|
  grd (okI .i64 ((Int.tdiv a_1 n92))) <|
  grd (okNz b_1) <|
  grd (okI .i64 ((Int.tdiv 12622780800 b_1))) <|
  bif (decide ((Int.tdiv 12622780800 b_1) < (Int.tdiv a_1 n92))) then
    (some (0, 9))
  else
    grd (okI .i64 (((Int.tdiv a_1 n92) * b_1))) <|
    (some (((Int.tdiv a_1 n92) * b_1), 0))) : Option (Int × Int)) := rfl
theorem m_ref01_Div_eq (a_1 : Int) (b_1 : Int) : m_ref01_Div std a_1 b_1 =
((bif (b_1 == 0) then
    (some (0, 0, 10))
  else
    Option.bind (
      bif (a_1 == (-9223372036854775808)) then
        (some (b_1 == (-1)))
      else
        (some false) : Option ((Bool))) fun x189 =>
    bif x189 then
      (some (0, 0, 9))
    else
      grd (okNz b_1) <|
      grd (okI .i64 ((Int.tdiv a_1 b_1))) <|
      Option.bind (
        bif (!((Int.tmod a_1 b_1) == 0)) then
          (some (!((decide ((Int.tmod a_1 b_1) < 0)) == (decide (b_1 < 0)))))
        else
          (some false) : Option ((Bool))) fun x191 =>
      Option.bind (
        bif x191 then
          grd (okI .i64 (((Int.tdiv a_1 b_1) - 1))) <|
          grd (okI .i64 (((Int.tmod a_1 b_1) + b_1))) <|
          (some (((Int.tdiv a_1 b_1) - 1), ((Int.tmod a_1 b_1) + b_1)))
        else
          (some ((Int.tdiv a_1 b_1), (Int.tmod a_1 b_1))) : Option ((Int × Int))) fun (q5, r4) =>
      (some (q5, r4, 0))) : Option (Int × Int × Int)) := rfl
theorem m_ref01_Floor_eq (a_1 : Int) (b_1 : Int) : m_ref01_Floor std a_1 b_1 =
((Option.bind (m_ref01_Div std a_1 b_1) fun (n95, _, _) =>
  (some n95)) : Option (Int)) := rfl
theorem m_ref16_Granule_eq (c_1 : Int) (c_2 : Int) (k_1 : Int) (c_3 : List (Int × Int)) : m_ref16_Granule std c_1 c_2 k_1 c_3 =
((Option.bind (m_ref01_Floor std k_1 ((((List.length c_3) : Nat) : Int))) fun n98 =>
  grd (okI .i64 (((((List.length c_3) : Nat) : Int) * n98))) <|
  grd (okI .i64 ((k_1 - ((((List.length c_3) : Nat) : Int) * n98)))) <|
  grd (okIdx ((k_1 - ((((List.length c_3) : Nat) : Int) * n98))) ((List.length c_3))) <|
  grd (okKin ((Int.toNat (k_1 - ((((List.length c_3) : Nat) : Int) * n98)))) ((List.length c_3))) <|
  grd (okI .i64 ((c_2 * n98))) <|
  grd (okI .i64 ((c_1 + (c_2 * n98)))) <|
  grd (okI .i64 (((List.getD c_3 (Int.toNat (k_1 - ((((List.length c_3) : Nat) : Int) * n98))) (0, 0)).1 + (c_1 + (c_2 * n98))))) <|
  grd (okI .i64 (((List.getD c_3 (Int.toNat (k_1 - ((((List.length c_3) : Nat) : Int) * n98))) (0, 0)).2 + (c_1 + (c_2 * n98))))) <|
  (some (((List.getD c_3 (Int.toNat (k_1 - ((((List.length c_3) : Nat) : Int) * n98))) (0, 0)).1 + (c_1 + (c_2 * n98))), ((List.getD c_3 (Int.toNat (k_1 - ((((List.length c_3) : Nat) : Int) * n98))) (0, 0)).2 + (c_1 + (c_2 * n98)))))) : Option (Int × Int)) := rfl
theorem m_ref16_covered_L1_eq (at2 : Int) (p_2 : List (Int × Int)) (to8 : Int) (i29 : Int) : m_ref16_covered_L1 std at2 p_2 (to8, i29) =
((bif (decide (i29 < (((List.length p_2) : Nat) : Int))) then
    Option.bind (
      bif (decide ((List.getD p_2 (Int.toNat i29) (0, 0)).1 ≤ at2)) then
        grd (okIdx i29 ((List.length p_2))) <|
        grd (okKin ((Int.toNat i29)) ((List.length p_2))) <|
        (some (decide (at2 < (List.getD p_2 (Int.toNat i29) (0, 0)).2)))
      else
        grd (okIdx i29 ((List.length p_2))) <|
        grd (okKin ((Int.toNat i29)) ((List.length p_2))) <|
        (some false) : Option ((Bool))) fun x200 =>
    Option.bind (
      bif x200 then
        (some (List.getD p_2 (Int.toNat i29) (0, 0)).2)
      else
        (some to8) : Option ((Int))) fun to10 =>
    grd (okI .i64 ((i29 + 1))) <|
    (some (Sum.inl (to10, (i29 + 1))))
  else
    (some (Sum.inr to8))) : Option ((Int × Int) ⊕ (Int))) := rfl
theorem m_ref16_covered_L2_eq (p_1 : Int) (p_2 : List (Int × Int)) (at2 : Int) (rest2 : Int) : m_ref16_covered_L2 std p_1 p_2 (at2, rest2) =
((bif (decide (0 < rest2)) then
    Option.bind (loop (m_ref16_covered_L1 std at2 p_2) (at2, 0)) fun to11 =>
    bif (to11 == at2) then
      (some (Sum.inr (Sum.inl ())))
    else
      grd (okI .i64 ((to11 - at2))) <|
      grd (okI .i64 ((rest2 - (to11 - at2)))) <|
      grd (okNz p_1) <|
      (some (Sum.inl ((Int.tmod to11 p_1), (rest2 - (to11 - at2)))))
  else
    (some (Sum.inr (Sum.inr ())))) : Option ((Int × Int) ⊕ ((Unit) ⊕ (Unit)))) := rfl
theorem m_ref16_covered_eq (p_1 : Int) (s_1 : Int) (s_2 : Int) (p_2 : List (Int × Int)) : m_ref16_covered std p_1 s_1 s_2 p_2 =
((Option.bind (
    bif ((((List.length p_2) : Nat) : Int) == 1) then
      bif ((List.getD p_2 (Int.toNat 0) (0, 0)).1 == 0) then
        grd (okIdx 0 ((List.length p_2))) <|
        grd (okKin ((Int.toNat 0)) ((List.length p_2))) <|
        (some ((List.getD p_2 (Int.toNat 0) (0, 0)).2 == p_1))
      else
        grd (okIdx 0 ((List.length p_2))) <|
        grd (okKin ((Int.toNat 0)) ((List.length p_2))) <|
        (some false)
    else
      (some false) : Option ((Bool))) fun x194 =>
  bif x194 then
    (some true)
  else
    Option.bind (m_ref01_Floor std s_1 p_1) fun n101 =>
    grd (okI .i64 ((p_1 * n101))) <|
    grd (okI .i64 ((s_1 - (p_1 * n101)))) <|
    grd (okI .i64 ((s_2 - s_1))) <|
    Option.bind (loop (m_ref16_covered_L2 std p_1 p_2) ((s_1 - (p_1 * n101)), (s_2 - s_1))) fun e => match e with
    | .inl _ =>
      (some false)
    | .inr (_) =>
      (some true)) : Option (Bool)) := rfl
theorem m_ref16_Make_L1_eq (l_1 : List (Int × Int)) (i31 : Int) (l92 : List (Int × Int)) : m_ref16_Make_L1 std l_1 (i31, l92) =
((bif (decide (i31 < (((List.length l_1) : Nat) : Int))) then
    grd (okIdx i31 ((List.length l_1))) <|
    grd (okKin ((Int.toNat i31)) ((List.length l_1))) <|
    grd (okI .i64 (((List.getD l_1 (Int.toNat i31) (0, 0)).1 - (List.getD l_1 (Int.toNat 0) (0, 0)).1))) <|
    grd (okI .i64 (((List.getD l_1 (Int.toNat i31) (0, 0)).2 - (List.getD l_1 (Int.toNat 0) (0, 0)).1))) <|
    grd (okRoom ((List.length l92))) <|
    grd (okRoom ((List.length [(((List.getD l_1 (Int.toNat i31) (0, 0)).1 - (List.getD l_1 (Int.toNat 0) (0, 0)).1), ((List.getD l_1 (Int.toNat i31) (0, 0)).2 - (List.getD l_1 (Int.toNat 0) (0, 0)).1))]))) <|
    grd (okI .i64 ((i31 + 1))) <|
    (some (Sum.inl ((i31 + 1), (l92 ++ [(((List.getD l_1 (Int.toNat i31) (0, 0)).1 - (List.getD l_1 (Int.toNat 0) (0, 0)).1), ((List.getD l_1 (Int.toNat i31) (0, 0)).2 - (List.getD l_1 (Int.toNat 0) (0, 0)).1))]))))
  else
    (some (Sum.inr l92))) : Option ((Int × List (Int × Int)) ⊕ (List (Int × Int)))) := rfl
theorem m_ref16_Make_eq (period_1 : Int) (l_1 : List (Int × Int)) : m_ref16_Make std period_1 l_1 =
((grd (okIdx 0 ((List.length l_1))) <|
  grd (okKin ((Int.toNat 0)) ((List.length l_1))) <|
  Option.bind (
    bif (decide (2199023255552 < (List.getD l_1 (Int.toNat 0) (0, 0)).1)) then
      (some true)
    else
      (some (decide ((List.getD l_1 (Int.toNat 0) (0, 0)).1 < (-2199023255552)))) : Option ((Bool))) fun x202 =>
  bif x202 then
    (some (0, 0, ([] : List (Int × Int)), 2))
  else
    Option.bind (loop (m_ref16_Make_L1 std l_1) (0, ([] : List (Int × Int)))) fun l93 =>
    Option.bind (m_ref16_least std period_1 l93) fun n108 =>
    grd (okNz n108) <|
    grd (okI .i64 ((Int.tdiv (((List.length l93) : Nat) : Int) n108))) <|
    grd (okNz ((Int.tdiv (((List.length l93) : Nat) : Int) n108))) <|
    grd (okI .i64 ((Int.tdiv period_1 (Int.tdiv (((List.length l93) : Nat) : Int) n108)))) <|
    grd (okRng n108 ((List.length l93))) <|
    (some ((List.getD l_1 (Int.toNat 0) (0, 0)).1, (Int.tdiv period_1 (Int.tdiv (((List.length l93) : Nat) : Int) n108)), (List.take ((Int.toNat n108) - 0) (List.drop 0 l93)), 0))) : Option (Int × Int × List (Int × Int) × Int)) := rfl
theorem m_ref16_Restrict_L1_eq (c_1 : Int) (c_2 : Int) (c_3 : List (Int × Int)) (n93 : Int) (p_1 : Int) (p_2 : List (Int × Int)) (k3 : Int) (l88 : List (Int × Int)) : m_ref16_Restrict_L1 std c_1 c_2 c_3 n93 p_1 p_2 (k3, l88) =
((bif (decide (k3 < ((((List.length c_3) : Nat) : Int) * (Int.tdiv n93 c_2)))) then
    Option.bind (m_ref16_Granule std c_1 c_2 k3 c_3) fun (n104, n105) =>
    Option.bind (m_ref16_covered std p_1 n104 n105 p_2) fun b56 =>
    Option.bind (
      bif b56 then
        Option.bind (m_ref16_Granule std c_1 c_2 k3 c_3) fun (n106, n107) =>
        grd (okRoom ((List.length l88))) <|
        grd (okRoom ((List.length [(n106, n107)]))) <|
        (some (l88 ++ [(n106, n107)]))
      else
        (some l88) : Option ((List (Int × Int)))) fun l90 =>
    grd (okI .i64 ((k3 + 1))) <|
    (some (Sum.inl ((k3 + 1), l90)))
  else
    (some (Sum.inr l88))) : Option ((Int × List (Int × Int)) ⊕ (List (Int × Int)))) := rfl
theorem m_ref16_Restrict_eq (c_1 : Int) (c_2 : Int) (p_1 : Int) (c_3 : List (Int × Int)) (p_2 : List (Int × Int)) : m_ref16_Restrict std c_1 c_2 p_1 c_3 p_2 =
((Option.bind (m_ref16_common std c_2 p_1) fun (n93, n94) =>
  bif (!(n94 == 0)) then
    (some (0, 0, ([] : List (Int × Int)), n94))
  else
    grd (okNz c_2) <|
    grd (okI .i64 ((Int.tdiv n93 c_2))) <|
    grd (okI .i64 (((((List.length c_3) : Nat) : Int) * (Int.tdiv n93 c_2)))) <|
    bif (decide (5000 < ((((List.length c_3) : Nat) : Int) * (Int.tdiv n93 c_2)))) then
      (some (0, 0, ([] : List (Int × Int)), 5))
    else
      Option.bind (loop (m_ref16_Restrict_L1 std c_1 c_2 c_3 n93 p_1 p_2) (0, ([] : List (Int × Int)))) fun l91 =>
      bif ((((List.length l91) : Nat) : Int) == 0) then
        (some (0, 0, ([] : List (Int × Int)), 7))
      else
        Option.bind (m_ref16_Make std n93 l91) fun (n109, n110, l94, n111) =>
        (some (n109, n110, l94, n111))) : Option (Int × Int × List (Int × Int) × Int)) := rfl
theorem m_law16_GroupRestricts_eq (c_1 : Int) (c_2 : Int) (p_1 : Int) (c_3 : List (Int × Int)) (p_2 : List (Int × Int)) : m_law16_GroupRestricts std c_1 c_2 p_1 c_3 p_2 =
((Option.bind (m_law16_awake std) fun b18 =>
  bif (!b18) then
    (some false)
  else
    Option.bind (
      Option.bind (m_law16_great std c_1 c_2 c_3) fun b21 =>
      bif b21 then
        (some true)
      else
        (some (decide (40 < (((List.length p_2) : Nat) : Int)))) : Option ((Bool))) fun x78 =>
    bif x78 then
      (some true)
    else
      Option.bind (m_group_Restrict std c_1 c_2 p_1 c_3 p_2) fun (n88, n89, l53, n90) =>
      Option.bind (
        Option.bind (m_ref16_Valid std c_1 c_2 c_3) fun b36 =>
        bif (!b36) then
          (some true)
        else
          Option.bind (m_ref16_Periodic std p_1 p_2) fun b50 =>
          (some (!b50)) : Option ((Bool))) fun x183 =>
      bif x183 then
        Option.bind (m_law16_is std n88 n89 n90 0 0 1 l53 (([] : List (Int × Int)))) fun b53 =>
        (some b53)
      else
        Option.bind (m_ref16_Restrict std c_1 c_2 p_1 c_3 p_2) fun (n112, n113, l95, n114) =>
        Option.bind (m_law16_is std n88 n89 n90 n112 n113 n114 l53 l95) fun b57 =>
        (some b57)) : Option (Bool)) := rfl
theorem m_slices_IndexFunc_3_eq (s_1 : Int) (s_2 : Int) (s_3 : Int) (s_4 : Int) (s_5 : List (Int × Int)) (s_6 : List (Int × Int)) : m_slices_IndexFunc_3 std s_1 s_2 s_3 s_4 s_5 s_6 =
((Option.bind (m_law16_great_1 std s_1 s_2 s_5) fun b59 =>
  bif b59 then
    (some 0)
  else
    grd (okI .i64 ((0 + 1))) <|
    Option.bind (m_law16_great_1 std s_3 s_4 s_6) fun b60 =>
    bif b60 then
      (some 1)
    else
      grd (okI .i64 ((1 + 1))) <|
      (some (-1))) : Option (Int)) := rfl
theorem m_slices_ContainsFunc_3_eq (s_1 : Int) (s_2 : Int) (s_3 : Int) (s_4 : Int) (s_5 : List (Int × Int)) (s_6 : List (Int × Int)) : m_slices_ContainsFunc_3 std s_1 s_2 s_3 s_4 s_5 s_6 =
((Option.bind (m_slices_IndexFunc_3 std s_1 s_2 s_3 s_4 s_5 s_6) fun n115 =>
  (some (decide (0 ≤ n115)))) : Option (Bool)) := rfl
theorem m_law16_great_2_eq (l_1 : Int) (l_2 : Int) (l_3 : Int) (l_4 : Int) (l_5 : List (Int × Int)) (l_6 : List (Int × Int)) : m_law16_great_2 std l_1 l_2 l_3 l_4 l_5 l_6 =
((Option.bind (m_slices_ContainsFunc_3 std l_1 l_2 l_3 l_4 l_5 l_6) fun b61 =>
  (some b61)) : Option (Bool)) := rfl
theorem m_law16_few_L1_eq (g1 : Int) (h1 : Int) : m_law16_few_L1 std (g1, h1) =
((bif (!(h1 == 0)) then
    grd (okNz h1) <|
    (some (Sum.inl (h1, (Int.tmod g1 h1))))
  else
    (some (Sum.inr g1))) : Option ((Int × Int) ⊕ (Int))) := rfl
theorem m_law16_few_eq (a_1 : Int) (a_2 : Int) (b_1 : Int) (b_2 : Int) (a_3 : List (Int × Int)) (b_3 : List (Int × Int)) : m_law16_few std a_1 a_2 b_1 b_2 a_3 b_3 =
((Option.bind (loop (m_law16_few_L1 std) (a_2, b_2)) fun g2 =>
  grd (okNz g2) <|
  grd (okI .i64 ((Int.tdiv a_2 g2))) <|
  grd (okNz b_2) <|
  grd (okI .i64 ((Int.tdiv 12622780800 b_2))) <|
  bif (decide ((Int.tdiv 12622780800 b_2) < (Int.tdiv a_2 g2))) then
    (some true)
  else
    grd (okI .i64 ((Int.tdiv b_2 g2))) <|
    grd (okI .i64 (((Int.tdiv b_2 g2) * (((List.length a_3) : Nat) : Int)))) <|
    grd (okI .i64 (((Int.tdiv a_2 g2) * (((List.length b_3) : Nat) : Int)))) <|
    Option.bind (
      bif (decide (((Int.tdiv b_2 g2) * (((List.length a_3) : Nat) : Int)) ≤ 400)) then
        bif (decide (((Int.tdiv a_2 g2) * (((List.length b_3) : Nat) : Int)) ≤ 400)) then
          (some true)
        else
          bif (decide (5000 < ((Int.tdiv b_2 g2) * (((List.length a_3) : Nat) : Int)))) then
            (some true)
          else
            (some (decide (5000 < ((Int.tdiv a_2 g2) * (((List.length b_3) : Nat) : Int)))))
      else
        bif (decide (5000 < ((Int.tdiv b_2 g2) * (((List.length a_3) : Nat) : Int)))) then
          (some true)
        else
          (some (decide (5000 < ((Int.tdiv a_2 g2) * (((List.length b_3) : Nat) : Int))))) : Option ((Bool))) fun x206 =>
    (some x206)) : Option (Bool)) := rfl
theorem m_granule_at_eq (c_1 : Int) (c_2 : Int) (k_1 : Int) (c_3 : List (Int × Int)) : m_granule_at std c_1 c_2 k_1 c_3 =
((Option.bind (m_integer_Floor std k_1 ((((List.length c_3) : Nat) : Int))) fun n123 =>
  grd (okI .i64 ((c_2 * n123))) <|
  grd (okI .i64 ((c_1 + (c_2 * n123)))) <|
  grd (okI .i64 (((((List.length c_3) : Nat) : Int) * n123))) <|
  grd (okI .i64 ((k_1 - ((((List.length c_3) : Nat) : Int) * n123)))) <|
  grd (okIdx ((k_1 - ((((List.length c_3) : Nat) : Int) * n123))) ((List.length c_3))) <|
  grd (okKin ((Int.toNat (k_1 - ((((List.length c_3) : Nat) : Int) * n123)))) ((List.length c_3))) <|
  grd (okI .i64 (((List.getD c_3 (Int.toNat (k_1 - ((((List.length c_3) : Nat) : Int) * n123))) (0, 0)).1 + (c_1 + (c_2 * n123))))) <|
  grd (okI .i64 (((List.getD c_3 (Int.toNat (k_1 - ((((List.length c_3) : Nat) : Int) * n123))) (0, 0)).2 + (c_1 + (c_2 * n123))))) <|
  (some (((List.getD c_3 (Int.toNat (k_1 - ((((List.length c_3) : Nat) : Int) * n123))) (0, 0)).1 + (c_1 + (c_2 * n123))), ((List.getD c_3 (Int.toNat (k_1 - ((((List.length c_3) : Nat) : Int) * n123))) (0, 0)).2 + (c_1 + (c_2 * n123)))))) : Option (Int × Int)) := rfl
theorem m_granule_Span_eq (c_1 : Int) (c_2 : Int) (k_1 : Int) (c_3 : List (Int × Int)) : m_granule_Span std c_1 c_2 k_1 c_3 =
((Option.bind (m_granule_Valid std c_1 c_2 c_3) fun b66 =>
  bif (!b66) then
    (some (0, 0, 1))
  else
    Option.bind (m_integer_Floor std k_1 ((((List.length c_3) : Nat) : Int))) fun n122 =>
    Option.bind (
      bif (decide ((Int.tdiv 8796093022208 c_2) < n122)) then
        grd (okNz c_2) <|
        grd (okI .i64 ((Int.tdiv 8796093022208 c_2))) <|
        (some true)
      else
        grd (okNz c_2) <|
        grd (okI .i64 ((Int.tdiv 8796093022208 c_2))) <|
        grd (okI .i64 ((Int.tdiv (-8796093022208) c_2))) <|
        grd (okI .i64 (((Int.tdiv (-8796093022208) c_2) - 1))) <|
        (some (decide (n122 < ((Int.tdiv (-8796093022208) c_2) - 1)))) : Option ((Bool))) fun x210 =>
    bif x210 then
      (some (0, 0, 2))
    else
      Option.bind (m_granule_at std c_1 c_2 k_1 c_3) fun (n124, n125) =>
      Option.bind (
        Option.bind (m_granule_line std n124) fun b67 =>
        bif (!b67) then
          (some true)
        else
          Option.bind (m_granule_line std n125) fun b68 =>
          (some (!b68)) : Option ((Bool))) fun x212 =>
      bif x212 then
        (some (0, 0, 2))
      else
        (some (n124, n125, 0))) : Option (Int × Int × Int)) := rfl
theorem m_granule_Near_1_eq (i_1 : Int) (x_1 : Int) (x_2 : Int) (x_3 : Int) (x_4 : List (Int × Int)) : m_granule_Near_1 std i_1 x_1 x_2 x_3 x_4 =
((grd (okIdx i_1 ((List.length x_4))) <|
  grd (okKin ((Int.toNat i_1)) ((List.length x_4))) <|
  (some (decide (x_3 < (List.getD x_4 (Int.toNat i_1) (0, 0)).1)))) : Option (Bool)) := rfl
theorem m_sort_Search_L1_eq (c_1 : Int) (c_2 : Int) (c_3 : Int) (c_4 : List (Int × Int)) (i32 : Int) (j1 : Int) : m_sort_Search_L1 std c_1 c_2 c_3 c_4 (i32, j1) =
((bif (decide (i32 < j1)) then
    grd (okI .i64 ((i32 + j1))) <|
    grd (okI .u64 ((i32 + j1))) <|
    grd (okIdx 1 65) <|
    grd (okI .i64 (((i32 + j1) / 2 ^ (Int.toNat 1)))) <|
    Option.bind (m_granule_Near_1 std (((i32 + j1) / 2 ^ (Int.toNat 1))) c_1 c_2 c_3 c_4) fun b73 =>
    Option.bind (
      bif (!b73) then
        grd (okI .i64 ((((i32 + j1) / 2 ^ (Int.toNat 1)) + 1))) <|
        (some ((((i32 + j1) / 2 ^ (Int.toNat 1)) + 1), j1))
      else
        (some (i32, ((i32 + j1) / 2 ^ (Int.toNat 1)))) : Option ((Int × Int))) fun (i34, j3) =>
    (some (Sum.inl (i34, j3)))
  else
    (some (Sum.inr i32))) : Option ((Int × Int) ⊕ (Int))) := rfl
theorem m_sort_Search_eq (n_1 : Int) (c_1 : Int) (c_2 : Int) (c_3 : Int) (c_4 : List (Int × Int)) : m_sort_Search std n_1 c_1 c_2 c_3 c_4 =
((Option.bind (loop (m_sort_Search_L1 std c_1 c_2 c_3 c_4) (0, n_1)) fun i35 =>
  (some i35)) : Option (Int)) := rfl
theorem m_granule_Near_eq (c_1 : Int) (c_2 : Int) (x_1 : Int) (c_3 : List (Int × Int)) : m_granule_Near std c_1 c_2 x_1 c_3 =
((Option.bind (
    Option.bind (m_granule_Valid std c_1 c_2 c_3) fun b71 =>
    bif (!b71) then
      (some true)
    else
      Option.bind (m_granule_line std x_1) fun b72 =>
      (some (!b72)) : Option ((Bool))) fun x216 =>
  bif x216 then
    (some 0)
  else
    grd (okI .i64 ((x_1 - c_1))) <|
    Option.bind (m_integer_Floor std ((x_1 - c_1)) c_2) fun n129 =>
    grd (okI .i64 ((c_2 * n129))) <|
    grd (okI .i64 (((x_1 - c_1) - (c_2 * n129)))) <|
    Option.bind (m_sort_Search std ((((List.length c_3) : Nat) : Int)) c_1 c_2 (((x_1 - c_1) - (c_2 * n129))) c_3) fun n130 =>
    grd (okI .i64 (((((List.length c_3) : Nat) : Int) * n129))) <|
    grd (okI .i64 ((((((List.length c_3) : Nat) : Int) * n129) + n130))) <|
    grd (okI .i64 (((((((List.length c_3) : Nat) : Int) * n129) + n130) - 1))) <|
    (some ((((((List.length c_3) : Nat) : Int) * n129) + n130) - 1))) : Option (Int)) := rfl
theorem m_granule_Find_eq (c_1 : Int) (c_2 : Int) (x_1 : Int) (c_3 : List (Int × Int)) : m_granule_Find std c_1 c_2 x_1 c_3 =
((Option.bind (
    Option.bind (m_granule_Valid std c_1 c_2 c_3) fun b69 =>
    bif (!b69) then
      (some true)
    else
      Option.bind (m_granule_line std x_1) fun b70 =>
      (some (!b70)) : Option ((Bool))) fun x214 =>
  bif x214 then
    (some (0, false))
  else
    Option.bind (m_granule_Near std c_1 c_2 x_1 c_3) fun n131 =>
    Option.bind (m_granule_at std c_1 c_2 n131 c_3) fun (_, n133) =>
    bif (decide (n133 ≤ x_1)) then
      (some (0, false))
    else
      (some (n131, true))) : Option (Int × Bool)) := rfl
theorem m_law16_GroupKeeps_1_eq (x_1 : Int) (x_2 : Int) (x_3 : List (Int × Int)) (x_4 : Int) (x_5 : Int) (x_6 : Int) (x_7 : List (Int × Int)) : m_law16_GroupKeeps_1 std x_1 x_2 x_3 x_4 x_5 x_6 x_7 =
((Option.bind (m_granule_Span std x_1 x_2 x_4 x_3) fun (n126, n127, n128) =>
  bif (!(n128 == 0)) then
    (some true)
  else
    Option.bind (m_granule_Find std x_5 x_6 n126 x_7) fun (n134, b74) =>
    Option.bind (m_granule_Span std x_5 x_6 n134 x_7) fun (n135, n136, n137) =>
    Option.bind (
      bif b74 then
        bif (n137 == 0) then
          (some ((n126 == n135) && (n127 == n136)))
        else
          (some false)
      else
        (some false) : Option ((Bool))) fun x219 =>
    (some x219)) : Option (Bool)) := rfl
theorem m_group_Inside_1_eq (l_1 : Int) (x_1 : Int) (x_2 : Int) (x_3 : Int) (x_4 : Int) (x_5 : Int) (x_6 : List (Int × Int)) (x_7 : List (Int × Int)) : m_group_Inside_1 std l_1 x_1 x_2 x_3 x_4 x_5 x_6 x_7 =
((Option.bind (m_group_at std x_1 x_2 l_1 x_6) fun (n140, n141) =>
  grd (okI .i64 ((n140 - 1))) <|
  grd (okI .i64 ((n141 - 1))) <|
  Option.bind (m_granule_Near std x_3 x_4 ((n140 - 1)) x_7) fun n142 =>
  grd (okI .i64 ((n142 + 1))) <|
  Option.bind (m_granule_Near std x_3 x_4 ((n141 - 1)) x_7) fun n143 =>
  Option.bind (m_group_at std x_3 x_4 n143 x_7) fun (_, n145) =>
  Option.bind (
    bif (decide (n141 < n145)) then
      grd (okI .i64 ((n143 - 1))) <|
      (some (n143 - 1))
    else
      (some n143) : Option ((Int))) fun last2 =>
  grd (okI .i64 ((last2 - (n142 + 1)))) <|
  grd (okI .i64 (((last2 - (n142 + 1)) + 1))) <|
  Option.bind (
    bif (decide (0 < x_5)) then
      (some (decide (x_5 ≤ ((last2 - (n142 + 1)) + 1))))
    else
      (some false) : Option ((Bool))) fun x228 =>
  Option.bind (
    bif x228 then
      grd (okI .i64 (((n142 + 1) + x_5))) <|
      grd (okI .i64 ((((n142 + 1) + x_5) - 1))) <|
      Option.bind (m_group_at std x_3 x_4 ((((n142 + 1) + x_5) - 1)) x_7) fun (n146, n147) =>
      (some (Sum.inl (n146, n147)))
    else
      Option.bind (
        bif (decide (x_5 < 0)) then
          grd (okI .i64 ((0 - ((last2 - (n142 + 1)) + 1)))) <|
          (some (decide ((0 - ((last2 - (n142 + 1)) + 1)) ≤ x_5)))
        else
          (some false) : Option ((Bool))) fun x230 =>
      bif x230 then
        grd (okI .i64 ((last2 + x_5))) <|
        grd (okI .i64 (((last2 + x_5) + 1))) <|
        Option.bind (m_group_at std x_3 x_4 (((last2 + x_5) + 1)) x_7) fun (n148, n149) =>
        (some (Sum.inl (n148, n149)))
      else
        (some (Sum.inr ())) : Option (((Int × Int) ⊕ (Unit)))) fun e => match e with
  | .inl (x233, x234) =>
    (some (x233, x234, true))
  | .inr (_) =>
    (some (0, 0, false))) : Option (Int × Int × Bool)) := rfl
theorem m_group_collect_3_L1_eq (c_1 : Int) (c_2 : Int) (c_3 : Int) (c_4 : Int) (c_5 : Int) (c_6 : List (Int × Int)) (c_7 : List (Int × Int)) (n_1 : Int) (x235 : Int) (l100 : List (Int × Int)) : m_group_collect_3_L1 std c_1 c_2 c_3 c_4 c_5 c_6 c_7 n_1 (x235, l100) =
((bif (decide (x235 < n_1)) then
    Option.bind (m_group_Inside_1 std x235 c_1 c_2 c_3 c_4 c_5 c_6 c_7) fun (n152, n153, b80) =>
    Option.bind (
      bif b80 then
        grd (okRoom ((List.length l100))) <|
        grd (okRoom ((List.length [(n152, n153)]))) <|
        (some (l100 ++ [(n152, n153)]))
      else
        (some l100) : Option ((List (Int × Int)))) fun l102 =>
    grd (okI .i64 ((x235 + 1))) <|
    (some (Sum.inl ((x235 + 1), l102)))
  else
    (some (Sum.inr l100))) : Option ((Int × List (Int × Int)) ⊕ (List (Int × Int)))) := rfl
theorem m_group_collect_3_eq (period_1 : Int) (n_1 : Int) (c_1 : Int) (c_2 : Int) (c_3 : Int) (c_4 : Int) (c_5 : Int) (c_6 : List (Int × Int)) (c_7 : List (Int × Int)) : m_group_collect_3 std period_1 n_1 c_1 c_2 c_3 c_4 c_5 c_6 c_7 =
((Option.bind (loop (m_group_collect_3_L1 std c_1 c_2 c_3 c_4 c_5 c_6 c_7 n_1) (0, ([] : List (Int × Int)))) fun l103 =>
  bif ((((List.length l103) : Nat) : Int) == 0) then
    (some (0, 0, ([] : List (Int × Int)), 7))
  else
    Option.bind (m_group_made std period_1 l103) fun (n154, n155, l104, n156) =>
    (some (n154, n155, l104, n156))) : Option (Int × Int × List (Int × Int) × Int)) := rfl
theorem m_group_Inside_eq (c_1 : Int) (c_2 : Int) (in_1 : Int) (in_2 : Int) (m_1 : Int) (c_3 : List (Int × Int)) (in_3 : List (Int × Int)) : m_group_Inside std c_1 c_2 in_1 in_2 m_1 c_3 in_3 =
((Option.bind (
    Option.bind (m_granule_Valid std c_1 c_2 c_3) fun b77 =>
    bif (!b77) then
      (some true)
    else
      Option.bind (m_granule_Valid std in_1 in_2 in_3) fun b78 =>
      bif (!b78) then
        (some true)
      else
        (some (m_1 == 0)) : Option ((Bool))) fun x223 =>
  bif x223 then
    (some (0, 0, ([] : List (Int × Int)), 1))
  else
    Option.bind (m_group_common std c_2 in_2) fun (n138, n139) =>
    bif (!(n139 == 0)) then
      (some (0, 0, ([] : List (Int × Int)), n139))
    else
      grd (okNz in_2) <|
      grd (okI .i64 ((Int.tdiv n138 in_2))) <|
      grd (okI .i64 (((((List.length in_3) : Nat) : Int) * (Int.tdiv n138 in_2)))) <|
      Option.bind (
        bif (decide (5000 < ((((List.length in_3) : Nat) : Int) * (Int.tdiv n138 in_2)))) then
          (some true)
        else
          grd (okNz c_2) <|
          grd (okI .i64 ((Int.tdiv n138 c_2))) <|
          grd (okI .i64 (((((List.length c_3) : Nat) : Int) * (Int.tdiv n138 c_2)))) <|
          (some (decide (5000 < ((((List.length c_3) : Nat) : Int) * (Int.tdiv n138 c_2))))) : Option ((Bool))) fun x225 =>
      bif x225 then
        (some (0, 0, ([] : List (Int × Int)), 5))
      else
        Option.bind (m_group_collect_3 std n138 (((((List.length in_3) : Nat) : Int) * (Int.tdiv n138 in_2))) in_1 in_2 c_1 c_2 m_1 in_3 c_3) fun (n157, n158, l105, n159) =>
        (some (n157, n158, l105, n159))) : Option (Int × Int × List (Int × Int) × Int)) := rfl
theorem m_law16_GroupKeeps_eq (c_1 : Int) (c_2 : Int) (in_1 : Int) (in_2 : Int) (p_1 : Int) (m_1 : Int) (k_1 : Int) (c_3 : List (Int × Int)) (in_3 : List (Int × Int)) (p_2 : List (Int × Int)) : m_law16_GroupKeeps std c_1 c_2 in_1 in_2 p_1 m_1 k_1 c_3 in_3 p_2 =
((Option.bind (m_law16_awake std) fun b58 =>
  bif (!b58) then
    (some false)
  else
    Option.bind (
      Option.bind (m_law16_great_2 std c_1 c_2 in_1 in_2 c_3 in_3) fun b62 =>
      bif b62 then
        (some true)
      else
        bif (decide (40 < (((List.length p_2) : Nat) : Int))) then
          (some true)
        else
          Option.bind (m_granule_Valid std c_1 c_2 c_3) fun b63 =>
          bif (!b63) then
            (some true)
          else
            Option.bind (m_granule_Valid std in_1 in_2 in_3) fun b64 =>
            bif (!b64) then
              (some true)
            else
              bif (decide (k_1 < (-1000))) then
                (some true)
              else
                bif (decide (1000 < k_1)) then
                  (some true)
                else
                  Option.bind (m_law16_few std c_1 c_2 in_1 in_2 c_3 in_3) fun b65 =>
                  (some (!b65)) : Option ((Bool))) fun x208 =>
    bif x208 then
      (some true)
    else
      Option.bind (m_group_Restrict std c_1 c_2 p_1 c_3 p_2) fun (n116, n117, l96, n118) =>
      Option.bind (
        bif (n118 == 0) then
          Option.bind (m_group_Restrict std n116 n117 p_1 l96 p_2) fun (n119, n120, l97, n121) =>
          Option.bind (
            Option.bind (m_law16_GroupKeeps_1 std n116 n117 l96 k_1 c_1 c_2 c_3) fun b75 =>
            bif (!b75) then
              (some true)
            else
              bif (!(n121 == 0)) then
                (some true)
              else
                Option.bind (m_ref16_Same std n116 n117 n119 n120 l96 l97) fun b76 =>
                (some (!b76)) : Option ((Bool))) fun x221 =>
          bif x221 then
            (some (Sum.inl ()))
          else
            (some (Sum.inr ()))
        else
          (some (Sum.inr ())) : Option (((Unit) ⊕ (Unit)))) fun e => match e with
      | .inl _ =>
        (some false)
      | .inr (_) =>
        Option.bind (m_group_Inside std c_1 c_2 in_1 in_2 m_1 c_3 in_3) fun (n160, n161, l106, n162) =>
        Option.bind (
          bif (!(n162 == 0)) then
            (some true)
          else
            Option.bind (m_law16_GroupKeeps_1 std n160 n161 l106 k_1 c_1 c_2 c_3) fun b81 =>
            (some b81) : Option ((Bool))) fun x237 =>
        (some x237)) : Option (Bool)) := rfl
end Go.Proofs.Ytebkfbkgmbgobaa
