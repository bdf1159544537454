/-
  Equations of models (printed by lift.py).
-/
import Derived.Test.YtoklfjkanipjkaaGM
namespace Go.Proofs.Ytoklfjkanipjkaa
open Go.RowKit
set_option maxRecDepth 100000

theorem m_law16_days_eq : m_law16_days std =
(((some (0, 1, [(0, 1)]))) : Option (Int × Int × List (Int × Int))) := rfl
theorem m_granule_half_eq (x_1 : Int) : m_granule_half std x_1 =
((Option.bind (
    bif (decide ((-2199023255552) ≤ x_1)) then
      (some (decide (x_1 ≤ 2199023255552)))
    else
      (some false) : Option ((Bool))) fun x2 =>
  (some x2)) : Option (Bool)) := rfl
theorem m_interval_line_eq (x_1 : Int) : m_interval_line std x_1 =
((Option.bind (
    bif (decide ((-4398046511104) ≤ x_1)) then
      (some (decide (x_1 ≤ 4398046511104)))
    else
      (some false) : Option ((Bool))) fun x5 =>
  (some x5)) : Option (Bool)) := rfl
theorem m_interval_Valid_eq (s_1 : Int) (s_2 : Int) : m_interval_Valid std s_1 s_2 =
((Option.bind (
    Option.bind (m_interval_line std s_1) fun b2 =>
    bif b2 then
      Option.bind (m_interval_line std s_2) fun b3 =>
      bif b3 then
        (some (decide (s_1 < s_2)))
      else
        (some false)
    else
      (some false) : Option ((Bool))) fun x8 =>
  (some x8)) : Option (Bool)) := rfl
theorem m_granule_ascending_L1_eq (l_1 : List (Int × Int)) (x3 : Int) : m_granule_ascending_L1 std l_1 x3 =
((bif (decide (x3 < (((List.length l_1) : Nat) : Int))) then
    grd (okIdx x3 ((List.length l_1))) <|
    grd (okKin ((Int.toNat x3)) ((List.length l_1))) <|
    Option.bind (
      Option.bind (m_interval_Valid std ((List.getD l_1 (Int.toNat x3) (0, 0)).1) ((List.getD l_1 (Int.toNat x3) (0, 0)).2)) fun b4 =>
      bif (!b4) then
        (some true)
      else
        bif (decide (0 < x3)) then
          grd (okI .i64 ((x3 - 1))) <|
          grd (okIdx ((x3 - 1)) ((List.length l_1))) <|
          grd (okKin ((Int.toNat (x3 - 1))) ((List.length l_1))) <|
          (some (decide ((List.getD l_1 (Int.toNat x3) (0, 0)).1 < (List.getD l_1 (Int.toNat (x3 - 1)) (0, 0)).2)))
        else
          (some false) : Option ((Bool))) fun x11 =>
    bif x11 then
      (some (Sum.inr (Sum.inl ())))
    else
      grd (okI .i64 ((x3 + 1))) <|
      (some (Sum.inl (x3 + 1)))
  else
    (some (Sum.inr (Sum.inr ())))) : Option ((Int) ⊕ ((Unit) ⊕ (Unit)))) := rfl
theorem m_granule_ascending_eq (l_1 : List (Int × Int)) : m_granule_ascending std l_1 =
((Option.bind (loop (m_granule_ascending_L1 std l_1) 0) fun e => match e with
  | .inl _ =>
    (some false)
  | .inr (_) =>
    (some (decide (0 < (((List.length l_1) : Nat) : Int))))) : Option (Bool)) := rfl
theorem m_granule_least_L1_eq (l_1 : List (Int × Int)) (m1 : Int) (period_1 : Int) (same1 : Bool) (i1 : Int) : m_granule_least_L1 std l_1 m1 period_1 (same1, i1) =
((Option.bind (
    bif (decide ((i1 + m1) < (((List.length l_1) : Nat) : Int))) then
      grd (okI .i64 ((i1 + m1))) <|
      (some same1)
    else
      grd (okI .i64 ((i1 + m1))) <|
      (some false) : Option ((Bool))) fun x17 =>
  bif x17 then
    grd (okIdx ((i1 + m1)) ((List.length l_1))) <|
    grd (okKin ((Int.toNat (i1 + m1))) ((List.length l_1))) <|
    grd (okIdx i1 ((List.length l_1))) <|
    grd (okKin ((Int.toNat i1)) ((List.length l_1))) <|
    grd (okI .i64 (((List.getD l_1 (Int.toNat i1) (0, 0)).1 + (Int.tdiv period_1 (Int.tdiv (((List.length l_1) : Nat) : Int) m1))))) <|
    grd (okI .i64 (((List.getD l_1 (Int.toNat i1) (0, 0)).2 + (Int.tdiv period_1 (Int.tdiv (((List.length l_1) : Nat) : Int) m1))))) <|
    grd (okI .i64 ((i1 + 1))) <|
    (some (Sum.inl ((((List.getD l_1 (Int.toNat (i1 + m1)) (0, 0)).1 == ((List.getD l_1 (Int.toNat i1) (0, 0)).1 + (Int.tdiv period_1 (Int.tdiv (((List.length l_1) : Nat) : Int) m1)))) && ((List.getD l_1 (Int.toNat (i1 + m1)) (0, 0)).2 == ((List.getD l_1 (Int.toNat i1) (0, 0)).2 + (Int.tdiv period_1 (Int.tdiv (((List.length l_1) : Nat) : Int) m1))))), (i1 + 1))))
  else
    (some (Sum.inr same1))) : Option ((Bool × Int) ⊕ (Bool))) := rfl
theorem m_granule_least_L2_eq (l_1 : List (Int × Int)) (period_1 : Int) (m1 : Int) : m_granule_least_L2 std l_1 period_1 m1 =
((bif (decide (m1 < (((List.length l_1) : Nat) : Int))) then
    Option.bind (
      bif (!((Int.tmod (((List.length l_1) : Nat) : Int) m1) == 0)) then
        grd (okNz m1) <|
        (some true)
      else
        grd (okNz m1) <|
        grd (okI .i64 ((Int.tdiv (((List.length l_1) : Nat) : Int) m1))) <|
        grd (okNz ((Int.tdiv (((List.length l_1) : Nat) : Int) m1))) <|
        (some (!((Int.tmod period_1 (Int.tdiv (((List.length l_1) : Nat) : Int) m1)) == 0))) : Option ((Bool))) fun x15 =>
    bif x15 then
      grd (okI .i64 ((m1 + 1))) <|
      (some (Sum.inl (m1 + 1)))
    else
      grd (okI .i64 ((Int.tdiv (((List.length l_1) : Nat) : Int) m1))) <|
      grd (okNz ((Int.tdiv (((List.length l_1) : Nat) : Int) m1))) <|
      grd (okI .i64 ((Int.tdiv period_1 (Int.tdiv (((List.length l_1) : Nat) : Int) m1)))) <|
      Option.bind (loop (m_granule_least_L1 std l_1 m1 period_1) (true, 0)) fun same2 =>
      bif same2 then
        (some (Sum.inr (Sum.inl m1)))
      else
        grd (okI .i64 ((m1 + 1))) <|
        (some (Sum.inl (m1 + 1)))
  else
    (some (Sum.inr (Sum.inr ())))) : Option ((Int) ⊕ ((Int) ⊕ (Unit)))) := rfl
theorem m_granule_least_eq (period_1 : Int) (l_1 : List (Int × Int)) : m_granule_least std period_1 l_1 =
((Option.bind (loop (m_granule_least_L2 std l_1 period_1) 1) fun e => match e with
  | .inl x18 =>
    (some x18)
  | .inr (_) =>
    (some (((List.length l_1) : Nat) : Int))) : Option (Int)) := rfl
theorem m_granule_Valid_eq (c_1 : Int) (c_2 : Int) (c_3 : List (Int × Int)) : m_granule_Valid std c_1 c_2 c_3 =
((Option.bind (
    bif (decide ((((List.length c_3) : Nat) : Int) < 1)) then
      (some true)
    else
      bif (decide (5000 < (((List.length c_3) : Nat) : Int))) then
        (some true)
      else
        bif (decide (c_2 < 1)) then
          (some true)
        else
          bif (decide (12622780800 < c_2)) then
            (some true)
          else
            Option.bind (m_granule_half std c_1) fun b1 =>
            bif (!b1) then
              (some true)
            else
              Option.bind (m_granule_ascending std c_3) fun b5 =>
              bif (!b5) then
                (some true)
              else
                bif (!((List.getD c_3 (Int.toNat 0) (0, 0)).1 == 0)) then
                  grd (okIdx 0 ((List.length c_3))) <|
                  grd (okKin ((Int.toNat 0)) ((List.length c_3))) <|
                  (some true)
                else
                  grd (okIdx 0 ((List.length c_3))) <|
                  grd (okKin ((Int.toNat 0)) ((List.length c_3))) <|
                  grd (okI .i64 (((((List.length c_3) : Nat) : Int) - 1))) <|
                  grd (okIdx (((((List.length c_3) : Nat) : Int) - 1)) ((List.length c_3))) <|
                  grd (okKin ((Int.toNat ((((List.length c_3) : Nat) : Int) - 1))) ((List.length c_3))) <|
                  (some (decide (c_2 < (List.getD c_3 (Int.toNat ((((List.length c_3) : Nat) : Int) - 1)) (0, 0)).2))) : Option ((Bool))) fun x13 =>
  bif x13 then
    (some false)
  else
    Option.bind (m_granule_least std c_2 c_3) fun n3 =>
    (some (n3 == (((List.length c_3) : Nat) : Int)))) : Option (Bool)) := rfl
theorem m_integer_size_eq (a_1 : Int) : m_integer_size std a_1 =
((bif (decide (a_1 < 0)) then
    grd (okI .u64 a_1) <|
    grd (okI .u64 ((0 - a_1))) <|
    (some (0 - a_1))
  else
    grd (okI .u64 a_1) <|
    (some a_1)) : Option (Int)) := rfl
theorem m_integer_signed_eq (m_1 : Int) (neg_1 : Bool) : m_integer_signed std m_1 neg_1 =
((Option.bind (
    bif neg_1 then
      (some (true, (decide (m_1 ≤ 9223372036854775808))))
    else
      (some (false, false)) : Option ((Bool × Bool))) fun (neg2, x24) =>
  Option.bind (
    bif x24 then
      grd (okI .u64 ((0 - m_1))) <|
      grd (okI .i64 ((0 - m_1))) <|
      (some (Sum.inl (0 - m_1)))
    else
      Option.bind (
        bif (!neg2) then
          (some (decide (m_1 ≤ 9223372036854775807)))
        else
          (some false) : Option ((Bool))) fun x26 =>
      bif x26 then
        grd (okI .i64 m_1) <|
        (some (Sum.inl m_1))
      else
        (some (Sum.inr ())) : Option (((Int) ⊕ (Unit)))) fun e => match e with
  | .inl x28 =>
    (some (x28, true))
  | .inr (_) =>
    (some (0, false))) : Option (Int × Bool)) := rfl
theorem m_integer_Gcd_L1_eq (x21 : Int) (y1 : Int) : m_integer_Gcd_L1 std (x21, y1) =
((bif (!(y1 == 0)) then
    grd (okNz y1) <|
    (some (Sum.inl (y1, (Int.tmod x21 y1))))
  else
    (some (Sum.inr x21))) : Option ((Int × Int) ⊕ (Int))) := rfl
theorem m_integer_Gcd_eq (a_1 : Int) (b_1 : Int) : m_integer_Gcd std a_1 b_1 =
((Option.bind (m_integer_size std a_1) fun n4 =>
  Option.bind (m_integer_size std b_1) fun n5 =>
  Option.bind (loop (m_integer_Gcd_L1 std) (n4, n5)) fun x22 =>
  Option.bind (m_integer_signed std x22 false) fun (n6, _) =>
  (some n6)) : Option (Int)) := rfl
theorem m_group_blocks_eq (c_1 : Int) (c_2 : Int) (m_1 : Int) (c_3 : List (Int × Int)) : m_group_blocks std c_1 c_2 m_1 c_3 =
((Option.bind (m_integer_Gcd std ((((List.length c_3) : Nat) : Int)) m_1) fun n7 =>
  grd (okNz n7) <|
  grd (okI .i64 ((Int.tdiv m_1 n7))) <|
  Option.bind (m_integer_Mul std c_2 ((Int.tdiv m_1 n7))) fun (n8, n9) =>
  Option.bind (
    bif (!(n9 == 0)) then
      (some true)
    else
      (some (decide (12622780800 < n8))) : Option ((Bool))) fun x30 =>
  bif x30 then
    (some (0, 0, 9))
  else
    grd (okI .i64 ((Int.tdiv (((List.length c_3) : Nat) : Int) n7))) <|
    (some (n8, (Int.tdiv (((List.length c_3) : Nat) : Int) n7), 0))) : Option (Int × Int × Int)) := rfl
theorem m_integer_Div_eq (a_1 : Int) (b_1 : Int) : m_integer_Div std a_1 b_1 =
((Option.bind (
    bif (b_1 == 0) then
      (some (Sum.inl 10))
    else
      Option.bind (
        bif (a_1 == (-9223372036854775808)) then
          (some (b_1 == (-1)))
        else
          (some false) : Option ((Bool))) fun x35 =>
      bif x35 then
        (some (Sum.inl 9))
      else
        (some (Sum.inr ())) : Option (((Int) ⊕ (Unit)))) fun e => match e with
  | .inl x37 =>
    (some (0, 0, x37))
  | .inr (_) =>
    grd (okNz b_1) <|
    grd (okI .i64 ((Int.tdiv a_1 b_1))) <|
    Option.bind (
      bif (!((Int.tmod a_1 b_1) == 0)) then
        (some (!((decide ((Int.tmod a_1 b_1) < 0)) == (decide (b_1 < 0)))))
      else
        (some false) : Option ((Bool))) fun x39 =>
    Option.bind (
      bif x39 then
        grd (okI .i64 (((Int.tdiv a_1 b_1) - 1))) <|
        grd (okI .i64 (((Int.tmod a_1 b_1) + b_1))) <|
        (some (((Int.tdiv a_1 b_1) - 1), ((Int.tmod a_1 b_1) + b_1)))
      else
        (some ((Int.tdiv a_1 b_1), (Int.tmod a_1 b_1))) : Option ((Int × Int))) fun (q2, r2) =>
    (some (q2, r2, 0))) : Option (Int × Int × Int)) := rfl
theorem m_integer_Mod_eq (a_1 : Int) (b_1 : Int) : m_integer_Mod std a_1 b_1 =
((Option.bind (m_integer_Div std a_1 b_1) fun (_, n14, _) =>
  (some n14)) : Option (Int)) := rfl
theorem m_integer_Floor_eq (a_1 : Int) (b_1 : Int) : m_integer_Floor std a_1 b_1 =
((Option.bind (m_integer_Div std a_1 b_1) fun (n17, _, _) =>
  (some n17)) : Option (Int)) := rfl
theorem m_group_at_eq (c_1 : Int) (c_2 : Int) (k_1 : Int) (c_3 : List (Int × Int)) : m_group_at std c_1 c_2 k_1 c_3 =
((Option.bind (m_integer_Mod std k_1 ((((List.length c_3) : Nat) : Int))) fun n16 =>
  grd (okIdx n16 ((List.length c_3))) <|
  grd (okKin ((Int.toNat n16)) ((List.length c_3))) <|
  Option.bind (m_integer_Floor std k_1 ((((List.length c_3) : Nat) : Int))) fun n20 =>
  grd (okI .i64 ((c_2 * n20))) <|
  grd (okI .i64 ((c_1 + (c_2 * n20)))) <|
  grd (okI .i64 (((List.getD c_3 (Int.toNat n16) (0, 0)).1 + (c_1 + (c_2 * n20))))) <|
  grd (okI .i64 (((List.getD c_3 (Int.toNat n16) (0, 0)).2 + (c_1 + (c_2 * n20))))) <|
  (some (((List.getD c_3 (Int.toNat n16) (0, 0)).1 + (c_1 + (c_2 * n20))), ((List.getD c_3 (Int.toNat n16) (0, 0)).2 + (c_1 + (c_2 * n20)))))) : Option (Int × Int)) := rfl
theorem m_group_Groups_1_eq (j_1 : Int) (x_1 : Int) (x_2 : Int) (x_3 : Int) (x_4 : Int) (x_5 : List (Int × Int)) : m_group_Groups_1 std j_1 x_1 x_2 x_3 x_4 x_5 =
((grd (okI .i64 ((j_1 * x_4))) <|
  grd (okI .i64 ((x_3 + (j_1 * x_4)))) <|
  grd (okI .i64 ((j_1 + 1))) <|
  grd (okI .i64 (((j_1 + 1) * x_4))) <|
  grd (okI .i64 ((x_3 + ((j_1 + 1) * x_4)))) <|
  grd (okI .i64 (((x_3 + ((j_1 + 1) * x_4)) - 1))) <|
  Option.bind (m_group_at std x_1 x_2 ((x_3 + (j_1 * x_4))) x_5) fun (n21, _) =>
  Option.bind (m_group_at std x_1 x_2 (((x_3 + ((j_1 + 1) * x_4)) - 1)) x_5) fun (_, n24) =>
  (some (n21, n24, true))) : Option (Int × Int × Bool)) := rfl
theorem m_granule_line_eq (x_1 : Int) : m_granule_line std x_1 =
((Option.bind (
    bif (decide ((-4398046511104) ≤ x_1)) then
      (some (decide (x_1 ≤ 4398046511104)))
    else
      (some false) : Option ((Bool))) fun x46 =>
  (some x46)) : Option (Bool)) := rfl
theorem m_granule_Of_L1_eq (l_1 : List (Int × Int)) (x51 : Int) (l10 : List (Int × Int)) : m_granule_Of_L1 std l_1 (x51, l10) =
((bif (decide (x51 < (((List.length l_1) : Nat) : Int))) then
    grd (okIdx x51 ((List.length l_1))) <|
    grd (okKin ((Int.toNat x51)) ((List.length l_1))) <|
    grd (okI .i64 (((List.getD l_1 (Int.toNat x51) (0, 0)).1 - (List.getD l_1 (Int.toNat 0) (0, 0)).1))) <|
    grd (okI .i64 (((List.getD l_1 (Int.toNat x51) (0, 0)).2 - (List.getD l_1 (Int.toNat 0) (0, 0)).1))) <|
    grd (okRoom ((List.length l10))) <|
    grd (okRoom ((List.length [(((List.getD l_1 (Int.toNat x51) (0, 0)).1 - (List.getD l_1 (Int.toNat 0) (0, 0)).1), ((List.getD l_1 (Int.toNat x51) (0, 0)).2 - (List.getD l_1 (Int.toNat 0) (0, 0)).1))]))) <|
    grd (okI .i64 ((x51 + 1))) <|
    (some (Sum.inl ((x51 + 1), (l10 ++ [(((List.getD l_1 (Int.toNat x51) (0, 0)).1 - (List.getD l_1 (Int.toNat 0) (0, 0)).1), ((List.getD l_1 (Int.toNat x51) (0, 0)).2 - (List.getD l_1 (Int.toNat 0) (0, 0)).1))]))))
  else
    (some (Sum.inr l10))) : Option ((Int × List (Int × Int)) ⊕ (List (Int × Int)))) := rfl
theorem m_granule_Of_eq (origin_1 : Int) (period_1 : Int) (l_1 : List (Int × Int)) : m_granule_Of std origin_1 period_1 l_1 =
((Option.bind (
    bif (decide (period_1 < 1)) then
      (some true)
    else
      bif (decide (12622780800 < period_1)) then
        (some true)
      else
        Option.bind (m_granule_ascending std l_1) fun b10 =>
        bif (!b10) then
          (some true)
        else
          grd (okI .i64 (((((List.length l_1) : Nat) : Int) - 1))) <|
          grd (okIdx (((((List.length l_1) : Nat) : Int) - 1)) ((List.length l_1))) <|
          grd (okKin ((Int.toNat ((((List.length l_1) : Nat) : Int) - 1))) ((List.length l_1))) <|
          grd (okIdx 0 ((List.length l_1))) <|
          grd (okKin ((Int.toNat 0)) ((List.length l_1))) <|
          grd (okI .i64 (((List.getD l_1 (Int.toNat ((((List.length l_1) : Nat) : Int) - 1)) (0, 0)).2 - (List.getD l_1 (Int.toNat 0) (0, 0)).1))) <|
          (some (decide (period_1 < ((List.getD l_1 (Int.toNat ((((List.length l_1) : Nat) : Int) - 1)) (0, 0)).2 - (List.getD l_1 (Int.toNat 0) (0, 0)).1)))) : Option ((Bool))) fun x44 =>
  bif x44 then
    (some (0, 0, ([] : List (Int × Int)), 1))
  else
    bif (decide (5000 < (((List.length l_1) : Nat) : Int))) then
      (some (0, 0, ([] : List (Int × Int)), 5))
    else
      grd (okIdx 0 ((List.length l_1))) <|
      grd (okKin ((Int.toNat 0)) ((List.length l_1))) <|
      Option.bind (
        Option.bind (m_granule_line std origin_1) fun b11 =>
        bif (!b11) then
          (some true)
        else
          grd (okI .i64 ((origin_1 + (List.getD l_1 (Int.toNat 0) (0, 0)).1))) <|
          Option.bind (m_granule_half std ((origin_1 + (List.getD l_1 (Int.toNat 0) (0, 0)).1))) fun b12 =>
          (some (!b12)) : Option ((Bool))) fun x48 =>
      bif x48 then
        (some (0, 0, ([] : List (Int × Int)), 2))
      else
        grd (okI .i64 ((origin_1 + (List.getD l_1 (Int.toNat 0) (0, 0)).1))) <|
        Option.bind (loop (m_granule_Of_L1 std l_1) (0, ([] : List (Int × Int)))) fun l11 =>
        Option.bind (m_granule_least std period_1 l11) fun n29 =>
        grd (okNz n29) <|
        grd (okI .i64 ((Int.tdiv (((List.length l11) : Nat) : Int) n29))) <|
        grd (okNz ((Int.tdiv (((List.length l11) : Nat) : Int) n29))) <|
        grd (okI .i64 ((Int.tdiv period_1 (Int.tdiv (((List.length l11) : Nat) : Int) n29)))) <|
        grd (okRng n29 ((List.length l11))) <|
        grd (okRng n29 ((Int.toNat n29))) <|
        (some ((origin_1 + (List.getD l_1 (Int.toNat 0) (0, 0)).1), (Int.tdiv period_1 (Int.tdiv (((List.length l11) : Nat) : Int) n29)), (List.take ((Int.toNat n29) - 0) (List.drop 0 l11)), 0))) : Option (Int × Int × List (Int × Int) × Int)) := rfl
theorem m_group_made_L1_eq (l_1 : List (Int × Int)) (x42 : Int) (l8 : List (Int × Int)) : m_group_made_L1 std l_1 (x42, l8) =
((bif (decide (x42 < (((List.length l_1) : Nat) : Int))) then
    grd (okIdx x42 ((List.length l_1))) <|
    grd (okKin ((Int.toNat x42)) ((List.length l_1))) <|
    grd (okI .i64 (((List.getD l_1 (Int.toNat x42) (0, 0)).1 - (List.getD l_1 (Int.toNat 0) (0, 0)).1))) <|
    grd (okI .i64 (((List.getD l_1 (Int.toNat x42) (0, 0)).2 - (List.getD l_1 (Int.toNat 0) (0, 0)).1))) <|
    grd (okRoom ((List.length l8))) <|
    grd (okRoom ((List.length [(((List.getD l_1 (Int.toNat x42) (0, 0)).1 - (List.getD l_1 (Int.toNat 0) (0, 0)).1), ((List.getD l_1 (Int.toNat x42) (0, 0)).2 - (List.getD l_1 (Int.toNat 0) (0, 0)).1))]))) <|
    grd (okI .i64 ((x42 + 1))) <|
    (some (Sum.inl ((x42 + 1), (l8 ++ [(((List.getD l_1 (Int.toNat x42) (0, 0)).1 - (List.getD l_1 (Int.toNat 0) (0, 0)).1), ((List.getD l_1 (Int.toNat x42) (0, 0)).2 - (List.getD l_1 (Int.toNat 0) (0, 0)).1))]))))
  else
    (some (Sum.inr l8))) : Option ((Int × List (Int × Int)) ⊕ (List (Int × Int)))) := rfl
theorem m_group_made_eq (period_1 : Int) (l_1 : List (Int × Int)) : m_group_made std period_1 l_1 =
((grd (okIdx 0 ((List.length l_1))) <|
  grd (okKin ((Int.toNat 0)) ((List.length l_1))) <|
  grd (okRng ((((List.length l_1) : Nat) : Int)) ((Int.toNat (((List.length l_1) : Nat) : Int)))) <|
  grd (okRng 0 ((Int.toNat (((List.length l_1) : Nat) : Int)))) <|
  grd (okRoom ((Int.toNat (((List.length l_1) : Nat) : Int)))) <|
  Option.bind (loop (m_group_made_L1 std l_1) (0, (List.replicate (Int.toNat 0) (0, 0)))) fun l9 =>
  Option.bind (m_granule_Of std ((List.getD l_1 (Int.toNat 0) (0, 0)).1) period_1 l9) fun (n30, n31, l12, n32) =>
  (some (n30, n31, l12, n32))) : Option (Int × Int × List (Int × Int) × Int)) := rfl
theorem m_group_collect_L1_eq (c_1 : Int) (c_2 : Int) (c_3 : Int) (c_4 : Int) (c_5 : List (Int × Int)) (n_1 : Int) (x40 : Int) (l4 : List (Int × Int)) : m_group_collect_L1 std c_1 c_2 c_3 c_4 c_5 n_1 (x40, l4) =
((bif (decide (x40 < n_1)) then
    Option.bind (m_group_Groups_1 std x40 c_1 c_2 c_3 c_4 c_5) fun (n27, n28, b9) =>
    Option.bind (
      bif b9 then
        grd (okRoom ((List.length l4))) <|
        grd (okRoom ((List.length [(n27, n28)]))) <|
        (some (l4 ++ [(n27, n28)]))
      else
        (some l4) : Option ((List (Int × Int)))) fun l6 =>
    grd (okI .i64 ((x40 + 1))) <|
    (some (Sum.inl ((x40 + 1), l6)))
  else
    (some (Sum.inr l4))) : Option ((Int × List (Int × Int)) ⊕ (List (Int × Int)))) := rfl
theorem m_group_collect_eq (period_1 : Int) (n_1 : Int) (c_1 : Int) (c_2 : Int) (c_3 : Int) (c_4 : Int) (c_5 : List (Int × Int)) : m_group_collect std period_1 n_1 c_1 c_2 c_3 c_4 c_5 =
((Option.bind (loop (m_group_collect_L1 std c_1 c_2 c_3 c_4 c_5 n_1) (0, ([] : List (Int × Int)))) fun l7 =>
  bif ((((List.length l7) : Nat) : Int) == 0) then
    (some (0, 0, ([] : List (Int × Int)), 7))
  else
    Option.bind (m_group_made std period_1 l7) fun (n33, n34, l13, n35) =>
    (some (n33, n34, l13, n35))) : Option (Int × Int × List (Int × Int) × Int)) := rfl
theorem m_group_Groups_eq (c_1 : Int) (c_2 : Int) (first_1 : Int) (m_1 : Int) (c_3 : List (Int × Int)) : m_group_Groups std c_1 c_2 first_1 m_1 c_3 =
((Option.bind (
    Option.bind (m_granule_Valid std c_1 c_2 c_3) fun b6 =>
    bif (!b6) then
      (some true)
    else
      bif (decide (m_1 < 1)) then
        (some true)
      else
        bif (decide (12622780800 < m_1)) then
          (some true)
        else
          bif (decide (first_1 < (-268435456))) then
            (some true)
          else
            (some (decide (268435456 < first_1))) : Option ((Bool))) fun x20 =>
  bif x20 then
    (some (0, 0, ([] : List (Int × Int)), 1))
  else
    Option.bind (m_group_blocks std c_1 c_2 m_1 c_3) fun (n10, n11, n12) =>
    Option.bind (
      bif (!(n12 == 0)) then
        (some (Sum.inl n12))
      else
        bif (decide (5000 < n11)) then
          (some (Sum.inl 5))
        else
          (some (Sum.inr ())) : Option (((Int) ⊕ (Unit)))) fun e => match e with
    | .inl x32 =>
      (some (0, 0, ([] : List (Int × Int)), x32))
    | .inr (_) =>
      Option.bind (m_group_collect std n10 n11 c_1 c_2 first_1 m_1 c_3) fun (n36, n37, l14, n38) =>
      (some (n36, n37, l14, n38))) : Option (Int × Int × List (Int × Int) × Int)) := rfl
theorem m_group_Custom_1_eq (n_1 : Int) : m_group_Custom_1 std n_1 =
((Option.bind (
    bif (decide (n_1 < 1)) then
      (some true)
    else
      (some (decide (12622780800 < n_1))) : Option ((Bool))) fun x60 =>
  (some x60)) : Option (Bool)) := rfl
theorem m_slices_IndexFunc_L1_eq (s_1 : List Int) (x58 : Int) : m_slices_IndexFunc_L1 std s_1 x58 =
((bif (decide (x58 < (((List.length s_1) : Nat) : Int))) then
    grd (okIdx x58 ((List.length s_1))) <|
    grd (okKin ((Int.toNat x58)) ((List.length s_1))) <|
    Option.bind (m_group_Custom_1 std ((List.getD s_1 (Int.toNat x58) 0))) fun b13 =>
    bif b13 then
      (some (Sum.inr (Sum.inl x58)))
    else
      grd (okI .i64 ((x58 + 1))) <|
      (some (Sum.inl (x58 + 1)))
  else
    (some (Sum.inr (Sum.inr ())))) : Option ((Int) ⊕ ((Int) ⊕ (Unit)))) := rfl
theorem m_slices_IndexFunc_eq (s_1 : List Int) : m_slices_IndexFunc std s_1 =
((Option.bind (loop (m_slices_IndexFunc_L1 std s_1) 0) fun e => match e with
  | .inl x61 =>
    (some x61)
  | .inr (_) =>
    (some (-1))) : Option (Int)) := rfl
theorem m_slices_ContainsFunc_eq (s_1 : List Int) : m_slices_ContainsFunc std s_1 =
((Option.bind (m_slices_IndexFunc std s_1) fun n42 =>
  (some (decide (0 ≤ n42)))) : Option (Bool)) := rfl
theorem m_group_Custom_L1_eq (lengths_1 : List Int) (sum2 : Int) (x65 : Int) (l18 : List (Int × Int)) : m_group_Custom_L1 std lengths_1 (sum2, x65, l18) =
((bif (decide (x65 < (((List.length lengths_1) : Nat) : Int))) then
    grd (okIdx x65 ((List.length lengths_1))) <|
    grd (okKin ((Int.toNat x65)) ((List.length lengths_1))) <|
    grd (okI .i64 ((sum2 + (List.getD lengths_1 (Int.toNat x65) 0)))) <|
    grd (okRoom ((List.length l18))) <|
    grd (okRoom ((List.length [(sum2, (sum2 + (List.getD lengths_1 (Int.toNat x65) 0)))]))) <|
    grd (okI .i64 ((x65 + 1))) <|
    (some (Sum.inl ((sum2 + (List.getD lengths_1 (Int.toNat x65) 0)), (x65 + 1), (l18 ++ [(sum2, (sum2 + (List.getD lengths_1 (Int.toNat x65) 0)))]))))
  else
    (some (Sum.inr (sum2, l18)))) : Option ((Int × Int × List (Int × Int)) ⊕ (Int × List (Int × Int)))) := rfl
theorem m_group_Custom_eq (origin_1 : Int) (lengths_1 : List Int) : m_group_Custom std origin_1 lengths_1 =
((Option.bind (
    bif ((((List.length lengths_1) : Nat) : Int) == 0) then
      (some true)
    else
      Option.bind (m_slices_ContainsFunc std lengths_1) fun b14 =>
      (some b14) : Option ((Bool))) fun x63 =>
  bif x63 then
    (some (0, 0, ([] : List (Int × Int)), 1))
  else
    bif (decide (5000 < (((List.length lengths_1) : Nat) : Int))) then
      (some (0, 0, ([] : List (Int × Int)), 5))
    else
      Option.bind (loop (m_group_Custom_L1 std lengths_1) (0, 0, ([] : List (Int × Int)))) fun (sum3, l19) =>
      bif (decide (12622780800 < sum3)) then
        (some (0, 0, ([] : List (Int × Int)), 9))
      else
        Option.bind (m_granule_Of std origin_1 sum3 l19) fun (n43, n44, l20, n45) =>
        (some (n43, n44, l20, n45))) : Option (Int × Int × List (Int × Int) × Int)) := rfl
theorem m_group_Fiscal_L1_eq (pattern_1 : List Int) (x55 : Int) (l16 : List Int) : m_group_Fiscal_L1 std pattern_1 (x55, l16) =
((bif (decide (x55 < (((List.length pattern_1) : Nat) : Int))) then
    grd (okIdx x55 ((List.length pattern_1))) <|
    grd (okKin ((Int.toNat x55)) ((List.length pattern_1))) <|
    Option.bind (
      bif (decide ((List.getD pattern_1 (Int.toNat x55) 0) < 1)) then
        (some true)
      else
        (some (decide (60 < (List.getD pattern_1 (Int.toNat x55) 0)))) : Option ((Bool))) fun x57 =>
    bif x57 then
      (some (Sum.inr (Sum.inl ())))
    else
      grd (okI .i64 ((7 * (List.getD pattern_1 (Int.toNat x55) 0)))) <|
      grd (okRoom ((List.length l16))) <|
      grd (okRoom ((List.length [(7 * (List.getD pattern_1 (Int.toNat x55) 0))]))) <|
      grd (okI .i64 ((x55 + 1))) <|
      (some (Sum.inl ((x55 + 1), (l16 ++ [(7 * (List.getD pattern_1 (Int.toNat x55) 0))]))))
  else
    (some (Sum.inr (Sum.inr l16)))) : Option ((Int × List Int) ⊕ ((Unit) ⊕ (List Int)))) := rfl
theorem m_group_Fiscal_eq (origin_1 : Int) (pattern_1 : List Int) : m_group_Fiscal std origin_1 pattern_1 =
((Option.bind (loop (m_group_Fiscal_L1 std pattern_1) (0, ([] : List Int))) fun e => match e with
  | .inl _ =>
    (some (0, 0, ([] : List (Int × Int)), 1))
  | .inr (l17) =>
    Option.bind (m_group_Custom std origin_1 l17) fun (n46, n47, l21, n48) =>
    (some (n46, n47, l21, n48))) : Option (Int × Int × List (Int × Int) × Int)) := rfl
theorem m_ref12_Same_L1_eq (a_1 : List (Int × Int)) (b_1 : List (Int × Int)) (i2 : Int) : m_ref12_Same_L1 std a_1 b_1 i2 =
((bif (decide (i2 < (((List.length a_1) : Nat) : Int))) then
    Option.bind (
      bif (!((List.getD a_1 (Int.toNat i2) (0, 0)).1 == (List.getD b_1 (Int.toNat i2) (0, 0)).1)) then
        grd (okIdx i2 ((List.length a_1))) <|
        grd (okKin ((Int.toNat i2)) ((List.length a_1))) <|
        grd (okIdx i2 ((List.length b_1))) <|
        grd (okKin ((Int.toNat i2)) ((List.length b_1))) <|
        (some true)
      else
        grd (okIdx i2 ((List.length a_1))) <|
        grd (okKin ((Int.toNat i2)) ((List.length a_1))) <|
        grd (okIdx i2 ((List.length b_1))) <|
        grd (okKin ((Int.toNat i2)) ((List.length b_1))) <|
        (some (!((List.getD a_1 (Int.toNat i2) (0, 0)).2 == (List.getD b_1 (Int.toNat i2) (0, 0)).2))) : Option ((Bool))) fun x67 =>
    bif x67 then
      (some (Sum.inr (Sum.inl ())))
    else
      grd (okI .i64 ((i2 + 1))) <|
      (some (Sum.inl (i2 + 1)))
  else
    (some (Sum.inr (Sum.inr ())))) : Option ((Int) ⊕ ((Unit) ⊕ (Unit)))) := rfl
theorem m_ref12_Same_eq (a_1 : List (Int × Int)) (b_1 : List (Int × Int)) : m_ref12_Same std a_1 b_1 =
((bif (!((((List.length a_1) : Nat) : Int) == (((List.length b_1) : Nat) : Int))) then
    (some false)
  else
    Option.bind (loop (m_ref12_Same_L1 std a_1 b_1) 0) fun e => match e with
    | .inl _ =>
      (some false)
    | .inr (_) =>
      (some true)) : Option (Bool)) := rfl
theorem m_ref16_Same_eq (a_1 : Int) (a_2 : Int) (b_1 : Int) (b_2 : Int) (a_3 : List (Int × Int)) (b_3 : List (Int × Int)) : m_ref16_Same std a_1 a_2 b_1 b_2 a_3 b_3 =
((Option.bind (
    bif (a_1 == b_1) then
      bif (a_2 == b_2) then
        Option.bind (m_ref12_Same std a_3 b_3) fun b15 =>
        (some b15)
      else
        (some false)
    else
      (some false) : Option ((Bool))) fun x70 =>
  (some x70)) : Option (Bool)) := rfl
theorem m_slices_Equal_L1_eq (s1_1 : List (Int × Int)) (s2_1 : List (Int × Int)) (x71 : Int) : m_slices_Equal_L1 std s1_1 s2_1 x71 =
((bif (decide (x71 < (((List.length s1_1) : Nat) : Int))) then
    grd (okIdx x71 ((List.length s1_1))) <|
    grd (okKin ((Int.toNat x71)) ((List.length s1_1))) <|
    grd (okIdx x71 ((List.length s2_1))) <|
    grd (okKin ((Int.toNat x71)) ((List.length s2_1))) <|
    bif (!(((List.getD s1_1 (Int.toNat x71) (0, 0)).1 == (List.getD s2_1 (Int.toNat x71) (0, 0)).1) && ((List.getD s1_1 (Int.toNat x71) (0, 0)).2 == (List.getD s2_1 (Int.toNat x71) (0, 0)).2))) then
      (some (Sum.inr (Sum.inl ())))
    else
      grd (okI .i64 ((x71 + 1))) <|
      (some (Sum.inl (x71 + 1)))
  else
    (some (Sum.inr (Sum.inr ())))) : Option ((Int) ⊕ ((Unit) ⊕ (Unit)))) := rfl
theorem m_slices_Equal_eq (s1_1 : List (Int × Int)) (s2_1 : List (Int × Int)) : m_slices_Equal std s1_1 s2_1 =
((bif (!((((List.length s1_1) : Nat) : Int) == (((List.length s2_1) : Nat) : Int))) then
    (some false)
  else
    Option.bind (loop (m_slices_Equal_L1 std s1_1 s2_1) 0) fun e => match e with
    | .inl _ =>
      (some false)
    | .inr (_) =>
      (some true)) : Option (Bool)) := rfl
theorem m_law16_awake_eq : m_law16_awake std =
((Option.bind (m_law16_days std) fun (n1, n2, l1) =>
  Option.bind (m_group_Groups std n1 n2 4 7 l1) fun (n39, n40, l15, n41) =>
  Option.bind (m_group_Fiscal std 0 ([4, 4, 5])) fun (_, n50, l22, n51) =>
  Option.bind (
    bif (n41 == 0) then
      Option.bind (m_ref16_Same std n39 n40 4 7 l15 ([(0, 7)])) fun b16 =>
      bif b16 then
        bif (n51 == 0) then
          bif (n50 == 91) then
            Option.bind (m_slices_Equal std l22 ([(0, 28), (28, 56), (56, 91)])) fun b17 =>
            (some b17)
          else
            (some false)
        else
          (some false)
      else
        (some false)
    else
      (some false) : Option ((Bool))) fun x76 =>
  (some x76)) : Option (Bool)) := rfl
theorem m_law16_great_1_eq (c_1 : Int) (c_2 : Int) (c_3 : List (Int × Int)) : m_law16_great_1 std c_1 c_2 c_3 =
(((some (decide (40 < (((List.length c_3) : Nat) : Int))))) : Option (Bool)) := rfl
theorem m_slices_IndexFunc_2_eq (s_1 : Int) (s_2 : Int) (s_3 : List (Int × Int)) : m_slices_IndexFunc_2 std s_1 s_2 s_3 =
((Option.bind (m_law16_great_1 std s_1 s_2 s_3) fun b19 =>
  bif b19 then
    (some 0)
  else
    grd (okI .i64 ((0 + 1))) <|
    (some (-1))) : Option (Int)) := rfl
theorem m_slices_ContainsFunc_2_eq (s_1 : Int) (s_2 : Int) (s_3 : List (Int × Int)) : m_slices_ContainsFunc_2 std s_1 s_2 s_3 =
((Option.bind (m_slices_IndexFunc_2 std s_1 s_2 s_3) fun n52 =>
  (some (decide (0 ≤ n52)))) : Option (Bool)) := rfl
theorem m_law16_great_eq (l_1 : Int) (l_2 : Int) (l_3 : List (Int × Int)) : m_law16_great std l_1 l_2 l_3 =
((Option.bind (m_slices_ContainsFunc_2 std l_1 l_2 l_3) fun b20 =>
  (some b20)) : Option (Bool)) := rfl
theorem m_ref16_repeats_L1_eq (d_1 : Int) (l_1 : List (Int × Int)) (part_1 : Int) (i4 : Int) : m_ref16_repeats_L1 std d_1 l_1 part_1 i4 =
((bif (decide (i4 < (((List.length l_1) : Nat) : Int))) then
    Option.bind (
      bif (!((List.getD l_1 (Int.toNat i4) (0, 0)).1 == ((List.getD l_1 (Int.toNat (i4 - d_1)) (0, 0)).1 + part_1))) then
        grd (okIdx i4 ((List.length l_1))) <|
        grd (okKin ((Int.toNat i4)) ((List.length l_1))) <|
        grd (okI .i64 ((i4 - d_1))) <|
        grd (okIdx ((i4 - d_1)) ((List.length l_1))) <|
        grd (okKin ((Int.toNat (i4 - d_1))) ((List.length l_1))) <|
        grd (okI .i64 (((List.getD l_1 (Int.toNat (i4 - d_1)) (0, 0)).1 + part_1))) <|
        (some true)
      else
        grd (okIdx i4 ((List.length l_1))) <|
        grd (okKin ((Int.toNat i4)) ((List.length l_1))) <|
        grd (okI .i64 ((i4 - d_1))) <|
        grd (okIdx ((i4 - d_1)) ((List.length l_1))) <|
        grd (okKin ((Int.toNat (i4 - d_1))) ((List.length l_1))) <|
        grd (okI .i64 (((List.getD l_1 (Int.toNat (i4 - d_1)) (0, 0)).1 + part_1))) <|
        grd (okI .i64 (((List.getD l_1 (Int.toNat (i4 - d_1)) (0, 0)).2 + part_1))) <|
        (some (!((List.getD l_1 (Int.toNat i4) (0, 0)).2 == ((List.getD l_1 (Int.toNat (i4 - d_1)) (0, 0)).2 + part_1)))) : Option ((Bool))) fun x83 =>
    bif x83 then
      (some (Sum.inr (Sum.inl ())))
    else
      grd (okI .i64 ((i4 + 1))) <|
      (some (Sum.inl (i4 + 1)))
  else
    (some (Sum.inr (Sum.inr ())))) : Option ((Int) ⊕ ((Unit) ⊕ (Unit)))) := rfl
theorem m_ref16_repeats_eq (part_1 : Int) (d_1 : Int) (l_1 : List (Int × Int)) : m_ref16_repeats std part_1 d_1 l_1 =
((Option.bind (loop (m_ref16_repeats_L1 std d_1 l_1 part_1) d_1) fun e => match e with
  | .inl _ =>
    (some false)
  | .inr (_) =>
    (some true)) : Option (Bool)) := rfl
theorem m_ref16_least_L1_eq (l_1 : List (Int × Int)) (period_1 : Int) (d1 : Int) : m_ref16_least_L1 std l_1 period_1 d1 =
((bif (decide (d1 < (((List.length l_1) : Nat) : Int))) then
    Option.bind (
      bif ((Int.tmod (((List.length l_1) : Nat) : Int) d1) == 0) then
        bif ((Int.tmod period_1 (Int.tdiv (((List.length l_1) : Nat) : Int) d1)) == 0) then
          grd (okNz d1) <|
          grd (okI .i64 ((Int.tdiv (((List.length l_1) : Nat) : Int) d1))) <|
          grd (okNz ((Int.tdiv (((List.length l_1) : Nat) : Int) d1))) <|
          grd (okI .i64 ((Int.tdiv period_1 (Int.tdiv (((List.length l_1) : Nat) : Int) d1)))) <|
          Option.bind (m_ref16_repeats std ((Int.tdiv period_1 (Int.tdiv (((List.length l_1) : Nat) : Int) d1))) d1 l_1) fun b22 =>
          (some b22)
        else
          grd (okNz d1) <|
          grd (okI .i64 ((Int.tdiv (((List.length l_1) : Nat) : Int) d1))) <|
          grd (okNz ((Int.tdiv (((List.length l_1) : Nat) : Int) d1))) <|
          (some false)
      else
        grd (okNz d1) <|
        (some false) : Option ((Bool))) fun x86 =>
    bif x86 then
      (some (Sum.inr (Sum.inl d1)))
    else
      grd (okI .i64 ((d1 + 1))) <|
      (some (Sum.inl (d1 + 1)))
  else
    (some (Sum.inr (Sum.inr ())))) : Option ((Int) ⊕ ((Int) ⊕ (Unit)))) := rfl
theorem m_ref16_least_eq (period_1 : Int) (l_1 : List (Int × Int)) : m_ref16_least std period_1 l_1 =
((Option.bind (loop (m_ref16_least_L1 std l_1 period_1) 1) fun e => match e with
  | .inl x87 =>
    (some x87)
  | .inr (_) =>
    (some (((List.length l_1) : Nat) : Int))) : Option (Int)) := rfl
theorem m_ref16_Valid_L1_eq (c_2 : Int) (c_3 : List (Int × Int)) (i3 : Int) : m_ref16_Valid_L1 std c_2 c_3 i3 =
((bif (decide (i3 < (((List.length c_3) : Nat) : Int))) then
    Option.bind (
      bif (decide ((List.getD c_3 (Int.toNat i3) (0, 0)).2 ≤ (List.getD c_3 (Int.toNat i3) (0, 0)).1)) then
        grd (okIdx i3 ((List.length c_3))) <|
        grd (okKin ((Int.toNat i3)) ((List.length c_3))) <|
        (some true)
      else
        bif (decide ((List.getD c_3 (Int.toNat i3) (0, 0)).1 < 0)) then
          grd (okIdx i3 ((List.length c_3))) <|
          grd (okKin ((Int.toNat i3)) ((List.length c_3))) <|
          (some true)
        else
          bif (decide (c_2 < (List.getD c_3 (Int.toNat i3) (0, 0)).2)) then
            grd (okIdx i3 ((List.length c_3))) <|
            grd (okKin ((Int.toNat i3)) ((List.length c_3))) <|
            (some true)
          else
            bif (decide (0 < i3)) then
              grd (okIdx i3 ((List.length c_3))) <|
              grd (okKin ((Int.toNat i3)) ((List.length c_3))) <|
              grd (okI .i64 ((i3 - 1))) <|
              grd (okIdx ((i3 - 1)) ((List.length c_3))) <|
              grd (okKin ((Int.toNat (i3 - 1))) ((List.length c_3))) <|
              (some (decide ((List.getD c_3 (Int.toNat i3) (0, 0)).1 < (List.getD c_3 (Int.toNat (i3 - 1)) (0, 0)).2)))
            else
              grd (okIdx i3 ((List.length c_3))) <|
              grd (okKin ((Int.toNat i3)) ((List.length c_3))) <|
              (some false) : Option ((Bool))) fun x81 =>
    bif x81 then
      (some (Sum.inr (Sum.inl ())))
    else
      grd (okI .i64 ((i3 + 1))) <|
      (some (Sum.inl (i3 + 1)))
  else
    (some (Sum.inr (Sum.inr ())))) : Option ((Int) ⊕ ((Unit) ⊕ (Unit)))) := rfl
theorem m_ref16_Valid_eq (c_1 : Int) (c_2 : Int) (c_3 : List (Int × Int)) : m_ref16_Valid std c_1 c_2 c_3 =
((Option.bind (
    bif (decide ((((List.length c_3) : Nat) : Int) < 1)) then
      (some true)
    else
      bif (decide (5000 < (((List.length c_3) : Nat) : Int))) then
        (some true)
      else
        bif (decide (c_2 < 1)) then
          (some true)
        else
          bif (decide (12622780800 < c_2)) then
            (some true)
          else
            bif (decide (2199023255552 < c_1)) then
              (some true)
            else
              bif (decide (c_1 < (-2199023255552))) then
                (some true)
              else
                grd (okIdx 0 ((List.length c_3))) <|
                grd (okKin ((Int.toNat 0)) ((List.length c_3))) <|
                (some (!((List.getD c_3 (Int.toNat 0) (0, 0)).1 == 0))) : Option ((Bool))) fun x78 =>
  bif x78 then
    (some false)
  else
    Option.bind (loop (m_ref16_Valid_L1 std c_2 c_3) 0) fun e => match e with
    | .inl _ =>
      (some false)
    | .inr (_) =>
      Option.bind (m_ref16_least std c_2 c_3) fun n56 =>
      (some (n56 == (((List.length c_3) : Nat) : Int)))) : Option (Bool)) := rfl
theorem m_law16_is_eq (c_1 : Int) (c_2 : Int) (e_1 : Int) (want_1 : Int) (want_2 : Int) (f_1 : Int) (c_3 : List (Int × Int)) (want_3 : List (Int × Int)) : m_law16_is std c_1 c_2 e_1 want_1 want_2 f_1 c_3 want_3 =
((Option.bind (
    bif (e_1 == f_1) then
      Option.bind (m_ref16_Same std c_1 c_2 want_1 want_2 c_3 want_3) fun b24 =>
      bif b24 then
        bif (!(e_1 == 0)) then
          (some true)
        else
          Option.bind (m_ref16_Valid std c_1 c_2 c_3) fun b25 =>
          (some b25)
      else
        (some false)
    else
      (some false) : Option ((Bool))) fun x91 =>
  (some x91)) : Option (Bool)) := rfl
theorem m_ref01_Gcd_L1_eq (a1 : Int) (b27 : Int) : m_ref01_Gcd_L1 std (a1, b27) =
((bif (!(b27 == 0)) then
    bif (b27 == (-1)) then
      (some (Sum.inr (Sum.inl ())))
    else
      grd (okNz b27) <|
      (some (Sum.inl (b27, (Int.tmod a1 b27))))
  else
    (some (Sum.inr (Sum.inr a1)))) : Option ((Int × Int) ⊕ ((Unit) ⊕ (Int)))) := rfl
theorem m_ref01_Gcd_eq (a_1 : Int) (b_1 : Int) : m_ref01_Gcd std a_1 b_1 =
((Option.bind (loop (m_ref01_Gcd_L1 std) (a_1, b_1)) fun e => match e with
  | .inl _ =>
    (some 1)
  | .inr (a2) =>
    bif (a2 == (-9223372036854775808)) then
      (some 0)
    else
      Option.bind (
        bif (decide (a2 < 0)) then
          grd (okI .i64 ((0 - a2))) <|
          (some (0 - a2))
        else
          (some a2) : Option ((Int))) fun a4 =>
      (some a4)) : Option (Int)) := rfl
theorem m_ref01_Div_eq (a_1 : Int) (b_1 : Int) : m_ref01_Div std a_1 b_1 =
((bif (b_1 == 0) then
    (some (0, 0, 10))
  else
    Option.bind (
      bif (a_1 == (-9223372036854775808)) then
        (some (b_1 == (-1)))
      else
        (some false) : Option ((Bool))) fun x95 =>
    bif x95 then
      (some (0, 0, 9))
    else
      grd (okNz b_1) <|
      grd (okI .i64 ((Int.tdiv a_1 b_1))) <|
      Option.bind (
        bif (!((Int.tmod a_1 b_1) == 0)) then
          (some (!((decide ((Int.tmod a_1 b_1) < 0)) == (decide (b_1 < 0)))))
        else
          (some false) : Option ((Bool))) fun x97 =>
      Option.bind (
        bif x97 then
          grd (okI .i64 (((Int.tdiv a_1 b_1) - 1))) <|
          grd (okI .i64 (((Int.tmod a_1 b_1) + b_1))) <|
          (some (((Int.tdiv a_1 b_1) - 1), ((Int.tmod a_1 b_1) + b_1)))
        else
          (some ((Int.tdiv a_1 b_1), (Int.tmod a_1 b_1))) : Option ((Int × Int))) fun (q4, r4) =>
      (some (q4, r4, 0))) : Option (Int × Int × Int)) := rfl
theorem m_ref01_Floor_eq (a_1 : Int) (b_1 : Int) : m_ref01_Floor std a_1 b_1 =
((Option.bind (m_ref01_Div std a_1 b_1) fun (n58, _, _) =>
  (some n58)) : Option (Int)) := rfl
theorem m_ref16_Granule_eq (c_1 : Int) (c_2 : Int) (k_1 : Int) (c_3 : List (Int × Int)) : m_ref16_Granule std c_1 c_2 k_1 c_3 =
((Option.bind (m_ref01_Floor std k_1 ((((List.length c_3) : Nat) : Int))) fun n61 =>
  grd (okI .i64 (((((List.length c_3) : Nat) : Int) * n61))) <|
  grd (okI .i64 ((k_1 - ((((List.length c_3) : Nat) : Int) * n61)))) <|
  grd (okIdx ((k_1 - ((((List.length c_3) : Nat) : Int) * n61))) ((List.length c_3))) <|
  grd (okKin ((Int.toNat (k_1 - ((((List.length c_3) : Nat) : Int) * n61)))) ((List.length c_3))) <|
  grd (okI .i64 ((c_2 * n61))) <|
  grd (okI .i64 ((c_1 + (c_2 * n61)))) <|
  grd (okI .i64 (((List.getD c_3 (Int.toNat (k_1 - ((((List.length c_3) : Nat) : Int) * n61))) (0, 0)).1 + (c_1 + (c_2 * n61))))) <|
  grd (okI .i64 (((List.getD c_3 (Int.toNat (k_1 - ((((List.length c_3) : Nat) : Int) * n61))) (0, 0)).2 + (c_1 + (c_2 * n61))))) <|
  (some (((List.getD c_3 (Int.toNat (k_1 - ((((List.length c_3) : Nat) : Int) * n61))) (0, 0)).1 + (c_1 + (c_2 * n61))), ((List.getD c_3 (Int.toNat (k_1 - ((((List.length c_3) : Nat) : Int) * n61))) (0, 0)).2 + (c_1 + (c_2 * n61)))))) : Option (Int × Int)) := rfl
theorem m_ref16_Make_L1_eq (l_1 : List (Int × Int)) (i6 : Int) (l26 : List (Int × Int)) : m_ref16_Make_L1 std l_1 (i6, l26) =
((bif (decide (i6 < (((List.length l_1) : Nat) : Int))) then
    grd (okIdx i6 ((List.length l_1))) <|
    grd (okKin ((Int.toNat i6)) ((List.length l_1))) <|
    grd (okI .i64 (((List.getD l_1 (Int.toNat i6) (0, 0)).1 - (List.getD l_1 (Int.toNat 0) (0, 0)).1))) <|
    grd (okI .i64 (((List.getD l_1 (Int.toNat i6) (0, 0)).2 - (List.getD l_1 (Int.toNat 0) (0, 0)).1))) <|
    grd (okRoom ((List.length l26))) <|
    grd (okRoom ((List.length [(((List.getD l_1 (Int.toNat i6) (0, 0)).1 - (List.getD l_1 (Int.toNat 0) (0, 0)).1), ((List.getD l_1 (Int.toNat i6) (0, 0)).2 - (List.getD l_1 (Int.toNat 0) (0, 0)).1))]))) <|
    grd (okI .i64 ((i6 + 1))) <|
    (some (Sum.inl ((i6 + 1), (l26 ++ [(((List.getD l_1 (Int.toNat i6) (0, 0)).1 - (List.getD l_1 (Int.toNat 0) (0, 0)).1), ((List.getD l_1 (Int.toNat i6) (0, 0)).2 - (List.getD l_1 (Int.toNat 0) (0, 0)).1))]))))
  else
    (some (Sum.inr l26))) : Option ((Int × List (Int × Int)) ⊕ (List (Int × Int)))) := rfl
theorem m_ref16_Make_eq (period_1 : Int) (l_1 : List (Int × Int)) : m_ref16_Make std period_1 l_1 =
((grd (okIdx 0 ((List.length l_1))) <|
  grd (okKin ((Int.toNat 0)) ((List.length l_1))) <|
  Option.bind (
    bif (decide (2199023255552 < (List.getD l_1 (Int.toNat 0) (0, 0)).1)) then
      (some true)
    else
      (some (decide ((List.getD l_1 (Int.toNat 0) (0, 0)).1 < (-2199023255552)))) : Option ((Bool))) fun x99 =>
  bif x99 then
    (some (0, 0, ([] : List (Int × Int)), 2))
  else
    Option.bind (loop (m_ref16_Make_L1 std l_1) (0, ([] : List (Int × Int)))) fun l27 =>
    Option.bind (m_ref16_least std period_1 l27) fun n70 =>
    grd (okNz n70) <|
    grd (okI .i64 ((Int.tdiv (((List.length l27) : Nat) : Int) n70))) <|
    grd (okNz ((Int.tdiv (((List.length l27) : Nat) : Int) n70))) <|
    grd (okI .i64 ((Int.tdiv period_1 (Int.tdiv (((List.length l27) : Nat) : Int) n70)))) <|
    grd (okRng n70 ((List.length l27))) <|
    (some ((List.getD l_1 (Int.toNat 0) (0, 0)).1, (Int.tdiv period_1 (Int.tdiv (((List.length l27) : Nat) : Int) n70)), (List.take ((Int.toNat n70) - 0) (List.drop 0 l27)), 0))) : Option (Int × Int × List (Int × Int) × Int)) := rfl
theorem m_ref16_Groups_L1_eq (c_1 : Int) (c_2 : Int) (c_3 : List (Int × Int)) (first_1 : Int) (m_1 : Int) (n57 : Int) (j2 : Int) (l24 : List (Int × Int)) : m_ref16_Groups_L1 std c_1 c_2 c_3 first_1 m_1 n57 (j2, l24) =
((bif (decide (j2 < (Int.tdiv (((List.length c_3) : Nat) : Int) n57))) then
    grd (okI .i64 ((j2 * m_1))) <|
    grd (okI .i64 ((first_1 + (j2 * m_1)))) <|
    grd (okI .i64 ((j2 + 1))) <|
    grd (okI .i64 (((j2 + 1) * m_1))) <|
    grd (okI .i64 ((first_1 + ((j2 + 1) * m_1)))) <|
    grd (okI .i64 (((first_1 + ((j2 + 1) * m_1)) - 1))) <|
    Option.bind (m_ref16_Granule std c_1 c_2 ((first_1 + (j2 * m_1))) c_3) fun (n66, _) =>
    Option.bind (m_ref16_Granule std c_1 c_2 (((first_1 + ((j2 + 1) * m_1)) - 1)) c_3) fun (_, n69) =>
    grd (okRoom ((List.length l24))) <|
    grd (okRoom ((List.length [(n66, n69)]))) <|
    (some (Sum.inl ((j2 + 1), (l24 ++ [(n66, n69)]))))
  else
    (some (Sum.inr l24))) : Option ((Int × List (Int × Int)) ⊕ (List (Int × Int)))) := rfl
theorem m_ref16_Groups_eq (c_1 : Int) (c_2 : Int) (first_1 : Int) (m_1 : Int) (c_3 : List (Int × Int)) : m_ref16_Groups std c_1 c_2 first_1 m_1 c_3 =
((Option.bind (
    bif (decide (m_1 < 1)) then
      (some true)
    else
      bif (decide (12622780800 < m_1)) then
        (some true)
      else
        bif (decide (268435456 < first_1)) then
          (some true)
        else
          (some (decide (first_1 < (-268435456)))) : Option ((Bool))) fun x93 =>
  bif x93 then
    (some (0, 0, ([] : List (Int × Int)), 1))
  else
    Option.bind (m_ref01_Gcd std ((((List.length c_3) : Nat) : Int)) m_1) fun n57 =>
    grd (okNz n57) <|
    grd (okI .i64 ((Int.tdiv m_1 n57))) <|
    grd (okNz c_2) <|
    grd (okI .i64 ((Int.tdiv 12622780800 c_2))) <|
    bif (decide ((Int.tdiv 12622780800 c_2) < (Int.tdiv m_1 n57))) then
      (some (0, 0, ([] : List (Int × Int)), 9))
    else
      grd (okI .i64 ((Int.tdiv (((List.length c_3) : Nat) : Int) n57))) <|
      bif (decide (5000 < (Int.tdiv (((List.length c_3) : Nat) : Int) n57))) then
        (some (0, 0, ([] : List (Int × Int)), 5))
      else
        Option.bind (loop (m_ref16_Groups_L1 std c_1 c_2 c_3 first_1 m_1 n57) (0, ([] : List (Int × Int)))) fun l25 =>
        grd (okI .i64 ((c_2 * (Int.tdiv m_1 n57)))) <|
        Option.bind (m_ref16_Make std ((c_2 * (Int.tdiv m_1 n57))) l25) fun (n71, n72, l28, n73) =>
        (some (n71, n72, l28, n73))) : Option (Int × Int × List (Int × Int) × Int)) := rfl
theorem m_law16_GroupGroups_eq (c_1 : Int) (c_2 : Int) (first_1 : Int) (m_1 : Int) (c_3 : List (Int × Int)) : m_law16_GroupGroups std c_1 c_2 first_1 m_1 c_3 =
((Option.bind (m_law16_awake std) fun b18 =>
  bif (!b18) then
    (some false)
  else
    Option.bind (m_law16_great std c_1 c_2 c_3) fun b21 =>
    bif b21 then
      (some true)
    else
      Option.bind (m_group_Groups std c_1 c_2 first_1 m_1 c_3) fun (n53, n54, l23, n55) =>
      Option.bind (m_ref16_Valid std c_1 c_2 c_3) fun b23 =>
      bif (!b23) then
        Option.bind (m_law16_is std n53 n54 n55 0 0 1 l23 (([] : List (Int × Int)))) fun b26 =>
        (some b26)
      else
        Option.bind (m_ref16_Groups std c_1 c_2 first_1 m_1 c_3) fun (n74, n75, l29, n76) =>
        Option.bind (m_law16_is std n53 n54 n55 n74 n75 n76 l23 l29) fun b28 =>
        (some b28)) : Option (Bool)) := rfl
theorem m_group_Split_1_eq (s_1 : Int) (s_2 : Int) (x_1 : Int) : m_group_Split_1 std s_1 s_2 x_1 =
((grd (okI .i64 ((s_2 - s_1))) <|
  grd (okNz x_1) <|
  (some (!((Int.tmod (s_2 - s_1) x_1) == 0)))) : Option (Bool)) := rfl
theorem m_slices_IndexFunc_3_L1_eq (c_1 : Int) (s_1 : List (Int × Int)) (x102 : Int) : m_slices_IndexFunc_3_L1 std c_1 s_1 x102 =
((bif (decide (x102 < (((List.length s_1) : Nat) : Int))) then
    grd (okIdx x102 ((List.length s_1))) <|
    grd (okKin ((Int.toNat x102)) ((List.length s_1))) <|
    Option.bind (m_group_Split_1 std ((List.getD s_1 (Int.toNat x102) (0, 0)).1) ((List.getD s_1 (Int.toNat x102) (0, 0)).2) c_1) fun b32 =>
    bif b32 then
      (some (Sum.inr (Sum.inl x102)))
    else
      grd (okI .i64 ((x102 + 1))) <|
      (some (Sum.inl (x102 + 1)))
  else
    (some (Sum.inr (Sum.inr ())))) : Option ((Int) ⊕ ((Int) ⊕ (Unit)))) := rfl
theorem m_slices_IndexFunc_3_eq (s_1 : List (Int × Int)) (c_1 : Int) : m_slices_IndexFunc_3 std s_1 c_1 =
((Option.bind (loop (m_slices_IndexFunc_3_L1 std c_1 s_1) 0) fun e => match e with
  | .inl x103 =>
    (some x103)
  | .inr (_) =>
    (some (-1))) : Option (Int)) := rfl
theorem m_slices_ContainsFunc_3_eq (s_1 : List (Int × Int)) (c_1 : Int) : m_slices_ContainsFunc_3 std s_1 c_1 =
((Option.bind (m_slices_IndexFunc_3 std s_1 c_1) fun n77 =>
  (some (decide (0 ≤ n77)))) : Option (Bool)) := rfl
theorem m_group_Split_2_eq (i_1 : Int) (x_1 : Int) (x_2 : Int) (x_3 : Int) (x_4 : List (Int × Int)) : m_group_Split_2 std i_1 x_1 x_2 x_3 x_4 =
((grd (okNz x_3) <|
  grd (okI .i64 ((Int.tdiv i_1 x_3))) <|
  Option.bind (m_group_at std x_1 x_2 ((Int.tdiv i_1 x_3)) x_4) fun (n78, n79) =>
  grd (okI .i64 ((n79 - n78))) <|
  grd (okI .i64 ((Int.tdiv (n79 - n78) x_3))) <|
  grd (okI .i64 (((Int.tmod i_1 x_3) * (Int.tdiv (n79 - n78) x_3)))) <|
  grd (okI .i64 ((n78 + ((Int.tmod i_1 x_3) * (Int.tdiv (n79 - n78) x_3))))) <|
  grd (okI .i64 (((Int.tmod i_1 x_3) + 1))) <|
  grd (okI .i64 ((((Int.tmod i_1 x_3) + 1) * (Int.tdiv (n79 - n78) x_3)))) <|
  grd (okI .i64 ((n78 + (((Int.tmod i_1 x_3) + 1) * (Int.tdiv (n79 - n78) x_3))))) <|
  (some ((n78 + ((Int.tmod i_1 x_3) * (Int.tdiv (n79 - n78) x_3))), (n78 + (((Int.tmod i_1 x_3) + 1) * (Int.tdiv (n79 - n78) x_3))), true))) : Option (Int × Int × Bool)) := rfl
theorem m_group_collect_2_L1_eq (c_1 : Int) (c_2 : Int) (c_3 : Int) (c_4 : List (Int × Int)) (n_1 : Int) (x109 : Int) (l32 : List (Int × Int)) : m_group_collect_2_L1 std c_1 c_2 c_3 c_4 n_1 (x109, l32) =
((bif (decide (x109 < n_1)) then
    Option.bind (m_group_Split_2 std x109 c_1 c_2 c_3 c_4) fun (n82, n83, b35) =>
    Option.bind (
      bif b35 then
        grd (okRoom ((List.length l32))) <|
        grd (okRoom ((List.length [(n82, n83)]))) <|
        (some (l32 ++ [(n82, n83)]))
      else
        (some l32) : Option ((List (Int × Int)))) fun l34 =>
    grd (okI .i64 ((x109 + 1))) <|
    (some (Sum.inl ((x109 + 1), l34)))
  else
    (some (Sum.inr l32))) : Option ((Int × List (Int × Int)) ⊕ (List (Int × Int)))) := rfl
theorem m_group_collect_2_eq (period_1 : Int) (n_1 : Int) (c_1 : Int) (c_2 : Int) (c_3 : Int) (c_4 : List (Int × Int)) : m_group_collect_2 std period_1 n_1 c_1 c_2 c_3 c_4 =
((Option.bind (loop (m_group_collect_2_L1 std c_1 c_2 c_3 c_4 n_1) (0, ([] : List (Int × Int)))) fun l35 =>
  bif ((((List.length l35) : Nat) : Int) == 0) then
    (some (0, 0, ([] : List (Int × Int)), 7))
  else
    Option.bind (m_group_made std period_1 l35) fun (n84, n85, l36, n86) =>
    (some (n84, n85, l36, n86))) : Option (Int × Int × List (Int × Int) × Int)) := rfl
theorem m_group_Split_eq (c_1 : Int) (c_2 : Int) (m_1 : Int) (c_3 : List (Int × Int)) : m_group_Split std c_1 c_2 m_1 c_3 =
((Option.bind (
    Option.bind (m_granule_Valid std c_1 c_2 c_3) fun b31 =>
    bif (!b31) then
      (some true)
    else
      bif (decide (m_1 < 1)) then
        (some true)
      else
        (some (decide (5000 < m_1))) : Option ((Bool))) fun x101 =>
  Option.bind (
    bif x101 then
      (some (Sum.inl 1))
    else
      grd (okI .i64 (((((List.length c_3) : Nat) : Int) * m_1))) <|
      Option.bind (
        bif (decide (5000 < ((((List.length c_3) : Nat) : Int) * m_1))) then
          (some (Sum.inl 5))
        else
          Option.bind (m_slices_ContainsFunc_3 std c_3 m_1) fun b33 =>
          bif b33 then
            (some (Sum.inl 6))
          else
            (some (Sum.inr ())) : Option (((Int) ⊕ (Unit)))) fun e => match e with
      | .inl x105 =>
        (some (Sum.inl x105))
      | .inr (_) =>
        (some (Sum.inr ())) : Option (((Int) ⊕ (Unit)))) fun e => match e with
  | .inl x107 =>
    (some (0, 0, ([] : List (Int × Int)), x107))
  | .inr (_) =>
    Option.bind (m_group_collect_2 std c_2 (((((List.length c_3) : Nat) : Int) * m_1)) c_1 c_2 m_1 c_3) fun (n87, n88, l37, n89) =>
    (some (n87, n88, l37, n89))) : Option (Int × Int × List (Int × Int) × Int)) := rfl
theorem m_ref16_Split_L1_eq (m_1 : Int) (n95 : Int) (n96 : Int) (i10 : Int) (l42 : List (Int × Int)) : m_ref16_Split_L1 std m_1 n95 n96 (i10, l42) =
((bif (decide (i10 < m_1)) then
    grd (okI .i64 (((Int.tdiv (n96 - n95) m_1) * i10))) <|
    grd (okI .i64 ((n95 + ((Int.tdiv (n96 - n95) m_1) * i10)))) <|
    grd (okI .i64 ((i10 + 1))) <|
    grd (okI .i64 (((Int.tdiv (n96 - n95) m_1) * (i10 + 1)))) <|
    grd (okI .i64 ((n95 + ((Int.tdiv (n96 - n95) m_1) * (i10 + 1))))) <|
    grd (okRoom ((List.length l42))) <|
    grd (okRoom ((List.length [((n95 + ((Int.tdiv (n96 - n95) m_1) * i10)), (n95 + ((Int.tdiv (n96 - n95) m_1) * (i10 + 1))))]))) <|
    (some (Sum.inl ((i10 + 1), (l42 ++ [((n95 + ((Int.tdiv (n96 - n95) m_1) * i10)), (n95 + ((Int.tdiv (n96 - n95) m_1) * (i10 + 1))))]))))
  else
    (some (Sum.inr l42))) : Option ((Int × List (Int × Int)) ⊕ (List (Int × Int)))) := rfl
theorem m_ref16_Split_L2_eq (c_1 : Int) (c_2 : Int) (c_3 : List (Int × Int)) (m_1 : Int) (k2 : Int) (l41 : List (Int × Int)) : m_ref16_Split_L2 std c_1 c_2 c_3 m_1 (k2, l41) =
((bif (decide (k2 < (((List.length c_3) : Nat) : Int))) then
    Option.bind (m_ref16_Granule std c_1 c_2 k2 c_3) fun (n95, n96) =>
    grd (okI .i64 ((n96 - n95))) <|
    grd (okNz m_1) <|
    grd (okI .i64 ((Int.tdiv (n96 - n95) m_1))) <|
    grd (okI .i64 (((Int.tdiv (n96 - n95) m_1) * m_1))) <|
    bif (!(((Int.tdiv (n96 - n95) m_1) * m_1) == (n96 - n95))) then
      (some (Sum.inr (Sum.inl ())))
    else
      Option.bind (loop (m_ref16_Split_L1 std m_1 n95 n96) (0, l41)) fun l43 =>
      grd (okI .i64 ((k2 + 1))) <|
      (some (Sum.inl ((k2 + 1), l43)))
  else
    (some (Sum.inr (Sum.inr l41)))) : Option ((Int × List (Int × Int)) ⊕ ((Unit) ⊕ (List (Int × Int))))) := rfl
theorem m_ref16_Split_eq (c_1 : Int) (c_2 : Int) (m_1 : Int) (c_3 : List (Int × Int)) : m_ref16_Split std c_1 c_2 m_1 c_3 =
((Option.bind (
    bif (decide (m_1 < 1)) then
      (some true)
    else
      (some (decide (5000 < m_1))) : Option ((Bool))) fun x111 =>
  bif x111 then
    (some (0, 0, ([] : List (Int × Int)), 1))
  else
    grd (okI .i64 (((((List.length c_3) : Nat) : Int) * m_1))) <|
    bif (decide (5000 < ((((List.length c_3) : Nat) : Int) * m_1))) then
      (some (0, 0, ([] : List (Int × Int)), 5))
    else
      Option.bind (loop (m_ref16_Split_L2 std c_1 c_2 c_3 m_1) (0, ([] : List (Int × Int)))) fun e => match e with
      | .inl _ =>
        (some (0, 0, ([] : List (Int × Int)), 6))
      | .inr (l44) =>
        Option.bind (m_ref16_Make std c_2 l44) fun (n97, n98, l45, n99) =>
        (some (n97, n98, l45, n99))) : Option (Int × Int × List (Int × Int) × Int)) := rfl
theorem m_law16_GroupSplits_eq (c_1 : Int) (c_2 : Int) (m_1 : Int) (c_3 : List (Int × Int)) : m_law16_GroupSplits std c_1 c_2 m_1 c_3 =
((Option.bind (m_law16_awake std) fun b29 =>
  bif (!b29) then
    (some false)
  else
    Option.bind (m_law16_great std c_1 c_2 c_3) fun b30 =>
    bif b30 then
      (some true)
    else
      Option.bind (m_group_Split std c_1 c_2 m_1 c_3) fun (n90, n91, l38, n92) =>
      Option.bind (m_ref16_Valid std c_1 c_2 c_3) fun b36 =>
      bif (!b36) then
        Option.bind (m_law16_is std n90 n91 n92 0 0 1 l38 (([] : List (Int × Int)))) fun b37 =>
        (some b37)
      else
        Option.bind (m_ref16_Split std c_1 c_2 m_1 c_3) fun (n100, n101, l46, n102) =>
        Option.bind (m_law16_is std n90 n91 n92 n100 n101 n102 l38 l46) fun b38 =>
        (some b38)) : Option (Bool)) := rfl
theorem m_group_Pick_1_eq (i_1 : Int) (x_1 : Int) (x_2 : Int) (x_3 : Int) (x_4 : List (Int × Int)) (x_5 : List Int) : m_group_Pick_1 std i_1 x_1 x_2 x_3 x_4 x_5 =
((grd (okNz ((((List.length x_5) : Nat) : Int))) <|
  grd (okI .i64 ((Int.tdiv i_1 (((List.length x_5) : Nat) : Int)))) <|
  grd (okI .i64 (((Int.tdiv i_1 (((List.length x_5) : Nat) : Int)) * x_3))) <|
  grd (okIdx ((Int.tmod i_1 (((List.length x_5) : Nat) : Int))) ((List.length x_5))) <|
  grd (okKin ((Int.toNat (Int.tmod i_1 (((List.length x_5) : Nat) : Int)))) ((List.length x_5))) <|
  grd (okI .i64 ((((Int.tdiv i_1 (((List.length x_5) : Nat) : Int)) * x_3) + (List.getD x_5 (Int.toNat (Int.tmod i_1 (((List.length x_5) : Nat) : Int))) 0)))) <|
  Option.bind (m_group_at std x_1 x_2 ((((Int.tdiv i_1 (((List.length x_5) : Nat) : Int)) * x_3) + (List.getD x_5 (Int.toNat (Int.tmod i_1 (((List.length x_5) : Nat) : Int))) 0))) x_4) fun (n106, n107) =>
  (some (n106, n107, true))) : Option (Int × Int × Bool)) := rfl
theorem m_group_collect_3_L1_eq (c_1 : Int) (c_2 : Int) (c_3 : Int) (c_4 : List (Int × Int)) (c_5 : List Int) (n_1 : Int) (x123 : Int) (l49 : List (Int × Int)) : m_group_collect_3_L1 std c_1 c_2 c_3 c_4 c_5 n_1 (x123, l49) =
((bif (decide (x123 < n_1)) then
    Option.bind (m_group_Pick_1 std x123 c_1 c_2 c_3 c_4 c_5) fun (n110, n111, b43) =>
    Option.bind (
      bif b43 then
        grd (okRoom ((List.length l49))) <|
        grd (okRoom ((List.length [(n110, n111)]))) <|
        (some (l49 ++ [(n110, n111)]))
      else
        (some l49) : Option ((List (Int × Int)))) fun l51 =>
    grd (okI .i64 ((x123 + 1))) <|
    (some (Sum.inl ((x123 + 1), l51)))
  else
    (some (Sum.inr l49))) : Option ((Int × List (Int × Int)) ⊕ (List (Int × Int)))) := rfl
theorem m_group_collect_3_eq (period_1 : Int) (n_1 : Int) (c_1 : Int) (c_2 : Int) (c_3 : Int) (c_4 : List (Int × Int)) (c_5 : List Int) : m_group_collect_3 std period_1 n_1 c_1 c_2 c_3 c_4 c_5 =
((Option.bind (loop (m_group_collect_3_L1 std c_1 c_2 c_3 c_4 c_5 n_1) (0, ([] : List (Int × Int)))) fun l52 =>
  bif ((((List.length l52) : Nat) : Int) == 0) then
    (some (0, 0, ([] : List (Int × Int)), 7))
  else
    Option.bind (m_group_made std period_1 l52) fun (n112, n113, l53, n114) =>
    (some (n112, n113, l53, n114))) : Option (Int × Int × List (Int × Int) × Int)) := rfl
theorem m_group_Pick_L1_eq (ks_1 : List Int) (m_1 : Int) (x116 : Int) : m_group_Pick_L1 std ks_1 m_1 x116 =
((bif (decide (x116 < (((List.length ks_1) : Nat) : Int))) then
    grd (okIdx x116 ((List.length ks_1))) <|
    grd (okKin ((Int.toNat x116)) ((List.length ks_1))) <|
    Option.bind (
      bif (decide ((List.getD ks_1 (Int.toNat x116) 0) < 0)) then
        (some true)
      else
        bif (decide (m_1 ≤ (List.getD ks_1 (Int.toNat x116) 0))) then
          (some true)
        else
          bif (decide (0 < x116)) then
            grd (okI .i64 ((x116 - 1))) <|
            grd (okIdx ((x116 - 1)) ((List.length ks_1))) <|
            grd (okKin ((Int.toNat (x116 - 1))) ((List.length ks_1))) <|
            (some (decide ((List.getD ks_1 (Int.toNat x116) 0) ≤ (List.getD ks_1 (Int.toNat (x116 - 1)) 0))))
          else
            (some false) : Option ((Bool))) fun x119 =>
    bif x119 then
      (some (Sum.inr (Sum.inl ())))
    else
      grd (okI .i64 ((x116 + 1))) <|
      (some (Sum.inl (x116 + 1)))
  else
    (some (Sum.inr (Sum.inr ())))) : Option ((Int) ⊕ ((Unit) ⊕ (Unit)))) := rfl
theorem m_group_Pick_eq (c_1 : Int) (c_2 : Int) (m_1 : Int) (c_3 : List (Int × Int)) (ks_1 : List Int) : m_group_Pick std c_1 c_2 m_1 c_3 ks_1 =
((Option.bind (
    Option.bind (m_granule_Valid std c_1 c_2 c_3) fun b41 =>
    bif (!b41) then
      (some true)
    else
      bif (decide (m_1 < 1)) then
        (some true)
      else
        bif (decide (12622780800 < m_1)) then
          (some true)
        else
          (some ((((List.length ks_1) : Nat) : Int) == 0)) : Option ((Bool))) fun x115 =>
  bif x115 then
    (some (0, 0, ([] : List (Int × Int)), 1))
  else
    Option.bind (loop (m_group_Pick_L1 std ks_1 m_1) 0) fun e => match e with
    | .inl _ =>
      (some (0, 0, ([] : List (Int × Int)), 1))
    | .inr (_) =>
      Option.bind (m_group_blocks std c_1 c_2 m_1 c_3) fun (n103, n104, n105) =>
      Option.bind (
        bif (!(n105 == 0)) then
          (some (Sum.inl n105))
        else
          grd (okI .i64 ((n104 * (((List.length ks_1) : Nat) : Int)))) <|
          bif (decide (5000 < (n104 * (((List.length ks_1) : Nat) : Int)))) then
            (some (Sum.inl 5))
          else
            (some (Sum.inr ())) : Option (((Int) ⊕ (Unit)))) fun e => match e with
      | .inl x121 =>
        (some (0, 0, ([] : List (Int × Int)), x121))
      | .inr (_) =>
        Option.bind (m_group_collect_3 std n103 ((n104 * (((List.length ks_1) : Nat) : Int))) c_1 c_2 m_1 c_3 ks_1) fun (n115, n116, l54, n117) =>
        (some (n115, n116, l54, n117))) : Option (Int × Int × List (Int × Int) × Int)) := rfl
theorem m_ref16_Pick_L1_eq (ks_1 : List Int) (m_1 : Int) (i11 : Int) : m_ref16_Pick_L1 std ks_1 m_1 i11 =
((bif (decide (i11 < (((List.length ks_1) : Nat) : Int))) then
    Option.bind (
      bif (decide ((List.getD ks_1 (Int.toNat i11) 0) < 0)) then
        grd (okIdx i11 ((List.length ks_1))) <|
        grd (okKin ((Int.toNat i11)) ((List.length ks_1))) <|
        (some true)
      else
        bif (decide (m_1 ≤ (List.getD ks_1 (Int.toNat i11) 0))) then
          grd (okIdx i11 ((List.length ks_1))) <|
          grd (okKin ((Int.toNat i11)) ((List.length ks_1))) <|
          (some true)
        else
          bif (decide (0 < i11)) then
            grd (okIdx i11 ((List.length ks_1))) <|
            grd (okKin ((Int.toNat i11)) ((List.length ks_1))) <|
            grd (okI .i64 ((i11 - 1))) <|
            grd (okIdx ((i11 - 1)) ((List.length ks_1))) <|
            grd (okKin ((Int.toNat (i11 - 1))) ((List.length ks_1))) <|
            (some (decide ((List.getD ks_1 (Int.toNat i11) 0) ≤ (List.getD ks_1 (Int.toNat (i11 - 1)) 0))))
          else
            grd (okIdx i11 ((List.length ks_1))) <|
            grd (okKin ((Int.toNat i11)) ((List.length ks_1))) <|
            (some false) : Option ((Bool))) fun x128 =>
    bif x128 then
      (some (Sum.inr (Sum.inl ())))
    else
      grd (okI .i64 ((i11 + 1))) <|
      (some (Sum.inl (i11 + 1)))
  else
    (some (Sum.inr (Sum.inr ())))) : Option ((Int) ⊕ ((Unit) ⊕ (Unit)))) := rfl
theorem m_ref16_Pick_L2_eq (b47 : Int) (c_1 : Int) (c_2 : Int) (c_3 : List (Int × Int)) (ks_1 : List Int) (m_1 : Int) (i15 : Int) (l59 : List (Int × Int)) : m_ref16_Pick_L2 std b47 c_1 c_2 c_3 ks_1 m_1 (i15, l59) =
((bif (decide (i15 < (((List.length ks_1) : Nat) : Int))) then
    grd (okI .i64 ((b47 * m_1))) <|
    grd (okIdx i15 ((List.length ks_1))) <|
    grd (okKin ((Int.toNat i15)) ((List.length ks_1))) <|
    grd (okI .i64 (((b47 * m_1) + (List.getD ks_1 (Int.toNat i15) 0)))) <|
    Option.bind (m_ref16_Granule std c_1 c_2 (((b47 * m_1) + (List.getD ks_1 (Int.toNat i15) 0))) c_3) fun (n128, n129) =>
    grd (okRoom ((List.length l59))) <|
    grd (okRoom ((List.length [(n128, n129)]))) <|
    grd (okI .i64 ((i15 + 1))) <|
    (some (Sum.inl ((i15 + 1), (l59 ++ [(n128, n129)]))))
  else
    (some (Sum.inr l59))) : Option ((Int × List (Int × Int)) ⊕ (List (Int × Int)))) := rfl
theorem m_ref16_Pick_L3_eq (c_1 : Int) (c_2 : Int) (c_3 : List (Int × Int)) (ks_1 : List Int) (m_1 : Int) (n121 : Int) (b47 : Int) (l58 : List (Int × Int)) : m_ref16_Pick_L3 std c_1 c_2 c_3 ks_1 m_1 n121 (b47, l58) =
((bif (decide (b47 < (Int.tdiv (((List.length c_3) : Nat) : Int) n121))) then
    Option.bind (loop (m_ref16_Pick_L2 std b47 c_1 c_2 c_3 ks_1 m_1) (0, l58)) fun l60 =>
    grd (okI .i64 ((b47 + 1))) <|
    (some (Sum.inl ((b47 + 1), l60)))
  else
    (some (Sum.inr l58))) : Option ((Int × List (Int × Int)) ⊕ (List (Int × Int)))) := rfl
theorem m_ref16_Pick_eq (c_1 : Int) (c_2 : Int) (m_1 : Int) (c_3 : List (Int × Int)) (ks_1 : List Int) : m_ref16_Pick std c_1 c_2 m_1 c_3 ks_1 =
((Option.bind (
    bif (decide (m_1 < 1)) then
      (some true)
    else
      bif (decide (12622780800 < m_1)) then
        (some true)
      else
        (some ((((List.length ks_1) : Nat) : Int) == 0)) : Option ((Bool))) fun x125 =>
  bif x125 then
    (some (0, 0, ([] : List (Int × Int)), 1))
  else
    Option.bind (loop (m_ref16_Pick_L1 std ks_1 m_1) 0) fun e => match e with
    | .inl _ =>
      (some (0, 0, ([] : List (Int × Int)), 1))
    | .inr (_) =>
      Option.bind (m_ref01_Gcd std ((((List.length c_3) : Nat) : Int)) m_1) fun n121 =>
      grd (okNz n121) <|
      grd (okI .i64 ((Int.tdiv m_1 n121))) <|
      grd (okNz c_2) <|
      grd (okI .i64 ((Int.tdiv 12622780800 c_2))) <|
      bif (decide ((Int.tdiv 12622780800 c_2) < (Int.tdiv m_1 n121))) then
        (some (0, 0, ([] : List (Int × Int)), 9))
      else
        grd (okI .i64 ((Int.tdiv (((List.length c_3) : Nat) : Int) n121))) <|
        grd (okI .i64 (((Int.tdiv (((List.length c_3) : Nat) : Int) n121) * (((List.length ks_1) : Nat) : Int)))) <|
        bif (decide (5000 < ((Int.tdiv (((List.length c_3) : Nat) : Int) n121) * (((List.length ks_1) : Nat) : Int)))) then
          (some (0, 0, ([] : List (Int × Int)), 5))
        else
          Option.bind (loop (m_ref16_Pick_L3 std c_1 c_2 c_3 ks_1 m_1 n121) (0, ([] : List (Int × Int)))) fun l61 =>
          grd (okI .i64 ((c_2 * (Int.tdiv m_1 n121)))) <|
          Option.bind (m_ref16_Make std ((c_2 * (Int.tdiv m_1 n121))) l61) fun (n130, n131, l62, n132) =>
          (some (n130, n131, l62, n132))) : Option (Int × Int × List (Int × Int) × Int)) := rfl
theorem m_law16_GroupPicks_eq (c_1 : Int) (c_2 : Int) (m_1 : Int) (c_3 : List (Int × Int)) (ks_1 : List Int) : m_law16_GroupPicks std c_1 c_2 m_1 c_3 ks_1 =
((Option.bind (m_law16_awake std) fun b39 =>
  bif (!b39) then
    (some false)
  else
    Option.bind (
      Option.bind (m_law16_great std c_1 c_2 c_3) fun b40 =>
      bif b40 then
        (some true)
      else
        (some (decide (40 < (((List.length ks_1) : Nat) : Int)))) : Option ((Bool))) fun x113 =>
    bif x113 then
      (some true)
    else
      Option.bind (m_group_Pick std c_1 c_2 m_1 c_3 ks_1) fun (n118, n119, l55, n120) =>
      Option.bind (m_ref16_Valid std c_1 c_2 c_3) fun b44 =>
      bif (!b44) then
        Option.bind (m_law16_is std n118 n119 n120 0 0 1 l55 (([] : List (Int × Int)))) fun b45 =>
        (some b45)
      else
        Option.bind (m_ref16_Pick std c_1 c_2 m_1 c_3 ks_1) fun (n133, n134, l63, n135) =>
        Option.bind (m_law16_is std n118 n119 n120 n133 n134 n135 l55 l63) fun b48 =>
        (some b48)) : Option (Bool)) := rfl
theorem m_ref16_Custom_L1_eq (lengths_1 : List Int) (i16 : Int) : m_ref16_Custom_L1 std lengths_1 i16 =
((bif (decide (i16 < (((List.length lengths_1) : Nat) : Int))) then
    Option.bind (
      bif (decide ((List.getD lengths_1 (Int.toNat i16) 0) < 1)) then
        grd (okIdx i16 ((List.length lengths_1))) <|
        grd (okKin ((Int.toNat i16)) ((List.length lengths_1))) <|
        (some true)
      else
        grd (okIdx i16 ((List.length lengths_1))) <|
        grd (okKin ((Int.toNat i16)) ((List.length lengths_1))) <|
        (some (decide (12622780800 < (List.getD lengths_1 (Int.toNat i16) 0)))) : Option ((Bool))) fun x132 =>
    bif x132 then
      (some (Sum.inr (Sum.inl ())))
    else
      grd (okI .i64 ((i16 + 1))) <|
      (some (Sum.inl (i16 + 1)))
  else
    (some (Sum.inr (Sum.inr ())))) : Option ((Int) ⊕ ((Unit) ⊕ (Unit)))) := rfl
theorem m_ref16_Custom_L2_eq (lengths_1 : List Int) (sum4 : Int) (i17 : Int) : m_ref16_Custom_L2 std lengths_1 (sum4, i17) =
((bif (decide (i17 < (((List.length lengths_1) : Nat) : Int))) then
    grd (okIdx i17 ((List.length lengths_1))) <|
    grd (okKin ((Int.toNat i17)) ((List.length lengths_1))) <|
    grd (okI .i64 ((sum4 + (List.getD lengths_1 (Int.toNat i17) 0)))) <|
    grd (okI .i64 ((i17 + 1))) <|
    (some (Sum.inl ((sum4 + (List.getD lengths_1 (Int.toNat i17) 0)), (i17 + 1))))
  else
    (some (Sum.inr sum4))) : Option ((Int × Int) ⊕ (Int))) := rfl
theorem m_ref16_Custom_L3_eq (lengths_1 : List Int) (at2 : Int) (i19 : Int) (l65 : List (Int × Int)) : m_ref16_Custom_L3 std lengths_1 (at2, i19, l65) =
((bif (decide (i19 < (((List.length lengths_1) : Nat) : Int))) then
    grd (okIdx i19 ((List.length lengths_1))) <|
    grd (okKin ((Int.toNat i19)) ((List.length lengths_1))) <|
    grd (okI .i64 ((at2 + (List.getD lengths_1 (Int.toNat i19) 0)))) <|
    grd (okRoom ((List.length l65))) <|
    grd (okRoom ((List.length [(at2, (at2 + (List.getD lengths_1 (Int.toNat i19) 0)))]))) <|
    grd (okI .i64 ((i19 + 1))) <|
    (some (Sum.inl ((at2 + (List.getD lengths_1 (Int.toNat i19) 0)), (i19 + 1), (l65 ++ [(at2, (at2 + (List.getD lengths_1 (Int.toNat i19) 0)))]))))
  else
    (some (Sum.inr l65))) : Option ((Int × Int × List (Int × Int)) ⊕ (List (Int × Int)))) := rfl
theorem m_ref16_Custom_eq (origin_1 : Int) (lengths_1 : List Int) : m_ref16_Custom std origin_1 lengths_1 =
((bif ((((List.length lengths_1) : Nat) : Int) == 0) then
    (some (0, 0, ([] : List (Int × Int)), 1))
  else
    Option.bind (loop (m_ref16_Custom_L1 std lengths_1) 0) fun e => match e with
    | .inl _ =>
      (some (0, 0, ([] : List (Int × Int)), 1))
    | .inr (_) =>
      bif (decide (5000 < (((List.length lengths_1) : Nat) : Int))) then
        (some (0, 0, ([] : List (Int × Int)), 5))
      else
        Option.bind (loop (m_ref16_Custom_L2 std lengths_1) (0, 0)) fun sum5 =>
        bif (decide (12622780800 < sum5)) then
          (some (0, 0, ([] : List (Int × Int)), 9))
        else
          Option.bind (
            bif (decide (2199023255552 < origin_1)) then
              (some true)
            else
              (some (decide (origin_1 < (-2199023255552)))) : Option ((Bool))) fun x134 =>
          bif x134 then
            (some (0, 0, ([] : List (Int × Int)), 2))
          else
            Option.bind (loop (m_ref16_Custom_L3 std lengths_1) (origin_1, 0, ([] : List (Int × Int)))) fun l66 =>
            Option.bind (m_ref16_Make std sum5 l66) fun (n139, n140, l67, n141) =>
            (some (n139, n140, l67, n141))) : Option (Int × Int × List (Int × Int) × Int)) := rfl
theorem m_ref16_Fiscal_L1_eq (pattern_1 : List Int) (i21 : Int) (l70 : List Int) : m_ref16_Fiscal_L1 std pattern_1 (i21, l70) =
((bif (decide (i21 < (((List.length pattern_1) : Nat) : Int))) then
    Option.bind (
      bif (decide ((List.getD pattern_1 (Int.toNat i21) 0) < 1)) then
        grd (okIdx i21 ((List.length pattern_1))) <|
        grd (okKin ((Int.toNat i21)) ((List.length pattern_1))) <|
        (some true)
      else
        grd (okIdx i21 ((List.length pattern_1))) <|
        grd (okKin ((Int.toNat i21)) ((List.length pattern_1))) <|
        (some (decide (60 < (List.getD pattern_1 (Int.toNat i21) 0)))) : Option ((Bool))) fun x138 =>
    bif x138 then
      (some (Sum.inr (Sum.inl ())))
    else
      grd (okI .i64 ((7 * (List.getD pattern_1 (Int.toNat i21) 0)))) <|
      grd (okRoom ((List.length l70))) <|
      grd (okRoom ((List.length [(7 * (List.getD pattern_1 (Int.toNat i21) 0))]))) <|
      grd (okI .i64 ((i21 + 1))) <|
      (some (Sum.inl ((i21 + 1), (l70 ++ [(7 * (List.getD pattern_1 (Int.toNat i21) 0))]))))
  else
    (some (Sum.inr (Sum.inr l70)))) : Option ((Int × List Int) ⊕ ((Unit) ⊕ (List Int)))) := rfl
theorem m_ref16_Fiscal_eq (origin_1 : Int) (pattern_1 : List Int) : m_ref16_Fiscal std origin_1 pattern_1 =
((Option.bind (loop (m_ref16_Fiscal_L1 std pattern_1) (0, ([] : List Int))) fun e => match e with
  | .inl _ =>
    (some (0, 0, ([] : List (Int × Int)), 1))
  | .inr (l71) =>
    Option.bind (m_ref16_Custom std origin_1 l71) fun (n148, n149, l72, n150) =>
    (some (n148, n149, l72, n150))) : Option (Int × Int × List (Int × Int) × Int)) := rfl
theorem m_group_Fill_1_eq (k_1 : Int) (x_1 : Int) (x_2 : Int) (x_3 : List (Int × Int)) : m_group_Fill_1 std k_1 x_1 x_2 x_3 =
((grd (okI .i64 ((k_1 + 1))) <|
  Option.bind (m_group_at std x_1 x_2 k_1 x_3) fun (n154, _) =>
  Option.bind (m_group_at std x_1 x_2 ((k_1 + 1)) x_3) fun (n156, _) =>
  (some (n154, n156, true))) : Option (Int × Int × Bool)) := rfl
theorem m_group_collect_4_L1_eq (c_1 : Int) (c_2 : Int) (c_3 : List (Int × Int)) (n_1 : Int) (x140 : Int) (l76 : List (Int × Int)) : m_group_collect_4_L1 std c_1 c_2 c_3 n_1 (x140, l76) =
((bif (decide (x140 < n_1)) then
    Option.bind (m_group_Fill_1 std x140 c_1 c_2 c_3) fun (n160, n161, b53) =>
    Option.bind (
      bif b53 then
        grd (okRoom ((List.length l76))) <|
        grd (okRoom ((List.length [(n160, n161)]))) <|
        (some (l76 ++ [(n160, n161)]))
      else
        (some l76) : Option ((List (Int × Int)))) fun l78 =>
    grd (okI .i64 ((x140 + 1))) <|
    (some (Sum.inl ((x140 + 1), l78)))
  else
    (some (Sum.inr l76))) : Option ((Int × List (Int × Int)) ⊕ (List (Int × Int)))) := rfl
theorem m_group_collect_4_eq (period_1 : Int) (n_1 : Int) (c_1 : Int) (c_2 : Int) (c_3 : List (Int × Int)) : m_group_collect_4 std period_1 n_1 c_1 c_2 c_3 =
((Option.bind (loop (m_group_collect_4_L1 std c_1 c_2 c_3 n_1) (0, ([] : List (Int × Int)))) fun l79 =>
  bif ((((List.length l79) : Nat) : Int) == 0) then
    (some (0, 0, ([] : List (Int × Int)), 7))
  else
    Option.bind (m_group_made std period_1 l79) fun (n162, n163, l80, n164) =>
    (some (n162, n163, l80, n164))) : Option (Int × Int × List (Int × Int) × Int)) := rfl
theorem m_group_Fill_eq (c_1 : Int) (c_2 : Int) (c_3 : List (Int × Int)) : m_group_Fill std c_1 c_2 c_3 =
((Option.bind (m_granule_Valid std c_1 c_2 c_3) fun b51 =>
  bif (!b51) then
    (some (0, 0, ([] : List (Int × Int)), 1))
  else
    Option.bind (m_group_collect_4 std c_2 ((((List.length c_3) : Nat) : Int)) c_1 c_2 c_3) fun (n165, n166, l81, n167) =>
    (some (n165, n166, l81, n167))) : Option (Int × Int × List (Int × Int) × Int)) := rfl
theorem m_ref16_Fill_L1_eq (c_1 : Int) (c_2 : Int) (c_3 : List (Int × Int)) (k4 : Int) (l83 : List (Int × Int)) : m_ref16_Fill_L1 std c_1 c_2 c_3 (k4, l83) =
((bif (decide (k4 < (((List.length c_3) : Nat) : Int))) then
    grd (okI .i64 ((k4 + 1))) <|
    Option.bind (m_ref16_Granule std c_1 c_2 k4 c_3) fun (n175, _) =>
    Option.bind (m_ref16_Granule std c_1 c_2 ((k4 + 1)) c_3) fun (n177, _) =>
    grd (okRoom ((List.length l83))) <|
    grd (okRoom ((List.length [(n175, n177)]))) <|
    (some (Sum.inl ((k4 + 1), (l83 ++ [(n175, n177)]))))
  else
    (some (Sum.inr l83))) : Option ((Int × List (Int × Int)) ⊕ (List (Int × Int)))) := rfl
theorem m_ref16_Fill_eq (c_1 : Int) (c_2 : Int) (c_3 : List (Int × Int)) : m_ref16_Fill std c_1 c_2 c_3 =
((Option.bind (loop (m_ref16_Fill_L1 std c_1 c_2 c_3) (0, ([] : List (Int × Int)))) fun l84 =>
  Option.bind (m_ref16_Make std c_2 l84) fun (n179, n180, l85, n181) =>
  (some (n179, n180, l85, n181))) : Option (Int × Int × List (Int × Int) × Int)) := rfl
theorem m_granule_Gapless_L1_eq (c_2 : Int) (c_3 : List (Int × Int)) (x143 : Int) : m_granule_Gapless_L1 std c_2 c_3 x143 =
((bif (decide (x143 < (((List.length c_3) : Nat) : Int))) then
    grd (okIdx x143 ((List.length c_3))) <|
    grd (okKin ((Int.toNat x143)) ((List.length c_3))) <|
    grd (okI .i64 ((x143 + 1))) <|
    Option.bind (
      bif (decide ((x143 + 1) < (((List.length c_3) : Nat) : Int))) then
        grd (okIdx ((x143 + 1)) ((List.length c_3))) <|
        grd (okKin ((Int.toNat (x143 + 1))) ((List.length c_3))) <|
        (some (List.getD c_3 (Int.toNat (x143 + 1)) (0, 0)).1)
      else
        (some c_2) : Option ((Int))) fun next2 =>
    bif (!((List.getD c_3 (Int.toNat x143) (0, 0)).2 == next2)) then
      (some (Sum.inr (Sum.inl ())))
    else
      (some (Sum.inl (x143 + 1)))
  else
    (some (Sum.inr (Sum.inr ())))) : Option ((Int) ⊕ ((Unit) ⊕ (Unit)))) := rfl
theorem m_granule_Gapless_eq (c_1 : Int) (c_2 : Int) (c_3 : List (Int × Int)) : m_granule_Gapless std c_1 c_2 c_3 =
((Option.bind (m_granule_Valid std c_1 c_2 c_3) fun b59 =>
  bif (!b59) then
    (some false)
  else
    Option.bind (loop (m_granule_Gapless_L1 std c_2 c_3) 0) fun e => match e with
    | .inl _ =>
      (some false)
    | .inr (_) =>
      (some true)) : Option (Bool)) := rfl
theorem m_law16_GroupCustoms_eq (c_1 : Int) (c_2 : Int) (origin_1 : Int) (c_3 : List (Int × Int)) (lengths_1 : List Int) (pattern_1 : List Int) : m_law16_GroupCustoms std c_1 c_2 origin_1 c_3 lengths_1 pattern_1 =
((Option.bind (m_law16_awake std) fun b49 =>
  bif (!b49) then
    (some false)
  else
    Option.bind (
      Option.bind (m_law16_great std c_1 c_2 c_3) fun b50 =>
      bif b50 then
        (some true)
      else
        bif (decide (40 < (((List.length lengths_1) : Nat) : Int))) then
          (some true)
        else
          (some (decide (40 < (((List.length pattern_1) : Nat) : Int)))) : Option ((Bool))) fun x130 =>
    bif x130 then
      (some true)
    else
      Option.bind (m_group_Custom std origin_1 lengths_1) fun (n136, n137, l64, n138) =>
      Option.bind (m_ref16_Custom std origin_1 lengths_1) fun (n142, n143, l68, n144) =>
      Option.bind (m_group_Fiscal std origin_1 pattern_1) fun (n145, n146, l69, n147) =>
      Option.bind (m_ref16_Fiscal std origin_1 pattern_1) fun (n151, n152, l73, n153) =>
      Option.bind (m_group_Fill std c_1 c_2 c_3) fun (n168, n169, l82, n170) =>
      Option.bind (
        Option.bind (m_law16_is std n136 n137 n138 n142 n143 n144 l64 l68) fun b54 =>
        bif (!b54) then
          (some true)
        else
          Option.bind (m_law16_is std n145 n146 n147 n151 n152 n153 l69 l73) fun b55 =>
          (some (!b55)) : Option ((Bool))) fun x142 =>
      bif x142 then
        (some false)
      else
        Option.bind (m_ref16_Valid std c_1 c_2 c_3) fun b56 =>
        bif (!b56) then
          Option.bind (m_law16_is std n168 n169 n170 0 0 1 l82 (([] : List (Int × Int)))) fun b57 =>
          (some b57)
        else
          Option.bind (m_ref16_Fill std c_1 c_2 c_3) fun (n182, n183, l86, n184) =>
          Option.bind (
            Option.bind (m_law16_is std n168 n169 n170 n182 n183 n184 l82 l86) fun b58 =>
            bif b58 then
              bif (n170 == 0) then
                Option.bind (m_granule_Gapless std n168 n169 l82) fun b60 =>
                (some b60)
              else
                (some false)
            else
              (some false) : Option ((Bool))) fun x146 =>
          (some x146)) : Option (Bool)) := rfl
theorem m_law16_GroupUndone_L1_eq (m_1 : Int) (x152 : Int) (l88 : List Int) : m_law16_GroupUndone_L1 std m_1 (x152, l88) =
((bif (decide (x152 < m_1)) then
    grd (okRoom ((List.length l88))) <|
    grd (okRoom ((List.length [x152]))) <|
    grd (okI .i64 ((x152 + 1))) <|
    (some (Sum.inl ((x152 + 1), (l88 ++ [x152]))))
  else
    (some (Sum.inr l88))) : Option ((Int × List Int) ⊕ (List Int))) := rfl
theorem m_law16_GroupUndone_eq (c_1 : Int) (c_2 : Int) (m_1 : Int) (n_1 : Int) (c_3 : List (Int × Int)) : m_law16_GroupUndone std c_1 c_2 m_1 n_1 c_3 =
((Option.bind (m_law16_awake std) fun b61 =>
  bif (!b61) then
    (some false)
  else
    Option.bind (
      Option.bind (m_law16_great std c_1 c_2 c_3) fun b62 =>
      bif b62 then
        (some true)
      else
        Option.bind (m_granule_Valid std c_1 c_2 c_3) fun b63 =>
        bif (!b63) then
          (some true)
        else
          bif (decide (m_1 < 1)) then
            (some true)
          else
            bif (decide (50 < m_1)) then
              (some true)
            else
              bif (decide (n_1 < 1)) then
                (some true)
              else
                (some (decide (50 < n_1))) : Option ((Bool))) fun x148 =>
    bif x148 then
      (some true)
    else
      Option.bind (m_group_Groups std c_1 c_2 0 1 c_3) fun (n185, n186, l87, n187) =>
      Option.bind (
        bif (!(n187 == 0)) then
          (some true)
        else
          Option.bind (m_ref16_Same std n185 n186 c_1 c_2 l87 c_3) fun b64 =>
          (some (!b64)) : Option ((Bool))) fun x150 =>
      bif x150 then
        (some false)
      else
        Option.bind (loop (m_law16_GroupUndone_L1 std m_1) (0, ([] : List Int))) fun l89 =>
        Option.bind (m_group_Pick std c_1 c_2 m_1 c_3 l89) fun (n188, n189, l90, n190) =>
        Option.bind (
          bif (n190 == 0) then
            Option.bind (m_ref16_Same std n188 n189 c_1 c_2 l90 c_3) fun b65 =>
            (some (!b65))
          else
            (some false) : Option ((Bool))) fun x154 =>
        bif x154 then
          (some false)
        else
          Option.bind (m_group_Split std c_1 c_2 m_1 c_3) fun (n191, n192, l91, n193) =>
          Option.bind (
            bif (n193 == 0) then
              Option.bind (m_group_Groups std n191 n192 0 m_1 l91) fun (n194, n195, l92, n196) =>
              Option.bind (
                bif (!(n196 == 0)) then
                  (some true)
                else
                  Option.bind (m_ref16_Same std n194 n195 c_1 c_2 l92 c_3) fun b66 =>
                  (some (!b66)) : Option ((Bool))) fun x156 =>
              bif x156 then
                (some (Sum.inl ()))
              else
                (some (Sum.inr ()))
            else
              (some (Sum.inr ())) : Option (((Unit) ⊕ (Unit)))) fun e => match e with
          | .inl _ =>
            (some false)
          | .inr (_) =>
            Option.bind (m_group_Groups std c_1 c_2 0 m_1 c_3) fun (n197, n198, l93, n199) =>
            Option.bind (m_group_Groups std n197 n198 0 n_1 l93) fun (n200, n201, l94, n202) =>
            grd (okI .i64 ((m_1 * n_1))) <|
            Option.bind (m_group_Groups std c_1 c_2 0 ((m_1 * n_1)) c_3) fun (n203, n204, l95, n205) =>
            Option.bind (
              bif (!(n199 == 0)) then
                (some true)
              else
                bif (!(n202 == 0)) then
                  (some true)
                else
                  bif (!(n205 == 0)) then
                    (some true)
                  else
                    Option.bind (m_ref16_Same std n200 n201 n203 n204 l94 l95) fun b67 =>
                    (some b67) : Option ((Bool))) fun x158 =>
            (some x158)) : Option (Bool)) := rfl
theorem m_granule_at_eq (c_1 : Int) (c_2 : Int) (k_1 : Int) (c_3 : List (Int × Int)) : m_granule_at std c_1 c_2 k_1 c_3 =
((Option.bind (m_integer_Floor std k_1 ((((List.length c_3) : Nat) : Int))) fun n210 =>
  grd (okI .i64 ((c_2 * n210))) <|
  grd (okI .i64 ((c_1 + (c_2 * n210)))) <|
  grd (okI .i64 (((((List.length c_3) : Nat) : Int) * n210))) <|
  grd (okI .i64 ((k_1 - ((((List.length c_3) : Nat) : Int) * n210)))) <|
  grd (okIdx ((k_1 - ((((List.length c_3) : Nat) : Int) * n210))) ((List.length c_3))) <|
  grd (okKin ((Int.toNat (k_1 - ((((List.length c_3) : Nat) : Int) * n210)))) ((List.length c_3))) <|
  grd (okI .i64 (((List.getD c_3 (Int.toNat (k_1 - ((((List.length c_3) : Nat) : Int) * n210))) (0, 0)).1 + (c_1 + (c_2 * n210))))) <|
  grd (okI .i64 (((List.getD c_3 (Int.toNat (k_1 - ((((List.length c_3) : Nat) : Int) * n210))) (0, 0)).2 + (c_1 + (c_2 * n210))))) <|
  (some (((List.getD c_3 (Int.toNat (k_1 - ((((List.length c_3) : Nat) : Int) * n210))) (0, 0)).1 + (c_1 + (c_2 * n210))), ((List.getD c_3 (Int.toNat (k_1 - ((((List.length c_3) : Nat) : Int) * n210))) (0, 0)).2 + (c_1 + (c_2 * n210)))))) : Option (Int × Int)) := rfl
theorem m_granule_Span_eq (c_1 : Int) (c_2 : Int) (k_1 : Int) (c_3 : List (Int × Int)) : m_granule_Span std c_1 c_2 k_1 c_3 =
((Option.bind (m_granule_Valid std c_1 c_2 c_3) fun b70 =>
  bif (!b70) then
    (some (0, 0, 1))
  else
    Option.bind (m_integer_Floor std k_1 ((((List.length c_3) : Nat) : Int))) fun n209 =>
    Option.bind (
      bif (decide ((Int.tdiv 8796093022208 c_2) < n209)) then
        grd (okNz c_2) <|
        grd (okI .i64 ((Int.tdiv 8796093022208 c_2))) <|
        (some true)
      else
        grd (okNz c_2) <|
        grd (okI .i64 ((Int.tdiv 8796093022208 c_2))) <|
        grd (okI .i64 ((Int.tdiv (-8796093022208) c_2))) <|
        grd (okI .i64 (((Int.tdiv (-8796093022208) c_2) - 1))) <|
        (some (decide (n209 < ((Int.tdiv (-8796093022208) c_2) - 1)))) : Option ((Bool))) fun x162 =>
    bif x162 then
      (some (0, 0, 2))
    else
      Option.bind (m_granule_at std c_1 c_2 k_1 c_3) fun (n211, n212) =>
      Option.bind (
        Option.bind (m_granule_line std n211) fun b71 =>
        bif (!b71) then
          (some true)
        else
          Option.bind (m_granule_line std n212) fun b72 =>
          (some (!b72)) : Option ((Bool))) fun x164 =>
      bif x164 then
        (some (0, 0, 2))
      else
        (some (n211, n212, 0))) : Option (Int × Int × Int)) := rfl
theorem m_law16_GroupHulls_eq (c_1 : Int) (c_2 : Int) (first_1 : Int) (m_1 : Int) (j_1 : Int) (c_3 : List (Int × Int)) : m_law16_GroupHulls std c_1 c_2 first_1 m_1 j_1 c_3 =
((Option.bind (m_law16_awake std) fun b68 =>
  bif (!b68) then
    (some false)
  else
    Option.bind (
      Option.bind (m_law16_great std c_1 c_2 c_3) fun b69 =>
      bif b69 then
        (some true)
      else
        bif (decide (m_1 < 1)) then
          (some true)
        else
          bif (decide (100 < m_1)) then
            (some true)
          else
            bif (decide (first_1 < (-100000))) then
              (some true)
            else
              bif (decide (100000 < first_1)) then
                (some true)
              else
                bif (decide (j_1 < (-1000))) then
                  (some true)
                else
                  (some (decide (1000 < j_1))) : Option ((Bool))) fun x160 =>
    bif x160 then
      (some true)
    else
      Option.bind (m_group_Groups std c_1 c_2 first_1 m_1 c_3) fun (n206, n207, l96, n208) =>
      bif (!(n208 == 0)) then
        (some true)
      else
        Option.bind (m_granule_Span std n206 n207 j_1 l96) fun (n213, n214, n215) =>
        grd (okI .i64 ((j_1 * m_1))) <|
        grd (okI .i64 ((first_1 + (j_1 * m_1)))) <|
        Option.bind (m_granule_Span std c_1 c_2 ((first_1 + (j_1 * m_1))) c_3) fun (n216, _, n218) =>
        grd (okI .i64 ((j_1 + 1))) <|
        grd (okI .i64 (((j_1 + 1) * m_1))) <|
        grd (okI .i64 ((first_1 + ((j_1 + 1) * m_1)))) <|
        grd (okI .i64 (((first_1 + ((j_1 + 1) * m_1)) - 1))) <|
        Option.bind (m_granule_Span std c_1 c_2 (((first_1 + ((j_1 + 1) * m_1)) - 1)) c_3) fun (_, n220, n221) =>
        Option.bind (
          bif (!(n218 == 0)) then
            (some (!((!(n215 == 0)) == true)))
          else
            (some (!((!(n215 == 0)) == (!(n221 == 0))))) : Option ((Bool))) fun x166 =>
        bif x166 then
          (some false)
        else
          Option.bind (
            bif (n215 == 0) then
              bif (!(n213 == n216)) then
                (some true)
              else
                (some (!(n214 == n220)))
            else
              (some false) : Option ((Bool))) fun x169 =>
          bif x169 then
            (some false)
          else
            grd (okI .i64 ((m_1 - 1))) <|
            Option.bind (m_group_Pick std c_1 c_2 m_1 c_3 ([(m_1 - 1)])) fun (n222, n223, l97, n224) =>
            bif (!(n224 == 0)) then
              (some true)
            else
              Option.bind (m_granule_Span std n222 n223 j_1 l97) fun (n225, n226, n227) =>
              grd (okI .i64 ((((j_1 + 1) * m_1) - 1))) <|
              Option.bind (m_granule_Span std c_1 c_2 ((((j_1 + 1) * m_1) - 1)) c_3) fun (n228, n229, n230) =>
              Option.bind (
                bif (n227 == n230) then
                  (some ((n225 == n228) && (n226 == n229)))
                else
                  (some false) : Option ((Bool))) fun x171 =>
              (some x171)) : Option (Bool)) := rfl
theorem m_slices_IndexFunc_4_eq (s_1 : Int) (s_2 : Int) (s_3 : Int) (s_4 : Int) (s_5 : List (Int × Int)) (s_6 : List (Int × Int)) : m_slices_IndexFunc_4 std s_1 s_2 s_3 s_4 s_5 s_6 =
((Option.bind (m_law16_great_1 std s_1 s_2 s_5) fun b74 =>
  bif b74 then
    (some 0)
  else
    grd (okI .i64 ((0 + 1))) <|
    Option.bind (m_law16_great_1 std s_3 s_4 s_6) fun b75 =>
    bif b75 then
      (some 1)
    else
      grd (okI .i64 ((1 + 1))) <|
      (some (-1))) : Option (Int)) := rfl
theorem m_slices_ContainsFunc_4_eq (s_1 : Int) (s_2 : Int) (s_3 : Int) (s_4 : Int) (s_5 : List (Int × Int)) (s_6 : List (Int × Int)) : m_slices_ContainsFunc_4 std s_1 s_2 s_3 s_4 s_5 s_6 =
((Option.bind (m_slices_IndexFunc_4 std s_1 s_2 s_3 s_4 s_5 s_6) fun n231 =>
  (some (decide (0 ≤ n231)))) : Option (Bool)) := rfl
theorem m_law16_great_2_eq (l_1 : Int) (l_2 : Int) (l_3 : Int) (l_4 : Int) (l_5 : List (Int × Int)) (l_6 : List (Int × Int)) : m_law16_great_2 std l_1 l_2 l_3 l_4 l_5 l_6 =
((Option.bind (m_slices_ContainsFunc_4 std l_1 l_2 l_3 l_4 l_5 l_6) fun b76 =>
  (some b76)) : Option (Bool)) := rfl
theorem m_integer_Lcm_eq (a_1 : Int) (b_1 : Int) : m_integer_Lcm std a_1 b_1 =
((Option.bind (
    bif (decide (a_1 < 1)) then
      (some true)
    else
      (some (decide (b_1 < 1))) : Option ((Bool))) fun x177 =>
  bif x177 then
    (some (0, 2))
  else
    Option.bind (m_integer_Gcd std a_1 b_1) fun n232 =>
    grd (okNz n232) <|
    grd (okI .i64 ((Int.tdiv b_1 n232))) <|
    Option.bind (m_integer_Mul std a_1 ((Int.tdiv b_1 n232))) fun (n233, n234) =>
    (some (n233, n234))) : Option (Int × Int)) := rfl
theorem m_group_common_eq (a_1 : Int) (b_1 : Int) : m_group_common std a_1 b_1 =
((Option.bind (m_integer_Lcm std a_1 b_1) fun (n235, n236) =>
  Option.bind (
    bif (!(n236 == 0)) then
      (some true)
    else
      (some (decide (12622780800 < n235))) : Option ((Bool))) fun x179 =>
  bif x179 then
    (some (0, 9))
  else
    (some (n235, 0))) : Option (Int × Int)) := rfl
theorem m_granule_Near_1_eq (i_1 : Int) (x_1 : Int) (x_2 : Int) (x_3 : Int) (x_4 : List (Int × Int)) : m_granule_Near_1 std i_1 x_1 x_2 x_3 x_4 =
((grd (okIdx i_1 ((List.length x_4))) <|
  grd (okKin ((Int.toNat i_1)) ((List.length x_4))) <|
  (some (decide (x_3 < (List.getD x_4 (Int.toNat i_1) (0, 0)).1)))) : Option (Bool)) := rfl
theorem m_sort_Search_L1_eq (c_1 : Int) (c_2 : Int) (c_3 : Int) (c_4 : List (Int × Int)) (i22 : Int) (j3 : Int) : m_sort_Search_L1 std c_1 c_2 c_3 c_4 (i22, j3) =
((bif (decide (i22 < j3)) then
    grd (okI .i64 ((i22 + j3))) <|
    grd (okI .u64 ((i22 + j3))) <|
    grd (okIdx 1 65) <|
    grd (okI .i64 (((i22 + j3) / 2 ^ (Int.toNat 1)))) <|
    Option.bind (m_granule_Near_1 std (((i22 + j3) / 2 ^ (Int.toNat 1))) c_1 c_2 c_3 c_4) fun b84 =>
    Option.bind (
      bif (!b84) then
        grd (okI .i64 ((((i22 + j3) / 2 ^ (Int.toNat 1)) + 1))) <|
        (some ((((i22 + j3) / 2 ^ (Int.toNat 1)) + 1), j3))
      else
        (some (i22, ((i22 + j3) / 2 ^ (Int.toNat 1)))) : Option ((Int × Int))) fun (i24, j5) =>
    (some (Sum.inl (i24, j5)))
  else
    (some (Sum.inr i22))) : Option ((Int × Int) ⊕ (Int))) := rfl
theorem m_sort_Search_eq (n_1 : Int) (c_1 : Int) (c_2 : Int) (c_3 : Int) (c_4 : List (Int × Int)) : m_sort_Search std n_1 c_1 c_2 c_3 c_4 =
((Option.bind (loop (m_sort_Search_L1 std c_1 c_2 c_3 c_4) (0, n_1)) fun i25 =>
  (some i25)) : Option (Int)) := rfl
theorem m_granule_Near_eq (c_1 : Int) (c_2 : Int) (x_1 : Int) (c_3 : List (Int × Int)) : m_granule_Near std c_1 c_2 x_1 c_3 =
((Option.bind (
    Option.bind (m_granule_Valid std c_1 c_2 c_3) fun b82 =>
    bif (!b82) then
      (some true)
    else
      Option.bind (m_granule_line std x_1) fun b83 =>
      (some (!b83)) : Option ((Bool))) fun x184 =>
  bif x184 then
    (some 0)
  else
    grd (okI .i64 ((x_1 - c_1))) <|
    Option.bind (m_integer_Floor std ((x_1 - c_1)) c_2) fun n241 =>
    grd (okI .i64 ((c_2 * n241))) <|
    grd (okI .i64 (((x_1 - c_1) - (c_2 * n241)))) <|
    Option.bind (m_sort_Search std ((((List.length c_3) : Nat) : Int)) c_1 c_2 (((x_1 - c_1) - (c_2 * n241))) c_3) fun n242 =>
    grd (okI .i64 (((((List.length c_3) : Nat) : Int) * n241))) <|
    grd (okI .i64 ((((((List.length c_3) : Nat) : Int) * n241) + n242))) <|
    grd (okI .i64 (((((((List.length c_3) : Nat) : Int) * n241) + n242) - 1))) <|
    (some ((((((List.length c_3) : Nat) : Int) * n241) + n242) - 1))) : Option (Int)) := rfl
theorem m_group_Inside_1_eq (l_1 : Int) (x_1 : Int) (x_2 : Int) (x_3 : Int) (x_4 : Int) (x_5 : Int) (x_6 : List (Int × Int)) (x_7 : List (Int × Int)) : m_group_Inside_1 std l_1 x_1 x_2 x_3 x_4 x_5 x_6 x_7 =
((Option.bind (m_group_at std x_1 x_2 l_1 x_6) fun (n239, n240) =>
  grd (okI .i64 ((n239 - 1))) <|
  grd (okI .i64 ((n240 - 1))) <|
  Option.bind (m_granule_Near std x_3 x_4 ((n239 - 1)) x_7) fun n243 =>
  grd (okI .i64 ((n243 + 1))) <|
  Option.bind (m_granule_Near std x_3 x_4 ((n240 - 1)) x_7) fun n244 =>
  Option.bind (m_group_at std x_3 x_4 n244 x_7) fun (_, n246) =>
  Option.bind (
    bif (decide (n240 < n246)) then
      grd (okI .i64 ((n244 - 1))) <|
      (some (n244 - 1))
    else
      (some n244) : Option ((Int))) fun last2 =>
  grd (okI .i64 ((last2 - (n243 + 1)))) <|
  grd (okI .i64 (((last2 - (n243 + 1)) + 1))) <|
  Option.bind (
    bif (decide (0 < x_5)) then
      (some (decide (x_5 ≤ ((last2 - (n243 + 1)) + 1))))
    else
      (some false) : Option ((Bool))) fun x186 =>
  Option.bind (
    bif x186 then
      grd (okI .i64 (((n243 + 1) + x_5))) <|
      grd (okI .i64 ((((n243 + 1) + x_5) - 1))) <|
      Option.bind (m_group_at std x_3 x_4 ((((n243 + 1) + x_5) - 1)) x_7) fun (n247, n248) =>
      (some (Sum.inl (n247, n248)))
    else
      Option.bind (
        bif (decide (x_5 < 0)) then
          grd (okI .i64 ((0 - ((last2 - (n243 + 1)) + 1)))) <|
          (some (decide ((0 - ((last2 - (n243 + 1)) + 1)) ≤ x_5)))
        else
          (some false) : Option ((Bool))) fun x188 =>
      bif x188 then
        grd (okI .i64 ((last2 + x_5))) <|
        grd (okI .i64 (((last2 + x_5) + 1))) <|
        Option.bind (m_group_at std x_3 x_4 (((last2 + x_5) + 1)) x_7) fun (n249, n250) =>
        (some (Sum.inl (n249, n250)))
      else
        (some (Sum.inr ())) : Option (((Int × Int) ⊕ (Unit)))) fun e => match e with
  | .inl (x191, x192) =>
    (some (x191, x192, true))
  | .inr (_) =>
    (some (0, 0, false))) : Option (Int × Int × Bool)) := rfl
theorem m_group_collect_5_L1_eq (c_1 : Int) (c_2 : Int) (c_3 : Int) (c_4 : Int) (c_5 : Int) (c_6 : List (Int × Int)) (c_7 : List (Int × Int)) (n_1 : Int) (x193 : Int) (l100 : List (Int × Int)) : m_group_collect_5_L1 std c_1 c_2 c_3 c_4 c_5 c_6 c_7 n_1 (x193, l100) =
((bif (decide (x193 < n_1)) then
    Option.bind (m_group_Inside_1 std x193 c_1 c_2 c_3 c_4 c_5 c_6 c_7) fun (n253, n254, b86) =>
    Option.bind (
      bif b86 then
        grd (okRoom ((List.length l100))) <|
        grd (okRoom ((List.length [(n253, n254)]))) <|
        (some (l100 ++ [(n253, n254)]))
      else
        (some l100) : Option ((List (Int × Int)))) fun l102 =>
    grd (okI .i64 ((x193 + 1))) <|
    (some (Sum.inl ((x193 + 1), l102)))
  else
    (some (Sum.inr l100))) : Option ((Int × List (Int × Int)) ⊕ (List (Int × Int)))) := rfl
theorem m_group_collect_5_eq (period_1 : Int) (n_1 : Int) (c_1 : Int) (c_2 : Int) (c_3 : Int) (c_4 : Int) (c_5 : Int) (c_6 : List (Int × Int)) (c_7 : List (Int × Int)) : m_group_collect_5 std period_1 n_1 c_1 c_2 c_3 c_4 c_5 c_6 c_7 =
((Option.bind (loop (m_group_collect_5_L1 std c_1 c_2 c_3 c_4 c_5 c_6 c_7 n_1) (0, ([] : List (Int × Int)))) fun l103 =>
  bif ((((List.length l103) : Nat) : Int) == 0) then
    (some (0, 0, ([] : List (Int × Int)), 7))
  else
    Option.bind (m_group_made std period_1 l103) fun (n255, n256, l104, n257) =>
    (some (n255, n256, l104, n257))) : Option (Int × Int × List (Int × Int) × Int)) := rfl
theorem m_group_Inside_eq (c_1 : Int) (c_2 : Int) (in_1 : Int) (in_2 : Int) (m_1 : Int) (c_3 : List (Int × Int)) (in_3 : List (Int × Int)) : m_group_Inside std c_1 c_2 in_1 in_2 m_1 c_3 in_3 =
((Option.bind (
    Option.bind (m_granule_Valid std c_1 c_2 c_3) fun b80 =>
    bif (!b80) then
      (some true)
    else
      Option.bind (m_granule_Valid std in_1 in_2 in_3) fun b81 =>
      bif (!b81) then
        (some true)
      else
        (some (m_1 == 0)) : Option ((Bool))) fun x175 =>
  bif x175 then
    (some (0, 0, ([] : List (Int × Int)), 1))
  else
    Option.bind (m_group_common std c_2 in_2) fun (n237, n238) =>
    bif (!(n238 == 0)) then
      (some (0, 0, ([] : List (Int × Int)), n238))
    else
      grd (okNz in_2) <|
      grd (okI .i64 ((Int.tdiv n237 in_2))) <|
      grd (okI .i64 (((((List.length in_3) : Nat) : Int) * (Int.tdiv n237 in_2)))) <|
      Option.bind (
        bif (decide (5000 < ((((List.length in_3) : Nat) : Int) * (Int.tdiv n237 in_2)))) then
          (some true)
        else
          grd (okNz c_2) <|
          grd (okI .i64 ((Int.tdiv n237 c_2))) <|
          grd (okI .i64 (((((List.length c_3) : Nat) : Int) * (Int.tdiv n237 c_2)))) <|
          (some (decide (5000 < ((((List.length c_3) : Nat) : Int) * (Int.tdiv n237 c_2))))) : Option ((Bool))) fun x181 =>
      bif x181 then
        (some (0, 0, ([] : List (Int × Int)), 5))
      else
        Option.bind (m_group_collect_5 std n237 (((((List.length in_3) : Nat) : Int) * (Int.tdiv n237 in_2))) in_1 in_2 c_1 c_2 m_1 in_3 c_3) fun (n258, n259, l105, n260) =>
        (some (n258, n259, l105, n260))) : Option (Int × Int × List (Int × Int) × Int)) := rfl
theorem m_law16_few_L1_eq (g1 : Int) (h1 : Int) : m_law16_few_L1 std (g1, h1) =
((bif (!(h1 == 0)) then
    grd (okNz h1) <|
    (some (Sum.inl (h1, (Int.tmod g1 h1))))
  else
    (some (Sum.inr g1))) : Option ((Int × Int) ⊕ (Int))) := rfl
theorem m_law16_few_eq (a_1 : Int) (a_2 : Int) (b_1 : Int) (b_2 : Int) (a_3 : List (Int × Int)) (b_3 : List (Int × Int)) : m_law16_few std a_1 a_2 b_1 b_2 a_3 b_3 =
((Option.bind (loop (m_law16_few_L1 std) (a_2, b_2)) fun g2 =>
  grd (okNz g2) <|
  grd (okI .i64 ((Int.tdiv a_2 g2))) <|
  grd (okNz b_2) <|
  grd (okI .i64 ((Int.tdiv 12622780800 b_2))) <|
  bif (decide ((Int.tdiv 12622780800 b_2) < (Int.tdiv a_2 g2))) then
    (some true)
  else
    grd (okI .i64 ((Int.tdiv b_2 g2))) <|
    grd (okI .i64 (((Int.tdiv b_2 g2) * (((List.length a_3) : Nat) : Int)))) <|
    grd (okI .i64 (((Int.tdiv a_2 g2) * (((List.length b_3) : Nat) : Int)))) <|
    Option.bind (
      bif (decide (((Int.tdiv b_2 g2) * (((List.length a_3) : Nat) : Int)) ≤ 400)) then
        bif (decide (((Int.tdiv a_2 g2) * (((List.length b_3) : Nat) : Int)) ≤ 400)) then
          (some true)
        else
          bif (decide (5000 < ((Int.tdiv b_2 g2) * (((List.length a_3) : Nat) : Int)))) then
            (some true)
          else
            (some (decide (5000 < ((Int.tdiv a_2 g2) * (((List.length b_3) : Nat) : Int)))))
      else
        bif (decide (5000 < ((Int.tdiv b_2 g2) * (((List.length a_3) : Nat) : Int)))) then
          (some true)
        else
          (some (decide (5000 < ((Int.tdiv a_2 g2) * (((List.length b_3) : Nat) : Int))))) : Option ((Bool))) fun x197 =>
    (some x197)) : Option (Bool)) := rfl
theorem m_ref16_common_eq (a_1 : Int) (b_1 : Int) : m_ref16_common std a_1 b_1 =
((Option.bind (m_ref01_Gcd std a_1 b_1) fun n267 =>
  grd (okNz n267) <|
  grd (okI .i64 ((Int.tdiv a_1 n267))) <|
  grd (okNz b_1) <|
  grd (okI .i64 ((Int.tdiv 12622780800 b_1))) <|
  bif (decide ((Int.tdiv 12622780800 b_1) < (Int.tdiv a_1 n267))) then
    (some (0, 9))
  else
    grd (okI .i64 (((Int.tdiv a_1 n267) * b_1))) <|
    (some (((Int.tdiv a_1 n267) * b_1), 0))) : Option (Int × Int)) := rfl
theorem m_ref16_within_L1_eq (c_1 : Int) (c_2 : Int) (c_3 : List (Int × Int)) (s_1 : Int) (s_2 : Int) (k7 : Int) (l110 : List (Int × Int)) : m_ref16_within_L1 std c_1 c_2 c_3 s_1 s_2 (k7, l110) =
((Option.bind (m_ref16_Granule std c_1 c_2 k7 c_3) fun (n277, _) =>
  bif (decide (n277 < s_2)) then
    Option.bind (m_ref16_Granule std c_1 c_2 k7 c_3) fun (n279, n280) =>
    Option.bind (
      bif (decide (s_1 ≤ n279)) then
        (some (decide (n280 ≤ s_2)))
      else
        (some false) : Option ((Bool))) fun x203 =>
    Option.bind (
      bif x203 then
        grd (okRoom ((List.length l110))) <|
        grd (okRoom ((List.length [(n279, n280)]))) <|
        (some (l110 ++ [(n279, n280)]))
      else
        (some l110) : Option ((List (Int × Int)))) fun l112 =>
    grd (okI .i64 ((k7 + 1))) <|
    (some (Sum.inl ((k7 + 1), l112)))
  else
    (some (Sum.inr l110))) : Option ((Int × List (Int × Int)) ⊕ (List (Int × Int)))) := rfl
theorem m_ref16_within_eq (c_1 : Int) (c_2 : Int) (s_1 : Int) (s_2 : Int) (c_3 : List (Int × Int)) : m_ref16_within std c_1 c_2 s_1 s_2 c_3 =
((grd (okI .i64 ((s_1 - c_1))) <|
  Option.bind (m_ref01_Floor std ((s_1 - c_1)) c_2) fun n272 =>
  grd (okI .i64 ((n272 - 1))) <|
  grd (okI .i64 (((((List.length c_3) : Nat) : Int) * (n272 - 1)))) <|
  Option.bind (loop (m_ref16_within_L1 std c_1 c_2 c_3 s_1 s_2) (((((List.length c_3) : Nat) : Int) * (n272 - 1)), ([] : List (Int × Int)))) fun l113 =>
  (some l113)) : Option (List (Int × Int))) := rfl
theorem m_ref16_Inside_L1_eq (c_1 : Int) (c_2 : Int) (c_3 : List (Int × Int)) (in_1 : Int) (in_2 : Int) (in_3 : List (Int × Int)) (n268 : Int) (number_1 : Int) (k8 : Int) (l119 : List (Int × Int)) : m_ref16_Inside_L1 std c_1 c_2 c_3 in_1 in_2 in_3 n268 number_1 (k8, l119) =
((grd (okNz in_2) <|
  grd (okI .i64 ((Int.tdiv n268 in_2))) <|
  grd (okI .i64 (((((List.length in_3) : Nat) : Int) * (Int.tdiv n268 in_2)))) <|
  bif (decide (k8 < ((((List.length in_3) : Nat) : Int) * (Int.tdiv n268 in_2)))) then
    Option.bind (m_ref16_Granule std in_1 in_2 k8 in_3) fun (n281, n282) =>
    Option.bind (m_ref16_within std c_1 c_2 n281 n282 c_3) fun l120 =>
    Option.bind (
      bif (decide (0 < number_1)) then
        (some (decide (number_1 ≤ (((List.length l120) : Nat) : Int))))
      else
        (some false) : Option ((Bool))) fun x209 =>
    Option.bind (
      bif x209 then
        grd (okI .i64 ((number_1 - 1))) <|
        grd (okIdx ((number_1 - 1)) ((List.length l120))) <|
        grd (okKin ((Int.toNat (number_1 - 1))) ((List.length l120))) <|
        grd (okRoom ((List.length l119))) <|
        grd (okRoom ((List.length [((List.getD l120 (Int.toNat (number_1 - 1)) (0, 0)).1, (List.getD l120 (Int.toNat (number_1 - 1)) (0, 0)).2)]))) <|
        (some (l119 ++ [((List.getD l120 (Int.toNat (number_1 - 1)) (0, 0)).1, (List.getD l120 (Int.toNat (number_1 - 1)) (0, 0)).2)]))
      else
        (some l119) : Option ((List (Int × Int)))) fun l122 =>
    Option.bind (
      bif (decide (number_1 < 0)) then
        grd (okI .i64 ((0 - (((List.length l120) : Nat) : Int)))) <|
        (some (decide ((0 - (((List.length l120) : Nat) : Int)) ≤ number_1)))
      else
        (some false) : Option ((Bool))) fun x211 =>
    Option.bind (
      bif x211 then
        grd (okI .i64 (((((List.length l120) : Nat) : Int) + number_1))) <|
        grd (okIdx (((((List.length l120) : Nat) : Int) + number_1)) ((List.length l120))) <|
        grd (okKin ((Int.toNat ((((List.length l120) : Nat) : Int) + number_1))) ((List.length l120))) <|
        grd (okRoom ((List.length l122))) <|
        grd (okRoom ((List.length [((List.getD l120 (Int.toNat ((((List.length l120) : Nat) : Int) + number_1)) (0, 0)).1, (List.getD l120 (Int.toNat ((((List.length l120) : Nat) : Int) + number_1)) (0, 0)).2)]))) <|
        (some (l122 ++ [((List.getD l120 (Int.toNat ((((List.length l120) : Nat) : Int) + number_1)) (0, 0)).1, (List.getD l120 (Int.toNat ((((List.length l120) : Nat) : Int) + number_1)) (0, 0)).2)]))
      else
        (some l122) : Option ((List (Int × Int)))) fun l124 =>
    grd (okI .i64 ((k8 + 1))) <|
    (some (Sum.inl ((k8 + 1), l124)))
  else
    (some (Sum.inr l119))) : Option ((Int × List (Int × Int)) ⊕ (List (Int × Int)))) := rfl
theorem m_ref16_Inside_eq (c_1 : Int) (c_2 : Int) (in_1 : Int) (in_2 : Int) (number_1 : Int) (c_3 : List (Int × Int)) (in_3 : List (Int × Int)) : m_ref16_Inside std c_1 c_2 in_1 in_2 number_1 c_3 in_3 =
((bif (number_1 == 0) then
    (some (0, 0, ([] : List (Int × Int)), 1))
  else
    Option.bind (m_ref16_common std c_2 in_2) fun (n268, n269) =>
    bif (!(n269 == 0)) then
      (some (0, 0, ([] : List (Int × Int)), n269))
    else
      Option.bind (
        bif (decide (5000 < ((((List.length c_3) : Nat) : Int) * (Int.tdiv n268 c_2)))) then
          grd (okNz c_2) <|
          grd (okI .i64 ((Int.tdiv n268 c_2))) <|
          grd (okI .i64 (((((List.length c_3) : Nat) : Int) * (Int.tdiv n268 c_2)))) <|
          (some true)
        else
          grd (okNz c_2) <|
          grd (okI .i64 ((Int.tdiv n268 c_2))) <|
          grd (okI .i64 (((((List.length c_3) : Nat) : Int) * (Int.tdiv n268 c_2)))) <|
          grd (okNz in_2) <|
          grd (okI .i64 ((Int.tdiv n268 in_2))) <|
          grd (okI .i64 (((((List.length in_3) : Nat) : Int) * (Int.tdiv n268 in_2)))) <|
          (some (decide (5000 < ((((List.length in_3) : Nat) : Int) * (Int.tdiv n268 in_2))))) : Option ((Bool))) fun x199 =>
      bif x199 then
        (some (0, 0, ([] : List (Int × Int)), 5))
      else
        Option.bind (loop (m_ref16_Inside_L1 std c_1 c_2 c_3 in_1 in_2 in_3 n268 number_1) (0, ([] : List (Int × Int)))) fun l125 =>
        bif ((((List.length l125) : Nat) : Int) == 0) then
          (some (0, 0, ([] : List (Int × Int)), 7))
        else
          Option.bind (m_ref16_Make std n268 l125) fun (n283, n284, l126, n285) =>
          (some (n283, n284, l126, n285))) : Option (Int × Int × List (Int × Int) × Int)) := rfl
theorem m_law16_GroupInside_eq (c_1 : Int) (c_2 : Int) (in_1 : Int) (in_2 : Int) (m_1 : Int) (c_3 : List (Int × Int)) (in_3 : List (Int × Int)) : m_law16_GroupInside std c_1 c_2 in_1 in_2 m_1 c_3 in_3 =
((Option.bind (m_law16_awake std) fun b73 =>
  bif (!b73) then
    (some false)
  else
    Option.bind (m_law16_great_2 std c_1 c_2 in_1 in_2 c_3 in_3) fun b77 =>
    bif b77 then
      (some true)
    else
      Option.bind (
        Option.bind (m_ref16_Valid std c_1 c_2 c_3) fun b78 =>
        bif (!b78) then
          (some true)
        else
          Option.bind (m_ref16_Valid std in_1 in_2 in_3) fun b79 =>
          (some (!b79)) : Option ((Bool))) fun x173 =>
      bif x173 then
        Option.bind (m_group_Inside std c_1 c_2 in_1 in_2 m_1 c_3 in_3) fun (n261, n262, l106, n263) =>
        Option.bind (m_law16_is std n261 n262 n263 0 0 1 l106 (([] : List (Int × Int)))) fun b87 =>
        (some b87)
      else
        Option.bind (m_law16_few std c_1 c_2 in_1 in_2 c_3 in_3) fun b88 =>
        bif (!b88) then
          (some true)
        else
          Option.bind (m_group_Inside std c_1 c_2 in_1 in_2 m_1 c_3 in_3) fun (n264, n265, l107, n266) =>
          Option.bind (m_ref16_Inside std c_1 c_2 in_1 in_2 m_1 c_3 in_3) fun (n286, n287, l127, n288) =>
          Option.bind (m_law16_is std n264 n265 n266 n286 n287 n288 l107 l127) fun b89 =>
          (some b89)) : Option (Bool)) := rfl
theorem m_group_Merge_L1_eq (a_1 : Int) (a_2 : Int) (a_3 : List (Int × Int)) (n289 : Int) (n291 : Int) (n293 : Int) (x217 : Int) (l128 : List (Int × Int)) : m_group_Merge_L1 std a_1 a_2 a_3 n289 n291 n293 (x217, l128) =
((bif (decide (x217 < ((((List.length a_3) : Nat) : Int) * (Int.tdiv n289 a_2)))) then
    Option.bind (m_group_at std a_1 a_2 x217 a_3) fun (n298, n299) =>
    grd (okI .i64 ((n298 - (mi n291 n293)))) <|
    Option.bind (m_integer_Mod std ((n298 - (mi n291 n293))) n289) fun n300 =>
    grd (okI .i64 (((mi n291 n293) + n300))) <|
    grd (okI .i64 ((((mi n291 n293) + n300) + n299))) <|
    grd (okI .i64 (((((mi n291 n293) + n300) + n299) - n298))) <|
    grd (okRoom ((List.length l128))) <|
    grd (okRoom ((List.length [(((mi n291 n293) + n300), ((((mi n291 n293) + n300) + n299) - n298))]))) <|
    grd (okI .i64 ((x217 + 1))) <|
    (some (Sum.inl ((x217 + 1), (l128 ++ [(((mi n291 n293) + n300), ((((mi n291 n293) + n300) + n299) - n298))]))))
  else
    (some (Sum.inr l128))) : Option ((Int × List (Int × Int)) ⊕ (List (Int × Int)))) := rfl
theorem m_group_Merge_L2_eq (b_1 : Int) (b_2 : Int) (b_3 : List (Int × Int)) (n289 : Int) (n291 : Int) (n293 : Int) (x219 : Int) (l130 : List (Int × Int)) : m_group_Merge_L2 std b_1 b_2 b_3 n289 n291 n293 (x219, l130) =
((bif (decide (x219 < ((((List.length b_3) : Nat) : Int) * (Int.tdiv n289 b_2)))) then
    Option.bind (m_group_at std b_1 b_2 x219 b_3) fun (n304, n305) =>
    grd (okI .i64 ((n304 - (mi n291 n293)))) <|
    Option.bind (m_integer_Mod std ((n304 - (mi n291 n293))) n289) fun n306 =>
    grd (okI .i64 (((mi n291 n293) + n306))) <|
    grd (okI .i64 ((((mi n291 n293) + n306) + n305))) <|
    grd (okI .i64 (((((mi n291 n293) + n306) + n305) - n304))) <|
    grd (okRoom ((List.length l130))) <|
    grd (okRoom ((List.length [(((mi n291 n293) + n306), ((((mi n291 n293) + n306) + n305) - n304))]))) <|
    grd (okI .i64 ((x219 + 1))) <|
    (some (Sum.inl ((x219 + 1), (l130 ++ [(((mi n291 n293) + n306), ((((mi n291 n293) + n306) + n305) - n304))]))))
  else
    (some (Sum.inr l130))) : Option ((Int × List (Int × Int)) ⊕ (List (Int × Int)))) := rfl
theorem m_group_Merge_L3_eq (l132 : List (Int × Int)) (n289 : Int) (x221 : Int) : m_group_Merge_L3 std l132 n289 x221 =
((bif (decide (x221 < (((List.length l132) : Nat) : Int))) then
    grd (okIdx x221 ((List.length l132))) <|
    grd (okKin ((Int.toNat x221)) ((List.length l132))) <|
    grd (okIdx 0 ((List.length l132))) <|
    grd (okKin ((Int.toNat 0)) ((List.length l132))) <|
    grd (okI .i64 (((List.getD l132 (Int.toNat 0) (0, 0)).1 + n289))) <|
    grd (okI .i64 ((x221 + 1))) <|
    Option.bind (
      bif (decide ((x221 + 1) < (((List.length l132) : Nat) : Int))) then
        grd (okIdx ((x221 + 1)) ((List.length l132))) <|
        grd (okKin ((Int.toNat (x221 + 1))) ((List.length l132))) <|
        (some (List.getD l132 (Int.toNat (x221 + 1)) (0, 0)).1)
      else
        (some ((List.getD l132 (Int.toNat 0) (0, 0)).1 + n289)) : Option ((Int))) fun next6 =>
    bif (decide (next6 < (List.getD l132 (Int.toNat x221) (0, 0)).2)) then
      (some (Sum.inr (Sum.inl ())))
    else
      (some (Sum.inl (x221 + 1)))
  else
    (some (Sum.inr (Sum.inr ())))) : Option ((Int) ⊕ ((Unit) ⊕ (Unit)))) := rfl
theorem m_group_Merge_eq (a_1 : Int) (a_2 : Int) (b_1 : Int) (b_2 : Int) (a_3 : List (Int × Int)) (b_3 : List (Int × Int)) : m_group_Merge std a_1 a_2 b_1 b_2 a_3 b_3 =
((Option.bind (
    Option.bind (m_granule_Valid std a_1 a_2 a_3) fun b94 =>
    bif (!b94) then
      (some true)
    else
      Option.bind (m_granule_Valid std b_1 b_2 b_3) fun b95 =>
      (some (!b95)) : Option ((Bool))) fun x215 =>
  bif x215 then
    (some (0, 0, ([] : List (Int × Int)), 1))
  else
    Option.bind (m_group_common std a_2 b_2) fun (n289, n290) =>
    bif (!(n290 == 0)) then
      (some (0, 0, ([] : List (Int × Int)), n290))
    else
      Option.bind (m_group_at std a_1 a_2 0 a_3) fun (n291, _) =>
      Option.bind (m_group_at std b_1 b_2 0 b_3) fun (n293, _) =>
      grd (okNz a_2) <|
      grd (okI .i64 ((Int.tdiv n289 a_2))) <|
      grd (okI .i64 (((((List.length a_3) : Nat) : Int) * (Int.tdiv n289 a_2)))) <|
      grd (okI .i64 (((((List.length ([] : List (Int × Int))) : Nat) : Int) + ((((List.length a_3) : Nat) : Int) * (Int.tdiv n289 a_2))))) <|
      bif (decide (5000 < ((((List.length ([] : List (Int × Int))) : Nat) : Int) + ((((List.length a_3) : Nat) : Int) * (Int.tdiv n289 a_2))))) then
        (some (0, 0, ([] : List (Int × Int)), 5))
      else
        Option.bind (loop (m_group_Merge_L1 std a_1 a_2 a_3 n289 n291 n293) (0, ([] : List (Int × Int)))) fun l129 =>
        grd (okI .i64 ((0 + 1))) <|
        grd (okNz b_2) <|
        grd (okI .i64 ((Int.tdiv n289 b_2))) <|
        grd (okI .i64 (((((List.length b_3) : Nat) : Int) * (Int.tdiv n289 b_2)))) <|
        grd (okI .i64 (((((List.length l129) : Nat) : Int) + ((((List.length b_3) : Nat) : Int) * (Int.tdiv n289 b_2))))) <|
        bif (decide (5000 < ((((List.length l129) : Nat) : Int) + ((((List.length b_3) : Nat) : Int) * (Int.tdiv n289 b_2))))) then
          (some (0, 0, ([] : List (Int × Int)), 5))
        else
          Option.bind (loop (m_group_Merge_L2 std b_1 b_2 b_3 n289 n291 n293) (0, l129)) fun l131 =>
          grd (okI .i64 ((1 + 1))) <|
          Option.bind (m_sortSp std l131) fun l132 =>
          Option.bind (loop (m_group_Merge_L3 std l132 n289) 0) fun e => match e with
          | .inl _ =>
            (some (0, 0, ([] : List (Int × Int)), 6))
          | .inr (_) =>
            Option.bind (m_group_made std n289 l132) fun (n307, n308, l133, n309) =>
            (some (n307, n308, l133, n309))) : Option (Int × Int × List (Int × Int) × Int)) := rfl
theorem m_ref16_start_L1_eq (c_1 : Int) (c_2 : Int) (c_3 : List (Int × Int)) (x_1 : Int) (k9 : Int) : m_ref16_start_L1 std c_1 c_2 c_3 x_1 k9 =
((Option.bind (m_ref16_Granule std c_1 c_2 k9 c_3) fun (n328, _) =>
  bif (decide (n328 < x_1)) then
    grd (okI .i64 ((k9 + 1))) <|
    (some (Sum.inl (k9 + 1)))
  else
    (some (Sum.inr k9))) : Option ((Int) ⊕ (Int))) := rfl
theorem m_ref16_start_eq (c_1 : Int) (c_2 : Int) (x_1 : Int) (c_3 : List (Int × Int)) : m_ref16_start std c_1 c_2 x_1 c_3 =
((grd (okI .i64 ((x_1 - c_1))) <|
  Option.bind (m_ref01_Floor std ((x_1 - c_1)) c_2) fun n327 =>
  grd (okI .i64 ((n327 - 1))) <|
  grd (okI .i64 (((((List.length c_3) : Nat) : Int) * (n327 - 1)))) <|
  Option.bind (loop (m_ref16_start_L1 std c_1 c_2 c_3 x_1) ((((List.length c_3) : Nat) : Int) * (n327 - 1))) fun k10 =>
  (some k10)) : Option (Int)) := rfl
theorem m_ref16_Merge_L1_eq (a_1 : Int) (a_2 : Int) (a_3 : List (Int × Int)) (b_1 : Int) (b_2 : Int) (b_3 : List (Int × Int)) (n319 : Int) (i29 : Int) (k14 : Int) (l139 : List (Int × Int)) : m_ref16_Merge_L1 std a_1 a_2 a_3 b_1 b_2 b_3 n319 (i29, k14, l139) =
((bif (decide ((((List.length l139) : Nat) : Int) < (((((List.length a_3) : Nat) : Int) * (Int.tdiv n319 a_2)) + ((((List.length b_3) : Nat) : Int) * (Int.tdiv n319 b_2))))) then
    Option.bind (m_ref16_Granule std a_1 a_2 i29 a_3) fun (n336, n337) =>
    Option.bind (m_ref16_Granule std b_1 b_2 k14 b_3) fun (n338, n339) =>
    Option.bind (
      bif (decide (n336 < n339)) then
        (some (decide (n338 < n337)))
      else
        (some false) : Option ((Bool))) fun x225 =>
    bif x225 then
      (some (Sum.inr (Sum.inl ())))
    else
      Option.bind (
        bif (decide (n336 < n338)) then
          grd (okRoom ((List.length l139))) <|
          grd (okRoom ((List.length [(n336, n337)]))) <|
          grd (okI .i64 ((i29 + 1))) <|
          (some ((i29 + 1), k14, (l139 ++ [(n336, n337)])))
        else
          grd (okRoom ((List.length l139))) <|
          grd (okRoom ((List.length [(n338, n339)]))) <|
          grd (okI .i64 ((k14 + 1))) <|
          (some (i29, (k14 + 1), (l139 ++ [(n338, n339)]))) : Option ((Int × Int × List (Int × Int)))) fun (i31, k16, l141) =>
      (some (Sum.inl (i31, k16, l141)))
  else
    (some (Sum.inr (Sum.inr l139)))) : Option ((Int × Int × List (Int × Int)) ⊕ ((Unit) ⊕ (List (Int × Int))))) := rfl
theorem m_ref16_Merge_eq (a_1 : Int) (a_2 : Int) (b_1 : Int) (b_2 : Int) (a_3 : List (Int × Int)) (b_3 : List (Int × Int)) : m_ref16_Merge std a_1 a_2 b_1 b_2 a_3 b_3 =
((Option.bind (m_ref16_common std a_2 b_2) fun (n319, n320) =>
  bif (!(n320 == 0)) then
    (some (0, 0, ([] : List (Int × Int)), n320))
  else
    grd (okNz a_2) <|
    grd (okI .i64 ((Int.tdiv n319 a_2))) <|
    grd (okI .i64 (((((List.length a_3) : Nat) : Int) * (Int.tdiv n319 a_2)))) <|
    grd (okNz b_2) <|
    grd (okI .i64 ((Int.tdiv n319 b_2))) <|
    grd (okI .i64 (((((List.length b_3) : Nat) : Int) * (Int.tdiv n319 b_2)))) <|
    grd (okI .i64 ((((((List.length a_3) : Nat) : Int) * (Int.tdiv n319 a_2)) + ((((List.length b_3) : Nat) : Int) * (Int.tdiv n319 b_2))))) <|
    bif (decide (5000 < (((((List.length a_3) : Nat) : Int) * (Int.tdiv n319 a_2)) + ((((List.length b_3) : Nat) : Int) * (Int.tdiv n319 b_2))))) then
      (some (0, 0, ([] : List (Int × Int)), 5))
    else
      Option.bind (m_ref16_Granule std a_1 a_2 0 a_3) fun (n321, _) =>
      Option.bind (m_ref16_Granule std b_1 b_2 0 b_3) fun (n323, _) =>
      Option.bind (
        bif (decide (n323 < n321)) then
          Option.bind (m_ref16_Granule std b_1 b_2 0 b_3) fun (n325, _) =>
          (some n325)
        else
          (some n321) : Option ((Int))) fun from2 =>
      Option.bind (m_ref16_start std a_1 a_2 from2 a_3) fun n330 =>
      Option.bind (m_ref16_start std b_1 b_2 from2 b_3) fun n331 =>
      Option.bind (loop (m_ref16_Merge_L1 std a_1 a_2 a_3 b_1 b_2 b_3 n319) (n330, n331, ([] : List (Int × Int)))) fun e => match e with
      | .inl _ =>
        (some (0, 0, ([] : List (Int × Int)), 6))
      | .inr (l142) =>
        grd (okI .i64 (((((List.length l142) : Nat) : Int) - 1))) <|
        grd (okIdx (((((List.length l142) : Nat) : Int) - 1)) ((List.length l142))) <|
        grd (okKin ((Int.toNat ((((List.length l142) : Nat) : Int) - 1))) ((List.length l142))) <|
        grd (okIdx 0 ((List.length l142))) <|
        grd (okKin ((Int.toNat 0)) ((List.length l142))) <|
        grd (okI .i64 (((List.getD l142 (Int.toNat 0) (0, 0)).1 + n319))) <|
        bif (decide (((List.getD l142 (Int.toNat 0) (0, 0)).1 + n319) < (List.getD l142 (Int.toNat ((((List.length l142) : Nat) : Int) - 1)) (0, 0)).2)) then
          (some (0, 0, ([] : List (Int × Int)), 6))
        else
          Option.bind (m_ref16_Make std n319 l142) fun (n340, n341, l143, n342) =>
          (some (n340, n341, l143, n342))) : Option (Int × Int × List (Int × Int) × Int)) := rfl
theorem m_law16_GroupMerges_eq (a_1 : Int) (a_2 : Int) (b_1 : Int) (b_2 : Int) (a_3 : List (Int × Int)) (b_3 : List (Int × Int)) : m_law16_GroupMerges std a_1 a_2 b_1 b_2 a_3 b_3 =
((Option.bind (m_law16_awake std) fun b90 =>
  bif (!b90) then
    (some false)
  else
    Option.bind (m_law16_great_2 std a_1 a_2 b_1 b_2 a_3 b_3) fun b91 =>
    bif b91 then
      (some true)
    else
      Option.bind (
        Option.bind (m_ref16_Valid std a_1 a_2 a_3) fun b92 =>
        bif (!b92) then
          (some true)
        else
          Option.bind (m_ref16_Valid std b_1 b_2 b_3) fun b93 =>
          (some (!b93)) : Option ((Bool))) fun x213 =>
      bif x213 then
        Option.bind (m_group_Merge std a_1 a_2 b_1 b_2 a_3 b_3) fun (n310, n311, l134, n312) =>
        Option.bind (m_law16_is std n310 n311 n312 0 0 1 l134 (([] : List (Int × Int)))) fun b96 =>
        (some b96)
      else
        Option.bind (m_law16_few std a_1 a_2 b_1 b_2 a_3 b_3) fun b97 =>
        bif (!b97) then
          (some true)
        else
          Option.bind (m_group_Merge std a_1 a_2 b_1 b_2 a_3 b_3) fun (n313, n314, l135, n315) =>
          Option.bind (m_group_Merge std b_1 b_2 a_1 a_2 b_3 a_3) fun (n316, n317, l136, n318) =>
          Option.bind (m_ref16_Merge std a_1 a_2 b_1 b_2 a_3 b_3) fun (n343, n344, l144, n345) =>
          Option.bind (
            Option.bind (m_law16_is std n313 n314 n315 n343 n344 n345 l135 l144) fun b98 =>
            bif b98 then
              Option.bind (m_law16_is std n316 n317 n318 n343 n344 n345 l136 l144) fun b99 =>
              (some b99)
            else
              (some false) : Option ((Bool))) fun x227 =>
          (some x227)) : Option (Bool)) := rfl
end Go.Proofs.Ytoklfjkanipjkaa
