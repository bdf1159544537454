/-
  Equations of models (printed by lift.py).
-/
import Derived.Test.YtmnhfaaaaejpaaaNM
namespace Go.Proofs.Ytmnhfaaaaejpaaa
open Go.RowKit
set_option maxRecDepth 100000

theorem m_recurrence_local_eq (l_1 : Int) : m_recurrence_local std l_1 =
((Option.bind (
    bif (decide ((-62135596800) ≤ l_1)) then
      (some (decide (l_1 < 253402300800)))
    else
      (some false) : Option ((Bool))) fun x14 =>
  (some x14)) : Option (Bool)) := rfl
theorem m_recurrence_between_1_eq (n_1 : Int) (x_1 : Int) (x_2 : Int) (x_3 : Bool) : m_recurrence_between_1 std n_1 x_1 x_2 x_3 =
((Option.bind (
    bif (decide (n_1 < x_1)) then
      bif x_3 then
        bif (decide ((0 - x_2) ≤ n_1)) then
          grd (okI .i64 ((0 - x_2))) <|
          grd (okI .i64 ((0 - x_1))) <|
          (some ((!(decide (n_1 ≤ (0 - x_1)))), true))
        else
          grd (okI .i64 ((0 - x_2))) <|
          (some ((!false), true))
      else
        (some ((!false), false))
    else
      bif (decide (x_2 < n_1)) then
        bif x_3 then
          bif (decide ((0 - x_2) ≤ n_1)) then
            grd (okI .i64 ((0 - x_2))) <|
            grd (okI .i64 ((0 - x_1))) <|
            (some ((!(decide (n_1 ≤ (0 - x_1)))), true))
          else
            grd (okI .i64 ((0 - x_2))) <|
            (some ((!false), true))
        else
          (some ((!false), false))
      else
        (some (false, x_3)) : Option ((Bool × Bool))) fun (x32, _) =>
  (some x32)) : Option (Bool)) := rfl
theorem m_slices_IndexFunc_L1_eq (c_1 : Int) (c_2 : Int) (c_3 : Bool) (s_1 : List Int) (x20 : Int) : m_slices_IndexFunc_L1 std c_1 c_2 c_3 s_1 x20 =
((bif (decide (x20 < (((List.length s_1) : Nat) : Int))) then
    grd (okIdx x20 ((List.length s_1))) <|
    grd (okKin ((Int.toNat x20)) ((List.length s_1))) <|
    Option.bind (m_recurrence_between_1 std ((List.getD s_1 (Int.toNat x20) 0)) c_1 c_2 c_3) fun b2 =>
    bif b2 then
      (some (Sum.inr (Sum.inl x20)))
    else
      grd (okI .i64 ((x20 + 1))) <|
      (some (Sum.inl (x20 + 1)))
  else
    (some (Sum.inr (Sum.inr ())))) : Option ((Int) ⊕ ((Int) ⊕ (Unit)))) := rfl
theorem m_slices_IndexFunc_eq (s_1 : List Int) (c_1 : Int) (c_2 : Int) (c_3 : Bool) : m_slices_IndexFunc std s_1 c_1 c_2 c_3 =
((Option.bind (loop (m_slices_IndexFunc_L1 std c_1 c_2 c_3 s_1) 0) fun e => match e with
  | .inl x34 =>
    (some x34)
  | .inr (_) =>
    (some (-1))) : Option (Int)) := rfl
theorem m_slices_ContainsFunc_eq (s_1 : List Int) (c_1 : Int) (c_2 : Int) (c_3 : Bool) : m_slices_ContainsFunc std s_1 c_1 c_2 c_3 =
((Option.bind (m_slices_IndexFunc std s_1 c_1 c_2 c_3) fun n1 =>
  (some (decide (0 ≤ n1)))) : Option (Bool)) := rfl
theorem m_recurrence_between_eq (low_1 : Int) (high_1 : Int) (signed_1 : Bool) (l_1 : List Int) : m_recurrence_between std low_1 high_1 signed_1 l_1 =
((Option.bind (
    bif (decide ((((List.length l_1) : Nat) : Int) ≤ 60)) then
      Option.bind (m_slices_ContainsFunc std l_1 low_1 high_1 signed_1) fun b3 =>
      (some (!b3))
    else
      (some false) : Option ((Bool))) fun x36 =>
  (some x36)) : Option (Bool)) := rfl
theorem m_integer_Div_eq (a_1 : Int) (b_1 : Int) : m_integer_Div std a_1 b_1 =
((Option.bind (
    bif (b_1 == 0) then
      (some (Sum.inl 10))
    else
      Option.bind (
        bif (a_1 == (-9223372036854775808)) then
          (some (b_1 == (-1)))
        else
          (some false) : Option ((Bool))) fun x51 =>
      bif x51 then
        (some (Sum.inl 9))
      else
        (some (Sum.inr ())) : Option (((Int) ⊕ (Unit)))) fun e => match e with
  | .inl x53 =>
    (some (0, 0, x53))
  | .inr (_) =>
    grd (okNz b_1) <|
    grd (okI .i64 ((Int.tdiv a_1 b_1))) <|
    Option.bind (
      bif (!((Int.tmod a_1 b_1) == 0)) then
        (some (!((decide ((Int.tmod a_1 b_1) < 0)) == (decide (b_1 < 0)))))
      else
        (some false) : Option ((Bool))) fun x55 =>
    Option.bind (
      bif x55 then
        grd (okI .i64 (((Int.tdiv a_1 b_1) - 1))) <|
        grd (okI .i64 (((Int.tmod a_1 b_1) + b_1))) <|
        (some (((Int.tdiv a_1 b_1) - 1), ((Int.tmod a_1 b_1) + b_1)))
      else
        (some ((Int.tdiv a_1 b_1), (Int.tmod a_1 b_1))) : Option ((Int × Int))) fun (q2, r2) =>
    (some (q2, r2, 0))) : Option (Int × Int × Int)) := rfl
theorem m_integer_Mod_eq (a_1 : Int) (b_1 : Int) : m_integer_Mod std a_1 b_1 =
((Option.bind (m_integer_Div std a_1 b_1) fun (_, n3, _) =>
  (some n3)) : Option (Int)) := rfl
theorem m_recurrence_set_eq (l_1 : List Int) : m_recurrence_set std l_1 =
((Option.bind (m_clone_i1 std l_1) fun l1 =>
  Option.bind (m_sortI std l1) fun l2 =>
  Option.bind (m_compI std l2) fun l3 =>
  (some l3)) : Option (List Int)) := rfl
theorem m_recurrence_times_1_eq (other_1 : Int) (l_1 : List Int) : m_recurrence_times_1 std other_1 l_1 =
((bif ((((List.length l_1) : Nat) : Int) == 0) then
    (some [other_1])
  else
    Option.bind (m_recurrence_set std l_1) fun l4 =>
    (some l4)) : Option (List Int)) := rfl
theorem m_recurrence_times_L2_eq (l10 : List Int) (l11 : List Int) (l9 : List Int) (x67 : Int) (x71 : Int) (x73 : Int) (l22 : List Int) : m_recurrence_times_L2 std l10 l11 l9 x67 x71 (x73, l22) =
((bif (decide (x73 < (((List.length l11) : Nat) : Int))) then
    grd (okIdx x73 ((List.length l11))) <|
    grd (okKin ((Int.toNat x73)) ((List.length l11))) <|
    grd (okI .i64 ((3600 * (List.getD l9 (Int.toNat x67) 0)))) <|
    grd (okI .i64 ((60 * (List.getD l10 (Int.toNat x71) 0)))) <|
    grd (okI .i64 (((3600 * (List.getD l9 (Int.toNat x67) 0)) + (60 * (List.getD l10 (Int.toNat x71) 0))))) <|
    grd (okI .i64 ((((3600 * (List.getD l9 (Int.toNat x67) 0)) + (60 * (List.getD l10 (Int.toNat x71) 0))) + (List.getD l11 (Int.toNat x73) 0)))) <|
    grd (okRoom ((List.length l22))) <|
    grd (okRoom ((List.length [(((3600 * (List.getD l9 (Int.toNat x67) 0)) + (60 * (List.getD l10 (Int.toNat x71) 0))) + (List.getD l11 (Int.toNat x73) 0))]))) <|
    grd (okI .i64 ((x73 + 1))) <|
    (some (Sum.inl ((x73 + 1), (l22 ++ [(((3600 * (List.getD l9 (Int.toNat x67) 0)) + (60 * (List.getD l10 (Int.toNat x71) 0))) + (List.getD l11 (Int.toNat x73) 0))]))))
  else
    (some (Sum.inr l22))) : Option ((Int × List Int) ⊕ (List Int))) := rfl
theorem m_recurrence_times_L3_eq (l10 : List Int) (l11 : List Int) (l9 : List Int) (x67 : Int) (x71 : Int) (l21 : List Int) : m_recurrence_times_L3 std l10 l11 l9 x67 (x71, l21) =
((bif (decide (x71 < (((List.length l10) : Nat) : Int))) then
    grd (okIdx x71 ((List.length l10))) <|
    grd (okKin ((Int.toNat x71)) ((List.length l10))) <|
    Option.bind (loop (m_recurrence_times_L2 std l10 l11 l9 x67 x71) (0, l21)) fun l23 =>
    grd (okI .i64 ((x71 + 1))) <|
    (some (Sum.inl ((x71 + 1), l23)))
  else
    (some (Sum.inr l21))) : Option ((Int × List Int) ⊕ (List Int))) := rfl
theorem m_recurrence_times_L4_eq (l10 : List Int) (l11 : List Int) (l9 : List Int) (x67 : Int) (l18 : List Int) : m_recurrence_times_L4 std l10 l11 l9 (x67, l18) =
((bif (decide (x67 < (((List.length l9) : Nat) : Int))) then
    grd (okIdx x67 ((List.length l9))) <|
    grd (okKin ((Int.toNat x67)) ((List.length l9))) <|
    Option.bind (loop (m_recurrence_times_L3 std l10 l11 l9 x67) (0, l18)) fun l24 =>
    grd (okI .i64 ((x67 + 1))) <|
    (some (Sum.inl ((x67 + 1), l24)))
  else
    (some (Sum.inr l18))) : Option ((Int × List Int) ⊕ (List Int))) := rfl
theorem m_recurrence_times_eq (r_1 : Int) (r_2 : Int) (r_3 : Int) (r_4 : Int) (r_5 : Int) (start_1 : Int) (r_6 : List Int) (r_7 : List Int) (r_8 : List Int) (r_9 : List Int) (r_10 : List (Int × Int)) (r_11 : List Int) (r_12 : List Int) (r_13 : List Int) (r_14 : List Int) : m_recurrence_times std r_1 r_2 r_3 r_4 r_5 start_1 r_6 r_7 r_8 r_9 r_10 r_11 r_12 r_13 r_14 =
((Option.bind (m_integer_Mod std start_1 86400) fun n5 =>
  grd (okNz 3600) <|
  grd (okI .i64 ((Int.tdiv n5 3600))) <|
  Option.bind (m_recurrence_times_1 std ((Int.tdiv n5 3600)) r_11) fun l5 =>
  Option.bind (
    bif ((((List.length r_11) : Nat) : Int) == 0) then
      (some (r_1 == 5))
    else
      (some false) : Option ((Bool))) fun x57 =>
  Option.bind (
    bif x57 then
      Option.bind (loop (m_recurrence_times_L1 std) (0, ([] : List Int))) fun l7 =>
      (some l7)
    else
      (some l5) : Option ((List Int))) fun l9 =>
  grd (okNz 60) <|
  grd (okI .i64 ((Int.tdiv n5 60))) <|
  Option.bind (m_recurrence_times_1 std ((Int.tmod (Int.tdiv n5 60) 60)) r_12) fun l10 =>
  Option.bind (m_recurrence_times_1 std ((Int.tmod n5 60)) r_13) fun l11 =>
  Option.bind (loop (m_recurrence_times_L4 std l10 l11 l9) (0, ([] : List Int))) fun l25 =>
  (some l25)) : Option (List Int)) := rfl
theorem m_recurrence_Valid_L1_eq (r_1 : Int) (r_10 : List (Int × Int)) (x45 : Int) : m_recurrence_Valid_L1 std r_1 r_10 x45 =
((bif (decide (x45 < (((List.length r_10) : Nat) : Int))) then
    grd (okIdx x45 ((List.length r_10))) <|
    grd (okKin ((Int.toNat x45)) ((List.length r_10))) <|
    Option.bind (
      bif (decide ((List.getD r_10 (Int.toNat x45) (0, 0)).2 < 1)) then
        (some true)
      else
        bif (decide (7 < (List.getD r_10 (Int.toNat x45) (0, 0)).2)) then
          (some true)
        else
          bif (decide ((List.getD r_10 (Int.toNat x45) (0, 0)).1 < (-53))) then
            (some true)
          else
            bif (decide (53 < (List.getD r_10 (Int.toNat x45) (0, 0)).1)) then
              (some true)
            else
              bif (!((List.getD r_10 (Int.toNat x45) (0, 0)).1 == 0)) then
                bif (!(r_1 == 1)) then
                  (some (!(r_1 == 2)))
                else
                  (some false)
              else
                (some false) : Option ((Bool))) fun x49 =>
    bif x49 then
      (some (Sum.inr (Sum.inl ())))
    else
      grd (okI .i64 ((x45 + 1))) <|
      (some (Sum.inl (x45 + 1)))
  else
    (some (Sum.inr (Sum.inr ())))) : Option ((Int) ⊕ ((Unit) ⊕ (Unit)))) := rfl
theorem m_recurrence_Valid_eq (r_1 : Int) (r_2 : Int) (r_3 : Int) (r_4 : Int) (r_5 : Int) (r_6 : List Int) (r_7 : List Int) (r_8 : List Int) (r_9 : List Int) (r_10 : List (Int × Int)) (r_11 : List Int) (r_12 : List Int) (r_13 : List Int) (r_14 : List Int) : m_recurrence_Valid std r_1 r_2 r_3 r_4 r_5 r_6 r_7 r_8 r_9 r_10 r_11 r_12 r_13 r_14 =
((Option.bind (
    bif (decide (r_1 < 1)) then
      (some true)
    else
      (some (decide (5 < r_1))) : Option ((Bool))) fun x2 =>
  Option.bind (
    bif x2 then
      (some true)
    else
      Option.bind (
        bif (decide (r_2 < 1)) then
          (some true)
        else
          (some (decide (1000 < r_2))) : Option ((Bool))) fun x4 =>
      Option.bind (
        bif x4 then
          (some true)
        else
          Option.bind (
            bif (decide (r_5 < 1)) then
              (some true)
            else
              (some (decide (7 < r_5))) : Option ((Bool))) fun x6 =>
          (some x6) : Option ((Bool))) fun x8 =>
      (some x8) : Option ((Bool))) fun x10 =>
  Option.bind (
    bif x10 then
      (some (Sum.inl ()))
    else
      Option.bind (
        bif (decide (r_3 < 0)) then
          (some true)
        else
          (some (decide (1000 < r_3))) : Option ((Bool))) fun x12 =>
      Option.bind (
        bif x12 then
          (some true)
        else
          Option.bind (
            bif (!(r_4 == 0)) then
              Option.bind (m_recurrence_local std r_4) fun b1 =>
              bif (!b1) then
                (some true)
              else
                (some (!(r_3 == 0)))
            else
              (some false) : Option ((Bool))) fun x17 =>
          (some x17) : Option ((Bool))) fun x19 =>
      Option.bind (
        bif x19 then
          (some (Sum.inl ()))
        else
          Option.bind (
            Option.bind (m_recurrence_between std 1 12 false r_6) fun b4 =>
            bif (!b4) then
              (some true)
            else
              Option.bind (m_recurrence_between std 1 31 true r_7) fun b5 =>
              bif (!b5) then
                (some true)
              else
                Option.bind (m_recurrence_between std 1 366 true r_8) fun b6 =>
                bif (!b6) then
                  (some true)
                else
                  Option.bind (m_recurrence_between std 1 53 true r_9) fun b7 =>
                  (some (!b7)) : Option ((Bool))) fun x38 =>
          Option.bind (
            bif x38 then
              (some (Sum.inl ()))
            else
              Option.bind (
                Option.bind (m_recurrence_between std 0 23 false r_11) fun b8 =>
                bif (!b8) then
                  (some true)
                else
                  Option.bind (m_recurrence_between std 0 59 false r_12) fun b9 =>
                  bif (!b9) then
                    (some true)
                  else
                    Option.bind (m_recurrence_between std 0 59 false r_13) fun b10 =>
                    bif (!b10) then
                      (some true)
                    else
                      Option.bind (m_recurrence_between std 1 366 true r_14) fun b11 =>
                      (some (!b11)) : Option ((Bool))) fun x40 =>
              Option.bind (
                bif x40 then
                  (some (Sum.inl ()))
                else
                  Option.bind (
                    bif (decide (0 < (((List.length r_9) : Nat) : Int))) then
                      (some (!(r_1 == 1)))
                    else
                      (some false) : Option ((Bool))) fun x42 =>
                  Option.bind (
                    bif x42 then
                      (some true)
                    else
                      (some (decide (60 < (((List.length r_10) : Nat) : Int)))) : Option ((Bool))) fun x44 =>
                  bif x44 then
                    (some (Sum.inl ()))
                  else
                    (some (Sum.inr ())) : Option (((Unit) ⊕ (Unit)))) fun e => match e with
              | .inl _ =>
                (some (Sum.inl ()))
              | .inr (_) =>
                (some (Sum.inr ())) : Option (((Unit) ⊕ (Unit)))) fun e => match e with
          | .inl _ =>
            (some (Sum.inl ()))
          | .inr (_) =>
            (some (Sum.inr ())) : Option (((Unit) ⊕ (Unit)))) fun e => match e with
      | .inl _ =>
        (some (Sum.inl ()))
      | .inr (_) =>
        (some (Sum.inr ())) : Option (((Unit) ⊕ (Unit)))) fun e => match e with
  | .inl _ =>
    (some false)
  | .inr (_) =>
    Option.bind (loop (m_recurrence_Valid_L1 std r_1 r_10) 0) fun e => match e with
    | .inl _ =>
      (some false)
    | .inr (_) =>
      Option.bind (m_recurrence_times std r_1 r_2 r_3 r_4 r_5 0 r_6 r_7 r_8 r_9 r_10 r_11 r_12 r_13 r_14) fun l26 =>
      (some (decide ((((List.length l26) : Nat) : Int) ≤ 1440)))) : Option (Bool)) := rfl
theorem m_recurrence_given_eq (r_1 : Int) (r_2 : Int) (r_3 : Int) (r_4 : Int) (r_5 : Int) (start_1 : Int) (r_6 : List Int) (r_7 : List Int) (r_8 : List Int) (r_9 : List Int) (r_10 : List (Int × Int)) (r_11 : List Int) (r_12 : List Int) (r_13 : List Int) (r_14 : List Int) : m_recurrence_given std r_1 r_2 r_3 r_4 r_5 start_1 r_6 r_7 r_8 r_9 r_10 r_11 r_12 r_13 r_14 =
((Option.bind (
    Option.bind (m_recurrence_Valid std r_1 r_2 r_3 r_4 r_5 r_6 r_7 r_8 r_9 r_10 r_11 r_12 r_13 r_14) fun b12 =>
    bif (!b12) then
      (some true)
    else
      Option.bind (m_recurrence_local std start_1) fun b13 =>
      (some (!b13)) : Option ((Bool))) fun x75 =>
  bif x75 then
    (some 1)
  else
    (some 0)) : Option (Int)) := rfl
theorem m_integer_Floor_eq (a_1 : Int) (b_1 : Int) : m_integer_Floor std a_1 b_1 =
((Option.bind (m_integer_Div std a_1 b_1) fun (n7, _, _) =>
  (some n7)) : Option (Int)) := rfl
theorem m_recurrence_weekday_eq (day_1 : Int) : m_recurrence_weekday std day_1 =
((grd (okI .i64 ((day_1 + 3))) <|
  Option.bind (m_integer_Mod std ((day_1 + 3)) 7) fun n12 =>
  grd (okI .i64 ((n12 + 1))) <|
  (some (n12 + 1))) : Option (Int)) := rfl
theorem m_recurrence_week_eq (day_1 : Int) (start_1 : Int) : m_recurrence_week std day_1 start_1 =
((Option.bind (m_recurrence_weekday std day_1) fun n13 =>
  grd (okI .i64 ((n13 - start_1))) <|
  Option.bind (m_integer_Mod std ((n13 - start_1)) 7) fun n14 =>
  grd (okI .i64 ((day_1 - n14))) <|
  (some (day_1 - n14))) : Option (Int)) := rfl
theorem m_civil_inside_eq (day_1 : Int) : m_civil_inside std day_1 =
((Option.bind (
    bif (decide ((-719162) ≤ day_1)) then
      (some (decide (day_1 < 2932897)))
    else
      (some false) : Option ((Bool))) fun x83 =>
  (some x83)) : Option (Bool)) := rfl
theorem m_civil_count_eq (y_1 : Int) (m_1 : Int) (d_1 : Int) : m_civil_count std y_1 m_1 d_1 =
((Option.bind (
    bif (decide (m_1 ≤ 2)) then
      grd (okI .i64 ((y_1 - 1))) <|
      grd (okI .i64 ((m_1 + 12))) <|
      (some ((y_1 - 1), (m_1 + 12)))
    else
      (some (y_1, m_1)) : Option ((Int × Int))) fun (y3, m2) =>
  grd (okI .i64 ((365 * y3))) <|
  grd (okNz 4) <|
  grd (okI .i64 ((Int.tdiv y3 4))) <|
  grd (okI .i64 (((365 * y3) + (Int.tdiv y3 4)))) <|
  grd (okNz 100) <|
  grd (okI .i64 ((Int.tdiv y3 100))) <|
  grd (okI .i64 ((((365 * y3) + (Int.tdiv y3 4)) - (Int.tdiv y3 100)))) <|
  grd (okNz 400) <|
  grd (okI .i64 ((Int.tdiv y3 400))) <|
  grd (okI .i64 (((((365 * y3) + (Int.tdiv y3 4)) - (Int.tdiv y3 100)) + (Int.tdiv y3 400)))) <|
  grd (okI .i64 ((m2 - 3))) <|
  grd (okI .i64 ((153 * (m2 - 3)))) <|
  grd (okI .i64 (((153 * (m2 - 3)) + 2))) <|
  grd (okNz 5) <|
  grd (okI .i64 ((Int.tdiv ((153 * (m2 - 3)) + 2) 5))) <|
  grd (okI .i64 ((((((365 * y3) + (Int.tdiv y3 4)) - (Int.tdiv y3 100)) + (Int.tdiv y3 400)) + (Int.tdiv ((153 * (m2 - 3)) + 2) 5)))) <|
  grd (okI .i64 (((((((365 * y3) + (Int.tdiv y3 4)) - (Int.tdiv y3 100)) + (Int.tdiv y3 400)) + (Int.tdiv ((153 * (m2 - 3)) + 2) 5)) + d_1))) <|
  grd (okI .i64 ((((((((365 * y3) + (Int.tdiv y3 4)) - (Int.tdiv y3 100)) + (Int.tdiv y3 400)) + (Int.tdiv ((153 * (m2 - 3)) + 2) 5)) + d_1) - 307))) <|
  grd (okI .i64 (((((((((365 * y3) + (Int.tdiv y3 4)) - (Int.tdiv y3 100)) + (Int.tdiv y3 400)) + (Int.tdiv ((153 * (m2 - 3)) + 2) 5)) + d_1) - 307) + (-719162)))) <|
  (some ((((((((365 * y3) + (Int.tdiv y3 4)) - (Int.tdiv y3 100)) + (Int.tdiv y3 400)) + (Int.tdiv ((153 * (m2 - 3)) + 2) 5)) + d_1) - 307) + (-719162)))) : Option (Int)) := rfl
theorem m_civil_Date_L1_eq (day_1 : Int) (y1 : Int) : m_civil_Date_L1 std day_1 y1 =
((Option.bind (
    bif (decide (y1 < 9999)) then
      grd (okI .i64 ((y1 + 1))) <|
      Option.bind (m_civil_count std ((y1 + 1)) 1 1) fun n19 =>
      (some (decide (n19 ≤ day_1)))
    else
      (some false) : Option ((Bool))) fun x85 =>
  bif x85 then
    grd (okI .i64 ((y1 + 1))) <|
    (some (Sum.inl (y1 + 1)))
  else
    (some (Sum.inr y1))) : Option ((Int) ⊕ (Int))) := rfl
theorem m_civil_Date_L2_eq (day_1 : Int) (y4 : Int) (m3 : Int) : m_civil_Date_L2 std day_1 y4 m3 =
((Option.bind (
    bif (decide (m3 < 12)) then
      grd (okI .i64 ((m3 + 1))) <|
      Option.bind (m_civil_count std y4 ((m3 + 1)) 1) fun n20 =>
      (some (decide (n20 ≤ day_1)))
    else
      (some false) : Option ((Bool))) fun x87 =>
  bif x87 then
    grd (okI .i64 ((m3 + 1))) <|
    (some (Sum.inl (m3 + 1)))
  else
    (some (Sum.inr m3))) : Option ((Int) ⊕ (Int))) := rfl
theorem m_civil_Date_eq (day_1 : Int) : m_civil_Date std day_1 =
((Option.bind (m_civil_inside std day_1) fun b15 =>
  bif (!b15) then
    (some (0, 0, 0, 2))
  else
    grd (okI .i64 ((day_1 - (-719162)))) <|
    grd (okNz 366) <|
    grd (okI .i64 ((Int.tdiv (day_1 - (-719162)) 366))) <|
    grd (okI .i64 (((Int.tdiv (day_1 - (-719162)) 366) + 1))) <|
    Option.bind (loop (m_civil_Date_L1 std day_1) ((Int.tdiv (day_1 - (-719162)) 366) + 1)) fun y4 =>
    Option.bind (loop (m_civil_Date_L2 std day_1 y4) 1) fun m4 =>
    Option.bind (m_civil_count std y4 m4 1) fun n21 =>
    grd (okI .i64 ((day_1 - n21))) <|
    grd (okI .i64 (((day_1 - n21) + 1))) <|
    (some (y4, m4, ((day_1 - n21) + 1), 0))) : Option (Int × Int × Int × Int)) := rfl
theorem m_recurrence_newYear_eq (year_1 : Int) : m_recurrence_newYear std year_1 =
((grd (okI .i64 ((year_1 - 1))) <|
  grd (okI .i64 ((365 * (year_1 - 1)))) <|
  grd (okI .i64 (((-719162) + (365 * (year_1 - 1))))) <|
  Option.bind (m_integer_Floor std ((year_1 - 1)) 4) fun n26 =>
  grd (okI .i64 ((((-719162) + (365 * (year_1 - 1))) + n26))) <|
  Option.bind (m_integer_Floor std ((year_1 - 1)) 100) fun n27 =>
  grd (okI .i64 (((((-719162) + (365 * (year_1 - 1))) + n26) - n27))) <|
  Option.bind (m_integer_Floor std ((year_1 - 1)) 400) fun n28 =>
  grd (okI .i64 ((((((-719162) + (365 * (year_1 - 1))) + n26) - n27) + n28))) <|
  (some (((((-719162) + (365 * (year_1 - 1))) + n26) - n27) + n28))) : Option (Int)) := rfl
theorem m_recurrence_weekYear_eq (day_1 : Int) (start_1 : Int) : m_recurrence_weekYear std day_1 start_1 =
((Option.bind (m_recurrence_week std day_1 start_1) fun n18 =>
  grd (okI .i64 ((n18 + 3))) <|
  Option.bind (m_civil_Date std ((mi (ma (n18 + 3) (-719162)) 2932896))) fun (n22, _, _, _) =>
  Option.bind (m_recurrence_newYear std n22) fun n29 =>
  Option.bind (
    bif (decide ((n18 + 3) < n29)) then
      grd (okI .i64 ((n22 - 1))) <|
      (some (n22 - 1))
    else
      grd (okI .i64 ((n22 + 1))) <|
      Option.bind (m_recurrence_newYear std ((n22 + 1))) fun n30 =>
      Option.bind (
        bif (decide (n30 ≤ (n18 + 3))) then
          (some (n22 + 1))
        else
          (some n22) : Option ((Int))) fun x89 =>
      (some x89) : Option ((Int))) fun x91 =>
  (some x91)) : Option (Int)) := rfl
theorem m_recurrence_number_eq (r_1 : Int) (r_2 : Int) (r_3 : Int) (r_4 : Int) (r_5 : Int) (l_1 : Int) (r_6 : List Int) (r_7 : List Int) (r_8 : List Int) (r_9 : List Int) (r_10 : List (Int × Int)) (r_11 : List Int) (r_12 : List Int) (r_13 : List Int) (r_14 : List Int) : m_recurrence_number std r_1 r_2 r_3 r_4 r_5 l_1 r_6 r_7 r_8 r_9 r_10 r_11 r_12 r_13 r_14 =
((Option.bind (m_integer_Floor std l_1 86400) fun n11 =>
  Option.bind (
    bif (r_1 == 3) then
      Option.bind (m_recurrence_week std n11 r_5) fun n15 =>
      Option.bind (m_integer_Floor std n15 7) fun n16 =>
      (some (Sum.inl n16))
    else
      Option.bind (
        bif (r_1 == 4) then
          (some (Sum.inl n11))
        else
          bif (r_1 == 5) then
            Option.bind (m_integer_Floor std l_1 3600) fun n17 =>
            (some (Sum.inl n17))
          else
            (some (Sum.inr ())) : Option (((Int) ⊕ (Unit)))) fun e => match e with
      | .inl x77 =>
        (some (Sum.inl x77))
      | .inr (_) =>
        (some (Sum.inr ())) : Option (((Int) ⊕ (Unit)))) fun e => match e with
  | .inl x79 =>
    (some x79)
  | .inr (_) =>
    Option.bind (
      bif (r_1 == 1) then
        (some (decide (0 < (((List.length r_9) : Nat) : Int))))
      else
        (some false) : Option ((Bool))) fun x81 =>
    bif x81 then
      Option.bind (m_recurrence_weekYear std n11 r_5) fun n31 =>
      (some n31)
    else
      Option.bind (m_civil_Date std n11) fun (n32, n33, _, _) =>
      bif (r_1 == 1) then
        (some n32)
      else
        grd (okI .i64 ((12 * n32))) <|
        grd (okI .i64 (((12 * n32) + n33))) <|
        (some ((12 * n32) + n33))) : Option (Int)) := rfl
theorem m_slices_Index_L1_eq (s_1 : List Int) (v_1 : Int) (x95 : Int) : m_slices_Index_L1 std s_1 v_1 x95 =
((bif (decide (x95 < (((List.length s_1) : Nat) : Int))) then
    grd (okIdx x95 ((List.length s_1))) <|
    grd (okKin ((Int.toNat x95)) ((List.length s_1))) <|
    bif (v_1 == (List.getD s_1 (Int.toNat x95) 0)) then
      (some (Sum.inr (Sum.inl x95)))
    else
      grd (okI .i64 ((x95 + 1))) <|
      (some (Sum.inl (x95 + 1)))
  else
    (some (Sum.inr (Sum.inr ())))) : Option ((Int) ⊕ ((Int) ⊕ (Unit)))) := rfl
theorem m_slices_Index_eq (v_1 : Int) (s_1 : List Int) : m_slices_Index std v_1 s_1 =
((Option.bind (loop (m_slices_Index_L1 std s_1 v_1) 0) fun e => match e with
  | .inl x96 =>
    (some x96)
  | .inr (_) =>
    (some (-1))) : Option (Int)) := rfl
theorem m_slices_Contains_eq (v_1 : Int) (s_1 : List Int) : m_slices_Contains std v_1 s_1 =
((Option.bind (m_slices_Index std v_1 s_1) fun n41 =>
  (some (decide (0 ≤ n41)))) : Option (Bool)) := rfl
theorem m_recurrence_dateOf_eq (day_1 : Int) : m_recurrence_dateOf std day_1 =
((Option.bind (m_civil_Date std day_1) fun (n43, n44, n45, _) =>
  Option.bind (m_recurrence_newYear std n43) fun n47 =>
  grd (okI .i64 ((day_1 - n47))) <|
  grd (okI .i64 (((day_1 - n47) + 1))) <|
  grd (okI .i64 ((n43 + 1))) <|
  Option.bind (m_recurrence_newYear std ((n43 + 1))) fun n48 =>
  grd (okI .i64 ((n48 - n47))) <|
  Option.bind (m_civil_Length std n43 n44) fun n49 =>
  (some (n43, n44, n45, day_1, ((day_1 - n47) + 1), (n48 - n47), n45, n49))) : Option (Int × Int × Int × Int × Int × Int × Int × Int)) := rfl
theorem m_recurrence_filters_1_eq (r_1 : Int) (r_2 : Int) (r_3 : Int) (r_4 : Int) (r_5 : Int) (x_1 : Int) (x_2 : Int) (x_3 : Int) (x_4 : Int) (x_5 : Int) (x_6 : Int) (x_7 : Int) (x_8 : Int) (x_9 : Int) (x_10 : Int) (x_11 : Int) (x_12 : Int) (x_13 : Int) (x_14 : Int) (x_15 : Int) (x_16 : Int) (r_6 : List Int) (r_7 : List Int) (r_8 : List Int) (r_9 : List Int) (r_10 : List (Int × Int)) (r_11 : List Int) (r_12 : List Int) (r_13 : List Int) (r_14 : List Int) : m_recurrence_filters_1 std r_1 r_2 r_3 r_4 r_5 x_1 x_2 x_3 x_4 x_5 x_6 x_7 x_8 x_9 x_10 x_11 x_12 x_13 x_14 x_15 x_16 r_6 r_7 r_8 r_9 r_10 r_11 r_12 r_13 r_14 =
((Option.bind (
    bif ((((List.length r_6) : Nat) : Int) == 0) then
      (some true)
    else
      Option.bind (m_slices_Contains std x_2 r_6) fun b17 =>
      (some b17) : Option ((Bool))) fun x98 =>
  (some x98)) : Option (Bool)) := rfl
theorem m_recurrence_counted_eq (n_1 : Int) (of_1 : Int) (l_1 : List Int) : m_recurrence_counted std n_1 of_1 l_1 =
((Option.bind (
    bif ((((List.length l_1) : Nat) : Int) == 0) then
      (some true)
    else
      Option.bind (m_slices_Contains std n_1 l_1) fun b19 =>
      bif b19 then
        (some true)
      else
        grd (okI .i64 ((n_1 - of_1))) <|
        grd (okI .i64 (((n_1 - of_1) - 1))) <|
        Option.bind (m_slices_Contains std (((n_1 - of_1) - 1)) l_1) fun b20 =>
        (some b20) : Option ((Bool))) fun x100 =>
  (some x100)) : Option (Bool)) := rfl
theorem m_recurrence_filters_2_eq (r_1 : Int) (r_2 : Int) (r_3 : Int) (r_4 : Int) (r_5 : Int) (x_1 : Int) (x_2 : Int) (x_3 : Int) (x_4 : Int) (x_5 : Int) (x_6 : Int) (x_7 : Int) (x_8 : Int) (x_9 : Int) (x_10 : Int) (x_11 : Int) (x_12 : Int) (x_13 : Int) (x_14 : Int) (x_15 : Int) (x_16 : Int) (r_6 : List Int) (r_7 : List Int) (r_8 : List Int) (r_9 : List Int) (r_10 : List (Int × Int)) (r_11 : List Int) (r_12 : List Int) (r_13 : List Int) (r_14 : List Int) : m_recurrence_filters_2 std r_1 r_2 r_3 r_4 r_5 x_1 x_2 x_3 x_4 x_5 x_6 x_7 x_8 x_9 x_10 x_11 x_12 x_13 x_14 x_15 x_16 r_6 r_7 r_8 r_9 r_10 r_11 r_12 r_13 r_14 =
((Option.bind (m_recurrence_counted std x_7 x_8 r_7) fun b21 =>
  (some b21)) : Option (Bool)) := rfl
theorem m_recurrence_filters_3_eq (r_1 : Int) (r_2 : Int) (r_3 : Int) (r_4 : Int) (r_5 : Int) (x_1 : Int) (x_2 : Int) (x_3 : Int) (x_4 : Int) (x_5 : Int) (x_6 : Int) (x_7 : Int) (x_8 : Int) (x_9 : Int) (x_10 : Int) (x_11 : Int) (x_12 : Int) (x_13 : Int) (x_14 : Int) (x_15 : Int) (x_16 : Int) (r_6 : List Int) (r_7 : List Int) (r_8 : List Int) (r_9 : List Int) (r_10 : List (Int × Int)) (r_11 : List Int) (r_12 : List Int) (r_13 : List Int) (r_14 : List Int) : m_recurrence_filters_3 std r_1 r_2 r_3 r_4 r_5 x_1 x_2 x_3 x_4 x_5 x_6 x_7 x_8 x_9 x_10 x_11 x_12 x_13 x_14 x_15 x_16 r_6 r_7 r_8 r_9 r_10 r_11 r_12 r_13 r_14 =
((Option.bind (m_recurrence_counted std x_5 x_6 r_8) fun b23 =>
  (some b23)) : Option (Bool)) := rfl
theorem m_recurrence_firstWeek_eq (year_1 : Int) (start_1 : Int) : m_recurrence_firstWeek std year_1 start_1 =
((Option.bind (m_recurrence_newYear std year_1) fun n67 =>
  grd (okI .i64 ((n67 + 3))) <|
  Option.bind (m_recurrence_week std ((n67 + 3)) start_1) fun n68 =>
  (some n68)) : Option (Int)) := rfl
theorem m_recurrence_filters_4_eq (r_1 : Int) (r_2 : Int) (r_3 : Int) (r_4 : Int) (r_5 : Int) (x_1 : Int) (x_2 : Int) (x_3 : Int) (x_4 : Int) (x_5 : Int) (x_6 : Int) (x_7 : Int) (x_8 : Int) (x_9 : Int) (x_10 : Int) (x_11 : Int) (x_12 : Int) (x_13 : Int) (x_14 : Int) (x_15 : Int) (x_16 : Int) (r_6 : List Int) (r_7 : List Int) (r_8 : List Int) (r_9 : List Int) (r_10 : List (Int × Int)) (r_11 : List Int) (r_12 : List Int) (r_13 : List Int) (r_14 : List Int) : m_recurrence_filters_4 std r_1 r_2 r_3 r_4 r_5 x_1 x_2 x_3 x_4 x_5 x_6 x_7 x_8 x_9 x_10 x_11 x_12 x_13 x_14 x_15 x_16 r_6 r_7 r_8 r_9 r_10 r_11 r_12 r_13 r_14 =
((bif ((((List.length r_9) : Nat) : Int) == 0) then
    (some true)
  else
    Option.bind (m_recurrence_weekYear std x_4 r_5) fun n66 =>
    Option.bind (m_recurrence_firstWeek std n66 r_5) fun n69 =>
    grd (okI .i64 ((x_4 - n69))) <|
    grd (okNz 7) <|
    grd (okI .i64 ((Int.tdiv (x_4 - n69) 7))) <|
    grd (okI .i64 (((Int.tdiv (x_4 - n69) 7) + 1))) <|
    grd (okI .i64 ((n66 + 1))) <|
    Option.bind (m_recurrence_firstWeek std ((n66 + 1)) r_5) fun n70 =>
    grd (okI .i64 ((n70 - n69))) <|
    grd (okI .i64 ((Int.tdiv (n70 - n69) 7))) <|
    Option.bind (m_recurrence_counted std (((Int.tdiv (x_4 - n69) 7) + 1)) ((Int.tdiv (n70 - n69) 7)) r_9) fun b25 =>
    (some b25)) : Option (Bool)) := rfl
theorem m_recurrence_nth_1_eq (o_1 : Int) (o_2 : Int) (x_1 : Int) (x_2 : Int) (x_3 : Int) : m_recurrence_nth_1 std o_1 o_2 x_1 x_2 x_3 =
((Option.bind (
    bif (o_2 == x_1) then
      bif (o_1 == 0) then
        (some true)
      else
        bif (o_1 == ((Int.tdiv (x_2 - 1) 7) + 1)) then
          grd (okI .i64 ((x_2 - 1))) <|
          grd (okNz 7) <|
          grd (okI .i64 ((Int.tdiv (x_2 - 1) 7))) <|
          grd (okI .i64 (((Int.tdiv (x_2 - 1) 7) + 1))) <|
          (some true)
        else
          grd (okI .i64 ((x_2 - 1))) <|
          grd (okNz 7) <|
          grd (okI .i64 ((Int.tdiv (x_2 - 1) 7))) <|
          grd (okI .i64 (((Int.tdiv (x_2 - 1) 7) + 1))) <|
          grd (okI .i64 ((x_3 - x_2))) <|
          grd (okI .i64 ((Int.tdiv (x_3 - x_2) 7))) <|
          grd (okI .i64 (((Int.tdiv (x_3 - x_2) 7) + 1))) <|
          grd (okI .i64 ((0 - ((Int.tdiv (x_3 - x_2) 7) + 1)))) <|
          (some (o_1 == (0 - ((Int.tdiv (x_3 - x_2) 7) + 1))))
    else
      (some false) : Option ((Bool))) fun x106 =>
  (some x106)) : Option (Bool)) := rfl
theorem m_slices_IndexFunc_2_L1_eq (c_1 : Int) (c_2 : Int) (c_3 : Int) (s_1 : List (Int × Int)) (x103 : Int) : m_slices_IndexFunc_2_L1 std c_1 c_2 c_3 s_1 x103 =
((bif (decide (x103 < (((List.length s_1) : Nat) : Int))) then
    grd (okIdx x103 ((List.length s_1))) <|
    grd (okKin ((Int.toNat x103)) ((List.length s_1))) <|
    Option.bind (m_recurrence_nth_1 std ((List.getD s_1 (Int.toNat x103) (0, 0)).1) ((List.getD s_1 (Int.toNat x103) (0, 0)).2) c_1 c_2 c_3) fun b27 =>
    bif b27 then
      (some (Sum.inr (Sum.inl x103)))
    else
      grd (okI .i64 ((x103 + 1))) <|
      (some (Sum.inl (x103 + 1)))
  else
    (some (Sum.inr (Sum.inr ())))) : Option ((Int) ⊕ ((Int) ⊕ (Unit)))) := rfl
theorem m_slices_IndexFunc_2_eq (s_1 : List (Int × Int)) (c_1 : Int) (c_2 : Int) (c_3 : Int) : m_slices_IndexFunc_2 std s_1 c_1 c_2 c_3 =
((Option.bind (loop (m_slices_IndexFunc_2_L1 std c_1 c_2 c_3 s_1) 0) fun e => match e with
  | .inl x107 =>
    (some x107)
  | .inr (_) =>
    (some (-1))) : Option (Int)) := rfl
theorem m_slices_ContainsFunc_2_eq (s_1 : List (Int × Int)) (c_1 : Int) (c_2 : Int) (c_3 : Int) : m_slices_ContainsFunc_2 std s_1 c_1 c_2 c_3 =
((Option.bind (m_slices_IndexFunc_2 std s_1 c_1 c_2 c_3) fun n72 =>
  (some (decide (0 ≤ n72)))) : Option (Bool)) := rfl
theorem m_recurrence_nth_eq (w_1 : Int) (n_1 : Int) (of_1 : Int) (l_1 : List (Int × Int)) : m_recurrence_nth std w_1 n_1 of_1 l_1 =
((Option.bind (
    bif ((((List.length l_1) : Nat) : Int) == 0) then
      (some true)
    else
      Option.bind (m_slices_ContainsFunc_2 std l_1 w_1 n_1 of_1) fun b28 =>
      (some b28) : Option ((Bool))) fun x109 =>
  (some x109)) : Option (Bool)) := rfl
theorem m_recurrence_filters_5_eq (r_1 : Int) (r_2 : Int) (r_3 : Int) (r_4 : Int) (r_5 : Int) (x_1 : Int) (x_2 : Int) (x_3 : Int) (x_4 : Int) (x_5 : Int) (x_6 : Int) (x_7 : Int) (x_8 : Int) (x_9 : Int) (x_10 : Int) (x_11 : Int) (x_12 : Int) (x_13 : Int) (x_14 : Int) (x_15 : Int) (x_16 : Int) (r_6 : List Int) (r_7 : List Int) (r_8 : List Int) (r_9 : List Int) (r_10 : List (Int × Int)) (r_11 : List Int) (r_12 : List Int) (r_13 : List Int) (r_14 : List Int) : m_recurrence_filters_5 std r_1 r_2 r_3 r_4 r_5 x_1 x_2 x_3 x_4 x_5 x_6 x_7 x_8 x_9 x_10 x_11 x_12 x_13 x_14 x_15 x_16 r_6 r_7 r_8 r_9 r_10 r_11 r_12 r_13 r_14 =
((Option.bind (
    bif (r_1 == 2) then
      (some true)
    else
      (some (decide (0 < (((List.length r_6) : Nat) : Int)))) : Option ((Bool))) fun x102 =>
  bif x102 then
    Option.bind (m_recurrence_weekday std x_4) fun n71 =>
    Option.bind (m_recurrence_nth std n71 x_7 x_8 r_10) fun b29 =>
    (some b29)
  else
    Option.bind (m_recurrence_weekday std x_4) fun n73 =>
    Option.bind (m_recurrence_nth std n73 x_5 x_6 r_10) fun b30 =>
    (some b30)) : Option (Bool)) := rfl
theorem m_recurrence_filters_6_eq (r_1 : Int) (r_2 : Int) (r_3 : Int) (r_4 : Int) (r_5 : Int) (x_1 : Int) (x_2 : Int) (x_3 : Int) (x_4 : Int) (x_5 : Int) (x_6 : Int) (x_7 : Int) (x_8 : Int) (start_1 : Int) (start_2 : Int) (start_3 : Int) (start_4 : Int) (start_5 : Int) (start_6 : Int) (start_7 : Int) (start_8 : Int) (r_6 : List Int) (r_7 : List Int) (r_8 : List Int) (r_9 : List Int) (r_10 : List (Int × Int)) (r_11 : List Int) (r_12 : List Int) (r_13 : List Int) (r_14 : List Int) : m_recurrence_filters_6 std r_1 r_2 r_3 r_4 r_5 x_1 x_2 x_3 x_4 x_5 x_6 x_7 x_8 start_1 start_2 start_3 start_4 start_5 start_6 start_7 start_8 r_6 r_7 r_8 r_9 r_10 r_11 r_12 r_13 r_14 =
((Option.bind (
    bif (decide (0 < (((List.length r_7) : Nat) : Int))) then
      (some true)
    else
      bif (decide (0 < (((List.length r_8) : Nat) : Int))) then
        (some true)
      else
        (some (decide (0 < (((List.length r_10) : Nat) : Int)))) : Option ((Bool))) fun x111 =>
  bif x111 then
    (some true)
  else
    Option.bind (m_recurrence_weekday std x_4) fun n74 =>
    Option.bind (m_recurrence_weekday std start_4) fun n75 =>
    Option.bind (
      bif (r_1 == 1) then
        (some (decide (0 < (((List.length r_9) : Nat) : Int))))
      else
        (some false) : Option ((Bool))) fun x113 =>
    Option.bind (
      bif x113 then
        (some true)
      else
        (some (r_1 == 3)) : Option ((Bool))) fun x115 =>
    Option.bind (
      bif x115 then
        (some (Sum.inl (n74 == n75)))
      else
        Option.bind (
          bif (r_1 == 1) then
            Option.bind (
              bif (x_3 == start_3) then
                bif (decide (0 < (((List.length r_6) : Nat) : Int))) then
                  (some true)
                else
                  (some (x_2 == start_2))
              else
                (some false) : Option ((Bool))) fun x118 =>
            (some (Sum.inl x118))
          else
            bif (r_1 == 2) then
              (some (Sum.inl (x_3 == start_3)))
            else
              (some (Sum.inr ())) : Option (((Bool) ⊕ (Unit)))) fun e => match e with
        | .inl x120 =>
          (some (Sum.inl x120))
        | .inr (_) =>
          (some (Sum.inr ())) : Option (((Bool) ⊕ (Unit)))) fun e => match e with
    | .inl x122 =>
      (some x122)
    | .inr (_) =>
      (some true)) : Option (Bool)) := rfl
theorem m_recurrence_passes_eq (r_1 : Int) (r_2 : Int) (r_3 : Int) (r_4 : Int) (r_5 : Int) (start_1 : Int) (start_2 : Int) (start_3 : Int) (start_4 : Int) (start_5 : Int) (start_6 : Int) (start_7 : Int) (start_8 : Int) (day_1 : Int) (r_6 : List Int) (r_7 : List Int) (r_8 : List Int) (r_9 : List Int) (r_10 : List (Int × Int)) (r_11 : List Int) (r_12 : List Int) (r_13 : List Int) (r_14 : List Int) : m_recurrence_passes std r_1 r_2 r_3 r_4 r_5 start_1 start_2 start_3 start_4 start_5 start_6 start_7 start_8 day_1 r_6 r_7 r_8 r_9 r_10 r_11 r_12 r_13 r_14 =
((Option.bind (m_recurrence_dateOf std day_1) fun (n58, n59, n60, n61, n62, n63, n64, n65) =>
  Option.bind (m_recurrence_filters_1 std r_1 r_2 r_3 r_4 r_5 n58 n59 n60 n61 n62 n63 n64 n65 start_1 start_2 start_3 start_4 start_5 start_6 start_7 start_8 r_6 r_7 r_8 r_9 r_10 r_11 r_12 r_13 r_14) fun b18 =>
  bif (!b18) then
    (some false)
  else
    grd (okI .i64 ((0 + 1))) <|
    Option.bind (m_recurrence_filters_2 std r_1 r_2 r_3 r_4 r_5 n58 n59 n60 n61 n62 n63 n64 n65 start_1 start_2 start_3 start_4 start_5 start_6 start_7 start_8 r_6 r_7 r_8 r_9 r_10 r_11 r_12 r_13 r_14) fun b22 =>
    bif (!b22) then
      (some false)
    else
      grd (okI .i64 ((1 + 1))) <|
      Option.bind (m_recurrence_filters_3 std r_1 r_2 r_3 r_4 r_5 n58 n59 n60 n61 n62 n63 n64 n65 start_1 start_2 start_3 start_4 start_5 start_6 start_7 start_8 r_6 r_7 r_8 r_9 r_10 r_11 r_12 r_13 r_14) fun b24 =>
      bif (!b24) then
        (some false)
      else
        grd (okI .i64 ((2 + 1))) <|
        Option.bind (m_recurrence_filters_4 std r_1 r_2 r_3 r_4 r_5 n58 n59 n60 n61 n62 n63 n64 n65 start_1 start_2 start_3 start_4 start_5 start_6 start_7 start_8 r_6 r_7 r_8 r_9 r_10 r_11 r_12 r_13 r_14) fun b26 =>
        bif (!b26) then
          (some false)
        else
          grd (okI .i64 ((3 + 1))) <|
          Option.bind (m_recurrence_filters_5 std r_1 r_2 r_3 r_4 r_5 n58 n59 n60 n61 n62 n63 n64 n65 start_1 start_2 start_3 start_4 start_5 start_6 start_7 start_8 r_6 r_7 r_8 r_9 r_10 r_11 r_12 r_13 r_14) fun b31 =>
          bif (!b31) then
            (some false)
          else
            grd (okI .i64 ((4 + 1))) <|
            Option.bind (m_recurrence_filters_6 std r_1 r_2 r_3 r_4 r_5 n58 n59 n60 n61 n62 n63 n64 n65 start_1 start_2 start_3 start_4 start_5 start_6 start_7 start_8 r_6 r_7 r_8 r_9 r_10 r_11 r_12 r_13 r_14) fun b32 =>
            bif (!b32) then
              (some false)
            else
              grd (okI .i64 ((5 + 1))) <|
              (some true)) : Option (Bool)) := rfl
theorem m_recurrence_Matches_eq (r_1 : Int) (r_2 : Int) (r_3 : Int) (r_4 : Int) (r_5 : Int) (start_1 : Int) (l_1 : Int) (r_6 : List Int) (r_7 : List Int) (r_8 : List Int) (r_9 : List Int) (r_10 : List (Int × Int)) (r_11 : List Int) (r_12 : List Int) (r_13 : List Int) (r_14 : List Int) : m_recurrence_Matches std r_1 r_2 r_3 r_4 r_5 start_1 l_1 r_6 r_7 r_8 r_9 r_10 r_11 r_12 r_13 r_14 =
((Option.bind (m_recurrence_given std r_1 r_2 r_3 r_4 r_5 start_1 r_6 r_7 r_8 r_9 r_10 r_11 r_12 r_13 r_14) fun n6 =>
  bif (!(n6 == 0)) then
    (some (false, n6))
  else
    Option.bind (m_recurrence_local std l_1) fun b14 =>
    bif (!b14) then
      (some (false, 2))
    else
      Option.bind (m_integer_Floor std l_1 86400) fun n10 =>
      Option.bind (
        bif (decide (l_1 < start_1)) then
          (some true)
        else
          bif (!(r_4 == 0)) then
            bif (decide (r_4 < l_1)) then
              (some true)
            else
              Option.bind (m_recurrence_number std r_1 r_2 r_3 r_4 r_5 l_1 r_6 r_7 r_8 r_9 r_10 r_11 r_12 r_13 r_14) fun n36 =>
              Option.bind (m_recurrence_number std r_1 r_2 r_3 r_4 r_5 start_1 r_6 r_7 r_8 r_9 r_10 r_11 r_12 r_13 r_14) fun n37 =>
              grd (okI .i64 ((n36 - n37))) <|
              grd (okNz r_2) <|
              (some (!((Int.tmod (n36 - n37) r_2) == 0)))
          else
            Option.bind (m_recurrence_number std r_1 r_2 r_3 r_4 r_5 l_1 r_6 r_7 r_8 r_9 r_10 r_11 r_12 r_13 r_14) fun n38 =>
            Option.bind (m_recurrence_number std r_1 r_2 r_3 r_4 r_5 start_1 r_6 r_7 r_8 r_9 r_10 r_11 r_12 r_13 r_14) fun n39 =>
            grd (okI .i64 ((n38 - n39))) <|
            grd (okNz r_2) <|
            (some (!((Int.tmod (n38 - n39) r_2) == 0))) : Option ((Bool))) fun x94 =>
      bif x94 then
        (some (false, 0))
      else
        Option.bind (
          Option.bind (m_recurrence_times std r_1 r_2 r_3 r_4 r_5 start_1 r_6 r_7 r_8 r_9 r_10 r_11 r_12 r_13 r_14) fun l27 =>
          Option.bind (m_integer_Mod std l_1 86400) fun n40 =>
          Option.bind (m_slices_Contains std n40 l27) fun b16 =>
          bif (!b16) then
            (some true)
          else
            Option.bind (m_integer_Floor std start_1 86400) fun n42 =>
            Option.bind (m_recurrence_dateOf std n42) fun (n50, n51, n52, n53, n54, n55, n56, n57) =>
            Option.bind (m_recurrence_passes std r_1 r_2 r_3 r_4 r_5 n50 n51 n52 n53 n54 n55 n56 n57 n10 r_6 r_7 r_8 r_9 r_10 r_11 r_12 r_13 r_14) fun b33 =>
            (some (!b33)) : Option ((Bool))) fun x124 =>
        bif x124 then
          (some (false, 0))
        else
          bif ((((List.length r_14) : Nat) : Int) == 0) then
            (some (true, 0))
          else
            Option.bind (m_recurrence_place std r_1 r_2 r_3 r_4 r_5 start_1 l_1 r_6 r_7 r_8 r_9 r_10 r_11 r_12 r_13 r_14) fun (n76, n77) =>
            Option.bind (m_recurrence_counted std n76 n77 r_14) fun b34 =>
            (some (b34, 0))) : Option (Bool × Int)) := rfl
theorem m_law29_awake_eq : m_law29_awake std =
((Option.bind (m_recurrence_Matches std 4 2 0 0 1 0 345600 (([] : List Int)) (([] : List Int)) (([] : List Int)) (([] : List Int)) (([] : List (Int × Int))) (([] : List Int)) (([] : List Int)) (([] : List Int)) (([] : List Int))) fun (b35, n78) =>
  Option.bind (m_recurrence_Matches std 2 1 0 0 1 0 2505600 (([] : List Int)) (([] : List Int)) (([] : List Int)) (([] : List Int)) ([((-1), 5)]) (([] : List Int)) (([] : List Int)) (([] : List Int)) (([] : List Int))) fun (b36, n79) =>
  Option.bind (
    bif b35 then
      bif (n78 == 0) then
        bif b36 then
          (some (n79 == 0))
        else
          (some false)
      else
        (some false)
    else
      (some false) : Option ((Bool))) fun x128 =>
  (some x128)) : Option (Bool)) := rfl
theorem m_law29_long_eq (r_1 : Int) (r_2 : Int) (r_3 : Int) (r_4 : Int) (r_5 : Int) (r_6 : List Int) (r_7 : List Int) (r_8 : List Int) (r_9 : List Int) (r_10 : List (Int × Int)) (r_11 : List Int) (r_12 : List Int) (r_13 : List Int) (r_14 : List Int) : m_law29_long std r_1 r_2 r_3 r_4 r_5 r_6 r_7 r_8 r_9 r_10 r_11 r_12 r_13 r_14 =
((Option.bind (
    bif (decide (100 < (((List.length r_6) : Nat) : Int))) then
      (some true)
    else
      bif (decide (100 < (((List.length r_7) : Nat) : Int))) then
        (some true)
      else
        bif (decide (100 < (((List.length r_8) : Nat) : Int))) then
          (some true)
        else
          bif (decide (100 < (((List.length r_9) : Nat) : Int))) then
            (some true)
          else
            bif (decide (100 < (((List.length r_10) : Nat) : Int))) then
              (some true)
            else
              bif (decide (100 < (((List.length r_11) : Nat) : Int))) then
                (some true)
              else
                bif (decide (100 < (((List.length r_12) : Nat) : Int))) then
                  (some true)
                else
                  bif (decide (100 < (((List.length r_13) : Nat) : Int))) then
                    (some true)
                  else
                    (some (decide (100 < (((List.length r_14) : Nat) : Int)))) : Option ((Bool))) fun x171 =>
  (some x171)) : Option (Bool)) := rfl
theorem m_ref29_days_L1_eq (r_1 : Int) (r_10 : List (Int × Int)) (i2 : Int) : m_ref29_days_L1 std r_1 r_10 i2 =
((bif (decide (i2 < (((List.length r_10) : Nat) : Int))) then
    grd (okIdx i2 ((List.length r_10))) <|
    grd (okKin ((Int.toNat i2)) ((List.length r_10))) <|
    Option.bind (
      bif (decide ((List.getD r_10 (Int.toNat i2) (0, 0)).2 < 1)) then
        (some true)
      else
        bif (decide (7 < (List.getD r_10 (Int.toNat i2) (0, 0)).2)) then
          (some true)
        else
          bif (decide ((List.getD r_10 (Int.toNat i2) (0, 0)).1 < (-53))) then
            (some true)
          else
            bif (decide (53 < (List.getD r_10 (Int.toNat i2) (0, 0)).1)) then
              (some true)
            else
              bif (!((List.getD r_10 (Int.toNat i2) (0, 0)).1 == 0)) then
                bif (!(r_1 == 1)) then
                  (some (!(r_1 == 2)))
                else
                  (some false)
              else
                (some false) : Option ((Bool))) fun x186 =>
    bif x186 then
      (some (Sum.inr (Sum.inl ())))
    else
      grd (okI .i64 ((i2 + 1))) <|
      (some (Sum.inl (i2 + 1)))
  else
    (some (Sum.inr (Sum.inr ())))) : Option ((Int) ⊕ ((Unit) ⊕ (Unit)))) := rfl
theorem m_ref01_Div_eq (a_1 : Int) (b_1 : Int) : m_ref01_Div std a_1 b_1 =
((bif (b_1 == 0) then
    (some (0, 0, 10))
  else
    Option.bind (
      bif (a_1 == (-9223372036854775808)) then
        (some (b_1 == (-1)))
      else
        (some false) : Option ((Bool))) fun x207 =>
    bif x207 then
      (some (0, 0, 9))
    else
      grd (okNz b_1) <|
      grd (okI .i64 ((Int.tdiv a_1 b_1))) <|
      Option.bind (
        bif (!((Int.tmod a_1 b_1) == 0)) then
          (some (!((decide ((Int.tmod a_1 b_1) < 0)) == (decide (b_1 < 0)))))
        else
          (some false) : Option ((Bool))) fun x209 =>
      Option.bind (
        bif x209 then
          grd (okI .i64 (((Int.tdiv a_1 b_1) - 1))) <|
          grd (okI .i64 (((Int.tmod a_1 b_1) + b_1))) <|
          (some (((Int.tdiv a_1 b_1) - 1), ((Int.tmod a_1 b_1) + b_1)))
        else
          (some ((Int.tdiv a_1 b_1), (Int.tmod a_1 b_1))) : Option ((Int × Int))) fun (q4, r4) =>
      (some (q4, r4, 0))) : Option (Int × Int × Int)) := rfl
theorem m_ref01_Floor_eq (a_1 : Int) (b_1 : Int) : m_ref01_Floor std a_1 b_1 =
((Option.bind (m_ref01_Div std a_1 b_1) fun (n109, _, _) =>
  (some n109)) : Option (Int)) := rfl
theorem m_ref05_Right_eq (day_1 : Int) : m_ref05_Right std day_1 =
((Option.bind (
    bif (decide ((-719162) ≤ day_1)) then
      (some (decide (day_1 < 2932897)))
    else
      (some false) : Option ((Bool))) fun x211 =>
  (some x211)) : Option (Bool)) := rfl
theorem m_ref05_Length_eq (year_1 : Int) (month_1 : Int) : m_ref05_Length std year_1 month_1 =
((Option.bind (
    bif (decide (year_1 < 1)) then
      (some true)
    else
      bif (decide (9999 < year_1)) then
        (some true)
      else
        bif (decide (month_1 < 1)) then
          (some true)
        else
          (some (decide (12 < month_1))) : Option ((Bool))) fun x215 =>
  bif x215 then
    (some 0)
  else
    Option.bind (
      bif (month_1 == 2) then
        grd (okNz 4) <|
        bif ((Int.tmod year_1 4) == 0) then
          (some (Sum.inl 29))
        else
          (some (Sum.inl 28))
      else
        (some (Sum.inr ())) : Option (((Int) ⊕ (Unit)))) fun e => match e with
    | .inl x217 =>
      (some x217)
    | .inr (_) =>
      Option.bind (
        bif (month_1 == 4) then
          (some true)
        else
          bif (month_1 == 6) then
            (some true)
          else
            bif (month_1 == 9) then
              (some true)
            else
              (some (month_1 == 11)) : Option ((Bool))) fun x219 =>
      bif x219 then
        (some 30)
      else
        (some 31)) : Option (Int)) := rfl
theorem m_ref05_Date_L1_eq (n113 : Int) (year1 : Int) (k5 : Int) : m_ref05_Date_L1 std (n113, year1, k5) =
((Option.bind (
    bif (decide (k5 < 3)) then
      (some (decide (365 ≤ n113)))
    else
      (some false) : Option ((Bool))) fun x213 =>
  bif x213 then
    grd (okI .i64 ((year1 + 1))) <|
    grd (okI .i64 ((n113 - 365))) <|
    grd (okI .i64 ((k5 + 1))) <|
    (some (Sum.inl ((n113 - 365), (year1 + 1), (k5 + 1))))
  else
    (some (Sum.inr (n113, year1)))) : Option ((Int × Int × Int) ⊕ (Int × Int))) := rfl
theorem m_ref05_Date_L2_eq (year2 : Int) (n115 : Int) (month1 : Int) : m_ref05_Date_L2 std year2 (n115, month1) =
((Option.bind (m_ref05_Length std year2 month1) fun n116 =>
  bif (decide (n116 ≤ n115)) then
    Option.bind (m_ref05_Length std year2 month1) fun n117 =>
    grd (okI .i64 ((n115 - n117))) <|
    grd (okI .i64 ((month1 + 1))) <|
    (some (Sum.inl ((n115 - n117), (month1 + 1))))
  else
    (some (Sum.inr (n115, month1)))) : Option ((Int × Int) ⊕ (Int × Int))) := rfl
theorem m_ref05_Date_eq (day_1 : Int) : m_ref05_Date std day_1 =
((Option.bind (m_ref05_Right std day_1) fun b64 =>
  bif (!b64) then
    (some (0, 0, 0, 2))
  else
    grd (okI .i64 ((day_1 - (-719164)))) <|
    grd (okNz 1461) <|
    grd (okI .i64 ((Int.tdiv (day_1 - (-719164)) 1461))) <|
    grd (okI .i64 ((4 * (Int.tdiv (day_1 - (-719164)) 1461)))) <|
    grd (okI .i64 (((4 * (Int.tdiv (day_1 - (-719164)) 1461)) + 1))) <|
    Option.bind (loop (m_ref05_Date_L1 std) ((Int.tmod (day_1 - (-719164)) 1461), ((4 * (Int.tdiv (day_1 - (-719164)) 1461)) + 1), 0)) fun (n114, year2) =>
    Option.bind (loop (m_ref05_Date_L2 std year2) (n114, 1)) fun (n118, month2) =>
    grd (okI .i64 ((n118 + 1))) <|
    (some (year2, month2, (n118 + 1), 0))) : Option (Int × Int × Int × Int)) := rfl
theorem m_ref05_leap_eq (year_1 : Int) : m_ref05_leap std year_1 =
((Option.bind (
    bif ((Int.tmod year_1 4) == 0) then
      bif (!((Int.tmod year_1 100) == 0)) then
        grd (okNz 4) <|
        grd (okNz 100) <|
        (some true)
      else
        grd (okNz 4) <|
        grd (okNz 100) <|
        grd (okNz 400) <|
        (some ((Int.tmod year_1 400) == 0))
    else
      grd (okNz 4) <|
      (some false) : Option ((Bool))) fun x222 =>
  (some x222)) : Option (Bool)) := rfl
theorem m_ref05_Leap_eq (year_1 : Int) : m_ref05_Leap std year_1 =
((Option.bind (
    bif (decide (1 ≤ year_1)) then
      bif (decide (year_1 ≤ 9999)) then
        grd (okNz 4) <|
        (some ((Int.tmod year_1 4) == 0))
      else
        (some false)
    else
      (some false) : Option ((Bool))) fun x230 =>
  (some x230)) : Option (Bool)) := rfl
theorem m_ref05_Gregorian_L1_eq (d_1 : Int) (d_2 : Int) (n124 : Int) (m5 : Int) : m_ref05_Gregorian_L1 std d_1 d_2 (n124, m5) =
((bif (decide (m5 < d_2)) then
    Option.bind (m_ref05_Length std d_1 m5) fun n125 =>
    grd (okI .i64 ((n124 + n125))) <|
    grd (okI .i64 ((m5 + 1))) <|
    (some (Sum.inl ((n124 + n125), (m5 + 1))))
  else
    (some (Sum.inr n124))) : Option ((Int × Int) ⊕ (Int))) := rfl
theorem m_ref05_Gregorian_eq (d_1 : Int) (d_2 : Int) (d_3 : Int) : m_ref05_Gregorian std d_1 d_2 d_3 =
((Option.bind (m_ref05_Length std d_1 d_2) fun n123 =>
  Option.bind (
    bif (d_2 == 2) then
      Option.bind (m_ref05_leap std d_1) fun b65 =>
      bif (!b65) then
        (some (decide (0 < n123)))
      else
        (some false)
    else
      (some false) : Option ((Bool))) fun x225 =>
  Option.bind (
    bif x225 then
      (some 28)
    else
      (some n123) : Option ((Int))) fun long2 =>
  Option.bind (
    bif (decide (d_3 < 1)) then
      (some true)
    else
      (some (decide (long2 < d_3))) : Option ((Bool))) fun x227 =>
  bif x227 then
    (some (0, false))
  else
    grd (okI .i64 ((d_1 - 1))) <|
    grd (okI .i64 ((365 * (d_1 - 1)))) <|
    grd (okI .i64 (((-719162) + (365 * (d_1 - 1))))) <|
    grd (okNz 4) <|
    grd (okI .i64 ((Int.tdiv (d_1 - 1) 4))) <|
    grd (okI .i64 ((((-719162) + (365 * (d_1 - 1))) + (Int.tdiv (d_1 - 1) 4)))) <|
    grd (okNz 100) <|
    grd (okI .i64 ((Int.tdiv (d_1 - 1) 100))) <|
    grd (okI .i64 (((((-719162) + (365 * (d_1 - 1))) + (Int.tdiv (d_1 - 1) 4)) - (Int.tdiv (d_1 - 1) 100)))) <|
    grd (okNz 400) <|
    grd (okI .i64 ((Int.tdiv (d_1 - 1) 400))) <|
    grd (okI .i64 ((((((-719162) + (365 * (d_1 - 1))) + (Int.tdiv (d_1 - 1) 4)) - (Int.tdiv (d_1 - 1) 100)) + (Int.tdiv (d_1 - 1) 400)))) <|
    Option.bind (loop (m_ref05_Gregorian_L1 std d_1 d_2) ((((((-719162) + (365 * (d_1 - 1))) + (Int.tdiv (d_1 - 1) 4)) - (Int.tdiv (d_1 - 1) 100)) + (Int.tdiv (d_1 - 1) 400)), 1)) fun n126 =>
    Option.bind (
      bif (decide (2 < d_2)) then
        Option.bind (m_ref05_Leap std d_1) fun b66 =>
        bif b66 then
          Option.bind (m_ref05_leap std d_1) fun b67 =>
          (some (!b67))
        else
          (some false)
      else
        (some false) : Option ((Bool))) fun x233 =>
    Option.bind (
      bif x233 then
        grd (okI .i64 ((n126 - 1))) <|
        (some (n126 - 1))
      else
        (some n126) : Option ((Int))) fun n128 =>
    grd (okI .i64 ((n128 + d_3))) <|
    grd (okI .i64 (((n128 + d_3) - 1))) <|
    (some (((n128 + d_3) - 1), true))) : Option (Int × Bool)) := rfl
theorem m_ref05_first_eq (year_1 : Int) : m_ref05_first std year_1 =
((Option.bind (m_ref05_Gregorian std year_1 1 1) fun (n129, _) =>
  (some n129)) : Option (Int)) := rfl
theorem m_ref05_Fields_L1_eq (day_1 : Int) (year4 : Int) : m_ref05_Fields_L1 std day_1 year4 =
((Option.bind (
    bif (decide (9999 < year4)) then
      (some true)
    else
      Option.bind (m_ref05_first std year4) fun n131 =>
      (some (decide (day_1 < n131))) : Option ((Bool))) fun x237 =>
  bif x237 then
    grd (okI .i64 ((year4 - 1))) <|
    (some (Sum.inl (year4 - 1)))
  else
    (some (Sum.inr year4))) : Option ((Int) ⊕ (Int))) := rfl
theorem m_ref05_Fields_L2_eq (day_1 : Int) (year5 : Int) (month3 : Int) : m_ref05_Fields_L2 std day_1 year5 month3 =
((Option.bind (m_ref05_Gregorian std year5 month3 1) fun (n132, _) =>
  bif (decide (n132 ≤ day_1)) then
    grd (okI .i64 ((day_1 - n132))) <|
    grd (okI .i64 (((day_1 - n132) + 1))) <|
    (some (Sum.inr (month3, ((day_1 - n132) + 1))))
  else
    grd (okI .i64 ((month3 - 1))) <|
    (some (Sum.inl (month3 - 1)))) : Option ((Int) ⊕ (Int × Int))) := rfl
theorem m_ref05_Fields_eq (day_1 : Int) : m_ref05_Fields std day_1 =
((Option.bind (m_ref05_Date std day_1) fun (n119, _, _, _) =>
  grd (okI .i64 ((n119 + 1))) <|
  Option.bind (loop (m_ref05_Fields_L1 std day_1) (n119 + 1)) fun year5 =>
  Option.bind (loop (m_ref05_Fields_L2 std day_1 year5) 12) fun (x238, x239) =>
  (some (year5, x238, x239))) : Option (Int × Int × Int)) := rfl
theorem m_ref01_Mod_eq (a_1 : Int) (b_1 : Int) : m_ref01_Mod std a_1 b_1 =
((Option.bind (m_ref01_Div std a_1 b_1) fun (_, n137, _) =>
  (some n137)) : Option (Int)) := rfl
theorem m_ref29_Weekday_eq (day_1 : Int) : m_ref29_Weekday std day_1 =
((grd (okI .i64 ((day_1 + 3))) <|
  Option.bind (m_ref01_Mod std ((day_1 + 3)) 7) fun n139 =>
  grd (okI .i64 ((n139 + 1))) <|
  (some (n139 + 1))) : Option (Int)) := rfl
theorem m_ref29_week_eq (day_1 : Int) (start_1 : Int) : m_ref29_week std day_1 start_1 =
((Option.bind (m_ref29_Weekday std day_1) fun n140 =>
  grd (okI .i64 ((n140 - start_1))) <|
  Option.bind (m_ref01_Mod std ((n140 - start_1)) 7) fun n141 =>
  grd (okI .i64 ((day_1 - n141))) <|
  (some (day_1 - n141))) : Option (Int)) := rfl
theorem m_ref29_NewYear_eq (year_1 : Int) : m_ref29_NewYear std year_1 =
((grd (okI .i64 ((year_1 - 1))) <|
  grd (okI .i64 ((365 * (year_1 - 1)))) <|
  grd (okI .i64 (((-719162) + (365 * (year_1 - 1))))) <|
  Option.bind (m_ref01_Floor std ((year_1 - 1)) 4) fun n143 =>
  grd (okI .i64 ((((-719162) + (365 * (year_1 - 1))) + n143))) <|
  Option.bind (m_ref01_Floor std ((year_1 - 1)) 100) fun n144 =>
  grd (okI .i64 (((((-719162) + (365 * (year_1 - 1))) + n143) - n144))) <|
  Option.bind (m_ref01_Floor std ((year_1 - 1)) 400) fun n145 =>
  grd (okI .i64 ((((((-719162) + (365 * (year_1 - 1))) + n143) - n144) + n145))) <|
  (some (((((-719162) + (365 * (year_1 - 1))) + n143) - n144) + n145))) : Option (Int)) := rfl
theorem m_ref29_firstWeek_eq (year_1 : Int) (start_1 : Int) : m_ref29_firstWeek std year_1 start_1 =
((Option.bind (m_ref29_NewYear std year_1) fun n147 =>
  grd (okI .i64 ((n147 + 3))) <|
  Option.bind (m_ref29_week std ((n147 + 3)) start_1) fun n148 =>
  (some n148)) : Option (Int)) := rfl
theorem m_ref29_Week_L1_eq (n142 : Int) (year6 : Int) : m_ref29_Week_L1 std n142 year6 =
((grd (okI .i64 ((year6 + 1))) <|
  Option.bind (m_ref29_NewYear std ((year6 + 1))) fun n146 =>
  bif (decide (n146 ≤ (n142 + 3))) then
    (some (Sum.inl (year6 + 1)))
  else
    (some (Sum.inr year6))) : Option ((Int) ⊕ (Int))) := rfl
theorem m_ref29_Week_eq (day_1 : Int) (start_1 : Int) : m_ref29_Week std day_1 start_1 =
((Option.bind (m_ref29_week std day_1 start_1) fun n142 =>
  grd (okI .i64 ((n142 + 3))) <|
  grd (okI .i64 (((n142 + 3) - (-719162)))) <|
  grd (okI .i64 ((((n142 + 3) - (-719162)) * 400))) <|
  grd (okNz 146097) <|
  grd (okI .i64 ((Int.tdiv (((n142 + 3) - (-719162)) * 400) 146097))) <|
  grd (okI .i64 (((Int.tdiv (((n142 + 3) - (-719162)) * 400) 146097) - 1))) <|
  Option.bind (loop (m_ref29_Week_L1 std n142) ((Int.tdiv (((n142 + 3) - (-719162)) * 400) 146097) - 1)) fun year7 =>
  Option.bind (m_ref29_firstWeek std year7 start_1) fun n149 =>
  grd (okI .i64 ((n142 - n149))) <|
  grd (okNz 7) <|
  grd (okI .i64 ((Int.tdiv (n142 - n149) 7))) <|
  grd (okI .i64 (((Int.tdiv (n142 - n149) 7) + 1))) <|
  grd (okI .i64 ((year7 + 1))) <|
  Option.bind (m_ref29_firstWeek std ((year7 + 1)) start_1) fun n150 =>
  grd (okI .i64 ((n150 - n149))) <|
  grd (okI .i64 ((Int.tdiv (n150 - n149) 7))) <|
  (some (year7, ((Int.tdiv (n142 - n149) 7) + 1), (Int.tdiv (n150 - n149) 7)))) : Option (Int × Int × Int)) := rfl
theorem m_ref29_Number_eq (r_1 : Int) (r_2 : Int) (r_3 : Int) (r_4 : Int) (r_5 : Int) (l_1 : Int) (r_6 : List Int) (r_7 : List Int) (r_8 : List Int) (r_9 : List Int) (r_10 : List (Int × Int)) (r_11 : List Int) (r_12 : List Int) (r_13 : List Int) (r_14 : List Int) : m_ref29_Number std r_1 r_2 r_3 r_4 r_5 l_1 r_6 r_7 r_8 r_9 r_10 r_11 r_12 r_13 r_14 =
((Option.bind (m_ref01_Floor std l_1 86400) fun n112 =>
  Option.bind (m_ref05_Fields std n112) fun (n133, n134, _) =>
  Option.bind (
    bif (r_1 == 1) then
      bif (decide (0 < (((List.length r_9) : Nat) : Int))) then
        Option.bind (m_ref29_Week std n112 r_5) fun (n151, _, _) =>
        (some (Sum.inl n151))
      else
        (some (Sum.inl n133))
    else
      Option.bind (
        bif (r_1 == 2) then
          grd (okI .i64 ((12 * n133))) <|
          grd (okI .i64 (((12 * n133) + n134))) <|
          (some (Sum.inl ((12 * n133) + n134)))
        else
          Option.bind (
            bif (r_1 == 3) then
              Option.bind (m_ref29_week std n112 r_5) fun n154 =>
              Option.bind (m_ref01_Floor std n154 7) fun n155 =>
              (some (Sum.inl n155))
            else
              bif (r_1 == 4) then
                (some (Sum.inl n112))
              else
                (some (Sum.inr ())) : Option (((Int) ⊕ (Unit)))) fun e => match e with
          | .inl x241 =>
            (some (Sum.inl x241))
          | .inr (_) =>
            (some (Sum.inr ())) : Option (((Int) ⊕ (Unit)))) fun e => match e with
      | .inl x243 =>
        (some (Sum.inl x243))
      | .inr (_) =>
        (some (Sum.inr ())) : Option (((Int) ⊕ (Unit)))) fun e => match e with
  | .inl x246 =>
    (some x246)
  | .inr (_) =>
    Option.bind (m_ref01_Floor std l_1 3600) fun n156 =>
    (some n156)) : Option (Int)) := rfl
end Go.Proofs.Ytmnhfaaaaejpaaa
