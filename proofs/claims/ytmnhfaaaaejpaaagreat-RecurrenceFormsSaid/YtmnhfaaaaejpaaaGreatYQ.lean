/-
  Equations of models (printed by lift.py).
-/
import Derived.Test.YtmnhfaaaaejpaaaGreatYM
namespace Go.Proofs.YtmnhfaaaaejpaaaGreat
open Go.RowKit
set_option maxRecDepth 100000

theorem m_recurrence_local_eq (l_1 : Int) : m_recurrence_local std l_1 =
((Option.bind (
    bif (decide ((-62135596800) ≤ l_1)) then
      (some (decide (l_1 < 253402300800)))
    else
      (some false) : Option ((Bool))) fun x14 =>
  (some x14)) : Option (Bool)) := rfl
theorem m_recurrence_between_1_eq (n_1 : Int) (x_1 : Int) (x_2 : Int) (x_3 : Bool) : m_recurrence_between_1 std n_1 x_1 x_2 x_3 =
((Option.bind (
    bif (decide (n_1 < x_1)) then
      bif x_3 then
        bif (decide ((0 - x_2) ≤ n_1)) then
          grd (okI .i64 ((0 - x_2))) <|
          grd (okI .i64 ((0 - x_1))) <|
          (some ((!(decide (n_1 ≤ (0 - x_1)))), true))
        else
          grd (okI .i64 ((0 - x_2))) <|
          (some ((!false), true))
      else
        (some ((!false), false))
    else
      bif (decide (x_2 < n_1)) then
        bif x_3 then
          bif (decide ((0 - x_2) ≤ n_1)) then
            grd (okI .i64 ((0 - x_2))) <|
            grd (okI .i64 ((0 - x_1))) <|
            (some ((!(decide (n_1 ≤ (0 - x_1)))), true))
          else
            grd (okI .i64 ((0 - x_2))) <|
            (some ((!false), true))
        else
          (some ((!false), false))
      else
        (some (false, x_3)) : Option ((Bool × Bool))) fun (x32, _) =>
  (some x32)) : Option (Bool)) := rfl
theorem m_slices_IndexFunc_L1_eq (c_1 : Int) (c_2 : Int) (c_3 : Bool) (s_1 : List Int) (x20 : Int) : m_slices_IndexFunc_L1 std c_1 c_2 c_3 s_1 x20 =
((bif (decide (x20 < (((List.length s_1) : Nat) : Int))) then
    grd (okIdx x20 ((List.length s_1))) <|
    grd (okKin ((Int.toNat x20)) ((List.length s_1))) <|
    Option.bind (m_recurrence_between_1 std ((List.getD s_1 (Int.toNat x20) 0)) c_1 c_2 c_3) fun b2 =>
    bif b2 then
      (some (Sum.inr (Sum.inl x20)))
    else
      grd (okI .i64 ((x20 + 1))) <|
      (some (Sum.inl (x20 + 1)))
  else
    (some (Sum.inr (Sum.inr ())))) : Option ((Int) ⊕ ((Int) ⊕ (Unit)))) := rfl
theorem m_slices_IndexFunc_eq (s_1 : List Int) (c_1 : Int) (c_2 : Int) (c_3 : Bool) : m_slices_IndexFunc std s_1 c_1 c_2 c_3 =
((Option.bind (loop (m_slices_IndexFunc_L1 std c_1 c_2 c_3 s_1) 0) fun e => match e with
  | .inl x34 =>
    (some x34)
  | .inr (_) =>
    (some (-1))) : Option (Int)) := rfl
theorem m_slices_ContainsFunc_eq (s_1 : List Int) (c_1 : Int) (c_2 : Int) (c_3 : Bool) : m_slices_ContainsFunc std s_1 c_1 c_2 c_3 =
((Option.bind (m_slices_IndexFunc std s_1 c_1 c_2 c_3) fun n1 =>
  (some (decide (0 ≤ n1)))) : Option (Bool)) := rfl
theorem m_recurrence_between_eq (low_1 : Int) (high_1 : Int) (signed_1 : Bool) (l_1 : List Int) : m_recurrence_between std low_1 high_1 signed_1 l_1 =
((Option.bind (
    bif (decide ((((List.length l_1) : Nat) : Int) ≤ 60)) then
      Option.bind (m_slices_ContainsFunc std l_1 low_1 high_1 signed_1) fun b3 =>
      (some (!b3))
    else
      (some false) : Option ((Bool))) fun x36 =>
  (some x36)) : Option (Bool)) := rfl
theorem m_integer_Div_eq (a_1 : Int) (b_1 : Int) : m_integer_Div std a_1 b_1 =
((Option.bind (
    bif (b_1 == 0) then
      (some (Sum.inl 10))
    else
      Option.bind (
        bif (a_1 == (-9223372036854775808)) then
          (some (b_1 == (-1)))
        else
          (some false) : Option ((Bool))) fun x51 =>
      bif x51 then
        (some (Sum.inl 9))
      else
        (some (Sum.inr ())) : Option (((Int) ⊕ (Unit)))) fun e => match e with
  | .inl x53 =>
    (some (0, 0, x53))
  | .inr (_) =>
    grd (okNz b_1) <|
    grd (okI .i64 ((Int.tdiv a_1 b_1))) <|
    Option.bind (
      bif (!((Int.tmod a_1 b_1) == 0)) then
        (some (!((decide ((Int.tmod a_1 b_1) < 0)) == (decide (b_1 < 0)))))
      else
        (some false) : Option ((Bool))) fun x55 =>
    Option.bind (
      bif x55 then
        grd (okI .i64 (((Int.tdiv a_1 b_1) - 1))) <|
        grd (okI .i64 (((Int.tmod a_1 b_1) + b_1))) <|
        (some (((Int.tdiv a_1 b_1) - 1), ((Int.tmod a_1 b_1) + b_1)))
      else
        (some ((Int.tdiv a_1 b_1), (Int.tmod a_1 b_1))) : Option ((Int × Int))) fun (q2, r2) =>
    (some (q2, r2, 0))) : Option (Int × Int × Int)) := rfl
theorem m_integer_Mod_eq (a_1 : Int) (b_1 : Int) : m_integer_Mod std a_1 b_1 =
((Option.bind (m_integer_Div std a_1 b_1) fun (_, n3, _) =>
  (some n3)) : Option (Int)) := rfl
theorem m_recurrence_set_eq (l_1 : List Int) : m_recurrence_set std l_1 =
((Option.bind (m_clone_i1 std l_1) fun l1 =>
  Option.bind (m_sortI std l1) fun l2 =>
  Option.bind (m_compI std l2) fun l3 =>
  (some l3)) : Option (List Int)) := rfl
theorem m_recurrence_times_1_eq (other_1 : Int) (l_1 : List Int) : m_recurrence_times_1 std other_1 l_1 =
((bif ((((List.length l_1) : Nat) : Int) == 0) then
    (some [other_1])
  else
    Option.bind (m_recurrence_set std l_1) fun l4 =>
    (some l4)) : Option (List Int)) := rfl
theorem m_recurrence_times_L1_eq (x59 : Int) (l6 : List Int) : m_recurrence_times_L1 std (x59, l6) =
((bif (decide (x59 < 24)) then
    grd (okRoom ((List.length l6))) <|
    grd (okRoom ((List.length [x59]))) <|
    grd (okI .i64 ((x59 + 1))) <|
    (some (Sum.inl ((x59 + 1), (l6 ++ [x59]))))
  else
    (some (Sum.inr l6))) : Option ((Int × List Int) ⊕ (List Int))) := rfl
theorem m_recurrence_times_L2_eq (l10 : List Int) (l11 : List Int) (l9 : List Int) (x67 : Int) (x71 : Int) (x73 : Int) (l22 : List Int) : m_recurrence_times_L2 std l10 l11 l9 x67 x71 (x73, l22) =
((bif (decide (x73 < (((List.length l11) : Nat) : Int))) then
    grd (okIdx x73 ((List.length l11))) <|
    grd (okKin ((Int.toNat x73)) ((List.length l11))) <|
    grd (okI .i64 ((3600 * (List.getD l9 (Int.toNat x67) 0)))) <|
    grd (okI .i64 ((60 * (List.getD l10 (Int.toNat x71) 0)))) <|
    grd (okI .i64 (((3600 * (List.getD l9 (Int.toNat x67) 0)) + (60 * (List.getD l10 (Int.toNat x71) 0))))) <|
    grd (okI .i64 ((((3600 * (List.getD l9 (Int.toNat x67) 0)) + (60 * (List.getD l10 (Int.toNat x71) 0))) + (List.getD l11 (Int.toNat x73) 0)))) <|
    grd (okRoom ((List.length l22))) <|
    grd (okRoom ((List.length [(((3600 * (List.getD l9 (Int.toNat x67) 0)) + (60 * (List.getD l10 (Int.toNat x71) 0))) + (List.getD l11 (Int.toNat x73) 0))]))) <|
    grd (okI .i64 ((x73 + 1))) <|
    (some (Sum.inl ((x73 + 1), (l22 ++ [(((3600 * (List.getD l9 (Int.toNat x67) 0)) + (60 * (List.getD l10 (Int.toNat x71) 0))) + (List.getD l11 (Int.toNat x73) 0))]))))
  else
    (some (Sum.inr l22))) : Option ((Int × List Int) ⊕ (List Int))) := rfl
theorem m_recurrence_times_L3_eq (l10 : List Int) (l11 : List Int) (l9 : List Int) (x67 : Int) (x71 : Int) (l21 : List Int) : m_recurrence_times_L3 std l10 l11 l9 x67 (x71, l21) =
((bif (decide (x71 < (((List.length l10) : Nat) : Int))) then
    grd (okIdx x71 ((List.length l10))) <|
    grd (okKin ((Int.toNat x71)) ((List.length l10))) <|
    Option.bind (loop (m_recurrence_times_L2 std l10 l11 l9 x67 x71) (0, l21)) fun l23 =>
    grd (okI .i64 ((x71 + 1))) <|
    (some (Sum.inl ((x71 + 1), l23)))
  else
    (some (Sum.inr l21))) : Option ((Int × List Int) ⊕ (List Int))) := rfl
theorem m_recurrence_times_L4_eq (l10 : List Int) (l11 : List Int) (l9 : List Int) (x67 : Int) (l18 : List Int) : m_recurrence_times_L4 std l10 l11 l9 (x67, l18) =
((bif (decide (x67 < (((List.length l9) : Nat) : Int))) then
    grd (okIdx x67 ((List.length l9))) <|
    grd (okKin ((Int.toNat x67)) ((List.length l9))) <|
    Option.bind (loop (m_recurrence_times_L3 std l10 l11 l9 x67) (0, l18)) fun l24 =>
    grd (okI .i64 ((x67 + 1))) <|
    (some (Sum.inl ((x67 + 1), l24)))
  else
    (some (Sum.inr l18))) : Option ((Int × List Int) ⊕ (List Int))) := rfl
theorem m_recurrence_times_eq (r_1 : Int) (r_2 : Int) (r_3 : Int) (r_4 : Int) (r_5 : Int) (start_1 : Int) (r_6 : List Int) (r_7 : List Int) (r_8 : List Int) (r_9 : List Int) (r_10 : List (Int × Int)) (r_11 : List Int) (r_12 : List Int) (r_13 : List Int) (r_14 : List Int) : m_recurrence_times std r_1 r_2 r_3 r_4 r_5 start_1 r_6 r_7 r_8 r_9 r_10 r_11 r_12 r_13 r_14 =
((Option.bind (m_integer_Mod std start_1 86400) fun n5 =>
  grd (okNz 3600) <|
  grd (okI .i64 ((Int.tdiv n5 3600))) <|
  Option.bind (m_recurrence_times_1 std ((Int.tdiv n5 3600)) r_11) fun l5 =>
  Option.bind (
    bif ((((List.length r_11) : Nat) : Int) == 0) then
      (some (r_1 == 5))
    else
      (some false) : Option ((Bool))) fun x57 =>
  Option.bind (
    bif x57 then
      Option.bind (loop (m_recurrence_times_L1 std) (0, ([] : List Int))) fun l7 =>
      (some l7)
    else
      (some l5) : Option ((List Int))) fun l9 =>
  grd (okNz 60) <|
  grd (okI .i64 ((Int.tdiv n5 60))) <|
  Option.bind (m_recurrence_times_1 std ((Int.tmod (Int.tdiv n5 60) 60)) r_12) fun l10 =>
  Option.bind (m_recurrence_times_1 std ((Int.tmod n5 60)) r_13) fun l11 =>
  Option.bind (loop (m_recurrence_times_L4 std l10 l11 l9) (0, ([] : List Int))) fun l25 =>
  (some l25)) : Option (List Int)) := rfl
theorem m_recurrence_Valid_L1_eq (r_1 : Int) (r_10 : List (Int × Int)) (x45 : Int) : m_recurrence_Valid_L1 std r_1 r_10 x45 =
((bif (decide (x45 < (((List.length r_10) : Nat) : Int))) then
    grd (okIdx x45 ((List.length r_10))) <|
    grd (okKin ((Int.toNat x45)) ((List.length r_10))) <|
    Option.bind (
      bif (decide ((List.getD r_10 (Int.toNat x45) (0, 0)).2 < 1)) then
        (some true)
      else
        bif (decide (7 < (List.getD r_10 (Int.toNat x45) (0, 0)).2)) then
          (some true)
        else
          bif (decide ((List.getD r_10 (Int.toNat x45) (0, 0)).1 < (-53))) then
            (some true)
          else
            bif (decide (53 < (List.getD r_10 (Int.toNat x45) (0, 0)).1)) then
              (some true)
            else
              bif (!((List.getD r_10 (Int.toNat x45) (0, 0)).1 == 0)) then
                bif (!(r_1 == 1)) then
                  (some (!(r_1 == 2)))
                else
                  (some false)
              else
                (some false) : Option ((Bool))) fun x49 =>
    bif x49 then
      (some (Sum.inr (Sum.inl ())))
    else
      grd (okI .i64 ((x45 + 1))) <|
      (some (Sum.inl (x45 + 1)))
  else
    (some (Sum.inr (Sum.inr ())))) : Option ((Int) ⊕ ((Unit) ⊕ (Unit)))) := rfl
theorem m_recurrence_Valid_eq (r_1 : Int) (r_2 : Int) (r_3 : Int) (r_4 : Int) (r_5 : Int) (r_6 : List Int) (r_7 : List Int) (r_8 : List Int) (r_9 : List Int) (r_10 : List (Int × Int)) (r_11 : List Int) (r_12 : List Int) (r_13 : List Int) (r_14 : List Int) : m_recurrence_Valid std r_1 r_2 r_3 r_4 r_5 r_6 r_7 r_8 r_9 r_10 r_11 r_12 r_13 r_14 =
((Option.bind (
    bif (decide (r_1 < 1)) then
      (some true)
    else
      (some (decide (5 < r_1))) : Option ((Bool))) fun x2 =>
  Option.bind (
    bif x2 then
      (some true)
    else
      Option.bind (
        bif (decide (r_2 < 1)) then
          (some true)
        else
          (some (decide (1000 < r_2))) : Option ((Bool))) fun x4 =>
      Option.bind (
        bif x4 then
          (some true)
        else
          Option.bind (
            bif (decide (r_5 < 1)) then
              (some true)
            else
              (some (decide (7 < r_5))) : Option ((Bool))) fun x6 =>
          (some x6) : Option ((Bool))) fun x8 =>
      (some x8) : Option ((Bool))) fun x10 =>
  Option.bind (
    bif x10 then
      (some (Sum.inl ()))
    else
      Option.bind (
        bif (decide (r_3 < 0)) then
          (some true)
        else
          (some (decide (1000 < r_3))) : Option ((Bool))) fun x12 =>
      Option.bind (
        bif x12 then
          (some true)
        else
          Option.bind (
            bif (!(r_4 == 0)) then
              Option.bind (m_recurrence_local std r_4) fun b1 =>
              bif (!b1) then
                (some true)
              else
                (some (!(r_3 == 0)))
            else
              (some false) : Option ((Bool))) fun x17 =>
          (some x17) : Option ((Bool))) fun x19 =>
      Option.bind (
        bif x19 then
          (some (Sum.inl ()))
        else
          Option.bind (
            Option.bind (m_recurrence_between std 1 12 false r_6) fun b4 =>
            bif (!b4) then
              (some true)
            else
              Option.bind (m_recurrence_between std 1 31 true r_7) fun b5 =>
              bif (!b5) then
                (some true)
              else
                Option.bind (m_recurrence_between std 1 366 true r_8) fun b6 =>
                bif (!b6) then
                  (some true)
                else
                  Option.bind (m_recurrence_between std 1 53 true r_9) fun b7 =>
                  (some (!b7)) : Option ((Bool))) fun x38 =>
          Option.bind (
            bif x38 then
              (some (Sum.inl ()))
            else
              Option.bind (
                Option.bind (m_recurrence_between std 0 23 false r_11) fun b8 =>
                bif (!b8) then
                  (some true)
                else
                  Option.bind (m_recurrence_between std 0 59 false r_12) fun b9 =>
                  bif (!b9) then
                    (some true)
                  else
                    Option.bind (m_recurrence_between std 0 59 false r_13) fun b10 =>
                    bif (!b10) then
                      (some true)
                    else
                      Option.bind (m_recurrence_between std 1 366 true r_14) fun b11 =>
                      (some (!b11)) : Option ((Bool))) fun x40 =>
              Option.bind (
                bif x40 then
                  (some (Sum.inl ()))
                else
                  Option.bind (
                    bif (decide (0 < (((List.length r_9) : Nat) : Int))) then
                      (some (!(r_1 == 1)))
                    else
                      (some false) : Option ((Bool))) fun x42 =>
                  Option.bind (
                    bif x42 then
                      (some true)
                    else
                      (some (decide (60 < (((List.length r_10) : Nat) : Int)))) : Option ((Bool))) fun x44 =>
                  bif x44 then
                    (some (Sum.inl ()))
                  else
                    (some (Sum.inr ())) : Option (((Unit) ⊕ (Unit)))) fun e => match e with
              | .inl _ =>
                (some (Sum.inl ()))
              | .inr (_) =>
                (some (Sum.inr ())) : Option (((Unit) ⊕ (Unit)))) fun e => match e with
          | .inl _ =>
            (some (Sum.inl ()))
          | .inr (_) =>
            (some (Sum.inr ())) : Option (((Unit) ⊕ (Unit)))) fun e => match e with
      | .inl _ =>
        (some (Sum.inl ()))
      | .inr (_) =>
        (some (Sum.inr ())) : Option (((Unit) ⊕ (Unit)))) fun e => match e with
  | .inl _ =>
    (some false)
  | .inr (_) =>
    Option.bind (loop (m_recurrence_Valid_L1 std r_1 r_10) 0) fun e => match e with
    | .inl _ =>
      (some false)
    | .inr (_) =>
      Option.bind (m_recurrence_times std r_1 r_2 r_3 r_4 r_5 0 r_6 r_7 r_8 r_9 r_10 r_11 r_12 r_13 r_14) fun l26 =>
      (some (decide ((((List.length l26) : Nat) : Int) ≤ 1440)))) : Option (Bool)) := rfl
theorem m_recurrence_given_eq (r_1 : Int) (r_2 : Int) (r_3 : Int) (r_4 : Int) (r_5 : Int) (start_1 : Int) (r_6 : List Int) (r_7 : List Int) (r_8 : List Int) (r_9 : List Int) (r_10 : List (Int × Int)) (r_11 : List Int) (r_12 : List Int) (r_13 : List Int) (r_14 : List Int) : m_recurrence_given std r_1 r_2 r_3 r_4 r_5 start_1 r_6 r_7 r_8 r_9 r_10 r_11 r_12 r_13 r_14 =
((Option.bind (
    Option.bind (m_recurrence_Valid std r_1 r_2 r_3 r_4 r_5 r_6 r_7 r_8 r_9 r_10 r_11 r_12 r_13 r_14) fun b12 =>
    bif (!b12) then
      (some true)
    else
      Option.bind (m_recurrence_local std start_1) fun b13 =>
      (some (!b13)) : Option ((Bool))) fun x75 =>
  bif x75 then
    (some 1)
  else
    (some 0)) : Option (Int)) := rfl
theorem m_integer_Floor_eq (a_1 : Int) (b_1 : Int) : m_integer_Floor std a_1 b_1 =
((Option.bind (m_integer_Div std a_1 b_1) fun (n6, _, _) =>
  (some n6)) : Option (Int)) := rfl
theorem m_recurrence_weekday_eq (day_1 : Int) : m_recurrence_weekday std day_1 =
((grd (okI .i64 ((day_1 + 3))) <|
  Option.bind (m_integer_Mod std ((day_1 + 3)) 7) fun n10 =>
  grd (okI .i64 ((n10 + 1))) <|
  (some (n10 + 1))) : Option (Int)) := rfl
theorem m_recurrence_week_eq (day_1 : Int) (start_1 : Int) : m_recurrence_week std day_1 start_1 =
((Option.bind (m_recurrence_weekday std day_1) fun n11 =>
  grd (okI .i64 ((n11 - start_1))) <|
  Option.bind (m_integer_Mod std ((n11 - start_1)) 7) fun n12 =>
  grd (okI .i64 ((day_1 - n12))) <|
  (some (day_1 - n12))) : Option (Int)) := rfl
theorem m_civil_inside_eq (day_1 : Int) : m_civil_inside std day_1 =
((Option.bind (
    bif (decide ((-719162) ≤ day_1)) then
      (some (decide (day_1 < 2932897)))
    else
      (some false) : Option ((Bool))) fun x83 =>
  (some x83)) : Option (Bool)) := rfl
theorem m_civil_count_eq (y_1 : Int) (m_1 : Int) (d_1 : Int) : m_civil_count std y_1 m_1 d_1 =
((Option.bind (
    bif (decide (m_1 ≤ 2)) then
      grd (okI .i64 ((y_1 - 1))) <|
      grd (okI .i64 ((m_1 + 12))) <|
      (some ((y_1 - 1), (m_1 + 12)))
    else
      (some (y_1, m_1)) : Option ((Int × Int))) fun (y3, m2) =>
  grd (okI .i64 ((365 * y3))) <|
  grd (okNz 4) <|
  grd (okI .i64 ((Int.tdiv y3 4))) <|
  grd (okI .i64 (((365 * y3) + (Int.tdiv y3 4)))) <|
  grd (okNz 100) <|
  grd (okI .i64 ((Int.tdiv y3 100))) <|
  grd (okI .i64 ((((365 * y3) + (Int.tdiv y3 4)) - (Int.tdiv y3 100)))) <|
  grd (okNz 400) <|
  grd (okI .i64 ((Int.tdiv y3 400))) <|
  grd (okI .i64 (((((365 * y3) + (Int.tdiv y3 4)) - (Int.tdiv y3 100)) + (Int.tdiv y3 400)))) <|
  grd (okI .i64 ((m2 - 3))) <|
  grd (okI .i64 ((153 * (m2 - 3)))) <|
  grd (okI .i64 (((153 * (m2 - 3)) + 2))) <|
  grd (okNz 5) <|
  grd (okI .i64 ((Int.tdiv ((153 * (m2 - 3)) + 2) 5))) <|
  grd (okI .i64 ((((((365 * y3) + (Int.tdiv y3 4)) - (Int.tdiv y3 100)) + (Int.tdiv y3 400)) + (Int.tdiv ((153 * (m2 - 3)) + 2) 5)))) <|
  grd (okI .i64 (((((((365 * y3) + (Int.tdiv y3 4)) - (Int.tdiv y3 100)) + (Int.tdiv y3 400)) + (Int.tdiv ((153 * (m2 - 3)) + 2) 5)) + d_1))) <|
  grd (okI .i64 ((((((((365 * y3) + (Int.tdiv y3 4)) - (Int.tdiv y3 100)) + (Int.tdiv y3 400)) + (Int.tdiv ((153 * (m2 - 3)) + 2) 5)) + d_1) - 307))) <|
  grd (okI .i64 (((((((((365 * y3) + (Int.tdiv y3 4)) - (Int.tdiv y3 100)) + (Int.tdiv y3 400)) + (Int.tdiv ((153 * (m2 - 3)) + 2) 5)) + d_1) - 307) + (-719162)))) <|
  (some ((((((((365 * y3) + (Int.tdiv y3 4)) - (Int.tdiv y3 100)) + (Int.tdiv y3 400)) + (Int.tdiv ((153 * (m2 - 3)) + 2) 5)) + d_1) - 307) + (-719162)))) : Option (Int)) := rfl
theorem m_civil_Date_L1_eq (day_1 : Int) (y1 : Int) : m_civil_Date_L1 std day_1 y1 =
((Option.bind (
    bif (decide (y1 < 9999)) then
      grd (okI .i64 ((y1 + 1))) <|
      Option.bind (m_civil_count std ((y1 + 1)) 1 1) fun n17 =>
      (some (decide (n17 ≤ day_1)))
    else
      (some false) : Option ((Bool))) fun x85 =>
  bif x85 then
    grd (okI .i64 ((y1 + 1))) <|
    (some (Sum.inl (y1 + 1)))
  else
    (some (Sum.inr y1))) : Option ((Int) ⊕ (Int))) := rfl
theorem m_civil_Date_L2_eq (day_1 : Int) (y4 : Int) (m3 : Int) : m_civil_Date_L2 std day_1 y4 m3 =
((Option.bind (
    bif (decide (m3 < 12)) then
      grd (okI .i64 ((m3 + 1))) <|
      Option.bind (m_civil_count std y4 ((m3 + 1)) 1) fun n18 =>
      (some (decide (n18 ≤ day_1)))
    else
      (some false) : Option ((Bool))) fun x87 =>
  bif x87 then
    grd (okI .i64 ((m3 + 1))) <|
    (some (Sum.inl (m3 + 1)))
  else
    (some (Sum.inr m3))) : Option ((Int) ⊕ (Int))) := rfl
theorem m_civil_Date_eq (day_1 : Int) : m_civil_Date std day_1 =
((Option.bind (m_civil_inside std day_1) fun b14 =>
  bif (!b14) then
    (some (0, 0, 0, 2))
  else
    grd (okI .i64 ((day_1 - (-719162)))) <|
    grd (okNz 366) <|
    grd (okI .i64 ((Int.tdiv (day_1 - (-719162)) 366))) <|
    grd (okI .i64 (((Int.tdiv (day_1 - (-719162)) 366) + 1))) <|
    Option.bind (loop (m_civil_Date_L1 std day_1) ((Int.tdiv (day_1 - (-719162)) 366) + 1)) fun y4 =>
    Option.bind (loop (m_civil_Date_L2 std day_1 y4) 1) fun m4 =>
    Option.bind (m_civil_count std y4 m4 1) fun n19 =>
    grd (okI .i64 ((day_1 - n19))) <|
    grd (okI .i64 (((day_1 - n19) + 1))) <|
    (some (y4, m4, ((day_1 - n19) + 1), 0))) : Option (Int × Int × Int × Int)) := rfl
theorem m_recurrence_newYear_eq (year_1 : Int) : m_recurrence_newYear std year_1 =
((grd (okI .i64 ((year_1 - 1))) <|
  grd (okI .i64 ((365 * (year_1 - 1)))) <|
  grd (okI .i64 (((-719162) + (365 * (year_1 - 1))))) <|
  Option.bind (m_integer_Floor std ((year_1 - 1)) 4) fun n24 =>
  grd (okI .i64 ((((-719162) + (365 * (year_1 - 1))) + n24))) <|
  Option.bind (m_integer_Floor std ((year_1 - 1)) 100) fun n25 =>
  grd (okI .i64 (((((-719162) + (365 * (year_1 - 1))) + n24) - n25))) <|
  Option.bind (m_integer_Floor std ((year_1 - 1)) 400) fun n26 =>
  grd (okI .i64 ((((((-719162) + (365 * (year_1 - 1))) + n24) - n25) + n26))) <|
  (some (((((-719162) + (365 * (year_1 - 1))) + n24) - n25) + n26))) : Option (Int)) := rfl
theorem m_recurrence_weekYear_eq (day_1 : Int) (start_1 : Int) : m_recurrence_weekYear std day_1 start_1 =
((Option.bind (m_recurrence_week std day_1 start_1) fun n16 =>
  grd (okI .i64 ((n16 + 3))) <|
  Option.bind (m_civil_Date std ((mi (ma (n16 + 3) (-719162)) 2932896))) fun (n20, _, _, _) =>
  Option.bind (m_recurrence_newYear std n20) fun n27 =>
  Option.bind (
    bif (decide ((n16 + 3) < n27)) then
      grd (okI .i64 ((n20 - 1))) <|
      (some (n20 - 1))
    else
      grd (okI .i64 ((n20 + 1))) <|
      Option.bind (m_recurrence_newYear std ((n20 + 1))) fun n28 =>
      Option.bind (
        bif (decide (n28 ≤ (n16 + 3))) then
          (some (n20 + 1))
        else
          (some n20) : Option ((Int))) fun x89 =>
      (some x89) : Option ((Int))) fun x91 =>
  (some x91)) : Option (Int)) := rfl
theorem m_recurrence_number_eq (r_1 : Int) (r_2 : Int) (r_3 : Int) (r_4 : Int) (r_5 : Int) (l_1 : Int) (r_6 : List Int) (r_7 : List Int) (r_8 : List Int) (r_9 : List Int) (r_10 : List (Int × Int)) (r_11 : List Int) (r_12 : List Int) (r_13 : List Int) (r_14 : List Int) : m_recurrence_number std r_1 r_2 r_3 r_4 r_5 l_1 r_6 r_7 r_8 r_9 r_10 r_11 r_12 r_13 r_14 =
((Option.bind (m_integer_Floor std l_1 86400) fun n9 =>
  Option.bind (
    bif (r_1 == 3) then
      Option.bind (m_recurrence_week std n9 r_5) fun n13 =>
      Option.bind (m_integer_Floor std n13 7) fun n14 =>
      (some (Sum.inl n14))
    else
      Option.bind (
        bif (r_1 == 4) then
          (some (Sum.inl n9))
        else
          bif (r_1 == 5) then
            Option.bind (m_integer_Floor std l_1 3600) fun n15 =>
            (some (Sum.inl n15))
          else
            (some (Sum.inr ())) : Option (((Int) ⊕ (Unit)))) fun e => match e with
      | .inl x77 =>
        (some (Sum.inl x77))
      | .inr (_) =>
        (some (Sum.inr ())) : Option (((Int) ⊕ (Unit)))) fun e => match e with
  | .inl x79 =>
    (some x79)
  | .inr (_) =>
    Option.bind (
      bif (r_1 == 1) then
        (some (decide (0 < (((List.length r_9) : Nat) : Int))))
      else
        (some false) : Option ((Bool))) fun x81 =>
    bif x81 then
      Option.bind (m_recurrence_weekYear std n9 r_5) fun n29 =>
      (some n29)
    else
      Option.bind (m_civil_Date std n9) fun (n30, n31, _, _) =>
      bif (r_1 == 1) then
        (some n30)
      else
        grd (okI .i64 ((12 * n30))) <|
        grd (okI .i64 (((12 * n30) + n31))) <|
        (some ((12 * n30) + n31))) : Option (Int)) := rfl
theorem m_recurrence_dateOf_eq (day_1 : Int) : m_recurrence_dateOf std day_1 =
((Option.bind (m_civil_Date std day_1) fun (n34, n35, n36, _) =>
  Option.bind (m_recurrence_newYear std n34) fun n38 =>
  grd (okI .i64 ((day_1 - n38))) <|
  grd (okI .i64 (((day_1 - n38) + 1))) <|
  grd (okI .i64 ((n34 + 1))) <|
  Option.bind (m_recurrence_newYear std ((n34 + 1))) fun n39 =>
  grd (okI .i64 ((n39 - n38))) <|
  Option.bind (m_civil_Length std n34 n35) fun n40 =>
  (some (n34, n35, n36, day_1, ((day_1 - n38) + 1), (n39 - n38), n36, n40))) : Option (Int × Int × Int × Int × Int × Int × Int × Int)) := rfl
theorem m_slices_Index_L1_eq (s_1 : List Int) (v_1 : Int) (x92 : Int) : m_slices_Index_L1 std s_1 v_1 x92 =
((bif (decide (x92 < (((List.length s_1) : Nat) : Int))) then
    grd (okIdx x92 ((List.length s_1))) <|
    grd (okKin ((Int.toNat x92)) ((List.length s_1))) <|
    bif (v_1 == (List.getD s_1 (Int.toNat x92) 0)) then
      (some (Sum.inr (Sum.inl x92)))
    else
      grd (okI .i64 ((x92 + 1))) <|
      (some (Sum.inl (x92 + 1)))
  else
    (some (Sum.inr (Sum.inr ())))) : Option ((Int) ⊕ ((Int) ⊕ (Unit)))) := rfl
theorem m_slices_Index_eq (v_1 : Int) (s_1 : List Int) : m_slices_Index std v_1 s_1 =
((Option.bind (loop (m_slices_Index_L1 std s_1 v_1) 0) fun e => match e with
  | .inl x93 =>
    (some x93)
  | .inr (_) =>
    (some (-1))) : Option (Int)) := rfl
theorem m_slices_Contains_eq (v_1 : Int) (s_1 : List Int) : m_slices_Contains std v_1 s_1 =
((Option.bind (m_slices_Index std v_1 s_1) fun n49 =>
  (some (decide (0 ≤ n49)))) : Option (Bool)) := rfl
theorem m_recurrence_filters_1_eq (r_1 : Int) (r_2 : Int) (r_3 : Int) (r_4 : Int) (r_5 : Int) (x_1 : Int) (x_2 : Int) (x_3 : Int) (x_4 : Int) (x_5 : Int) (x_6 : Int) (x_7 : Int) (x_8 : Int) (x_9 : Int) (x_10 : Int) (x_11 : Int) (x_12 : Int) (x_13 : Int) (x_14 : Int) (x_15 : Int) (x_16 : Int) (r_6 : List Int) (r_7 : List Int) (r_8 : List Int) (r_9 : List Int) (r_10 : List (Int × Int)) (r_11 : List Int) (r_12 : List Int) (r_13 : List Int) (r_14 : List Int) : m_recurrence_filters_1 std r_1 r_2 r_3 r_4 r_5 x_1 x_2 x_3 x_4 x_5 x_6 x_7 x_8 x_9 x_10 x_11 x_12 x_13 x_14 x_15 x_16 r_6 r_7 r_8 r_9 r_10 r_11 r_12 r_13 r_14 =
((Option.bind (
    bif ((((List.length r_6) : Nat) : Int) == 0) then
      (some true)
    else
      Option.bind (m_slices_Contains std x_2 r_6) fun b15 =>
      (some b15) : Option ((Bool))) fun x95 =>
  (some x95)) : Option (Bool)) := rfl
theorem m_recurrence_counted_eq (n_1 : Int) (of_1 : Int) (l_1 : List Int) : m_recurrence_counted std n_1 of_1 l_1 =
((Option.bind (
    bif ((((List.length l_1) : Nat) : Int) == 0) then
      (some true)
    else
      Option.bind (m_slices_Contains std n_1 l_1) fun b17 =>
      bif b17 then
        (some true)
      else
        grd (okI .i64 ((n_1 - of_1))) <|
        grd (okI .i64 (((n_1 - of_1) - 1))) <|
        Option.bind (m_slices_Contains std (((n_1 - of_1) - 1)) l_1) fun b18 =>
        (some b18) : Option ((Bool))) fun x97 =>
  (some x97)) : Option (Bool)) := rfl
theorem m_recurrence_filters_2_eq (r_1 : Int) (r_2 : Int) (r_3 : Int) (r_4 : Int) (r_5 : Int) (x_1 : Int) (x_2 : Int) (x_3 : Int) (x_4 : Int) (x_5 : Int) (x_6 : Int) (x_7 : Int) (x_8 : Int) (x_9 : Int) (x_10 : Int) (x_11 : Int) (x_12 : Int) (x_13 : Int) (x_14 : Int) (x_15 : Int) (x_16 : Int) (r_6 : List Int) (r_7 : List Int) (r_8 : List Int) (r_9 : List Int) (r_10 : List (Int × Int)) (r_11 : List Int) (r_12 : List Int) (r_13 : List Int) (r_14 : List Int) : m_recurrence_filters_2 std r_1 r_2 r_3 r_4 r_5 x_1 x_2 x_3 x_4 x_5 x_6 x_7 x_8 x_9 x_10 x_11 x_12 x_13 x_14 x_15 x_16 r_6 r_7 r_8 r_9 r_10 r_11 r_12 r_13 r_14 =
((Option.bind (m_recurrence_counted std x_7 x_8 r_7) fun b19 =>
  (some b19)) : Option (Bool)) := rfl
theorem m_recurrence_filters_3_eq (r_1 : Int) (r_2 : Int) (r_3 : Int) (r_4 : Int) (r_5 : Int) (x_1 : Int) (x_2 : Int) (x_3 : Int) (x_4 : Int) (x_5 : Int) (x_6 : Int) (x_7 : Int) (x_8 : Int) (x_9 : Int) (x_10 : Int) (x_11 : Int) (x_12 : Int) (x_13 : Int) (x_14 : Int) (x_15 : Int) (x_16 : Int) (r_6 : List Int) (r_7 : List Int) (r_8 : List Int) (r_9 : List Int) (r_10 : List (Int × Int)) (r_11 : List Int) (r_12 : List Int) (r_13 : List Int) (r_14 : List Int) : m_recurrence_filters_3 std r_1 r_2 r_3 r_4 r_5 x_1 x_2 x_3 x_4 x_5 x_6 x_7 x_8 x_9 x_10 x_11 x_12 x_13 x_14 x_15 x_16 r_6 r_7 r_8 r_9 r_10 r_11 r_12 r_13 r_14 =
((Option.bind (m_recurrence_counted std x_5 x_6 r_8) fun b21 =>
  (some b21)) : Option (Bool)) := rfl
theorem m_recurrence_firstWeek_eq (year_1 : Int) (start_1 : Int) : m_recurrence_firstWeek std year_1 start_1 =
((Option.bind (m_recurrence_newYear std year_1) fun n51 =>
  grd (okI .i64 ((n51 + 3))) <|
  Option.bind (m_recurrence_week std ((n51 + 3)) start_1) fun n52 =>
  (some n52)) : Option (Int)) := rfl
theorem m_recurrence_filters_4_eq (r_1 : Int) (r_2 : Int) (r_3 : Int) (r_4 : Int) (r_5 : Int) (x_1 : Int) (x_2 : Int) (x_3 : Int) (x_4 : Int) (x_5 : Int) (x_6 : Int) (x_7 : Int) (x_8 : Int) (x_9 : Int) (x_10 : Int) (x_11 : Int) (x_12 : Int) (x_13 : Int) (x_14 : Int) (x_15 : Int) (x_16 : Int) (r_6 : List Int) (r_7 : List Int) (r_8 : List Int) (r_9 : List Int) (r_10 : List (Int × Int)) (r_11 : List Int) (r_12 : List Int) (r_13 : List Int) (r_14 : List Int) : m_recurrence_filters_4 std r_1 r_2 r_3 r_4 r_5 x_1 x_2 x_3 x_4 x_5 x_6 x_7 x_8 x_9 x_10 x_11 x_12 x_13 x_14 x_15 x_16 r_6 r_7 r_8 r_9 r_10 r_11 r_12 r_13 r_14 =
((bif ((((List.length r_9) : Nat) : Int) == 0) then
    (some true)
  else
    Option.bind (m_recurrence_weekYear std x_4 r_5) fun n50 =>
    Option.bind (m_recurrence_firstWeek std n50 r_5) fun n53 =>
    grd (okI .i64 ((x_4 - n53))) <|
    grd (okNz 7) <|
    grd (okI .i64 ((Int.tdiv (x_4 - n53) 7))) <|
    grd (okI .i64 (((Int.tdiv (x_4 - n53) 7) + 1))) <|
    grd (okI .i64 ((n50 + 1))) <|
    Option.bind (m_recurrence_firstWeek std ((n50 + 1)) r_5) fun n54 =>
    grd (okI .i64 ((n54 - n53))) <|
    grd (okI .i64 ((Int.tdiv (n54 - n53) 7))) <|
    Option.bind (m_recurrence_counted std (((Int.tdiv (x_4 - n53) 7) + 1)) ((Int.tdiv (n54 - n53) 7)) r_9) fun b23 =>
    (some b23)) : Option (Bool)) := rfl
theorem m_recurrence_nth_1_eq (o_1 : Int) (o_2 : Int) (x_1 : Int) (x_2 : Int) (x_3 : Int) : m_recurrence_nth_1 std o_1 o_2 x_1 x_2 x_3 =
((Option.bind (
    bif (o_2 == x_1) then
      bif (o_1 == 0) then
        (some true)
      else
        bif (o_1 == ((Int.tdiv (x_2 - 1) 7) + 1)) then
          grd (okI .i64 ((x_2 - 1))) <|
          grd (okNz 7) <|
          grd (okI .i64 ((Int.tdiv (x_2 - 1) 7))) <|
          grd (okI .i64 (((Int.tdiv (x_2 - 1) 7) + 1))) <|
          (some true)
        else
          grd (okI .i64 ((x_2 - 1))) <|
          grd (okNz 7) <|
          grd (okI .i64 ((Int.tdiv (x_2 - 1) 7))) <|
          grd (okI .i64 (((Int.tdiv (x_2 - 1) 7) + 1))) <|
          grd (okI .i64 ((x_3 - x_2))) <|
          grd (okI .i64 ((Int.tdiv (x_3 - x_2) 7))) <|
          grd (okI .i64 (((Int.tdiv (x_3 - x_2) 7) + 1))) <|
          grd (okI .i64 ((0 - ((Int.tdiv (x_3 - x_2) 7) + 1)))) <|
          (some (o_1 == (0 - ((Int.tdiv (x_3 - x_2) 7) + 1))))
    else
      (some false) : Option ((Bool))) fun x103 =>
  (some x103)) : Option (Bool)) := rfl
theorem m_slices_IndexFunc_2_L1_eq (c_1 : Int) (c_2 : Int) (c_3 : Int) (s_1 : List (Int × Int)) (x100 : Int) : m_slices_IndexFunc_2_L1 std c_1 c_2 c_3 s_1 x100 =
((bif (decide (x100 < (((List.length s_1) : Nat) : Int))) then
    grd (okIdx x100 ((List.length s_1))) <|
    grd (okKin ((Int.toNat x100)) ((List.length s_1))) <|
    Option.bind (m_recurrence_nth_1 std ((List.getD s_1 (Int.toNat x100) (0, 0)).1) ((List.getD s_1 (Int.toNat x100) (0, 0)).2) c_1 c_2 c_3) fun b25 =>
    bif b25 then
      (some (Sum.inr (Sum.inl x100)))
    else
      grd (okI .i64 ((x100 + 1))) <|
      (some (Sum.inl (x100 + 1)))
  else
    (some (Sum.inr (Sum.inr ())))) : Option ((Int) ⊕ ((Int) ⊕ (Unit)))) := rfl
theorem m_slices_IndexFunc_2_eq (s_1 : List (Int × Int)) (c_1 : Int) (c_2 : Int) (c_3 : Int) : m_slices_IndexFunc_2 std s_1 c_1 c_2 c_3 =
((Option.bind (loop (m_slices_IndexFunc_2_L1 std c_1 c_2 c_3 s_1) 0) fun e => match e with
  | .inl x104 =>
    (some x104)
  | .inr (_) =>
    (some (-1))) : Option (Int)) := rfl
theorem m_slices_ContainsFunc_2_eq (s_1 : List (Int × Int)) (c_1 : Int) (c_2 : Int) (c_3 : Int) : m_slices_ContainsFunc_2 std s_1 c_1 c_2 c_3 =
((Option.bind (m_slices_IndexFunc_2 std s_1 c_1 c_2 c_3) fun n56 =>
  (some (decide (0 ≤ n56)))) : Option (Bool)) := rfl
theorem m_recurrence_nth_eq (w_1 : Int) (n_1 : Int) (of_1 : Int) (l_1 : List (Int × Int)) : m_recurrence_nth std w_1 n_1 of_1 l_1 =
((Option.bind (
    bif ((((List.length l_1) : Nat) : Int) == 0) then
      (some true)
    else
      Option.bind (m_slices_ContainsFunc_2 std l_1 w_1 n_1 of_1) fun b26 =>
      (some b26) : Option ((Bool))) fun x106 =>
  (some x106)) : Option (Bool)) := rfl
theorem m_recurrence_filters_5_eq (r_1 : Int) (r_2 : Int) (r_3 : Int) (r_4 : Int) (r_5 : Int) (x_1 : Int) (x_2 : Int) (x_3 : Int) (x_4 : Int) (x_5 : Int) (x_6 : Int) (x_7 : Int) (x_8 : Int) (x_9 : Int) (x_10 : Int) (x_11 : Int) (x_12 : Int) (x_13 : Int) (x_14 : Int) (x_15 : Int) (x_16 : Int) (r_6 : List Int) (r_7 : List Int) (r_8 : List Int) (r_9 : List Int) (r_10 : List (Int × Int)) (r_11 : List Int) (r_12 : List Int) (r_13 : List Int) (r_14 : List Int) : m_recurrence_filters_5 std r_1 r_2 r_3 r_4 r_5 x_1 x_2 x_3 x_4 x_5 x_6 x_7 x_8 x_9 x_10 x_11 x_12 x_13 x_14 x_15 x_16 r_6 r_7 r_8 r_9 r_10 r_11 r_12 r_13 r_14 =
((Option.bind (
    bif (r_1 == 2) then
      (some true)
    else
      (some (decide (0 < (((List.length r_6) : Nat) : Int)))) : Option ((Bool))) fun x99 =>
  bif x99 then
    Option.bind (m_recurrence_weekday std x_4) fun n55 =>
    Option.bind (m_recurrence_nth std n55 x_7 x_8 r_10) fun b27 =>
    (some b27)
  else
    Option.bind (m_recurrence_weekday std x_4) fun n57 =>
    Option.bind (m_recurrence_nth std n57 x_5 x_6 r_10) fun b28 =>
    (some b28)) : Option (Bool)) := rfl
theorem m_recurrence_filters_6_eq (r_1 : Int) (r_2 : Int) (r_3 : Int) (r_4 : Int) (r_5 : Int) (x_1 : Int) (x_2 : Int) (x_3 : Int) (x_4 : Int) (x_5 : Int) (x_6 : Int) (x_7 : Int) (x_8 : Int) (start_1 : Int) (start_2 : Int) (start_3 : Int) (start_4 : Int) (start_5 : Int) (start_6 : Int) (start_7 : Int) (start_8 : Int) (r_6 : List Int) (r_7 : List Int) (r_8 : List Int) (r_9 : List Int) (r_10 : List (Int × Int)) (r_11 : List Int) (r_12 : List Int) (r_13 : List Int) (r_14 : List Int) : m_recurrence_filters_6 std r_1 r_2 r_3 r_4 r_5 x_1 x_2 x_3 x_4 x_5 x_6 x_7 x_8 start_1 start_2 start_3 start_4 start_5 start_6 start_7 start_8 r_6 r_7 r_8 r_9 r_10 r_11 r_12 r_13 r_14 =
((Option.bind (
    bif (decide (0 < (((List.length r_7) : Nat) : Int))) then
      (some true)
    else
      bif (decide (0 < (((List.length r_8) : Nat) : Int))) then
        (some true)
      else
        (some (decide (0 < (((List.length r_10) : Nat) : Int)))) : Option ((Bool))) fun x108 =>
  bif x108 then
    (some true)
  else
    Option.bind (m_recurrence_weekday std x_4) fun n58 =>
    Option.bind (m_recurrence_weekday std start_4) fun n59 =>
    Option.bind (
      bif (r_1 == 1) then
        (some (decide (0 < (((List.length r_9) : Nat) : Int))))
      else
        (some false) : Option ((Bool))) fun x110 =>
    Option.bind (
      bif x110 then
        (some true)
      else
        (some (r_1 == 3)) : Option ((Bool))) fun x112 =>
    Option.bind (
      bif x112 then
        (some (Sum.inl (n58 == n59)))
      else
        Option.bind (
          bif (r_1 == 1) then
            Option.bind (
              bif (x_3 == start_3) then
                bif (decide (0 < (((List.length r_6) : Nat) : Int))) then
                  (some true)
                else
                  (some (x_2 == start_2))
              else
                (some false) : Option ((Bool))) fun x115 =>
            (some (Sum.inl x115))
          else
            bif (r_1 == 2) then
              (some (Sum.inl (x_3 == start_3)))
            else
              (some (Sum.inr ())) : Option (((Bool) ⊕ (Unit)))) fun e => match e with
        | .inl x117 =>
          (some (Sum.inl x117))
        | .inr (_) =>
          (some (Sum.inr ())) : Option (((Bool) ⊕ (Unit)))) fun e => match e with
    | .inl x119 =>
      (some x119)
    | .inr (_) =>
      (some true)) : Option (Bool)) := rfl
theorem m_recurrence_passes_eq (r_1 : Int) (r_2 : Int) (r_3 : Int) (r_4 : Int) (r_5 : Int) (start_1 : Int) (start_2 : Int) (start_3 : Int) (start_4 : Int) (start_5 : Int) (start_6 : Int) (start_7 : Int) (start_8 : Int) (day_1 : Int) (r_6 : List Int) (r_7 : List Int) (r_8 : List Int) (r_9 : List Int) (r_10 : List (Int × Int)) (r_11 : List Int) (r_12 : List Int) (r_13 : List Int) (r_14 : List Int) : m_recurrence_passes std r_1 r_2 r_3 r_4 r_5 start_1 start_2 start_3 start_4 start_5 start_6 start_7 start_8 day_1 r_6 r_7 r_8 r_9 r_10 r_11 r_12 r_13 r_14 =
((Option.bind (m_recurrence_dateOf std day_1) fun (n41, n42, n43, n44, n45, n46, n47, n48) =>
  Option.bind (m_recurrence_filters_1 std r_1 r_2 r_3 r_4 r_5 n41 n42 n43 n44 n45 n46 n47 n48 start_1 start_2 start_3 start_4 start_5 start_6 start_7 start_8 r_6 r_7 r_8 r_9 r_10 r_11 r_12 r_13 r_14) fun b16 =>
  bif (!b16) then
    (some false)
  else
    grd (okI .i64 ((0 + 1))) <|
    Option.bind (m_recurrence_filters_2 std r_1 r_2 r_3 r_4 r_5 n41 n42 n43 n44 n45 n46 n47 n48 start_1 start_2 start_3 start_4 start_5 start_6 start_7 start_8 r_6 r_7 r_8 r_9 r_10 r_11 r_12 r_13 r_14) fun b20 =>
    bif (!b20) then
      (some false)
    else
      grd (okI .i64 ((1 + 1))) <|
      Option.bind (m_recurrence_filters_3 std r_1 r_2 r_3 r_4 r_5 n41 n42 n43 n44 n45 n46 n47 n48 start_1 start_2 start_3 start_4 start_5 start_6 start_7 start_8 r_6 r_7 r_8 r_9 r_10 r_11 r_12 r_13 r_14) fun b22 =>
      bif (!b22) then
        (some false)
      else
        grd (okI .i64 ((2 + 1))) <|
        Option.bind (m_recurrence_filters_4 std r_1 r_2 r_3 r_4 r_5 n41 n42 n43 n44 n45 n46 n47 n48 start_1 start_2 start_3 start_4 start_5 start_6 start_7 start_8 r_6 r_7 r_8 r_9 r_10 r_11 r_12 r_13 r_14) fun b24 =>
        bif (!b24) then
          (some false)
        else
          grd (okI .i64 ((3 + 1))) <|
          Option.bind (m_recurrence_filters_5 std r_1 r_2 r_3 r_4 r_5 n41 n42 n43 n44 n45 n46 n47 n48 start_1 start_2 start_3 start_4 start_5 start_6 start_7 start_8 r_6 r_7 r_8 r_9 r_10 r_11 r_12 r_13 r_14) fun b29 =>
          bif (!b29) then
            (some false)
          else
            grd (okI .i64 ((4 + 1))) <|
            Option.bind (m_recurrence_filters_6 std r_1 r_2 r_3 r_4 r_5 n41 n42 n43 n44 n45 n46 n47 n48 start_1 start_2 start_3 start_4 start_5 start_6 start_7 start_8 r_6 r_7 r_8 r_9 r_10 r_11 r_12 r_13 r_14) fun b30 =>
            bif (!b30) then
              (some false)
            else
              grd (okI .i64 ((5 + 1))) <|
              (some true)) : Option (Bool)) := rfl
theorem m_ref29_Local_eq (l_1 : Int) : m_ref29_Local std l_1 =
((Option.bind (
    bif (decide ((-62135596800) ≤ l_1)) then
      (some (decide (l_1 < 253402300800)))
    else
      (some false) : Option ((Bool))) fun x121 =>
  (some x121)) : Option (Bool)) := rfl
theorem m_ref29_within_L1_eq (high_1 : Int) (l_1 : List Int) (low_1 : Int) (signed_1 : Bool) (i1 : Int) : m_ref29_within_L1 std high_1 l_1 low_1 signed_1 i1 =
((bif (decide (i1 < (((List.length l_1) : Nat) : Int))) then
    grd (okIdx i1 ((List.length l_1))) <|
    grd (okKin ((Int.toNat i1)) ((List.length l_1))) <|
    Option.bind (
      bif signed_1 then
        bif (decide ((List.getD l_1 (Int.toNat i1) 0) < 0)) then
          grd (okI .i64 ((0 - high_1))) <|
          (some (true, (decide ((0 - high_1) ≤ (List.getD l_1 (Int.toNat i1) 0)))))
        else
          (some (true, false))
      else
        (some (false, false)) : Option ((Bool × Bool))) fun (_, x128) =>
    Option.bind (
      bif x128 then
        grd (okI .i64 ((0 - (List.getD l_1 (Int.toNat i1) 0)))) <|
        (some (0 - (List.getD l_1 (Int.toNat i1) 0)))
      else
        (some (List.getD l_1 (Int.toNat i1) 0)) : Option ((Int))) fun n61 =>
    Option.bind (
      bif (decide (n61 < low_1)) then
        (some true)
      else
        (some (decide (high_1 < n61))) : Option ((Bool))) fun x130 =>
    bif x130 then
      (some (Sum.inr (Sum.inl ())))
    else
      grd (okI .i64 ((i1 + 1))) <|
      (some (Sum.inl (i1 + 1)))
  else
    (some (Sum.inr (Sum.inr ())))) : Option ((Int) ⊕ ((Unit) ⊕ (Unit)))) := rfl
theorem m_ref29_within_eq (low_1 : Int) (high_1 : Int) (signed_1 : Bool) (l_1 : List Int) : m_ref29_within std low_1 high_1 signed_1 l_1 =
((bif (decide (60 < (((List.length l_1) : Nat) : Int))) then
    (some false)
  else
    Option.bind (loop (m_ref29_within_L1 std high_1 l_1 low_1 signed_1) 0) fun e => match e with
    | .inl _ =>
      (some false)
    | .inr (_) =>
      (some true)) : Option (Bool)) := rfl
theorem m_ref29_days_L1_eq (r_1 : Int) (r_10 : List (Int × Int)) (i2 : Int) : m_ref29_days_L1 std r_1 r_10 i2 =
((bif (decide (i2 < (((List.length r_10) : Nat) : Int))) then
    grd (okIdx i2 ((List.length r_10))) <|
    grd (okKin ((Int.toNat i2)) ((List.length r_10))) <|
    Option.bind (
      bif (decide ((List.getD r_10 (Int.toNat i2) (0, 0)).2 < 1)) then
        (some true)
      else
        bif (decide (7 < (List.getD r_10 (Int.toNat i2) (0, 0)).2)) then
          (some true)
        else
          bif (decide ((List.getD r_10 (Int.toNat i2) (0, 0)).1 < (-53))) then
            (some true)
          else
            bif (decide (53 < (List.getD r_10 (Int.toNat i2) (0, 0)).1)) then
              (some true)
            else
              bif (!((List.getD r_10 (Int.toNat i2) (0, 0)).1 == 0)) then
                bif (!(r_1 == 1)) then
                  (some (!(r_1 == 2)))
                else
                  (some false)
              else
                (some false) : Option ((Bool))) fun x134 =>
    bif x134 then
      (some (Sum.inr (Sum.inl ())))
    else
      grd (okI .i64 ((i2 + 1))) <|
      (some (Sum.inl (i2 + 1)))
  else
    (some (Sum.inr (Sum.inr ())))) : Option ((Int) ⊕ ((Unit) ⊕ (Unit)))) := rfl
theorem m_ref29_days_eq (r_1 : Int) (r_2 : Int) (r_3 : Int) (r_4 : Int) (r_5 : Int) (r_6 : List Int) (r_7 : List Int) (r_8 : List Int) (r_9 : List Int) (r_10 : List (Int × Int)) (r_11 : List Int) (r_12 : List Int) (r_13 : List Int) (r_14 : List Int) : m_ref29_days std r_1 r_2 r_3 r_4 r_5 r_6 r_7 r_8 r_9 r_10 r_11 r_12 r_13 r_14 =
((bif (decide (60 < (((List.length r_10) : Nat) : Int))) then
    (some false)
  else
    Option.bind (loop (m_ref29_days_L1 std r_1 r_10) 0) fun e => match e with
    | .inl _ =>
      (some false)
    | .inr (_) =>
      (some true)) : Option (Bool)) := rfl
theorem m_ref29_Set_L1_eq (i4 : Int) (l27 : List Int) (l_1 : List Int) (k3 : Int) : m_ref29_Set_L1 std i4 l27 l_1 k3 =
((Option.bind (
    bif (decide (k3 < (((List.length l27) : Nat) : Int))) then
      grd (okIdx k3 ((List.length l27))) <|
      grd (okKin ((Int.toNat k3)) ((List.length l27))) <|
      grd (okIdx i4 ((List.length l_1))) <|
      grd (okKin ((Int.toNat i4)) ((List.length l_1))) <|
      (some (decide ((List.getD l27 (Int.toNat k3) 0) < (List.getD l_1 (Int.toNat i4) 0))))
    else
      (some false) : Option ((Bool))) fun x143 =>
  bif x143 then
    grd (okI .i64 ((k3 + 1))) <|
    (some (Sum.inl (k3 + 1)))
  else
    (some (Sum.inr k3))) : Option ((Int) ⊕ (Int))) := rfl
theorem m_ref29_Set_L2_eq (l_1 : List Int) (i4 : Int) (l27 : List Int) : m_ref29_Set_L2 std l_1 (i4, l27) =
((bif (decide (i4 < (((List.length l_1) : Nat) : Int))) then
    Option.bind (loop (m_ref29_Set_L1 std i4 l27 l_1) 0) fun k4 =>
    Option.bind (
      bif (decide (k4 < (((List.length l27) : Nat) : Int))) then
        grd (okIdx k4 ((List.length l27))) <|
        grd (okKin ((Int.toNat k4)) ((List.length l27))) <|
        grd (okIdx i4 ((List.length l_1))) <|
        grd (okKin ((Int.toNat i4)) ((List.length l_1))) <|
        (some ((List.getD l27 (Int.toNat k4) 0) == (List.getD l_1 (Int.toNat i4) 0)))
      else
        (some false) : Option ((Bool))) fun x145 =>
    bif x145 then
      grd (okI .i64 ((i4 + 1))) <|
      (some (Sum.inl ((i4 + 1), l27)))
    else
      grd (okRng k4 ((List.length l27))) <|
      grd (okRoom ((List.length ([] : List Int)))) <|
      grd (okRoom ((List.length (List.take ((Int.toNat k4) - 0) (List.drop 0 l27))))) <|
      grd (okIdx i4 ((List.length l_1))) <|
      grd (okKin ((Int.toNat i4)) ((List.length l_1))) <|
      grd (okRoom ((List.length (([] : List Int) ++ (List.take ((Int.toNat k4) - 0) (List.drop 0 l27)))))) <|
      grd (okRoom ((List.length [(List.getD l_1 (Int.toNat i4) 0)]))) <|
      grd (okRoom ((List.length ((([] : List Int) ++ (List.take ((Int.toNat k4) - 0) (List.drop 0 l27))) ++ [(List.getD l_1 (Int.toNat i4) 0)])))) <|
      grd (okRoom ((List.length (List.take ((List.length l27) - (Int.toNat k4)) (List.drop (Int.toNat k4) l27))))) <|
      grd (okI .i64 ((i4 + 1))) <|
      (some (Sum.inl ((i4 + 1), (((([] : List Int) ++ (List.take ((Int.toNat k4) - 0) (List.drop 0 l27))) ++ [(List.getD l_1 (Int.toNat i4) 0)]) ++ (List.take ((List.length l27) - (Int.toNat k4)) (List.drop (Int.toNat k4) l27))))))
  else
    (some (Sum.inr l27))) : Option ((Int × List Int) ⊕ (List Int))) := rfl
theorem m_ref29_Set_eq (l_1 : List Int) : m_ref29_Set std l_1 =
((Option.bind (loop (m_ref29_Set_L2 std l_1) (0, ([] : List Int))) fun l28 =>
  (some l28)) : Option (List Int)) := rfl
theorem m_ref29_number_eq (other_1 : Int) (l_1 : List Int) : m_ref29_number std other_1 l_1 =
((bif ((((List.length l_1) : Nat) : Int) == 0) then
    (some other_1)
  else
    Option.bind (m_ref29_Set std l_1) fun l29 =>
    (some (((List.length l29) : Nat) : Int))) : Option (Int)) := rfl
theorem m_ref29_Valid_eq (r_1 : Int) (r_2 : Int) (r_3 : Int) (r_4 : Int) (r_5 : Int) (r_6 : List Int) (r_7 : List Int) (r_8 : List Int) (r_9 : List Int) (r_10 : List (Int × Int)) (r_11 : List Int) (r_12 : List Int) (r_13 : List Int) (r_14 : List Int) : m_ref29_Valid std r_1 r_2 r_3 r_4 r_5 r_6 r_7 r_8 r_9 r_10 r_11 r_12 r_13 r_14 =
((Option.bind (
    bif (decide (r_1 < 1)) then
      (some true)
    else
      bif (decide (5 < r_1)) then
        (some true)
      else
        bif (decide (r_2 < 1)) then
          (some true)
        else
          bif (decide (1000 < r_2)) then
            (some true)
          else
            bif (decide (r_3 < 0)) then
              (some true)
            else
              bif (decide (1000 < r_3)) then
                (some true)
              else
                bif (!(r_4 == 0)) then
                  Option.bind (m_ref29_Local std r_4) fun b31 =>
                  bif (!b31) then
                    (some true)
                  else
                    bif (!(r_3 == 0)) then
                      (some true)
                    else
                      bif (decide (r_5 < 1)) then
                        (some true)
                      else
                        (some (decide (7 < r_5)))
                else
                  bif (decide (r_5 < 1)) then
                    (some true)
                  else
                    (some (decide (7 < r_5))) : Option ((Bool))) fun x125 =>
  bif x125 then
    (some false)
  else
    Option.bind (
      Option.bind (m_ref29_within std 1 12 false r_6) fun b32 =>
      bif (!b32) then
        (some true)
      else
        Option.bind (m_ref29_within std 1 31 true r_7) fun b33 =>
        bif (!b33) then
          (some true)
        else
          Option.bind (m_ref29_within std 1 366 true r_8) fun b34 =>
          bif (!b34) then
            (some true)
          else
            Option.bind (m_ref29_within std 1 53 true r_9) fun b35 =>
            bif (!b35) then
              (some true)
            else
              Option.bind (m_ref29_within std 0 23 false r_11) fun b36 =>
              bif (!b36) then
                (some true)
              else
                Option.bind (m_ref29_within std 0 59 false r_12) fun b37 =>
                bif (!b37) then
                  (some true)
                else
                  Option.bind (m_ref29_within std 0 59 false r_13) fun b38 =>
                  bif (!b38) then
                    (some true)
                  else
                    Option.bind (m_ref29_within std 1 366 true r_14) fun b39 =>
                    bif (!b39) then
                      (some true)
                    else
                      Option.bind (m_ref29_days std r_1 r_2 r_3 r_4 r_5 r_6 r_7 r_8 r_9 r_10 r_11 r_12 r_13 r_14) fun b40 =>
                      bif (!b40) then
                        (some true)
                      else
                        bif (decide (0 < (((List.length r_9) : Nat) : Int))) then
                          (some (!(r_1 == 1)))
                        else
                          (some false) : Option ((Bool))) fun x137 =>
    bif x137 then
      (some false)
    else
      Option.bind (
        bif (r_1 == 5) then
          (some 24)
        else
          (some 1) : Option ((Int))) fun hours2 =>
      Option.bind (m_ref29_number std hours2 r_11) fun n62 =>
      Option.bind (m_ref29_number std 1 r_12) fun n63 =>
      grd (okI .i64 ((n62 * n63))) <|
      Option.bind (m_ref29_number std 1 r_13) fun n64 =>
      grd (okI .i64 (((n62 * n63) * n64))) <|
      (some (decide (((n62 * n63) * n64) ≤ 1440)))) : Option (Bool)) := rfl
theorem m_law29_long_eq (r_1 : Int) (r_2 : Int) (r_3 : Int) (r_4 : Int) (r_5 : Int) (r_6 : List Int) (r_7 : List Int) (r_8 : List Int) (r_9 : List Int) (r_10 : List (Int × Int)) (r_11 : List Int) (r_12 : List Int) (r_13 : List Int) (r_14 : List Int) : m_law29_long std r_1 r_2 r_3 r_4 r_5 r_6 r_7 r_8 r_9 r_10 r_11 r_12 r_13 r_14 =
((Option.bind (
    bif (decide (100 < (((List.length r_6) : Nat) : Int))) then
      (some true)
    else
      bif (decide (100 < (((List.length r_7) : Nat) : Int))) then
        (some true)
      else
        bif (decide (100 < (((List.length r_8) : Nat) : Int))) then
          (some true)
        else
          bif (decide (100 < (((List.length r_9) : Nat) : Int))) then
            (some true)
          else
            bif (decide (100 < (((List.length r_10) : Nat) : Int))) then
              (some true)
            else
              bif (decide (100 < (((List.length r_11) : Nat) : Int))) then
                (some true)
              else
                bif (decide (100 < (((List.length r_12) : Nat) : Int))) then
                  (some true)
                else
                  bif (decide (100 < (((List.length r_13) : Nat) : Int))) then
                    (some true)
                  else
                    (some (decide (100 < (((List.length r_14) : Nat) : Int)))) : Option ((Bool))) fun x147 =>
  (some x147)) : Option (Bool)) := rfl
end Go.Proofs.YtmnhfaaaaejpaaaGreat
