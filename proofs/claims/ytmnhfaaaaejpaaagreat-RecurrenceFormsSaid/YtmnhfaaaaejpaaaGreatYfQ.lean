/-
  Equations of models (printed by lift.py).
-/
import Derived.Test.YtmnhfaaaaejpaaaGreatYfM
namespace Go.Proofs.YtmnhfaaaaejpaaaGreat.R
open Go.RowKit Go.Proofs.YtmnhfaaaaejpaaaGreat
set_option maxRecDepth 100000

theorem m_recurrence_Matches_eq (r_1 : Int) (r_2 : Int) (r_3 : Int) (r_4 : Int) (r_5 : Int) (start_1 : Int) (l_1 : Int) (r_6 : List Int) (r_7 : List Int) (r_8 : List Int) (r_9 : List Int) (r_10 : List (Int × Int)) (r_11 : List Int) (r_12 : List Int) (r_13 : List Int) (r_14 : List Int) : m_recurrence_Matches std r_1 r_2 r_3 r_4 r_5 start_1 l_1 r_6 r_7 r_8 r_9 r_10 r_11 r_12 r_13 r_14 =
((Option.bind (m_recurrence_given std r_1 r_2 r_3 r_4 r_5 start_1 r_6 r_7 r_8 r_9 r_10 r_11 r_12 r_13 r_14) fun n65 =>
  bif (!(n65 == 0)) then
    (some (false, n65))
  else
    Option.bind (m_recurrence_local std l_1) fun b41 =>
    bif (!b41) then
      (some (false, 2))
    else
      Option.bind (m_integer_Floor std l_1 86400) fun n66 =>
      Option.bind (
        bif (decide (l_1 < start_1)) then
          (some true)
        else
          bif (!(r_4 == 0)) then
            bif (decide (r_4 < l_1)) then
              (some true)
            else
              Option.bind (m_recurrence_number std r_1 r_2 r_3 r_4 r_5 l_1 r_6 r_7 r_8 r_9 r_10 r_11 r_12 r_13 r_14) fun n67 =>
              Option.bind (m_recurrence_number std r_1 r_2 r_3 r_4 r_5 start_1 r_6 r_7 r_8 r_9 r_10 r_11 r_12 r_13 r_14) fun n68 =>
              grd (okI .i64 ((n67 - n68))) <|
              grd (okNz r_2) <|
              (some (!((Int.tmod (n67 - n68) r_2) == 0)))
          else
            Option.bind (m_recurrence_number std r_1 r_2 r_3 r_4 r_5 l_1 r_6 r_7 r_8 r_9 r_10 r_11 r_12 r_13 r_14) fun n69 =>
            Option.bind (m_recurrence_number std r_1 r_2 r_3 r_4 r_5 start_1 r_6 r_7 r_8 r_9 r_10 r_11 r_12 r_13 r_14) fun n70 =>
            grd (okI .i64 ((n69 - n70))) <|
            grd (okNz r_2) <|
            (some (!((Int.tmod (n69 - n70) r_2) == 0))) : Option ((Bool))) fun x150 =>
      bif x150 then
        (some (false, 0))
      else
        Option.bind (
          Option.bind (m_recurrence_times std r_1 r_2 r_3 r_4 r_5 start_1 r_6 r_7 r_8 r_9 r_10 r_11 r_12 r_13 r_14) fun l30 =>
          Option.bind (m_integer_Mod std l_1 86400) fun n71 =>
          Option.bind (m_slices_Contains std n71 l30) fun b42 =>
          bif (!b42) then
            (some true)
          else
            Option.bind (m_integer_Floor std start_1 86400) fun n72 =>
            Option.bind (m_recurrence_dateOf std n72) fun (n73, n74, n75, n76, n77, n78, n79, n80) =>
            Option.bind (m_recurrence_passes std r_1 r_2 r_3 r_4 r_5 n73 n74 n75 n76 n77 n78 n79 n80 n66 r_6 r_7 r_8 r_9 r_10 r_11 r_12 r_13 r_14) fun b43 =>
            (some (!b43)) : Option ((Bool))) fun x152 =>
        bif x152 then
          (some (false, 0))
        else
          bif ((((List.length r_14) : Nat) : Int) == 0) then
            (some (true, 0))
          else
            Option.bind (m_recurrence_place std r_1 r_2 r_3 r_4 r_5 start_1 l_1 r_6 r_7 r_8 r_9 r_10 r_11 r_12 r_13 r_14) fun (n81, n82) =>
            Option.bind (m_recurrence_counted std n81 n82 r_14) fun b44 =>
            (some (b44, 0))) : Option (Bool × Int)) := rfl
theorem m_law29_awake_eq : m_law29_awake std =
((Option.bind (m_recurrence_Matches std 4 2 0 0 1 0 345600 (([] : List Int)) (([] : List Int)) (([] : List Int)) (([] : List Int)) (([] : List (Int × Int))) (([] : List Int)) (([] : List Int)) (([] : List Int)) (([] : List Int))) fun (b45, n83) =>
  Option.bind (m_recurrence_Matches std 2 1 0 0 1 0 2505600 (([] : List Int)) (([] : List Int)) (([] : List Int)) (([] : List Int)) ([((-1), 5)]) (([] : List Int)) (([] : List Int)) (([] : List Int)) (([] : List Int))) fun (b46, n84) =>
  Option.bind (
    bif b45 then
      bif (n83 == 0) then
        bif b46 then
          (some (n84 == 0))
        else
          (some false)
      else
        (some false)
    else
      (some false) : Option ((Bool))) fun x156 =>
  (some x156)) : Option (Bool)) := rfl
theorem m_recurrence_Canonical_eq (r_1 : Int) (r_2 : Int) (r_3 : Int) (r_4 : Int) (r_5 : Int) (r_6 : List Int) (r_7 : List Int) (r_8 : List Int) (r_9 : List Int) (r_10 : List (Int × Int)) (r_11 : List Int) (r_12 : List Int) (r_13 : List Int) (r_14 : List Int) : m_recurrence_Canonical std r_1 r_2 r_3 r_4 r_5 r_6 r_7 r_8 r_9 r_10 r_11 r_12 r_13 r_14 =
((Option.bind (m_recurrence_Valid std r_1 r_2 r_3 r_4 r_5 r_6 r_7 r_8 r_9 r_10 r_11 r_12 r_13 r_14) fun b51 =>
  bif (!b51) then
    (some (0, 0, 0, 0, ([] : List Int), ([] : List Int), ([] : List Int), ([] : List Int), ([] : List (Int × Int)), ([] : List Int), ([] : List Int), ([] : List Int), ([] : List Int), 0, 1))
  else
    Option.bind (m_recurrence_set std r_6) fun l31 =>
    grd (okI .i64 ((0 + 1))) <|
    Option.bind (m_recurrence_set std r_7) fun l32 =>
    grd (okI .i64 ((1 + 1))) <|
    Option.bind (m_recurrence_set std r_8) fun l33 =>
    grd (okI .i64 ((2 + 1))) <|
    Option.bind (m_recurrence_set std r_9) fun l34 =>
    grd (okI .i64 ((3 + 1))) <|
    Option.bind (m_recurrence_set std r_11) fun l35 =>
    grd (okI .i64 ((4 + 1))) <|
    Option.bind (m_recurrence_set std r_12) fun l36 =>
    grd (okI .i64 ((5 + 1))) <|
    Option.bind (m_recurrence_set std r_13) fun l37 =>
    grd (okI .i64 ((6 + 1))) <|
    Option.bind (m_recurrence_set std r_14) fun l38 =>
    grd (okI .i64 ((7 + 1))) <|
    Option.bind (m_clone_i2 std r_10) fun l39 =>
    Option.bind (m_sortOr std l39) fun l40 =>
    Option.bind (m_compOr std l40) fun l41 =>
    (some (r_1, r_2, r_3, r_4, l31, l32, l33, l34, l41, l35, l36, l37, l38, r_5, 0))) : Option (Int × Int × Int × Int × List Int × List Int × List Int × List Int × List (Int × Int) × List Int × List Int × List Int × List Int × Int × Int)) := rfl
theorem m_ref29_same_L1_eq (a_1 : List Int) (b_1 : List Int) (i6 : Int) : m_ref29_same_L1 std a_1 b_1 i6 =
((bif (decide (i6 < (((List.length a_1) : Nat) : Int))) then
    grd (okIdx i6 ((List.length a_1))) <|
    grd (okKin ((Int.toNat i6)) ((List.length a_1))) <|
    grd (okIdx i6 ((List.length b_1))) <|
    grd (okKin ((Int.toNat i6)) ((List.length b_1))) <|
    bif (!((List.getD a_1 (Int.toNat i6) 0) == (List.getD b_1 (Int.toNat i6) 0))) then
      (some (Sum.inr (Sum.inl ())))
    else
      grd (okI .i64 ((i6 + 1))) <|
      (some (Sum.inl (i6 + 1)))
  else
    (some (Sum.inr (Sum.inr ())))) : Option ((Int) ⊕ ((Unit) ⊕ (Unit)))) := rfl
theorem m_ref29_same_eq (a_1 : List Int) (b_1 : List Int) : m_ref29_same std a_1 b_1 =
((bif (!((((List.length a_1) : Nat) : Int) == (((List.length b_1) : Nat) : Int))) then
    (some false)
  else
    Option.bind (loop (m_ref29_same_L1 std a_1 b_1) 0) fun e => match e with
    | .inl _ =>
      (some false)
    | .inr (_) =>
      (some true)) : Option (Bool)) := rfl
theorem m_ref29_Same_L1_eq (a_10 : List (Int × Int)) (b_10 : List (Int × Int)) (i5 : Int) : m_ref29_Same_L1 std a_10 b_10 i5 =
((bif (decide (i5 < (((List.length a_10) : Nat) : Int))) then
    grd (okIdx i5 ((List.length a_10))) <|
    grd (okKin ((Int.toNat i5)) ((List.length a_10))) <|
    grd (okIdx i5 ((List.length b_10))) <|
    grd (okKin ((Int.toNat i5)) ((List.length b_10))) <|
    bif (!(((List.getD a_10 (Int.toNat i5) (0, 0)).1 == (List.getD b_10 (Int.toNat i5) (0, 0)).1) && ((List.getD a_10 (Int.toNat i5) (0, 0)).2 == (List.getD b_10 (Int.toNat i5) (0, 0)).2))) then
      (some (Sum.inr (Sum.inl ())))
    else
      grd (okI .i64 ((i5 + 1))) <|
      (some (Sum.inl (i5 + 1)))
  else
    (some (Sum.inr (Sum.inr ())))) : Option ((Int) ⊕ ((Unit) ⊕ (Unit)))) := rfl
theorem m_ref29_Same_eq (a_1 : Int) (a_2 : Int) (a_3 : Int) (a_4 : Int) (a_5 : Int) (b_1 : Int) (b_2 : Int) (b_3 : Int) (b_4 : Int) (b_5 : Int) (a_6 : List Int) (a_7 : List Int) (a_8 : List Int) (a_9 : List Int) (a_10 : List (Int × Int)) (a_11 : List Int) (a_12 : List Int) (a_13 : List Int) (a_14 : List Int) (b_6 : List Int) (b_7 : List Int) (b_8 : List Int) (b_9 : List Int) (b_10 : List (Int × Int)) (b_11 : List Int) (b_12 : List Int) (b_13 : List Int) (b_14 : List Int) : m_ref29_Same std a_1 a_2 a_3 a_4 a_5 b_1 b_2 b_3 b_4 b_5 a_6 a_7 a_8 a_9 a_10 a_11 a_12 a_13 a_14 b_6 b_7 b_8 b_9 b_10 b_11 b_12 b_13 b_14 =
((Option.bind (
    bif (!(a_1 == b_1)) then
      (some true)
    else
      bif (!(a_2 == b_2)) then
        (some true)
      else
        bif (!(a_3 == b_3)) then
          (some true)
        else
          bif (!(a_4 == b_4)) then
            (some true)
          else
            bif (!(a_5 == b_5)) then
              (some true)
            else
              (some (!((((List.length a_10) : Nat) : Int) == (((List.length b_10) : Nat) : Int)))) : Option ((Bool))) fun x160 =>
  bif x160 then
    (some false)
  else
    Option.bind (loop (m_ref29_Same_L1 std a_10 b_10) 0) fun e => match e with
    | .inl _ =>
      (some false)
    | .inr (_) =>
      Option.bind (
        Option.bind (m_ref29_same std a_6 b_6) fun b54 =>
        bif b54 then
          Option.bind (m_ref29_same std a_7 b_7) fun b55 =>
          bif b55 then
            Option.bind (m_ref29_same std a_8 b_8) fun b56 =>
            bif b56 then
              Option.bind (m_ref29_same std a_9 b_9) fun b57 =>
              bif b57 then
                Option.bind (m_ref29_same std a_11 b_11) fun b58 =>
                bif b58 then
                  Option.bind (m_ref29_same std a_12 b_12) fun b59 =>
                  bif b59 then
                    Option.bind (m_ref29_same std a_13 b_13) fun b60 =>
                    bif b60 then
                      Option.bind (m_ref29_same std a_14 b_14) fun b61 =>
                      (some b61)
                    else
                      (some false)
                  else
                    (some false)
                else
                  (some false)
              else
                (some false)
            else
              (some false)
          else
            (some false)
        else
          (some false) : Option ((Bool))) fun x168 =>
      (some x168)) : Option (Bool)) := rfl
theorem m_slices_Equal_L1_eq (s1_1 : List (Int × Int)) (s2_1 : List (Int × Int)) (x169 : Int) : m_slices_Equal_L1 std s1_1 s2_1 x169 =
((bif (decide (x169 < (((List.length s1_1) : Nat) : Int))) then
    grd (okIdx x169 ((List.length s1_1))) <|
    grd (okKin ((Int.toNat x169)) ((List.length s1_1))) <|
    grd (okIdx x169 ((List.length s2_1))) <|
    grd (okKin ((Int.toNat x169)) ((List.length s2_1))) <|
    bif (!(((List.getD s1_1 (Int.toNat x169) (0, 0)).1 == (List.getD s2_1 (Int.toNat x169) (0, 0)).1) && ((List.getD s1_1 (Int.toNat x169) (0, 0)).2 == (List.getD s2_1 (Int.toNat x169) (0, 0)).2))) then
      (some (Sum.inr (Sum.inl ())))
    else
      grd (okI .i64 ((x169 + 1))) <|
      (some (Sum.inl (x169 + 1)))
  else
    (some (Sum.inr (Sum.inr ())))) : Option ((Int) ⊕ ((Unit) ⊕ (Unit)))) := rfl
theorem m_slices_Equal_eq (s1_1 : List (Int × Int)) (s2_1 : List (Int × Int)) : m_slices_Equal std s1_1 s2_1 =
((bif (!((((List.length s1_1) : Nat) : Int) == (((List.length s2_1) : Nat) : Int))) then
    (some false)
  else
    Option.bind (loop (m_slices_Equal_L1 std s1_1 s2_1) 0) fun e => match e with
    | .inl _ =>
      (some false)
    | .inr (_) =>
      (some true)) : Option (Bool)) := rfl
theorem m_slices_Equal_2_L1_eq (s1_1 : List Int) (s2_1 : List Int) (x172 : Int) : m_slices_Equal_2_L1 std s1_1 s2_1 x172 =
((bif (decide (x172 < (((List.length s1_1) : Nat) : Int))) then
    grd (okIdx x172 ((List.length s1_1))) <|
    grd (okKin ((Int.toNat x172)) ((List.length s1_1))) <|
    grd (okIdx x172 ((List.length s2_1))) <|
    grd (okKin ((Int.toNat x172)) ((List.length s2_1))) <|
    bif (!((List.getD s1_1 (Int.toNat x172) 0) == (List.getD s2_1 (Int.toNat x172) 0))) then
      (some (Sum.inr (Sum.inl ())))
    else
      grd (okI .i64 ((x172 + 1))) <|
      (some (Sum.inl (x172 + 1)))
  else
    (some (Sum.inr (Sum.inr ())))) : Option ((Int) ⊕ ((Unit) ⊕ (Unit)))) := rfl
theorem m_slices_Equal_2_eq (s1_1 : List Int) (s2_1 : List Int) : m_slices_Equal_2 std s1_1 s2_1 =
((bif (!((((List.length s1_1) : Nat) : Int) == (((List.length s2_1) : Nat) : Int))) then
    (some false)
  else
    Option.bind (loop (m_slices_Equal_2_L1 std s1_1 s2_1) 0) fun e => match e with
    | .inl _ =>
      (some false)
    | .inr (_) =>
      (some true)) : Option (Bool)) := rfl
theorem m_recurrence_Equal_1_eq (a_1 : List Int) (b_1 : List Int) : m_recurrence_Equal_1 std a_1 b_1 =
((Option.bind (m_slices_Equal_2 std a_1 b_1) fun b64 =>
  (some b64)) : Option (Bool)) := rfl
theorem m_slices_EqualFunc_eq (s1_1 : List Int) (s1_2 : List Int) (s1_3 : List Int) (s1_4 : List Int) (s1_5 : List Int) (s1_6 : List Int) (s1_7 : List Int) (s1_8 : List Int) (s2_1 : List Int) (s2_2 : List Int) (s2_3 : List Int) (s2_4 : List Int) (s2_5 : List Int) (s2_6 : List Int) (s2_7 : List Int) (s2_8 : List Int) : m_slices_EqualFunc std s1_1 s1_2 s1_3 s1_4 s1_5 s1_6 s1_7 s1_8 s2_1 s2_2 s2_3 s2_4 s2_5 s2_6 s2_7 s2_8 =
((Option.bind (m_recurrence_Equal_1 std s1_1 s2_1) fun b65 =>
  bif (!b65) then
    (some false)
  else
    grd (okI .i64 ((0 + 1))) <|
    Option.bind (m_recurrence_Equal_1 std s1_2 s2_2) fun b66 =>
    bif (!b66) then
      (some false)
    else
      grd (okI .i64 ((1 + 1))) <|
      Option.bind (m_recurrence_Equal_1 std s1_3 s2_3) fun b67 =>
      bif (!b67) then
        (some false)
      else
        grd (okI .i64 ((2 + 1))) <|
        Option.bind (m_recurrence_Equal_1 std s1_4 s2_4) fun b68 =>
        bif (!b68) then
          (some false)
        else
          grd (okI .i64 ((3 + 1))) <|
          Option.bind (m_recurrence_Equal_1 std s1_5 s2_5) fun b69 =>
          bif (!b69) then
            (some false)
          else
            grd (okI .i64 ((4 + 1))) <|
            Option.bind (m_recurrence_Equal_1 std s1_6 s2_6) fun b70 =>
            bif (!b70) then
              (some false)
            else
              grd (okI .i64 ((5 + 1))) <|
              Option.bind (m_recurrence_Equal_1 std s1_7 s2_7) fun b71 =>
              bif (!b71) then
                (some false)
              else
                grd (okI .i64 ((6 + 1))) <|
                Option.bind (m_recurrence_Equal_1 std s1_8 s2_8) fun b72 =>
                bif (!b72) then
                  (some false)
                else
                  grd (okI .i64 ((7 + 1))) <|
                  (some true)) : Option (Bool)) := rfl
theorem m_recurrence_Equal_eq (a_1 : Int) (a_2 : Int) (a_3 : Int) (a_4 : Int) (a_5 : Int) (b_1 : Int) (b_2 : Int) (b_3 : Int) (b_4 : Int) (b_5 : Int) (a_6 : List Int) (a_7 : List Int) (a_8 : List Int) (a_9 : List Int) (a_10 : List (Int × Int)) (a_11 : List Int) (a_12 : List Int) (a_13 : List Int) (a_14 : List Int) (b_6 : List Int) (b_7 : List Int) (b_8 : List Int) (b_9 : List Int) (b_10 : List (Int × Int)) (b_11 : List Int) (b_12 : List Int) (b_13 : List Int) (b_14 : List Int) : m_recurrence_Equal std a_1 a_2 a_3 a_4 a_5 b_1 b_2 b_3 b_4 b_5 a_6 a_7 a_8 a_9 a_10 a_11 a_12 a_13 a_14 b_6 b_7 b_8 b_9 b_10 b_11 b_12 b_13 b_14 =
((Option.bind (m_recurrence_Canonical std a_1 a_2 a_3 a_4 a_5 a_6 a_7 a_8 a_9 a_10 a_11 a_12 a_13 a_14) fun (n91, n92, n93, n94, l51, l52, l53, l54, l55, l56, l57, l58, l59, n95, n96) =>
  Option.bind (m_recurrence_Canonical std b_1 b_2 b_3 b_4 b_5 b_6 b_7 b_8 b_9 b_10 b_11 b_12 b_13 b_14) fun (n97, n98, n99, n100, l60, l61, l62, l63, l64, l65, l66, l67, l68, n101, n102) =>
  Option.bind (
    bif (!(n96 == 0)) then
      (some true)
    else
      bif (!(n102 == 0)) then
        (some true)
      else
        bif (!(n91 == n97)) then
          (some true)
        else
          bif (!(n92 == n98)) then
            (some true)
          else
            bif (!(n93 == n99)) then
              (some true)
            else
              bif (!(n94 == n100)) then
                (some true)
              else
                bif (!(n95 == n101)) then
                  (some true)
                else
                  Option.bind (m_slices_Equal std l55 l64) fun b63 =>
                  (some (!b63)) : Option ((Bool))) fun x171 =>
  bif x171 then
    (some false)
  else
    Option.bind (m_slices_EqualFunc std l51 l52 l53 l54 l56 l57 l58 l59 l60 l61 l62 l63 l65 l66 l67 l68) fun b73 =>
    (some b73)) : Option (Bool)) := rfl
theorem m_recurrence_Endless_eq (r_1 : Int) (r_2 : Int) (r_3 : Int) (r_4 : Int) (r_5 : Int) (r_6 : List Int) (r_7 : List Int) (r_8 : List Int) (r_9 : List Int) (r_10 : List (Int × Int)) (r_11 : List Int) (r_12 : List Int) (r_13 : List Int) (r_14 : List Int) : m_recurrence_Endless std r_1 r_2 r_3 r_4 r_5 r_6 r_7 r_8 r_9 r_10 r_11 r_12 r_13 r_14 =
((Option.bind (
    Option.bind (m_recurrence_Valid std r_1 r_2 r_3 r_4 r_5 r_6 r_7 r_8 r_9 r_10 r_11 r_12 r_13 r_14) fun b75 =>
    bif b75 then
      bif (r_3 == 0) then
        (some (r_4 == 0))
      else
        (some false)
    else
      (some false) : Option ((Bool))) fun x175 =>
  (some x175)) : Option (Bool)) := rfl
theorem m_ref29_Ordinals_L1_eq (l_1 : List (Int × Int)) (i8 : Int) (l77 : List Int) : m_ref29_Ordinals_L1 std l_1 (i8, l77) =
((bif (decide (i8 < (((List.length l_1) : Nat) : Int))) then
    grd (okIdx i8 ((List.length l_1))) <|
    grd (okKin ((Int.toNat i8)) ((List.length l_1))) <|
    grd (okI .i64 ((200 * (List.getD l_1 (Int.toNat i8) (0, 0)).2))) <|
    grd (okI .i64 (((200 * (List.getD l_1 (Int.toNat i8) (0, 0)).2) + (List.getD l_1 (Int.toNat i8) (0, 0)).1))) <|
    grd (okI .i64 ((((200 * (List.getD l_1 (Int.toNat i8) (0, 0)).2) + (List.getD l_1 (Int.toNat i8) (0, 0)).1) + 100))) <|
    grd (okRoom ((List.length l77))) <|
    grd (okRoom ((List.length [(((200 * (List.getD l_1 (Int.toNat i8) (0, 0)).2) + (List.getD l_1 (Int.toNat i8) (0, 0)).1) + 100)]))) <|
    grd (okI .i64 ((i8 + 1))) <|
    (some (Sum.inl ((i8 + 1), (l77 ++ [(((200 * (List.getD l_1 (Int.toNat i8) (0, 0)).2) + (List.getD l_1 (Int.toNat i8) (0, 0)).1) + 100)]))))
  else
    (some (Sum.inr l77))) : Option ((Int × List Int) ⊕ (List Int))) := rfl
theorem m_ref29_Ordinals_L2_eq (l79 : List Int) (i10 : Int) (l80 : List (Int × Int)) : m_ref29_Ordinals_L2 std l79 (i10, l80) =
((bif (decide (i10 < (((List.length l79) : Nat) : Int))) then
    grd (okIdx i10 ((List.length l79))) <|
    grd (okKin ((Int.toNat i10)) ((List.length l79))) <|
    grd (okNz 200) <|
    grd (okI .i64 (((Int.tmod (List.getD l79 (Int.toNat i10) 0) 200) - 100))) <|
    grd (okI .i64 ((Int.tdiv (List.getD l79 (Int.toNat i10) 0) 200))) <|
    grd (okRoom ((List.length l80))) <|
    grd (okRoom ((List.length [(((Int.tmod (List.getD l79 (Int.toNat i10) 0) 200) - 100), (Int.tdiv (List.getD l79 (Int.toNat i10) 0) 200))]))) <|
    grd (okI .i64 ((i10 + 1))) <|
    (some (Sum.inl ((i10 + 1), (l80 ++ [(((Int.tmod (List.getD l79 (Int.toNat i10) 0) 200) - 100), (Int.tdiv (List.getD l79 (Int.toNat i10) 0) 200))]))))
  else
    (some (Sum.inr l80))) : Option ((Int × List (Int × Int)) ⊕ (List (Int × Int)))) := rfl
theorem m_ref29_Ordinals_eq (l_1 : List (Int × Int)) : m_ref29_Ordinals std l_1 =
((Option.bind (loop (m_ref29_Ordinals_L1 std l_1) (0, ([] : List Int))) fun l78 =>
  Option.bind (m_ref29_Set std l78) fun l79 =>
  Option.bind (loop (m_ref29_Ordinals_L2 std l79) (0, ([] : List (Int × Int)))) fun l81 =>
  (some l81)) : Option (List (Int × Int))) := rfl
theorem m_ref29_Canonical_eq (r_1 : Int) (r_2 : Int) (r_3 : Int) (r_4 : Int) (r_5 : Int) (r_6 : List Int) (r_7 : List Int) (r_8 : List Int) (r_9 : List Int) (r_10 : List (Int × Int)) (r_11 : List Int) (r_12 : List Int) (r_13 : List Int) (r_14 : List Int) : m_ref29_Canonical std r_1 r_2 r_3 r_4 r_5 r_6 r_7 r_8 r_9 r_10 r_11 r_12 r_13 r_14 =
((Option.bind (m_ref29_Set std r_6) fun l69 =>
  Option.bind (m_ref29_Set std r_7) fun l70 =>
  Option.bind (m_ref29_Set std r_8) fun l71 =>
  Option.bind (m_ref29_Set std r_9) fun l72 =>
  Option.bind (m_ref29_Set std r_11) fun l73 =>
  Option.bind (m_ref29_Set std r_12) fun l74 =>
  Option.bind (m_ref29_Set std r_13) fun l75 =>
  Option.bind (m_ref29_Set std r_14) fun l76 =>
  Option.bind (m_ref29_Ordinals std r_10) fun l82 =>
  (some (r_1, r_2, r_3, r_4, l69, l70, l71, l72, l82, l73, l74, l75, l76, r_5))) : Option (Int × Int × Int × Int × List Int × List Int × List Int × List Int × List (Int × Int) × List Int × List Int × List Int × List Int × Int)) := rfl
theorem m_law29_RecurrenceForms_eq (a_1 : Int) (a_2 : Int) (a_3 : Int) (a_4 : Int) (a_5 : Int) (b_1 : Int) (b_2 : Int) (b_3 : Int) (b_4 : Int) (b_5 : Int) (a_6 : List Int) (a_7 : List Int) (a_8 : List Int) (a_9 : List Int) (a_10 : List (Int × Int)) (a_11 : List Int) (a_12 : List Int) (a_13 : List Int) (a_14 : List Int) (b_6 : List Int) (b_7 : List Int) (b_8 : List Int) (b_9 : List Int) (b_10 : List (Int × Int)) (b_11 : List Int) (b_12 : List Int) (b_13 : List Int) (b_14 : List Int) : m_law29_RecurrenceForms std a_1 a_2 a_3 a_4 a_5 b_1 b_2 b_3 b_4 b_5 a_6 a_7 a_8 a_9 a_10 a_11 a_12 a_13 a_14 b_6 b_7 b_8 b_9 b_10 b_11 b_12 b_13 b_14 =
((Option.bind (
    Option.bind (m_law29_awake std) fun b47 =>
    bif (!b47) then
      (some true)
    else
      Option.bind (m_law29_long std a_1 a_2 a_3 a_4 a_5 a_6 a_7 a_8 a_9 a_10 a_11 a_12 a_13 a_14) fun b48 =>
      bif b48 then
        (some true)
      else
        Option.bind (m_law29_long std b_1 b_2 b_3 b_4 b_5 b_6 b_7 b_8 b_9 b_10 b_11 b_12 b_13 b_14) fun b49 =>
        (some b49) : Option ((Bool))) fun x158 =>
  bif x158 then
    Option.bind (m_law29_awake std) fun b50 =>
    (some b50)
  else
    Option.bind (m_recurrence_Canonical std a_1 a_2 a_3 a_4 a_5 a_6 a_7 a_8 a_9 a_10 a_11 a_12 a_13 a_14) fun (n85, n86, n87, n88, l42, l43, l44, l45, l46, l47, l48, l49, l50, n89, n90) =>
    Option.bind (m_ref29_Valid std a_1 a_2 a_3 a_4 a_5 a_6 a_7 a_8 a_9 a_10 a_11 a_12 a_13 a_14) fun b52 =>
    bif (!b52) then
      Option.bind (
        Option.bind (m_recurrence_Valid std a_1 a_2 a_3 a_4 a_5 a_6 a_7 a_8 a_9 a_10 a_11 a_12 a_13 a_14) fun b53 =>
        bif (!b53) then
          bif (n90 == 1) then
            Option.bind (m_ref29_Same std n85 n86 n87 n88 n89 0 0 0 0 0 l42 l43 l44 l45 l46 l47 l48 l49 l50 (([] : List Int)) (([] : List Int)) (([] : List Int)) (([] : List Int)) (([] : List (Int × Int))) (([] : List Int)) (([] : List Int)) (([] : List Int)) (([] : List Int))) fun b62 =>
            bif b62 then
              Option.bind (m_recurrence_Equal std a_1 a_2 a_3 a_4 a_5 b_1 b_2 b_3 b_4 b_5 a_6 a_7 a_8 a_9 a_10 a_11 a_12 a_13 a_14 b_6 b_7 b_8 b_9 b_10 b_11 b_12 b_13 b_14) fun b74 =>
              bif (!b74) then
                Option.bind (m_recurrence_Endless std a_1 a_2 a_3 a_4 a_5 a_6 a_7 a_8 a_9 a_10 a_11 a_12 a_13 a_14) fun b76 =>
                (some (!b76))
              else
                (some false)
            else
              (some false)
          else
            (some false)
        else
          (some false) : Option ((Bool))) fun x180 =>
      (some x180)
    else
      Option.bind (
        Option.bind (m_recurrence_Valid std a_1 a_2 a_3 a_4 a_5 a_6 a_7 a_8 a_9 a_10 a_11 a_12 a_13 a_14) fun b77 =>
        bif (!b77) then
          (some true)
        else
          bif (!(n90 == 0)) then
            (some true)
          else
            Option.bind (m_ref29_Canonical std a_1 a_2 a_3 a_4 a_5 a_6 a_7 a_8 a_9 a_10 a_11 a_12 a_13 a_14) fun (n103, n104, n105, n106, l83, l84, l85, l86, l87, l88, l89, l90, l91, n107) =>
            Option.bind (m_ref29_Same std n85 n86 n87 n88 n89 n103 n104 n105 n106 n107 l42 l43 l44 l45 l46 l47 l48 l49 l50 l83 l84 l85 l86 l87 l88 l89 l90 l91) fun b78 =>
            bif (!b78) then
              (some true)
            else
              Option.bind (m_recurrence_Equal std a_1 a_2 a_3 a_4 a_5 n85 n86 n87 n88 n89 a_6 a_7 a_8 a_9 a_10 a_11 a_12 a_13 a_14 l42 l43 l44 l45 l46 l47 l48 l49 l50) fun b79 =>
              bif (!b79) then
                (some true)
              else
                Option.bind (m_recurrence_Endless std a_1 a_2 a_3 a_4 a_5 a_6 a_7 a_8 a_9 a_10 a_11 a_12 a_13 a_14) fun b80 =>
                bif (a_3 == 0) then
                  (some (!(b80 == (a_4 == 0))))
                else
                  (some (!(b80 == false))) : Option ((Bool))) fun x183 =>
      bif x183 then
        (some false)
      else
        Option.bind (
          Option.bind (m_recurrence_Equal std a_1 a_2 a_3 a_4 a_5 b_1 b_2 b_3 b_4 b_5 a_6 a_7 a_8 a_9 a_10 a_11 a_12 a_13 a_14 b_6 b_7 b_8 b_9 b_10 b_11 b_12 b_13 b_14) fun b81 =>
          Option.bind (m_ref29_Valid std b_1 b_2 b_3 b_4 b_5 b_6 b_7 b_8 b_9 b_10 b_11 b_12 b_13 b_14) fun b82 =>
          bif b82 then
            Option.bind (m_ref29_Canonical std a_1 a_2 a_3 a_4 a_5 a_6 a_7 a_8 a_9 a_10 a_11 a_12 a_13 a_14) fun (n108, n109, n110, n111, l92, l93, l94, l95, l96, l97, l98, l99, l100, n112) =>
            Option.bind (m_ref29_Canonical std b_1 b_2 b_3 b_4 b_5 b_6 b_7 b_8 b_9 b_10 b_11 b_12 b_13 b_14) fun (n113, n114, n115, n116, l101, l102, l103, l104, l105, l106, l107, l108, l109, n117) =>
            Option.bind (m_ref29_Same std n108 n109 n110 n111 n112 n113 n114 n115 n116 n117 l92 l93 l94 l95 l96 l97 l98 l99 l100 l101 l102 l103 l104 l105 l106 l107 l108 l109) fun b83 =>
            (some (b81 == b83))
          else
            (some (b81 == false)) : Option ((Bool))) fun x185 =>
        (some x185)) : Option (Bool)) := rfl
end Go.Proofs.YtmnhfaaaaejpaaaGreat.R
