/-
  Equations of models (printed by lift.py).
-/
import Derived.Test.YtkdffpncpikdmaaGreatZM
namespace Go.Proofs.YtkdffpncpikdmaaGreat
open Go.RowKit
set_option maxRecDepth 100000

theorem m_law35_rect_eq (a_1 : Int) (b_1 : Int) (c_1 : Int) (d_1 : Int) : m_law35_rect std a_1 b_1 c_1 d_1 =
(((some (a_1, b_1, c_1, d_1))) : Option (Int × Int × Int × Int)) := rfl
theorem m_rectangle_isSpan_eq (s_1 : Int) (s_2 : Int) : m_rectangle_isSpan std s_1 s_2 =
((Option.bind (
    bif (decide ((-62135596800) ≤ s_1)) then
      bif (decide (s_1 < s_2)) then
        (some (decide (s_2 ≤ 253402300800)))
      else
        (some false)
    else
      (some false) : Option ((Bool))) fun x4 =>
  (some x4)) : Option (Bool)) := rfl
theorem m_rectangle_Valid_eq (r_1 : Int) (r_2 : Int) (r_3 : Int) (r_4 : Int) : m_rectangle_Valid std r_1 r_2 r_3 r_4 =
((Option.bind (
    Option.bind (m_rectangle_isSpan std r_1 r_2) fun b1 =>
    bif b1 then
      Option.bind (m_rectangle_isSpan std r_3 r_4) fun b2 =>
      (some b2)
    else
      (some false) : Option ((Bool))) fun x6 =>
  (some x6)) : Option (Bool)) := rfl
theorem m_rectangle_check_1_eq (r_1 : Int) (r_2 : Int) (r_3 : Int) (r_4 : Int) : m_rectangle_check_1 std r_1 r_2 r_3 r_4 =
((Option.bind (m_rectangle_Valid std r_1 r_2 r_3 r_4) fun b3 =>
  (some (!b3))) : Option (Bool)) := rfl
theorem m_slices_IndexFunc_L1_eq (s_1 : List (Int × Int × Int × Int)) (x1 : Int) : m_slices_IndexFunc_L1 std s_1 x1 =
((bif (decide (x1 < (((List.length s_1) : Nat) : Int))) then
    grd (okIdx x1 ((List.length s_1))) <|
    grd (okKin ((Int.toNat x1)) ((List.length s_1))) <|
    Option.bind (m_rectangle_check_1 std ((List.getD s_1 (Int.toNat x1) (0, 0, 0, 0)).1) ((List.getD s_1 (Int.toNat x1) (0, 0, 0, 0)).2.1) ((List.getD s_1 (Int.toNat x1) (0, 0, 0, 0)).2.2.1) ((List.getD s_1 (Int.toNat x1) (0, 0, 0, 0)).2.2.2)) fun b4 =>
    bif b4 then
      (some (Sum.inr (Sum.inl x1)))
    else
      grd (okI .i64 ((x1 + 1))) <|
      (some (Sum.inl (x1 + 1)))
  else
    (some (Sum.inr (Sum.inr ())))) : Option ((Int) ⊕ ((Int) ⊕ (Unit)))) := rfl
theorem m_slices_IndexFunc_eq (s_1 : List (Int × Int × Int × Int)) : m_slices_IndexFunc std s_1 =
((Option.bind (loop (m_slices_IndexFunc_L1 std s_1) 0) fun e => match e with
  | .inl x7 =>
    (some x7)
  | .inr (_) =>
    (some (-1))) : Option (Int)) := rfl
theorem m_slices_ContainsFunc_eq (s_1 : List (Int × Int × Int × Int)) : m_slices_ContainsFunc std s_1 =
((Option.bind (m_slices_IndexFunc std s_1) fun n9 =>
  (some (decide (0 ≤ n9)))) : Option (Bool)) := rfl
theorem m_rectangle_check_eq (lists_1 : List (Int × Int × Int × Int)) (lists_2 : List (Int × Int × Int × Int)) : m_rectangle_check std lists_1 lists_2 =
((Option.bind (m_slices_ContainsFunc std lists_1) fun b5 =>
  bif b5 then
    (some 1)
  else
    grd (okI .i64 ((0 + 1))) <|
    Option.bind (m_slices_ContainsFunc std lists_2) fun b6 =>
    bif b6 then
      (some 1)
    else
      grd (okI .i64 ((1 + 1))) <|
      bif (decide (500 < (((List.length lists_1) : Nat) : Int))) then
        (some 5)
      else
        bif (decide (500 < (((List.length lists_2) : Nat) : Int))) then
          (some 5)
        else
          (some 0)) : Option (Int)) := rfl
theorem m_slices_Concat_eq (slices_1 : List (Int × Int × Int × Int)) (slices_2 : List (Int × Int × Int × Int)) : m_slices_Concat std slices_1 slices_2 =
((grd (okI .i64 ((0 + (((List.length slices_1) : Nat) : Int)))) <|
  bif (decide ((0 + (((List.length slices_1) : Nat) : Int)) < 0)) then
    none
  else
    grd (okI .i64 ((0 + 1))) <|
    grd (okI .i64 (((0 + (((List.length slices_1) : Nat) : Int)) + (((List.length slices_2) : Nat) : Int)))) <|
    bif (decide (((0 + (((List.length slices_1) : Nat) : Int)) + (((List.length slices_2) : Nat) : Int)) < 0)) then
      none
    else
      grd (okI .i64 ((1 + 1))) <|
      Option.bind (m_grow_i4 std (((0 + (((List.length slices_1) : Nat) : Int)) + (((List.length slices_2) : Nat) : Int)))) fun l1 =>
      grd (okRoom ((List.length l1))) <|
      grd (okRoom ((List.length slices_1))) <|
      grd (okRoom ((List.length (l1 ++ slices_1)))) <|
      grd (okRoom ((List.length slices_2))) <|
      (some ((l1 ++ slices_1) ++ slices_2))) : Option (List (Int × Int × Int × Int))) := rfl
theorem m_interval_line_eq (x_1 : Int) : m_interval_line std x_1 =
((Option.bind (
    bif (decide ((-4398046511104) ≤ x_1)) then
      (some (decide (x_1 ≤ 4398046511104)))
    else
      (some false) : Option ((Bool))) fun x18 =>
  (some x18)) : Option (Bool)) := rfl
theorem m_interval_Valid_eq (s_1 : Int) (s_2 : Int) : m_interval_Valid std s_1 s_2 =
((Option.bind (
    Option.bind (m_interval_line std s_1) fun b7 =>
    bif b7 then
      Option.bind (m_interval_line std s_2) fun b8 =>
      bif b8 then
        (some (decide (s_1 < s_2)))
      else
        (some false)
    else
      (some false) : Option ((Bool))) fun x21 =>
  (some x21)) : Option (Bool)) := rfl
theorem m_runs_Of_1_eq (s_1 : Int) (s_2 : Int) : m_runs_Of_1 std s_1 s_2 =
((Option.bind (m_interval_Valid std s_1 s_2) fun b9 =>
  (some (!b9))) : Option (Bool)) := rfl
theorem m_slices_IndexFunc_2_L1_eq (s_1 : List (Int × Int)) (x16 : Int) : m_slices_IndexFunc_2_L1 std s_1 x16 =
((bif (decide (x16 < (((List.length s_1) : Nat) : Int))) then
    grd (okIdx x16 ((List.length s_1))) <|
    grd (okKin ((Int.toNat x16)) ((List.length s_1))) <|
    Option.bind (m_runs_Of_1 std ((List.getD s_1 (Int.toNat x16) (0, 0)).1) ((List.getD s_1 (Int.toNat x16) (0, 0)).2)) fun b10 =>
    bif b10 then
      (some (Sum.inr (Sum.inl x16)))
    else
      grd (okI .i64 ((x16 + 1))) <|
      (some (Sum.inl (x16 + 1)))
  else
    (some (Sum.inr (Sum.inr ())))) : Option ((Int) ⊕ ((Int) ⊕ (Unit)))) := rfl
theorem m_slices_IndexFunc_2_eq (s_1 : List (Int × Int)) : m_slices_IndexFunc_2 std s_1 =
((Option.bind (loop (m_slices_IndexFunc_2_L1 std s_1) 0) fun e => match e with
  | .inl x22 =>
    (some x22)
  | .inr (_) =>
    (some (-1))) : Option (Int)) := rfl
theorem m_slices_ContainsFunc_2_eq (s_1 : List (Int × Int)) : m_slices_ContainsFunc_2 std s_1 =
((Option.bind (m_slices_IndexFunc_2 std s_1) fun n11 =>
  (some (decide (0 ≤ n11)))) : Option (Bool)) := rfl
theorem m_runs_done_eq (l_1 : List (Int × Int)) : m_runs_done std l_1 =
((bif (decide (2000 < (((List.length l_1) : Nat) : Int))) then
    (some (Sum.inl (([] : List (Int × Int)), 5)))
  else
    (some (Sum.inr 0))) : Option (((List (Int × Int) × Int) ⊕ (Int)))) := rfl
theorem m_runs_Of_L1_eq (l14 : List (Int × Int)) (x26 : Int) (l17 : List (Int × Int)) : m_runs_Of_L1 std l14 (x26, l17) =
((bif (decide (x26 < (((List.length l14) : Nat) : Int))) then
    grd (okIdx x26 ((List.length l14))) <|
    grd (okKin ((Int.toNat x26)) ((List.length l14))) <|
    Option.bind (
      bif (decide (0 < (((List.length l17) : Nat) : Int))) then
        grd (okI .i64 (((((List.length l17) : Nat) : Int) - 1))) <|
        grd (okIdx (((((List.length l17) : Nat) : Int) - 1)) ((List.length l17))) <|
        grd (okKin ((Int.toNat ((((List.length l17) : Nat) : Int) - 1))) ((List.length l17))) <|
        (some (decide ((List.getD l14 (Int.toNat x26) (0, 0)).1 ≤ (List.getD l17 (Int.toNat ((((List.length l17) : Nat) : Int) - 1)) (0, 0)).2)))
      else
        (some false) : Option ((Bool))) fun x28 =>
    Option.bind (
      bif x28 then
        grd (okI .i64 (((((List.length l17) : Nat) : Int) - 1))) <|
        grd (okIdx (((((List.length l17) : Nat) : Int) - 1)) ((List.length l17))) <|
        grd (okKin ((Int.toNat ((((List.length l17) : Nat) : Int) - 1))) ((List.length l17))) <|
        (some (List.set l17 (Int.toNat ((((List.length l17) : Nat) : Int) - 1)) ((List.getD l17 (Int.toNat ((((List.length l17) : Nat) : Int) - 1)) (0, 0)).1, (ma (List.getD l17 (Int.toNat ((((List.length l17) : Nat) : Int) - 1)) (0, 0)).2 (List.getD l14 (Int.toNat x26) (0, 0)).2))))
      else
        grd (okRoom ((List.length l17))) <|
        grd (okRoom ((List.length [((List.getD l14 (Int.toNat x26) (0, 0)).1, (List.getD l14 (Int.toNat x26) (0, 0)).2)]))) <|
        (some (l17 ++ [((List.getD l14 (Int.toNat x26) (0, 0)).1, (List.getD l14 (Int.toNat x26) (0, 0)).2)])) : Option ((List (Int × Int)))) fun l19 =>
    grd (okI .i64 ((x26 + 1))) <|
    (some (Sum.inl ((x26 + 1), l19)))
  else
    (some (Sum.inr l17))) : Option ((Int × List (Int × Int)) ⊕ (List (Int × Int)))) := rfl
theorem m_runs_Of_eq (l_1 : List (Int × Int)) : m_runs_Of std l_1 =
((Option.bind (m_slices_ContainsFunc_2 std l_1) fun b11 =>
  bif b11 then
    (some (([] : List (Int × Int)), 1))
  else
    Option.bind (m_clone_i2 std l_1) fun l13 =>
    Option.bind (m_sortSp std l13) fun l14 =>
    Option.bind (loop (m_runs_Of_L1 std l14) (0, ([] : List (Int × Int)))) fun l20 =>
    Option.bind (
      Option.bind (m_runs_done std l20) fun e => match e with
      | .inl (l21, n12) =>
        (some (n12, l21))
      | .inr (n13) =>
        (some (n13, l20)) : Option ((Int × List (Int × Int)))) fun (x30, l23) =>
    (some (l23, x30))) : Option (List (Int × Int) × Int)) := rfl
theorem m_rectangle_times_L1_eq (l_1 : List (Int × Int × Int × Int)) (tx_1 : Int) (x13 : Int) (l9 : List (Int × Int)) : m_rectangle_times_L1 std l_1 tx_1 (x13, l9) =
((bif (decide (x13 < (((List.length l_1) : Nat) : Int))) then
    grd (okIdx x13 ((List.length l_1))) <|
    grd (okKin ((Int.toNat x13)) ((List.length l_1))) <|
    Option.bind (
      bif (decide ((List.getD l_1 (Int.toNat x13) (0, 0, 0, 0)).2.2.1 ≤ tx_1)) then
        (some (decide (tx_1 < (List.getD l_1 (Int.toNat x13) (0, 0, 0, 0)).2.2.2)))
      else
        (some false) : Option ((Bool))) fun x15 =>
    Option.bind (
      bif x15 then
        grd (okRoom ((List.length l9))) <|
        grd (okRoom ((List.length [((List.getD l_1 (Int.toNat x13) (0, 0, 0, 0)).1, (List.getD l_1 (Int.toNat x13) (0, 0, 0, 0)).2.1)]))) <|
        (some (l9 ++ [((List.getD l_1 (Int.toNat x13) (0, 0, 0, 0)).1, (List.getD l_1 (Int.toNat x13) (0, 0, 0, 0)).2.1)]))
      else
        (some l9) : Option ((List (Int × Int)))) fun l11 =>
    grd (okI .i64 ((x13 + 1))) <|
    (some (Sum.inl ((x13 + 1), l11)))
  else
    (some (Sum.inr l9))) : Option ((Int × List (Int × Int)) ⊕ (List (Int × Int)))) := rfl
theorem m_rectangle_times_eq (tx_1 : Int) (l_1 : List (Int × Int × Int × Int)) : m_rectangle_times std tx_1 l_1 =
((Option.bind (loop (m_rectangle_times_L1 std l_1 tx_1) (0, ([] : List (Int × Int)))) fun l12 =>
  Option.bind (m_runs_Of std l12) fun (l24, _) =>
  (some l24)) : Option (List (Int × Int))) := rfl
theorem m_runs_Valid_L1_eq (l_1 : List (Int × Int)) (x31 : Int) : m_runs_Valid_L1 std l_1 x31 =
((bif (decide (x31 < (((List.length l_1) : Nat) : Int))) then
    grd (okIdx x31 ((List.length l_1))) <|
    grd (okKin ((Int.toNat x31)) ((List.length l_1))) <|
    Option.bind (
      Option.bind (m_interval_Valid std ((List.getD l_1 (Int.toNat x31) (0, 0)).1) ((List.getD l_1 (Int.toNat x31) (0, 0)).2)) fun b12 =>
      bif (!b12) then
        (some true)
      else
        bif (decide (0 < x31)) then
          grd (okI .i64 ((x31 - 1))) <|
          grd (okIdx ((x31 - 1)) ((List.length l_1))) <|
          grd (okKin ((Int.toNat (x31 - 1))) ((List.length l_1))) <|
          (some (decide ((List.getD l_1 (Int.toNat x31) (0, 0)).1 ≤ (List.getD l_1 (Int.toNat (x31 - 1)) (0, 0)).2)))
        else
          (some false) : Option ((Bool))) fun x34 =>
    bif x34 then
      (some (Sum.inr (Sum.inl ())))
    else
      grd (okI .i64 ((x31 + 1))) <|
      (some (Sum.inl (x31 + 1)))
  else
    (some (Sum.inr (Sum.inr ())))) : Option ((Int) ⊕ ((Unit) ⊕ (Unit)))) := rfl
theorem m_runs_Valid_eq (l_1 : List (Int × Int)) : m_runs_Valid std l_1 =
((bif (decide (2000 < (((List.length l_1) : Nat) : Int))) then
    (some false)
  else
    Option.bind (loop (m_runs_Valid_L1 std l_1) 0) fun e => match e with
    | .inl _ =>
      (some false)
    | .inr (_) =>
      (some true)) : Option (Bool)) := rfl
theorem m_runs_combine_1_eq (n_1 : Int) (l_1 : List (Int × Int)) : m_runs_combine_1 std n_1 l_1 =
((grd (okI .i64 ((2 * (((List.length l_1) : Nat) : Int)))) <|
  bif (n_1 == (2 * (((List.length l_1) : Nat) : Int))) then
    (some 8796093022208)
  else
    grd (okNz 2) <|
    bif ((Int.tmod n_1 2) == 0) then
      grd (okI .i64 ((Int.tdiv n_1 2))) <|
      grd (okIdx ((Int.tdiv n_1 2)) ((List.length l_1))) <|
      grd (okKin ((Int.toNat (Int.tdiv n_1 2))) ((List.length l_1))) <|
      (some (List.getD l_1 (Int.toNat (Int.tdiv n_1 2)) (0, 0)).1)
    else
      grd (okI .i64 ((Int.tdiv n_1 2))) <|
      grd (okIdx ((Int.tdiv n_1 2)) ((List.length l_1))) <|
      grd (okKin ((Int.toNat (Int.tdiv n_1 2))) ((List.length l_1))) <|
      (some (List.getD l_1 (Int.toNat (Int.tdiv n_1 2)) (0, 0)).2)) : Option (Int)) := rfl
theorem m_runs_Union_1_eq (a_1 : Bool) (b_1 : Bool) : m_runs_Union_1 std a_1 b_1 =
((Option.bind (
    bif a_1 then
      (some true)
    else
      (some b_1) : Option ((Bool))) fun x40 =>
  (some x40)) : Option (Bool)) := rfl
theorem m_runs_combine_L1_eq (a_1 : List (Int × Int)) (b_1 : List (Int × Int)) (i5 : Int) (k4 : Int) (inside2 : Bool) (from2 : Int) (l29 : List (Int × Int)) : m_runs_combine_L1 std a_1 b_1 (i5, k4, inside2, from2, l29) =
((Option.bind (
    bif (decide (i5 < (2 * (((List.length a_1) : Nat) : Int)))) then
      grd (okI .i64 ((2 * (((List.length a_1) : Nat) : Int)))) <|
      (some true)
    else
      grd (okI .i64 ((2 * (((List.length a_1) : Nat) : Int)))) <|
      grd (okI .i64 ((2 * (((List.length b_1) : Nat) : Int)))) <|
      (some (decide (k4 < (2 * (((List.length b_1) : Nat) : Int))))) : Option ((Bool))) fun x42 =>
  bif x42 then
    Option.bind (m_runs_combine_1 std i5 a_1) fun n19 =>
    Option.bind (m_runs_combine_1 std k4 b_1) fun n20 =>
    Option.bind (m_runs_combine_1 std i5 a_1) fun n21 =>
    Option.bind (
      bif (n21 == (mi n19 n20)) then
        grd (okI .i64 ((i5 + 1))) <|
        (some (i5 + 1))
      else
        (some i5) : Option ((Int))) fun i7 =>
    Option.bind (m_runs_combine_1 std k4 b_1) fun n22 =>
    Option.bind (
      bif (n22 == (mi n19 n20)) then
        grd (okI .i64 ((k4 + 1))) <|
        (some (k4 + 1))
      else
        (some k4) : Option ((Int))) fun k6 =>
    grd (okNz 2) <|
    Option.bind (m_runs_Union_1 std (((Int.tmod i7 2) == 1)) (((Int.tmod k6 2) == 1))) fun b16 =>
    bif (b16 == inside2) then
      (some (Sum.inl (i7, k6, inside2, from2, l29)))
    else
      Option.bind (
        bif inside2 then
          grd (okRoom ((List.length l29))) <|
          grd (okRoom ((List.length [(from2, (mi n19 n20))]))) <|
          (some (l29 ++ [(from2, (mi n19 n20))]))
        else
          (some l29) : Option ((List (Int × Int)))) fun l31 =>
      (some (Sum.inl (i7, k6, b16, (mi n19 n20), l31)))
  else
    (some (Sum.inr l29))) : Option ((Int × Int × Bool × Int × List (Int × Int)) ⊕ (List (Int × Int)))) := rfl
theorem m_runs_combine_eq (a_1 : List (Int × Int)) (b_1 : List (Int × Int)) : m_runs_combine std a_1 b_1 =
((Option.bind (
    Option.bind (m_runs_Valid std a_1) fun b13 =>
    bif (!b13) then
      (some true)
    else
      Option.bind (m_runs_Valid std b_1) fun b14 =>
      (some (!b14)) : Option ((Bool))) fun x36 =>
  bif x36 then
    (some (([] : List (Int × Int)), 1))
  else
    Option.bind (loop (m_runs_combine_L1 std a_1 b_1) (0, 0, false, 0, ([] : List (Int × Int)))) fun l32 =>
    Option.bind (
      Option.bind (m_runs_done std l32) fun e => match e with
      | .inl (l33, n23) =>
        (some (n23, l33))
      | .inr (n24) =>
        (some (n24, l32)) : Option ((Int × List (Int × Int)))) fun (x44, l35) =>
    (some (l35, x44))) : Option (List (Int × Int) × Int)) := rfl
theorem m_runs_Union_eq (a_1 : List (Int × Int)) (b_1 : List (Int × Int)) : m_runs_Union std a_1 b_1 =
((Option.bind (m_runs_combine std a_1 b_1) fun (l36, n25) =>
  (some (l36, n25))) : Option (List (Int × Int) × Int)) := rfl
theorem m_slices_Equal_L1_eq (s1_1 : List (Int × Int)) (s2_1 : List (Int × Int)) (x45 : Int) : m_slices_Equal_L1 std s1_1 s2_1 x45 =
((bif (decide (x45 < (((List.length s1_1) : Nat) : Int))) then
    grd (okIdx x45 ((List.length s1_1))) <|
    grd (okKin ((Int.toNat x45)) ((List.length s1_1))) <|
    grd (okIdx x45 ((List.length s2_1))) <|
    grd (okKin ((Int.toNat x45)) ((List.length s2_1))) <|
    bif (!(((List.getD s1_1 (Int.toNat x45) (0, 0)).1 == (List.getD s2_1 (Int.toNat x45) (0, 0)).1) && ((List.getD s1_1 (Int.toNat x45) (0, 0)).2 == (List.getD s2_1 (Int.toNat x45) (0, 0)).2))) then
      (some (Sum.inr (Sum.inl ())))
    else
      grd (okI .i64 ((x45 + 1))) <|
      (some (Sum.inl (x45 + 1)))
  else
    (some (Sum.inr (Sum.inr ())))) : Option ((Int) ⊕ ((Unit) ⊕ (Unit)))) := rfl
theorem m_slices_Equal_eq (s1_1 : List (Int × Int)) (s2_1 : List (Int × Int)) : m_slices_Equal std s1_1 s2_1 =
((bif (!((((List.length s1_1) : Nat) : Int) == (((List.length s2_1) : Nat) : Int))) then
    (some false)
  else
    Option.bind (loop (m_slices_Equal_L1 std s1_1 s2_1) 0) fun e => match e with
    | .inl _ =>
      (some false)
    | .inr (_) =>
      (some true)) : Option (Bool)) := rfl
theorem m_rectangle_combine_L1_eq (l2 : List (Int × Int × Int × Int)) (x9 : Int) (l3 : List Int) : m_rectangle_combine_L1 std l2 (x9, l3) =
((bif (decide (x9 < (((List.length l2) : Nat) : Int))) then
    grd (okIdx x9 ((List.length l2))) <|
    grd (okKin ((Int.toNat x9)) ((List.length l2))) <|
    grd (okRoom ((List.length l3))) <|
    grd (okRoom ((List.length [(List.getD l2 (Int.toNat x9) (0, 0, 0, 0)).2.2.1, (List.getD l2 (Int.toNat x9) (0, 0, 0, 0)).2.2.2]))) <|
    grd (okI .i64 ((x9 + 1))) <|
    (some (Sum.inl ((x9 + 1), (l3 ++ [(List.getD l2 (Int.toNat x9) (0, 0, 0, 0)).2.2.1, (List.getD l2 (Int.toNat x9) (0, 0, 0, 0)).2.2.2]))))
  else
    (some (Sum.inr l3))) : Option ((Int × List Int) ⊕ (List Int))) := rfl
theorem m_rectangle_combine_L2_eq (i8 : Int) (l6 : List Int) (k10 : Int) (l47 : List (Int × Int × Int × Int)) : m_rectangle_combine_L2 std i8 l6 (k10, l47) =
((bif (decide (k10 < (((List.length l47) : Nat) : Int))) then
    grd (okIdx ((i8 + 1)) ((List.length l6))) <|
    grd (okKin ((Int.toNat (i8 + 1))) ((List.length l6))) <|
    grd (okIdx k10 ((List.length l47))) <|
    grd (okKin ((Int.toNat k10)) ((List.length l47))) <|
    grd (okI .i64 ((k10 + 1))) <|
    (some (Sum.inl ((k10 + 1), (List.set l47 (Int.toNat k10) ((List.getD l47 (Int.toNat k10) (0, 0, 0, 0)).1, (List.getD l47 (Int.toNat k10) (0, 0, 0, 0)).2.1, (List.getD l47 (Int.toNat k10) (0, 0, 0, 0)).2.2.1, (List.getD l6 (Int.toNat (i8 + 1)) 0))))))
  else
    (some (Sum.inr l47))) : Option ((Int × List (Int × Int × Int × Int)) ⊕ (List (Int × Int × Int × Int)))) := rfl
theorem m_rectangle_combine_L3_eq (i8 : Int) (l46 : List (Int × Int)) (l6 : List Int) (x49 : Int) (l49 : List (Int × Int × Int × Int)) : m_rectangle_combine_L3 std i8 l46 l6 (x49, l49) =
((bif (decide (x49 < (((List.length l46) : Nat) : Int))) then
    grd (okIdx x49 ((List.length l46))) <|
    grd (okKin ((Int.toNat x49)) ((List.length l46))) <|
    grd (okRng ((((List.length l49) : Nat) : Int)) ((List.length l49))) <|
    grd (okRng ((((List.length l49) : Nat) : Int)) ((Int.toNat (((List.length l49) : Nat) : Int)))) <|
    grd (okIdx ((i8 + 1)) ((List.length l6))) <|
    grd (okKin ((Int.toNat (i8 + 1))) ((List.length l6))) <|
    grd (okRoom ((List.length (List.take ((Int.toNat (((List.length l49) : Nat) : Int)) - 0) (List.drop 0 l49))))) <|
    grd (okRoom ((List.length [((List.getD l46 (Int.toNat x49) (0, 0)).1, (List.getD l46 (Int.toNat x49) (0, 0)).2, (List.getD l6 (Int.toNat i8) 0), (List.getD l6 (Int.toNat (i8 + 1)) 0))]))) <|
    grd (okKin 0 ((List.length [((List.getD l46 (Int.toNat x49) (0, 0)).1, (List.getD l46 (Int.toNat x49) (0, 0)).2, (List.getD l6 (Int.toNat i8) 0), (List.getD l6 (Int.toNat (i8 + 1)) 0))]))) <|
    grd (okI .i64 ((x49 + 1))) <|
    (some (Sum.inl ((x49 + 1), ((List.take ((Int.toNat (((List.length l49) : Nat) : Int)) - 0) (List.drop 0 l49)) ++ [((List.getD l46 (Int.toNat x49) (0, 0)).1, (List.getD l46 (Int.toNat x49) (0, 0)).2, (List.getD l6 (Int.toNat i8) 0), (List.getD l6 (Int.toNat (i8 + 1)) 0))]))))
  else
    (some (Sum.inr l49))) : Option ((Int × List (Int × Int × Int × Int)) ⊕ (List (Int × Int × Int × Int)))) := rfl
theorem m_rectangle_combine_L4_eq (a_1 : List (Int × Int × Int × Int)) (b_1 : List (Int × Int × Int × Int)) (l6 : List Int) (start2 : Int) (i8 : Int) (l42 : List (Int × Int × Int × Int)) (l43 : List (Int × Int)) : m_rectangle_combine_L4 std a_1 b_1 l6 (start2, i8, l42, l43) =
((grd (okI .i64 ((i8 + 1))) <|
  bif (decide ((i8 + 1) < (((List.length l6) : Nat) : Int))) then
    grd (okIdx i8 ((List.length l6))) <|
    grd (okKin ((Int.toNat i8)) ((List.length l6))) <|
    Option.bind (m_rectangle_times std ((List.getD l6 (Int.toNat i8) 0)) a_1) fun l44 =>
    Option.bind (m_rectangle_times std ((List.getD l6 (Int.toNat i8) 0)) b_1) fun l45 =>
    Option.bind (m_runs_Union std l44 l45) fun (l46, n27) =>
    bif (!(n27 == 0)) then
      (some (Sum.inr (Sum.inl n27)))
    else
      Option.bind (m_slices_Equal std l46 l43) fun b18 =>
      bif b18 then
        Option.bind (loop (m_rectangle_combine_L2 std i8 l6) (start2, l42)) fun l48 =>
        (some (Sum.inl (start2, (i8 + 1), l48, l43)))
      else
        Option.bind (loop (m_rectangle_combine_L3 std i8 l46 l6) (0, l42)) fun l50 =>
        bif (decide (500 < (((List.length l50) : Nat) : Int))) then
          (some (Sum.inr (Sum.inl 5)))
        else
          (some (Sum.inl ((((List.length l42) : Nat) : Int), (i8 + 1), l50, l46)))
  else
    (some (Sum.inr (Sum.inr l42)))) : Option ((Int × Int × List (Int × Int × Int × Int) × List (Int × Int)) ⊕ ((Int) ⊕ (List (Int × Int × Int × Int))))) := rfl
theorem m_rectangle_combine_eq (a_1 : List (Int × Int × Int × Int)) (b_1 : List (Int × Int × Int × Int)) : m_rectangle_combine std a_1 b_1 =
((Option.bind (m_rectangle_check std a_1 b_1) fun n10 =>
  bif (!(n10 == 0)) then
    (some (([] : List (Int × Int × Int × Int)), n10))
  else
    Option.bind (m_slices_Concat std a_1 b_1) fun l2 =>
    Option.bind (loop (m_rectangle_combine_L1 std l2) (0, ([] : List Int))) fun l4 =>
    Option.bind (m_sortI std l4) fun l5 =>
    Option.bind (m_compI std l5) fun l6 =>
    Option.bind (loop (m_rectangle_combine_L4 std a_1 b_1 l6) (0, 0, ([] : List (Int × Int × Int × Int)), ([] : List (Int × Int)))) fun e => match e with
    | .inl x51 =>
      (some (([] : List (Int × Int × Int × Int)), x51))
    | .inr (l51) =>
      (some (l51, 0))) : Option (List (Int × Int × Int × Int) × Int)) := rfl
theorem m_rectangle_Canonical_eq (l_1 : List (Int × Int × Int × Int)) : m_rectangle_Canonical std l_1 =
((Option.bind (m_rectangle_combine std l_1 (([] : List (Int × Int × Int × Int)))) fun (l52, n28) =>
  (some (l52, n28))) : Option (List (Int × Int × Int × Int) × Int)) := rfl
theorem m_slices_Equal_2_L1_eq (s1_1 : List (Int × Int × Int × Int)) (s2_1 : List (Int × Int × Int × Int)) (x52 : Int) : m_slices_Equal_2_L1 std s1_1 s2_1 x52 =
((bif (decide (x52 < (((List.length s1_1) : Nat) : Int))) then
    grd (okIdx x52 ((List.length s1_1))) <|
    grd (okKin ((Int.toNat x52)) ((List.length s1_1))) <|
    grd (okIdx x52 ((List.length s2_1))) <|
    grd (okKin ((Int.toNat x52)) ((List.length s2_1))) <|
    bif (!(((List.getD s1_1 (Int.toNat x52) (0, 0, 0, 0)).1 == (List.getD s2_1 (Int.toNat x52) (0, 0, 0, 0)).1) && (((List.getD s1_1 (Int.toNat x52) (0, 0, 0, 0)).2.1 == (List.getD s2_1 (Int.toNat x52) (0, 0, 0, 0)).2.1) && (((List.getD s1_1 (Int.toNat x52) (0, 0, 0, 0)).2.2.1 == (List.getD s2_1 (Int.toNat x52) (0, 0, 0, 0)).2.2.1) && ((List.getD s1_1 (Int.toNat x52) (0, 0, 0, 0)).2.2.2 == (List.getD s2_1 (Int.toNat x52) (0, 0, 0, 0)).2.2.2))))) then
      (some (Sum.inr (Sum.inl ())))
    else
      grd (okI .i64 ((x52 + 1))) <|
      (some (Sum.inl (x52 + 1)))
  else
    (some (Sum.inr (Sum.inr ())))) : Option ((Int) ⊕ ((Unit) ⊕ (Unit)))) := rfl
theorem m_slices_Equal_2_eq (s1_1 : List (Int × Int × Int × Int)) (s2_1 : List (Int × Int × Int × Int)) : m_slices_Equal_2 std s1_1 s2_1 =
((bif (!((((List.length s1_1) : Nat) : Int) == (((List.length s2_1) : Nat) : Int))) then
    (some false)
  else
    Option.bind (loop (m_slices_Equal_2_L1 std s1_1 s2_1) 0) fun e => match e with
    | .inl _ =>
      (some false)
    | .inr (_) =>
      (some true)) : Option (Bool)) := rfl
theorem m_law35_awake_eq : m_law35_awake std =
((Option.bind (m_law35_rect std 5 15 5 10) fun (n1, n2, n3, n4) =>
  Option.bind (m_law35_rect std 0 10 0 10) fun (n5, n6, n7, n8) =>
  Option.bind (m_rectangle_Canonical std ([(n1, n2, n3, n4), (n5, n6, n7, n8)])) fun (l53, n29) =>
  Option.bind (
    bif (n29 == 0) then
      Option.bind (m_law35_rect std 0 10 0 5) fun (n30, n31, n32, n33) =>
      Option.bind (m_law35_rect std 0 15 5 10) fun (n34, n35, n36, n37) =>
      Option.bind (m_slices_Equal_2 std l53 ([(n30, n31, n32, n33), (n34, n35, n36, n37)])) fun b19 =>
      (some b19)
    else
      (some false) : Option ((Bool))) fun x54 =>
  (some x54)) : Option (Bool)) := rfl
theorem m_law35_few_1_eq (l_1 : List (Int × Int × Int × Int)) : m_law35_few_1 std l_1 =
(((some (decide (30 < (((List.length l_1) : Nat) : Int))))) : Option (Bool)) := rfl
theorem m_slices_IndexFunc_3_eq (s_1 : List (Int × Int × Int × Int)) : m_slices_IndexFunc_3 std s_1 =
((Option.bind (m_law35_few_1 std s_1) fun b21 =>
  bif b21 then
    (some 0)
  else
    grd (okI .i64 ((0 + 1))) <|
    (some (-1))) : Option (Int)) := rfl
theorem m_slices_ContainsFunc_3_eq (s_1 : List (Int × Int × Int × Int)) : m_slices_ContainsFunc_3 std s_1 =
((Option.bind (m_slices_IndexFunc_3 std s_1) fun n38 =>
  (some (decide (0 ≤ n38)))) : Option (Bool)) := rfl
theorem m_law35_few_eq (lists_1 : List (Int × Int × Int × Int)) : m_law35_few std lists_1 =
((Option.bind (m_slices_ContainsFunc_3 std lists_1) fun b22 =>
  (some (!b22))) : Option (Bool)) := rfl
theorem m_ref35_Span_eq (s_1 : Int) (s_2 : Int) : m_ref35_Span std s_1 s_2 =
((Option.bind (
    bif (decide ((-62135596800) ≤ s_1)) then
      bif (decide (s_1 < s_2)) then
        (some (decide (s_2 ≤ 253402300800)))
      else
        (some false)
    else
      (some false) : Option ((Bool))) fun x57 =>
  (some x57)) : Option (Bool)) := rfl
theorem m_ref35_Valid_eq (r_1 : Int) (r_2 : Int) (r_3 : Int) (r_4 : Int) : m_ref35_Valid std r_1 r_2 r_3 r_4 =
((Option.bind (
    Option.bind (m_ref35_Span std r_1 r_2) fun b24 =>
    bif b24 then
      Option.bind (m_ref35_Span std r_3 r_4) fun b25 =>
      (some b25)
    else
      (some false) : Option ((Bool))) fun x59 =>
  (some x59)) : Option (Bool)) := rfl
theorem m_ref35_List_L1_eq (l_1 : List (Int × Int × Int × Int)) (i9 : Int) : m_ref35_List_L1 std l_1 i9 =
((bif (decide (i9 < (((List.length l_1) : Nat) : Int))) then
    grd (okIdx i9 ((List.length l_1))) <|
    grd (okKin ((Int.toNat i9)) ((List.length l_1))) <|
    Option.bind (m_ref35_Valid std ((List.getD l_1 (Int.toNat i9) (0, 0, 0, 0)).1) ((List.getD l_1 (Int.toNat i9) (0, 0, 0, 0)).2.1) ((List.getD l_1 (Int.toNat i9) (0, 0, 0, 0)).2.2.1) ((List.getD l_1 (Int.toNat i9) (0, 0, 0, 0)).2.2.2)) fun b26 =>
    bif (!b26) then
      (some (Sum.inr (Sum.inl ())))
    else
      grd (okI .i64 ((i9 + 1))) <|
      (some (Sum.inl (i9 + 1)))
  else
    (some (Sum.inr (Sum.inr ())))) : Option ((Int) ⊕ ((Unit) ⊕ (Unit)))) := rfl
theorem m_ref35_List_eq (l_1 : List (Int × Int × Int × Int)) : m_ref35_List std l_1 =
((Option.bind (loop (m_ref35_List_L1 std l_1) 0) fun e => match e with
  | .inl _ =>
    (some false)
  | .inr (_) =>
    (some true)) : Option (Bool)) := rfl
theorem m_rectangle_check_2_eq (lists_1 : List (Int × Int × Int × Int)) : m_rectangle_check_2 std lists_1 =
((Option.bind (m_slices_ContainsFunc std lists_1) fun b28 =>
  bif b28 then
    (some 1)
  else
    grd (okI .i64 ((0 + 1))) <|
    bif (decide (500 < (((List.length lists_1) : Nat) : Int))) then
      (some 5)
    else
      (some 0)) : Option (Int)) := rfl
theorem m_rectangle_Has_1_eq (r_1 : Int) (r_2 : Int) (r_3 : Int) (r_4 : Int) (x_1 : Int) (x_2 : Int) : m_rectangle_Has_1 std r_1 r_2 r_3 r_4 x_1 x_2 =
((Option.bind (
    bif (decide (r_1 ≤ x_1)) then
      bif (decide (x_1 < r_2)) then
        bif (decide (r_3 ≤ x_2)) then
          (some (decide (x_2 < r_4)))
        else
          (some false)
      else
        (some false)
    else
      (some false) : Option ((Bool))) fun x64 =>
  (some x64)) : Option (Bool)) := rfl
theorem m_slices_IndexFunc_4_L1_eq (c_1 : Int) (c_2 : Int) (s_1 : List (Int × Int × Int × Int)) (x60 : Int) : m_slices_IndexFunc_4_L1 std c_1 c_2 s_1 x60 =
((bif (decide (x60 < (((List.length s_1) : Nat) : Int))) then
    grd (okIdx x60 ((List.length s_1))) <|
    grd (okKin ((Int.toNat x60)) ((List.length s_1))) <|
    Option.bind (m_rectangle_Has_1 std ((List.getD s_1 (Int.toNat x60) (0, 0, 0, 0)).1) ((List.getD s_1 (Int.toNat x60) (0, 0, 0, 0)).2.1) ((List.getD s_1 (Int.toNat x60) (0, 0, 0, 0)).2.2.1) ((List.getD s_1 (Int.toNat x60) (0, 0, 0, 0)).2.2.2) c_1 c_2) fun b29 =>
    bif b29 then
      (some (Sum.inr (Sum.inl x60)))
    else
      grd (okI .i64 ((x60 + 1))) <|
      (some (Sum.inl (x60 + 1)))
  else
    (some (Sum.inr (Sum.inr ())))) : Option ((Int) ⊕ ((Int) ⊕ (Unit)))) := rfl
theorem m_slices_IndexFunc_4_eq (s_1 : List (Int × Int × Int × Int)) (c_1 : Int) (c_2 : Int) : m_slices_IndexFunc_4 std s_1 c_1 c_2 =
((Option.bind (loop (m_slices_IndexFunc_4_L1 std c_1 c_2 s_1) 0) fun e => match e with
  | .inl x65 =>
    (some x65)
  | .inr (_) =>
    (some (-1))) : Option (Int)) := rfl
theorem m_slices_ContainsFunc_4_eq (s_1 : List (Int × Int × Int × Int)) (c_1 : Int) (c_2 : Int) : m_slices_ContainsFunc_4 std s_1 c_1 c_2 =
((Option.bind (m_slices_IndexFunc_4 std s_1 c_1 c_2) fun n40 =>
  (some (decide (0 ≤ n40)))) : Option (Bool)) := rfl
theorem m_rectangle_Has_eq (valid_1 : Int) (tx_1 : Int) (l_1 : List (Int × Int × Int × Int)) : m_rectangle_Has std valid_1 tx_1 l_1 =
((Option.bind (
    Option.bind (m_rectangle_check_2 std l_1) fun n39 =>
    bif (n39 == 0) then
      Option.bind (m_slices_ContainsFunc_4 std l_1 valid_1 tx_1) fun b30 =>
      (some b30)
    else
      (some false) : Option ((Bool))) fun x67 =>
  (some x67)) : Option (Bool)) := rfl
theorem m_rectangle_At_eq (tx_1 : Int) (l_1 : List (Int × Int × Int × Int)) : m_rectangle_At std tx_1 l_1 =
((Option.bind (m_rectangle_check_2 std l_1) fun n41 =>
  bif (!(n41 == 0)) then
    (some ([] : List (Int × Int)))
  else
    Option.bind (m_rectangle_times std tx_1 l_1) fun l54 =>
    (some l54)) : Option (List (Int × Int))) := rfl
theorem m_rectangle_During_L1_eq (l_1 : List (Int × Int × Int × Int)) (x69 : Int) (l56 : List (Int × Int × Int × Int)) : m_rectangle_During_L1 std l_1 (x69, l56) =
((bif (decide (x69 < (((List.length l_1) : Nat) : Int))) then
    grd (okIdx x69 ((List.length l_1))) <|
    grd (okKin ((Int.toNat x69)) ((List.length l_1))) <|
    grd (okRoom ((List.length l56))) <|
    grd (okRoom ((List.length [((List.getD l_1 (Int.toNat x69) (0, 0, 0, 0)).2.2.1, (List.getD l_1 (Int.toNat x69) (0, 0, 0, 0)).2.2.2, (List.getD l_1 (Int.toNat x69) (0, 0, 0, 0)).1, (List.getD l_1 (Int.toNat x69) (0, 0, 0, 0)).2.1)]))) <|
    grd (okI .i64 ((x69 + 1))) <|
    (some (Sum.inl ((x69 + 1), (l56 ++ [((List.getD l_1 (Int.toNat x69) (0, 0, 0, 0)).2.2.1, (List.getD l_1 (Int.toNat x69) (0, 0, 0, 0)).2.2.2, (List.getD l_1 (Int.toNat x69) (0, 0, 0, 0)).1, (List.getD l_1 (Int.toNat x69) (0, 0, 0, 0)).2.1)]))))
  else
    (some (Sum.inr l56))) : Option ((Int × List (Int × Int × Int × Int)) ⊕ (List (Int × Int × Int × Int)))) := rfl
theorem m_rectangle_During_eq (valid_1 : Int) (l_1 : List (Int × Int × Int × Int)) : m_rectangle_During std valid_1 l_1 =
((Option.bind (m_rectangle_check_2 std l_1) fun n42 =>
  bif (!(n42 == 0)) then
    (some ([] : List (Int × Int)))
  else
    Option.bind (loop (m_rectangle_During_L1 std l_1) (0, ([] : List (Int × Int × Int × Int)))) fun l57 =>
    Option.bind (m_rectangle_times std valid_1 l57) fun l58 =>
    (some l58)) : Option (List (Int × Int))) := rfl
theorem m_runs_Measure_L1_eq (a_1 : List (Int × Int)) (n44 : Int) (x72 : Int) : m_runs_Measure_L1 std a_1 (n44, x72) =
((bif (decide (x72 < (((List.length a_1) : Nat) : Int))) then
    grd (okIdx x72 ((List.length a_1))) <|
    grd (okKin ((Int.toNat x72)) ((List.length a_1))) <|
    grd (okI .i64 (((List.getD a_1 (Int.toNat x72) (0, 0)).2 - (List.getD a_1 (Int.toNat x72) (0, 0)).1))) <|
    grd (okI .i64 ((n44 + ((List.getD a_1 (Int.toNat x72) (0, 0)).2 - (List.getD a_1 (Int.toNat x72) (0, 0)).1)))) <|
    grd (okI .i64 ((x72 + 1))) <|
    (some (Sum.inl ((n44 + ((List.getD a_1 (Int.toNat x72) (0, 0)).2 - (List.getD a_1 (Int.toNat x72) (0, 0)).1)), (x72 + 1))))
  else
    (some (Sum.inr n44))) : Option ((Int × Int) ⊕ (Int))) := rfl
theorem m_runs_Measure_eq (a_1 : List (Int × Int)) : m_runs_Measure std a_1 =
((Option.bind (m_runs_Valid std a_1) fun b32 =>
  bif (!b32) then
    (some 0)
  else
    Option.bind (loop (m_runs_Measure_L1 std a_1) (0, 0)) fun n45 =>
    (some n45)) : Option (Int)) := rfl
theorem m_rectangle_Area_L1_eq (l_1 : List (Int × Int × Int × Int)) (x71 : Int) (l60 : List Int) : m_rectangle_Area_L1 std l_1 (x71, l60) =
((bif (decide (x71 < (((List.length l_1) : Nat) : Int))) then
    grd (okIdx x71 ((List.length l_1))) <|
    grd (okKin ((Int.toNat x71)) ((List.length l_1))) <|
    grd (okRoom ((List.length l60))) <|
    grd (okRoom ((List.length [(List.getD l_1 (Int.toNat x71) (0, 0, 0, 0)).2.2.1, (List.getD l_1 (Int.toNat x71) (0, 0, 0, 0)).2.2.2]))) <|
    grd (okI .i64 ((x71 + 1))) <|
    (some (Sum.inl ((x71 + 1), (l60 ++ [(List.getD l_1 (Int.toNat x71) (0, 0, 0, 0)).2.2.1, (List.getD l_1 (Int.toNat x71) (0, 0, 0, 0)).2.2.2]))))
  else
    (some (Sum.inr l60))) : Option ((Int × List Int) ⊕ (List Int))) := rfl
theorem m_rectangle_Area_L2_eq (l63 : List Int) (l_1 : List (Int × Int × Int × Int)) (sum2 : Int) (i11 : Int) : m_rectangle_Area_L2 std l63 l_1 (sum2, i11) =
((grd (okI .i64 ((i11 + 1))) <|
  bif (decide ((i11 + 1) < (((List.length l63) : Nat) : Int))) then
    grd (okIdx ((i11 + 1)) ((List.length l63))) <|
    grd (okKin ((Int.toNat (i11 + 1))) ((List.length l63))) <|
    grd (okIdx i11 ((List.length l63))) <|
    grd (okKin ((Int.toNat i11)) ((List.length l63))) <|
    grd (okI .i64 (((List.getD l63 (Int.toNat (i11 + 1)) 0) - (List.getD l63 (Int.toNat i11) 0)))) <|
    grd (okI .u64 (((List.getD l63 (Int.toNat (i11 + 1)) 0) - (List.getD l63 (Int.toNat i11) 0)))) <|
    Option.bind (m_rectangle_times std ((List.getD l63 (Int.toNat i11) 0)) l_1) fun l65 =>
    Option.bind (m_runs_Measure std l65) fun n51 =>
    grd (okI .u64 n51) <|
    Option.bind (m_bits_Mul64 std (((List.getD l63 (Int.toNat (i11 + 1)) 0) - (List.getD l63 (Int.toNat i11) 0))) n51) fun (n52, n53) =>
    Option.bind (m_bits_Add64 std sum2 n53 0) fun (n54, n55) =>
    Option.bind (
      bif (!(n52 == 0)) then
        (some true)
      else
        bif (!(n55 == 0)) then
          (some true)
        else
          (some (decide (9223372036854775807 < n54))) : Option ((Bool))) fun x76 =>
    bif x76 then
      (some (Sum.inr (Sum.inl ())))
    else
      (some (Sum.inl (n54, (i11 + 1))))
  else
    (some (Sum.inr (Sum.inr sum2)))) : Option ((Int × Int) ⊕ ((Unit) ⊕ (Int)))) := rfl
theorem m_rectangle_Area_eq (l_1 : List (Int × Int × Int × Int)) : m_rectangle_Area std l_1 =
((Option.bind (m_rectangle_check_2 std l_1) fun n43 =>
  bif (!(n43 == 0)) then
    (some (-1))
  else
    Option.bind (loop (m_rectangle_Area_L1 std l_1) (0, ([] : List Int))) fun l61 =>
    Option.bind (m_sortI std l61) fun l62 =>
    Option.bind (m_compI std l62) fun l63 =>
    Option.bind (loop (m_rectangle_Area_L2 std l63 l_1) (0, 0)) fun e => match e with
    | .inl _ =>
      (some (-1))
    | .inr (sum3) =>
      grd (okI .i64 sum3) <|
      (some sum3)) : Option (Int)) := rfl
theorem m_ref35_Has_L1_eq (l_1 : List (Int × Int × Int × Int)) (tx_1 : Int) (valid_1 : Int) (i12 : Int) : m_ref35_Has_L1 std l_1 tx_1 valid_1 i12 =
((bif (decide (i12 < (((List.length l_1) : Nat) : Int))) then
    Option.bind (
      bif (decide ((List.getD l_1 (Int.toNat i12) (0, 0, 0, 0)).1 ≤ valid_1)) then
        bif (decide (valid_1 < (List.getD l_1 (Int.toNat i12) (0, 0, 0, 0)).2.1)) then
          bif (decide ((List.getD l_1 (Int.toNat i12) (0, 0, 0, 0)).2.2.1 ≤ tx_1)) then
            grd (okIdx i12 ((List.length l_1))) <|
            grd (okKin ((Int.toNat i12)) ((List.length l_1))) <|
            (some (decide (tx_1 < (List.getD l_1 (Int.toNat i12) (0, 0, 0, 0)).2.2.2)))
          else
            grd (okIdx i12 ((List.length l_1))) <|
            grd (okKin ((Int.toNat i12)) ((List.length l_1))) <|
            (some false)
        else
          grd (okIdx i12 ((List.length l_1))) <|
          grd (okKin ((Int.toNat i12)) ((List.length l_1))) <|
          (some false)
      else
        grd (okIdx i12 ((List.length l_1))) <|
        grd (okKin ((Int.toNat i12)) ((List.length l_1))) <|
        (some false) : Option ((Bool))) fun x84 =>
    bif x84 then
      (some (Sum.inr (Sum.inl ())))
    else
      grd (okI .i64 ((i12 + 1))) <|
      (some (Sum.inl (i12 + 1)))
  else
    (some (Sum.inr (Sum.inr ())))) : Option ((Int) ⊕ ((Unit) ⊕ (Unit)))) := rfl
theorem m_ref35_Has_eq (valid_1 : Int) (tx_1 : Int) (l_1 : List (Int × Int × Int × Int)) : m_ref35_Has std valid_1 tx_1 l_1 =
((Option.bind (loop (m_ref35_Has_L1 std l_1 tx_1 valid_1) 0) fun e => match e with
  | .inl _ =>
    (some true)
  | .inr (_) =>
    (some false)) : Option (Bool)) := rfl
theorem m_ref12_Number_eq (x_1 : Int) : m_ref12_Number std x_1 =
((Option.bind (
    bif (decide ((-4398046511104) ≤ x_1)) then
      (some (decide (x_1 ≤ 4398046511104)))
    else
      (some false) : Option ((Bool))) fun x90 =>
  (some x90)) : Option (Bool)) := rfl
theorem m_ref12_Span_eq (s_1 : Int) (s_2 : Int) : m_ref12_Span std s_1 s_2 =
((Option.bind (
    Option.bind (m_ref12_Number std s_1) fun b35 =>
    bif b35 then
      Option.bind (m_ref12_Number std s_2) fun b36 =>
      bif b36 then
        (some (decide (s_1 < s_2)))
      else
        (some false)
    else
      (some false) : Option ((Bool))) fun x93 =>
  (some x93)) : Option (Bool)) := rfl
theorem m_ref12_Spans_L1_eq (l_1 : List (Int × Int)) (i15 : Int) : m_ref12_Spans_L1 std l_1 i15 =
((bif (decide (i15 < (((List.length l_1) : Nat) : Int))) then
    grd (okIdx i15 ((List.length l_1))) <|
    grd (okKin ((Int.toNat i15)) ((List.length l_1))) <|
    Option.bind (m_ref12_Span std ((List.getD l_1 (Int.toNat i15) (0, 0)).1) ((List.getD l_1 (Int.toNat i15) (0, 0)).2)) fun b37 =>
    bif (!b37) then
      (some (Sum.inr (Sum.inl ())))
    else
      grd (okI .i64 ((i15 + 1))) <|
      (some (Sum.inl (i15 + 1)))
  else
    (some (Sum.inr (Sum.inr ())))) : Option ((Int) ⊕ ((Unit) ⊕ (Unit)))) := rfl
theorem m_ref12_Spans_eq (l_1 : List (Int × Int)) : m_ref12_Spans std l_1 =
((Option.bind (loop (m_ref12_Spans_L1 std l_1) 0) fun e => match e with
  | .inl _ =>
    (some false)
  | .inr (_) =>
    (some true)) : Option (Bool)) := rfl
theorem m_ref12_Ends_L1_eq (i23 : Int) (l77 : List Int) (l_1 : List (Int × Int)) (i25 : Int) : m_ref12_Ends_L1 std i23 l77 l_1 i25 =
((Option.bind (
    bif (decide (0 < i25)) then
      grd (okI .i64 ((i25 - 1))) <|
      grd (okIdx ((i25 - 1)) ((List.length l77))) <|
      grd (okKin ((Int.toNat (i25 - 1))) ((List.length l77))) <|
      (some (decide ((List.getD l_1 (Int.toNat i23) (0, 0)).1 ≤ (List.getD l77 (Int.toNat (i25 - 1)) 0))))
    else
      (some false) : Option ((Bool))) fun x109 =>
  bif x109 then
    grd (okI .i64 ((i25 - 1))) <|
    (some (Sum.inl (i25 - 1)))
  else
    (some (Sum.inr i25))) : Option ((Int) ⊕ (Int))) := rfl
theorem m_ref12_Ends_L2_eq (i23 : Int) (l79 : List Int) (l_1 : List (Int × Int)) (i28 : Int) : m_ref12_Ends_L2 std i23 l79 l_1 i28 =
((Option.bind (
    bif (decide (0 < i28)) then
      grd (okI .i64 ((i28 - 1))) <|
      grd (okIdx ((i28 - 1)) ((List.length l79))) <|
      grd (okKin ((Int.toNat (i28 - 1))) ((List.length l79))) <|
      (some (decide ((List.getD l_1 (Int.toNat i23) (0, 0)).2 ≤ (List.getD l79 (Int.toNat (i28 - 1)) 0))))
    else
      (some false) : Option ((Bool))) fun x115 =>
  bif x115 then
    grd (okI .i64 ((i28 - 1))) <|
    (some (Sum.inl (i28 - 1)))
  else
    (some (Sum.inr i28))) : Option ((Int) ⊕ (Int))) := rfl
theorem m_ref12_Ends_L3_eq (l_1 : List (Int × Int)) (i23 : Int) (l77 : List Int) : m_ref12_Ends_L3 std l_1 (i23, l77) =
((bif (decide (i23 < (((List.length l_1) : Nat) : Int))) then
    Option.bind (
      grd (okIdx i23 ((List.length l_1))) <|
      grd (okKin ((Int.toNat i23)) ((List.length l_1))) <|
      Option.bind (loop (m_ref12_Ends_L1 std i23 l77 l_1) (((List.length l77) : Nat) : Int)) fun i26 =>
      Option.bind (
        bif (decide (i26 < (((List.length l77) : Nat) : Int))) then
          grd (okIdx i26 ((List.length l77))) <|
          grd (okKin ((Int.toNat i26)) ((List.length l77))) <|
          (some ((List.getD l77 (Int.toNat i26) 0) == (List.getD l_1 (Int.toNat i23) (0, 0)).1))
        else
          (some false) : Option ((Bool))) fun x111 =>
      bif x111 then
        (some l77)
      else
        grd (okRng i26 ((List.length l77))) <|
        grd (okRoom ((List.length ([] : List Int)))) <|
        grd (okRoom ((List.length (List.take ((Int.toNat i26) - 0) (List.drop 0 l77))))) <|
        grd (okRoom ((List.length (([] : List Int) ++ (List.take ((Int.toNat i26) - 0) (List.drop 0 l77)))))) <|
        grd (okRoom ((List.length [(List.getD l_1 (Int.toNat i23) (0, 0)).1]))) <|
        grd (okRoom ((List.length ((([] : List Int) ++ (List.take ((Int.toNat i26) - 0) (List.drop 0 l77))) ++ [(List.getD l_1 (Int.toNat i23) (0, 0)).1])))) <|
        grd (okRoom ((List.length (List.take ((List.length l77) - (Int.toNat i26)) (List.drop (Int.toNat i26) l77))))) <|
        (some (((([] : List Int) ++ (List.take ((Int.toNat i26) - 0) (List.drop 0 l77))) ++ [(List.getD l_1 (Int.toNat i23) (0, 0)).1]) ++ (List.take ((List.length l77) - (Int.toNat i26)) (List.drop (Int.toNat i26) l77)))) : Option ((List Int))) fun l79 =>
    Option.bind (
      Option.bind (loop (m_ref12_Ends_L2 std i23 l79 l_1) (((List.length l79) : Nat) : Int)) fun i29 =>
      Option.bind (
        bif (decide (i29 < (((List.length l79) : Nat) : Int))) then
          grd (okIdx i29 ((List.length l79))) <|
          grd (okKin ((Int.toNat i29)) ((List.length l79))) <|
          (some ((List.getD l79 (Int.toNat i29) 0) == (List.getD l_1 (Int.toNat i23) (0, 0)).2))
        else
          (some false) : Option ((Bool))) fun x117 =>
      bif x117 then
        (some l79)
      else
        grd (okRng i29 ((List.length l79))) <|
        grd (okRoom ((List.length ([] : List Int)))) <|
        grd (okRoom ((List.length (List.take ((Int.toNat i29) - 0) (List.drop 0 l79))))) <|
        grd (okRoom ((List.length (([] : List Int) ++ (List.take ((Int.toNat i29) - 0) (List.drop 0 l79)))))) <|
        grd (okRoom ((List.length [(List.getD l_1 (Int.toNat i23) (0, 0)).2]))) <|
        grd (okRoom ((List.length ((([] : List Int) ++ (List.take ((Int.toNat i29) - 0) (List.drop 0 l79))) ++ [(List.getD l_1 (Int.toNat i23) (0, 0)).2])))) <|
        grd (okRoom ((List.length (List.take ((List.length l79) - (Int.toNat i29)) (List.drop (Int.toNat i29) l79))))) <|
        (some (((([] : List Int) ++ (List.take ((Int.toNat i29) - 0) (List.drop 0 l79))) ++ [(List.getD l_1 (Int.toNat i23) (0, 0)).2]) ++ (List.take ((List.length l79) - (Int.toNat i29)) (List.drop (Int.toNat i29) l79)))) : Option ((List Int))) fun l81 =>
    grd (okI .i64 ((i23 + 1))) <|
    (some (Sum.inl ((i23 + 1), l81)))
  else
    (some (Sum.inr l77))) : Option ((Int × List Int) ⊕ (List Int))) := rfl
theorem m_ref12_Ends_eq (l_1 : List (Int × Int)) : m_ref12_Ends std l_1 =
((Option.bind (loop (m_ref12_Ends_L3 std l_1) (0, ([] : List Int))) fun l82 =>
  (some l82)) : Option (List Int)) := rfl
theorem m_ref12_In_L1_eq (l_1 : List (Int × Int)) (x_1 : Int) (i31 : Int) : m_ref12_In_L1 std l_1 x_1 i31 =
((bif (decide (i31 < (((List.length l_1) : Nat) : Int))) then
    Option.bind (
      bif (decide ((List.getD l_1 (Int.toNat i31) (0, 0)).1 ≤ x_1)) then
        grd (okIdx i31 ((List.length l_1))) <|
        grd (okKin ((Int.toNat i31)) ((List.length l_1))) <|
        (some (decide (x_1 < (List.getD l_1 (Int.toNat i31) (0, 0)).2)))
      else
        grd (okIdx i31 ((List.length l_1))) <|
        grd (okKin ((Int.toNat i31)) ((List.length l_1))) <|
        (some false) : Option ((Bool))) fun x119 =>
    bif x119 then
      (some (Sum.inr (Sum.inl ())))
    else
      grd (okI .i64 ((i31 + 1))) <|
      (some (Sum.inl (i31 + 1)))
  else
    (some (Sum.inr (Sum.inr ())))) : Option ((Int) ⊕ ((Unit) ⊕ (Unit)))) := rfl
theorem m_ref12_In_eq (x_1 : Int) (l_1 : List (Int × Int)) : m_ref12_In std x_1 l_1 =
((Option.bind (loop (m_ref12_In_L1 std l_1 x_1) 0) fun e => match e with
  | .inl _ =>
    (some true)
  | .inr (_) =>
    (some false)) : Option (Bool)) := rfl
theorem m_ref12_keep_eq (kind_1 : Int) (a_1 : Bool) (b_1 : Bool) : m_ref12_keep std kind_1 a_1 b_1 =
((Option.bind (
    bif (kind_1 == 1) then
      Option.bind (
        bif a_1 then
          (some true)
        else
          (some b_1) : Option ((Bool))) fun x121 =>
      (some (Sum.inl x121))
    else
      Option.bind (
        bif (kind_1 == 2) then
          Option.bind (
            bif a_1 then
              (some b_1)
            else
              (some false) : Option ((Bool))) fun x123 =>
          (some (Sum.inl x123))
        else
          bif (kind_1 == 3) then
            Option.bind (
              bif a_1 then
                (some (!b_1))
              else
                (some false) : Option ((Bool))) fun x125 =>
            (some (Sum.inl x125))
          else
            (some (Sum.inr ())) : Option (((Bool) ⊕ (Unit)))) fun e => match e with
      | .inl x127 =>
        (some (Sum.inl x127))
      | .inr (_) =>
        (some (Sum.inr ())) : Option (((Bool) ⊕ (Unit)))) fun e => match e with
  | .inl x129 =>
    (some x129)
  | .inr (_) =>
    (some (!(a_1 == b_1)))) : Option (Bool)) := rfl
theorem m_ref12_Combine_L1_eq (a_1 : List (Int × Int)) (b_1 : List (Int × Int)) (kind_1 : Int) (l83 : List Int) (i32 : Int) (l88 : List (Int × Int)) : m_ref12_Combine_L1 std a_1 b_1 kind_1 l83 (i32, l88) =
((grd (okI .i64 ((i32 + 1))) <|
  bif (decide ((i32 + 1) < (((List.length l83) : Nat) : Int))) then
    grd (okIdx i32 ((List.length l83))) <|
    grd (okKin ((Int.toNat i32)) ((List.length l83))) <|
    Option.bind (m_ref12_In std ((List.getD l83 (Int.toNat i32) 0)) a_1) fun b42 =>
    Option.bind (m_ref12_In std ((List.getD l83 (Int.toNat i32) 0)) b_1) fun b43 =>
    Option.bind (m_ref12_keep std kind_1 b42 b43) fun b44 =>
    Option.bind (
      bif b44 then
        Option.bind (
          grd (okIdx ((i32 + 1)) ((List.length l83))) <|
          grd (okKin ((Int.toNat (i32 + 1))) ((List.length l83))) <|
          Option.bind (
            bif (decide (0 < (((List.length l88) : Nat) : Int))) then
              grd (okI .i64 (((((List.length l88) : Nat) : Int) - 1))) <|
              grd (okIdx (((((List.length l88) : Nat) : Int) - 1)) ((List.length l88))) <|
              grd (okKin ((Int.toNat ((((List.length l88) : Nat) : Int) - 1))) ((List.length l88))) <|
              (some ((List.getD l88 (Int.toNat ((((List.length l88) : Nat) : Int) - 1)) (0, 0)).2 == (List.getD l83 (Int.toNat i32) 0)))
            else
              (some false) : Option ((Bool))) fun x133 =>
          bif x133 then
            grd (okI .i64 (((((List.length l88) : Nat) : Int) - 1))) <|
            grd (okIdx (((((List.length l88) : Nat) : Int) - 1)) ((List.length l88))) <|
            grd (okKin ((Int.toNat ((((List.length l88) : Nat) : Int) - 1))) ((List.length l88))) <|
            (some (List.set l88 (Int.toNat ((((List.length l88) : Nat) : Int) - 1)) ((List.getD l88 (Int.toNat ((((List.length l88) : Nat) : Int) - 1)) (0, 0)).1, (List.getD l83 (Int.toNat (i32 + 1)) 0))))
          else
            grd (okRoom ((List.length l88))) <|
            grd (okRoom ((List.length [((List.getD l83 (Int.toNat i32) 0), (List.getD l83 (Int.toNat (i32 + 1)) 0))]))) <|
            (some (l88 ++ [((List.getD l83 (Int.toNat i32) 0), (List.getD l83 (Int.toNat (i32 + 1)) 0))])) : Option ((List (Int × Int)))) fun l90 =>
        (some l90)
      else
        (some l88) : Option ((List (Int × Int)))) fun l92 =>
    (some (Sum.inl ((i32 + 1), l92)))
  else
    (some (Sum.inr l88))) : Option ((Int × List (Int × Int)) ⊕ (List (Int × Int)))) := rfl
theorem m_ref12_Combine_eq (kind_1 : Int) (a_1 : List (Int × Int)) (b_1 : List (Int × Int)) : m_ref12_Combine std kind_1 a_1 b_1 =
((grd (okRoom ((List.length ([] : List (Int × Int))))) <|
  grd (okRoom ((List.length a_1))) <|
  grd (okRoom ((List.length (([] : List (Int × Int)) ++ a_1)))) <|
  grd (okRoom ((List.length b_1))) <|
  Option.bind (m_ref12_Ends std (((([] : List (Int × Int)) ++ a_1) ++ b_1))) fun l83 =>
  Option.bind (loop (m_ref12_Combine_L1 std a_1 b_1 kind_1 l83) (0, ([] : List (Int × Int)))) fun l93 =>
  (some l93)) : Option (List (Int × Int))) := rfl
theorem m_ref12_full_eq (l_1 : List (Int × Int)) : m_ref12_full std l_1 =
((bif (decide (2000 < (((List.length l_1) : Nat) : Int))) then
    (some (Sum.inl (([] : List (Int × Int)), 5)))
  else
    (some (Sum.inr 0))) : Option (((List (Int × Int) × Int) ⊕ (Int)))) := rfl
theorem m_ref12_Of_eq (l_1 : List (Int × Int)) : m_ref12_Of std l_1 =
((Option.bind (m_ref12_Spans std l_1) fun b38 =>
  bif (!b38) then
    (some (([] : List (Int × Int)), 1))
  else
    Option.bind (
      Option.bind (m_ref12_Combine std 1 l_1 (([] : List (Int × Int)))) fun l94 =>
      Option.bind (m_ref12_full std l94) fun e => match e with
      | .inl (l95, n57) =>
        (some (n57, l95))
      | .inr (n58) =>
        (some (n58, l94)) : Option ((Int × List (Int × Int)))) fun (x135, l97) =>
    (some (l97, x135))) : Option (List (Int × Int) × Int)) := rfl
theorem m_ref35_At_L1_eq (l_1 : List (Int × Int × Int × Int)) (tx_1 : Int) (i14 : Int) (l69 : List (Int × Int)) : m_ref35_At_L1 std l_1 tx_1 (i14, l69) =
((bif (decide (i14 < (((List.length l_1) : Nat) : Int))) then
    Option.bind (
      bif (decide ((List.getD l_1 (Int.toNat i14) (0, 0, 0, 0)).2.2.1 ≤ tx_1)) then
        grd (okIdx i14 ((List.length l_1))) <|
        grd (okKin ((Int.toNat i14)) ((List.length l_1))) <|
        (some (decide (tx_1 < (List.getD l_1 (Int.toNat i14) (0, 0, 0, 0)).2.2.2)))
      else
        grd (okIdx i14 ((List.length l_1))) <|
        grd (okKin ((Int.toNat i14)) ((List.length l_1))) <|
        (some false) : Option ((Bool))) fun x88 =>
    Option.bind (
      bif x88 then
        grd (okRoom ((List.length l69))) <|
        grd (okRoom ((List.length [((List.getD l_1 (Int.toNat i14) (0, 0, 0, 0)).1, (List.getD l_1 (Int.toNat i14) (0, 0, 0, 0)).2.1)]))) <|
        (some (l69 ++ [((List.getD l_1 (Int.toNat i14) (0, 0, 0, 0)).1, (List.getD l_1 (Int.toNat i14) (0, 0, 0, 0)).2.1)]))
      else
        (some l69) : Option ((List (Int × Int)))) fun l71 =>
    grd (okI .i64 ((i14 + 1))) <|
    (some (Sum.inl ((i14 + 1), l71)))
  else
    (some (Sum.inr l69))) : Option ((Int × List (Int × Int)) ⊕ (List (Int × Int)))) := rfl
theorem m_ref35_At_eq (tx_1 : Int) (l_1 : List (Int × Int × Int × Int)) : m_ref35_At std tx_1 l_1 =
((Option.bind (loop (m_ref35_At_L1 std l_1 tx_1) (0, ([] : List (Int × Int)))) fun l72 =>
  Option.bind (m_ref12_Of std l72) fun (l98, _) =>
  (some l98)) : Option (List (Int × Int))) := rfl
theorem m_ref35_During_L1_eq (l_1 : List (Int × Int × Int × Int)) (valid_1 : Int) (i34 : Int) (l103 : List (Int × Int)) : m_ref35_During_L1 std l_1 valid_1 (i34, l103) =
((bif (decide (i34 < (((List.length l_1) : Nat) : Int))) then
    Option.bind (
      bif (decide ((List.getD l_1 (Int.toNat i34) (0, 0, 0, 0)).1 ≤ valid_1)) then
        grd (okIdx i34 ((List.length l_1))) <|
        grd (okKin ((Int.toNat i34)) ((List.length l_1))) <|
        (some (decide (valid_1 < (List.getD l_1 (Int.toNat i34) (0, 0, 0, 0)).2.1)))
      else
        grd (okIdx i34 ((List.length l_1))) <|
        grd (okKin ((Int.toNat i34)) ((List.length l_1))) <|
        (some false) : Option ((Bool))) fun x139 =>
    Option.bind (
      bif x139 then
        grd (okRoom ((List.length l103))) <|
        grd (okRoom ((List.length [((List.getD l_1 (Int.toNat i34) (0, 0, 0, 0)).2.2.1, (List.getD l_1 (Int.toNat i34) (0, 0, 0, 0)).2.2.2)]))) <|
        (some (l103 ++ [((List.getD l_1 (Int.toNat i34) (0, 0, 0, 0)).2.2.1, (List.getD l_1 (Int.toNat i34) (0, 0, 0, 0)).2.2.2)]))
      else
        (some l103) : Option ((List (Int × Int)))) fun l105 =>
    grd (okI .i64 ((i34 + 1))) <|
    (some (Sum.inl ((i34 + 1), l105)))
  else
    (some (Sum.inr l103))) : Option ((Int × List (Int × Int)) ⊕ (List (Int × Int)))) := rfl
theorem m_ref35_During_eq (valid_1 : Int) (l_1 : List (Int × Int × Int × Int)) : m_ref35_During std valid_1 l_1 =
((Option.bind (loop (m_ref35_During_L1 std l_1 valid_1) (0, ([] : List (Int × Int)))) fun l106 =>
  Option.bind (m_ref12_Of std l106) fun (l107, _) =>
  (some l107)) : Option (List (Int × Int))) := rfl
theorem m_ref35_put_L1_eq (l_1 : List Int) (x_1 : Int) (done4 : Bool) (i37 : Int) (l113 : List Int) : m_ref35_put_L1 std l_1 x_1 (done4, i37, l113) =
((bif (decide (i37 < (((List.length l_1) : Nat) : Int))) then
    Option.bind (
      bif (!done4) then
        grd (okIdx i37 ((List.length l_1))) <|
        grd (okKin ((Int.toNat i37)) ((List.length l_1))) <|
        (some (decide (x_1 ≤ (List.getD l_1 (Int.toNat i37) 0))))
      else
        (some false) : Option ((Bool))) fun x149 =>
    Option.bind (
      bif x149 then
        grd (okIdx i37 ((List.length l_1))) <|
        grd (okKin ((Int.toNat i37)) ((List.length l_1))) <|
        Option.bind (
          bif (decide (x_1 < (List.getD l_1 (Int.toNat i37) 0))) then
            grd (okRoom ((List.length l113))) <|
            grd (okRoom ((List.length [x_1]))) <|
            (some (l113 ++ [x_1]))
          else
            (some l113) : Option ((List Int))) fun l115 =>
        (some (true, l115))
      else
        (some (done4, l113)) : Option ((Bool × List Int))) fun (done6, l117) =>
    grd (okIdx i37 ((List.length l_1))) <|
    grd (okKin ((Int.toNat i37)) ((List.length l_1))) <|
    grd (okRoom ((List.length l117))) <|
    grd (okRoom ((List.length [(List.getD l_1 (Int.toNat i37) 0)]))) <|
    grd (okI .i64 ((i37 + 1))) <|
    (some (Sum.inl (done6, (i37 + 1), (l117 ++ [(List.getD l_1 (Int.toNat i37) 0)]))))
  else
    (some (Sum.inr (done4, l113)))) : Option ((Bool × Int × List Int) ⊕ (Bool × List Int))) := rfl
theorem m_ref35_put_eq (x_1 : Int) (l_1 : List Int) : m_ref35_put std x_1 l_1 =
((Option.bind (loop (m_ref35_put_L1 std l_1 x_1) (false, 0, ([] : List Int))) fun (done7, l118) =>
  Option.bind (
    bif (!done7) then
      grd (okRoom ((List.length l118))) <|
      grd (okRoom ((List.length [x_1]))) <|
      (some (l118 ++ [x_1]))
    else
      (some l118) : Option ((List Int))) fun l120 =>
  (some l120)) : Option (List Int)) := rfl
theorem m_ref35_ends_L1_eq (a_1 : List (Int × Int × Int × Int)) (i38 : Int) (l123 : List Int) : m_ref35_ends_L1 std a_1 (i38, l123) =
((bif (decide (i38 < (((List.length a_1) : Nat) : Int))) then
    grd (okIdx i38 ((List.length a_1))) <|
    grd (okKin ((Int.toNat i38)) ((List.length a_1))) <|
    Option.bind (m_ref35_put std ((List.getD a_1 (Int.toNat i38) (0, 0, 0, 0)).2.2.1) l123) fun l124 =>
    Option.bind (m_ref35_put std ((List.getD a_1 (Int.toNat i38) (0, 0, 0, 0)).2.2.2) l124) fun l125 =>
    grd (okI .i64 ((i38 + 1))) <|
    (some (Sum.inl ((i38 + 1), l125)))
  else
    (some (Sum.inr l123))) : Option ((Int × List Int) ⊕ (List Int))) := rfl
theorem m_ref35_ends_L2_eq (b_1 : List (Int × Int × Int × Int)) (i40 : Int) (l129 : List Int) : m_ref35_ends_L2 std b_1 (i40, l129) =
((bif (decide (i40 < (((List.length b_1) : Nat) : Int))) then
    grd (okIdx i40 ((List.length b_1))) <|
    grd (okKin ((Int.toNat i40)) ((List.length b_1))) <|
    Option.bind (m_ref35_put std ((List.getD b_1 (Int.toNat i40) (0, 0, 0, 0)).2.2.1) l129) fun l130 =>
    Option.bind (m_ref35_put std ((List.getD b_1 (Int.toNat i40) (0, 0, 0, 0)).2.2.2) l130) fun l131 =>
    grd (okI .i64 ((i40 + 1))) <|
    (some (Sum.inl ((i40 + 1), l131)))
  else
    (some (Sum.inr l129))) : Option ((Int × List Int) ⊕ (List Int))) := rfl
theorem m_ref35_ends_eq (a_1 : List (Int × Int × Int × Int)) (b_1 : List (Int × Int × Int × Int)) : m_ref35_ends std a_1 b_1 =
((Option.bind (loop (m_ref35_ends_L1 std a_1) (0, ([] : List Int))) fun l126 =>
  Option.bind (loop (m_ref35_ends_L2 std b_1) (0, l126)) fun l132 =>
  (some l132)) : Option (List Int)) := rfl
theorem m_ref35_has_eq (x_1 : Int) (l_1 : List (Int × Int)) : m_ref35_has std x_1 l_1 =
((Option.bind (m_ref12_In std x_1 l_1) fun b49 =>
  (some b49)) : Option (Bool)) := rfl
theorem m_ref35_mix_L1_eq (a_1 : List (Int × Int)) (i43 : Int) (l138 : List Int) : m_ref35_mix_L1 std a_1 (i43, l138) =
((bif (decide (i43 < (((List.length a_1) : Nat) : Int))) then
    grd (okIdx i43 ((List.length a_1))) <|
    grd (okKin ((Int.toNat i43)) ((List.length a_1))) <|
    Option.bind (m_ref35_put std ((List.getD a_1 (Int.toNat i43) (0, 0)).1) l138) fun l139 =>
    Option.bind (m_ref35_put std ((List.getD a_1 (Int.toNat i43) (0, 0)).2) l139) fun l140 =>
    grd (okI .i64 ((i43 + 1))) <|
    (some (Sum.inl ((i43 + 1), l140)))
  else
    (some (Sum.inr l138))) : Option ((Int × List Int) ⊕ (List Int))) := rfl
theorem m_ref35_mix_L2_eq (b_1 : List (Int × Int)) (i45 : Int) (l144 : List Int) : m_ref35_mix_L2 std b_1 (i45, l144) =
((bif (decide (i45 < (((List.length b_1) : Nat) : Int))) then
    grd (okIdx i45 ((List.length b_1))) <|
    grd (okKin ((Int.toNat i45)) ((List.length b_1))) <|
    Option.bind (m_ref35_put std ((List.getD b_1 (Int.toNat i45) (0, 0)).1) l144) fun l145 =>
    Option.bind (m_ref35_put std ((List.getD b_1 (Int.toNat i45) (0, 0)).2) l145) fun l146 =>
    grd (okI .i64 ((i45 + 1))) <|
    (some (Sum.inl ((i45 + 1), l146)))
  else
    (some (Sum.inr l144))) : Option ((Int × List Int) ⊕ (List Int))) := rfl
theorem m_ref35_mix_L3_eq (a_1 : List (Int × Int)) (b_1 : List (Int × Int)) (kind_1 : Int) (l147 : List Int) (i47 : Int) (l152 : List (Int × Int)) : m_ref35_mix_L3 std a_1 b_1 kind_1 l147 (i47, l152) =
((grd (okI .i64 ((i47 + 1))) <|
  bif (decide ((i47 + 1) < (((List.length l147) : Nat) : Int))) then
    grd (okIdx i47 ((List.length l147))) <|
    grd (okKin ((Int.toNat i47)) ((List.length l147))) <|
    Option.bind (m_ref35_has std ((List.getD l147 (Int.toNat i47) 0)) a_1) fun b52 =>
    Option.bind (m_ref35_has std ((List.getD l147 (Int.toNat i47) 0)) b_1) fun b53 =>
    Option.bind (
      bif (kind_1 == 0) then
        bif b52 then
          (some true)
        else
          bif b53 then
            (some true)
          else
            bif (kind_1 == 1) then
              bif (kind_1 == 2) then
                (some false)
              else
                (some false)
            else
              bif (kind_1 == 2) then
                (some false)
              else
                (some false)
      else
        bif (kind_1 == 1) then
          bif b52 then
            bif b53 then
              (some true)
            else
              bif (kind_1 == 2) then
                (some (!false))
              else
                (some false)
          else
            bif (kind_1 == 2) then
              (some false)
            else
              (some false)
        else
          bif (kind_1 == 2) then
            bif b52 then
              (some (!b53))
            else
              (some false)
          else
            (some false) : Option ((Bool))) fun x177 =>
    Option.bind (
      bif x177 then
        Option.bind (
          bif (decide (0 < (((List.length l152) : Nat) : Int))) then
            grd (okI .i64 (((((List.length l152) : Nat) : Int) - 1))) <|
            grd (okIdx (((((List.length l152) : Nat) : Int) - 1)) ((List.length l152))) <|
            grd (okKin ((Int.toNat ((((List.length l152) : Nat) : Int) - 1))) ((List.length l152))) <|
            (some ((List.getD l152 (Int.toNat ((((List.length l152) : Nat) : Int) - 1)) (0, 0)).2 == (List.getD l147 (Int.toNat i47) 0)))
          else
            (some false) : Option ((Bool))) fun x179 =>
        Option.bind (
          bif x179 then
            grd (okI .i64 (((((List.length l152) : Nat) : Int) - 1))) <|
            grd (okIdx ((i47 + 1)) ((List.length l147))) <|
            grd (okKin ((Int.toNat (i47 + 1))) ((List.length l147))) <|
            grd (okIdx (((((List.length l152) : Nat) : Int) - 1)) ((List.length l152))) <|
            grd (okKin ((Int.toNat ((((List.length l152) : Nat) : Int) - 1))) ((List.length l152))) <|
            (some (List.set l152 (Int.toNat ((((List.length l152) : Nat) : Int) - 1)) ((List.getD l152 (Int.toNat ((((List.length l152) : Nat) : Int) - 1)) (0, 0)).1, (List.getD l147 (Int.toNat (i47 + 1)) 0))))
          else
            grd (okIdx ((i47 + 1)) ((List.length l147))) <|
            grd (okKin ((Int.toNat (i47 + 1))) ((List.length l147))) <|
            grd (okRoom ((List.length l152))) <|
            grd (okRoom ((List.length [((List.getD l147 (Int.toNat i47) 0), (List.getD l147 (Int.toNat (i47 + 1)) 0))]))) <|
            (some (l152 ++ [((List.getD l147 (Int.toNat i47) 0), (List.getD l147 (Int.toNat (i47 + 1)) 0))])) : Option ((List (Int × Int)))) fun l154 =>
        (some l154)
      else
        (some l152) : Option ((List (Int × Int)))) fun l156 =>
    (some (Sum.inl ((i47 + 1), l156)))
  else
    (some (Sum.inr l152))) : Option ((Int × List (Int × Int)) ⊕ (List (Int × Int)))) := rfl
theorem m_ref35_mix_eq (kind_1 : Int) (a_1 : List (Int × Int)) (b_1 : List (Int × Int)) : m_ref35_mix std kind_1 a_1 b_1 =
((Option.bind (loop (m_ref35_mix_L1 std a_1) (0, ([] : List Int))) fun l141 =>
  Option.bind (loop (m_ref35_mix_L2 std b_1) (0, l141)) fun l147 =>
  Option.bind (loop (m_ref35_mix_L3 std a_1 b_1 kind_1 l147) (0, ([] : List (Int × Int)))) fun l157 =>
  (some l157)) : Option (List (Int × Int))) := rfl
theorem m_ref12_Same_L1_eq (a_1 : List (Int × Int)) (b_1 : List (Int × Int)) (i48 : Int) : m_ref12_Same_L1 std a_1 b_1 i48 =
((bif (decide (i48 < (((List.length a_1) : Nat) : Int))) then
    Option.bind (
      bif (!((List.getD a_1 (Int.toNat i48) (0, 0)).1 == (List.getD b_1 (Int.toNat i48) (0, 0)).1)) then
        grd (okIdx i48 ((List.length a_1))) <|
        grd (okKin ((Int.toNat i48)) ((List.length a_1))) <|
        grd (okIdx i48 ((List.length b_1))) <|
        grd (okKin ((Int.toNat i48)) ((List.length b_1))) <|
        (some true)
      else
        grd (okIdx i48 ((List.length a_1))) <|
        grd (okKin ((Int.toNat i48)) ((List.length a_1))) <|
        grd (okIdx i48 ((List.length b_1))) <|
        grd (okKin ((Int.toNat i48)) ((List.length b_1))) <|
        (some (!((List.getD a_1 (Int.toNat i48) (0, 0)).2 == (List.getD b_1 (Int.toNat i48) (0, 0)).2))) : Option ((Bool))) fun x181 =>
    bif x181 then
      (some (Sum.inr (Sum.inl ())))
    else
      grd (okI .i64 ((i48 + 1))) <|
      (some (Sum.inl (i48 + 1)))
  else
    (some (Sum.inr (Sum.inr ())))) : Option ((Int) ⊕ ((Unit) ⊕ (Unit)))) := rfl
theorem m_ref12_Same_eq (a_1 : List (Int × Int)) (b_1 : List (Int × Int)) : m_ref12_Same std a_1 b_1 =
((bif (!((((List.length a_1) : Nat) : Int) == (((List.length b_1) : Nat) : Int))) then
    (some false)
  else
    Option.bind (loop (m_ref12_Same_L1 std a_1 b_1) 0) fun e => match e with
    | .inl _ =>
      (some false)
    | .inr (_) =>
      (some true)) : Option (Bool)) := rfl
theorem m_ref35_Combine_L1_eq (from4 : Int) (i49 : Int) (l133 : List Int) (l164 : List (Int × Int)) (k14 : Int) (l170 : List (Int × Int × Int × Int)) : m_ref35_Combine_L1 std from4 i49 l133 l164 (k14, l170) =
((bif (decide (k14 < (((List.length l164) : Nat) : Int))) then
    grd (okIdx k14 ((List.length l164))) <|
    grd (okKin ((Int.toNat k14)) ((List.length l164))) <|
    grd (okIdx i49 ((List.length l133))) <|
    grd (okKin ((Int.toNat i49)) ((List.length l133))) <|
    grd (okRoom ((List.length l170))) <|
    grd (okRoom ((List.length [((List.getD l164 (Int.toNat k14) (0, 0)).1, (List.getD l164 (Int.toNat k14) (0, 0)).2, from4, (List.getD l133 (Int.toNat i49) 0))]))) <|
    grd (okI .i64 ((k14 + 1))) <|
    (some (Sum.inl ((k14 + 1), (l170 ++ [((List.getD l164 (Int.toNat k14) (0, 0)).1, (List.getD l164 (Int.toNat k14) (0, 0)).2, from4, (List.getD l133 (Int.toNat i49) 0))]))))
  else
    (some (Sum.inr l170))) : Option ((Int × List (Int × Int × Int × Int)) ⊕ (List (Int × Int × Int × Int)))) := rfl
theorem m_ref35_Combine_L2_eq (a_1 : List (Int × Int × Int × Int)) (b_1 : List (Int × Int × Int × Int)) (kind_1 : Int) (l133 : List Int) (from4 : Int) (i49 : Int) (l163 : List (Int × Int × Int × Int)) (l164 : List (Int × Int)) : m_ref35_Combine_L2 std a_1 b_1 kind_1 l133 (from4, i49, l163, l164) =
((bif (decide (i49 < (((List.length l133) : Nat) : Int))) then
    grd (okI .i64 ((i49 + 1))) <|
    Option.bind (
      bif (decide ((i49 + 1) < (((List.length l133) : Nat) : Int))) then
        grd (okIdx i49 ((List.length l133))) <|
        grd (okKin ((Int.toNat i49)) ((List.length l133))) <|
        Option.bind (m_ref35_At std ((List.getD l133 (Int.toNat i49) 0)) a_1) fun l165 =>
        Option.bind (m_ref35_At std ((List.getD l133 (Int.toNat i49) 0)) b_1) fun l166 =>
        Option.bind (m_ref35_mix std kind_1 l165 l166) fun l167 =>
        (some l167)
      else
        (some ([] : List (Int × Int))) : Option ((List (Int × Int)))) fun l169 =>
    Option.bind (m_ref12_Same std l169 l164) fun b55 =>
    bif b55 then
      (some (Sum.inl (from4, (i49 + 1), l163, l164)))
    else
      Option.bind (loop (m_ref35_Combine_L1 std from4 i49 l133 l164) (0, l163)) fun l171 =>
      grd (okIdx i49 ((List.length l133))) <|
      grd (okKin ((Int.toNat i49)) ((List.length l133))) <|
      (some (Sum.inl ((List.getD l133 (Int.toNat i49) 0), (i49 + 1), l171, l169)))
  else
    (some (Sum.inr l163))) : Option ((Int × Int × List (Int × Int × Int × Int) × List (Int × Int)) ⊕ (List (Int × Int × Int × Int)))) := rfl
theorem m_ref35_Combine_eq (kind_1 : Int) (a_1 : List (Int × Int × Int × Int)) (b_1 : List (Int × Int × Int × Int)) : m_ref35_Combine std kind_1 a_1 b_1 =
((Option.bind (
    Option.bind (m_ref35_List std a_1) fun b47 =>
    bif (!b47) then
      (some true)
    else
      Option.bind (m_ref35_List std b_1) fun b48 =>
      (some (!b48)) : Option ((Bool))) fun x143 =>
  bif x143 then
    (some (([] : List (Int × Int × Int × Int)), 1))
  else
    Option.bind (
      bif (decide (500 < (((List.length a_1) : Nat) : Int))) then
        (some true)
      else
        (some (decide (500 < (((List.length b_1) : Nat) : Int)))) : Option ((Bool))) fun x145 =>
    bif x145 then
      (some (([] : List (Int × Int × Int × Int)), 5))
    else
      Option.bind (m_ref35_ends std a_1 b_1) fun l133 =>
      Option.bind (loop (m_ref35_Combine_L2 std a_1 b_1 kind_1 l133) (0, 0, ([] : List (Int × Int × Int × Int)), ([] : List (Int × Int)))) fun l172 =>
      bif (decide (500 < (((List.length l172) : Nat) : Int))) then
        (some (([] : List (Int × Int × Int × Int)), 5))
      else
        (some (l172, 0))) : Option (List (Int × Int × Int × Int) × Int)) := rfl
theorem m_ref35_Area_L1_eq (l174 : List (Int × Int × Int × Int)) (sum5 : Int) (i51 : Int) : m_ref35_Area_L1 std l174 (sum5, i51) =
((bif (decide (i51 < (((List.length l174) : Nat) : Int))) then
    grd (okIdx i51 ((List.length l174))) <|
    grd (okKin ((Int.toNat i51)) ((List.length l174))) <|
    grd (okI .i64 (((List.getD l174 (Int.toNat i51) (0, 0, 0, 0)).2.1 - (List.getD l174 (Int.toNat i51) (0, 0, 0, 0)).1))) <|
    grd (okI .i64 (((List.getD l174 (Int.toNat i51) (0, 0, 0, 0)).2.2.2 - (List.getD l174 (Int.toNat i51) (0, 0, 0, 0)).2.2.1))) <|
    Option.bind (m_ref01_Mul std (((List.getD l174 (Int.toNat i51) (0, 0, 0, 0)).2.1 - (List.getD l174 (Int.toNat i51) (0, 0, 0, 0)).1)) (((List.getD l174 (Int.toNat i51) (0, 0, 0, 0)).2.2.2 - (List.getD l174 (Int.toNat i51) (0, 0, 0, 0)).2.2.1))) fun (n68, n69) =>
    Option.bind (m_ref01_Add std sum5 n68) fun (n70, n71) =>
    Option.bind (
      bif (!(n69 == 0)) then
        (some true)
      else
        (some (!(n71 == 0))) : Option ((Bool))) fun x185 =>
    bif x185 then
      (some (Sum.inr (Sum.inl ())))
    else
      grd (okI .i64 ((i51 + 1))) <|
      (some (Sum.inl (n70, (i51 + 1))))
  else
    (some (Sum.inr (Sum.inr sum5)))) : Option ((Int × Int) ⊕ ((Unit) ⊕ (Int)))) := rfl
theorem m_ref35_Area_eq (l_1 : List (Int × Int × Int × Int)) : m_ref35_Area std l_1 =
((Option.bind (m_ref35_Combine std 0 l_1 (([] : List (Int × Int × Int × Int)))) fun (l174, _) =>
  Option.bind (loop (m_ref35_Area_L1 std l174) (0, 0)) fun e => match e with
  | .inl _ =>
    (some (-1))
  | .inr (sum6) =>
    (some sum6)) : Option (Int)) := rfl
theorem m_law35_RectangleParts_eq (valid_1 : Int) (tx_1 : Int) (l_1 : List (Int × Int × Int × Int)) : m_law35_RectangleParts std valid_1 tx_1 l_1 =
((Option.bind (m_law35_awake std) fun b20 =>
  bif (!b20) then
    (some false)
  else
    Option.bind (m_law35_few std l_1) fun b23 =>
    bif (!b23) then
      (some true)
    else
      Option.bind (m_ref35_List std l_1) fun b27 =>
      bif (!b27) then
        Option.bind (
          Option.bind (m_rectangle_Has std valid_1 tx_1 l_1) fun b31 =>
          bif (!b31) then
            Option.bind (m_rectangle_At std tx_1 l_1) fun l55 =>
            bif ((((List.length l55) : Nat) : Int) == 0) then
              Option.bind (m_rectangle_During std valid_1 l_1) fun l59 =>
              bif ((((List.length l59) : Nat) : Int) == 0) then
                Option.bind (m_rectangle_Area std l_1) fun n56 =>
                (some (n56 == (-1)))
              else
                (some false)
            else
              (some false)
          else
            (some false) : Option ((Bool))) fun x80 =>
        (some x80)
      else
        Option.bind (
          Option.bind (m_rectangle_Has std valid_1 tx_1 l_1) fun b33 =>
          Option.bind (m_ref35_Has std valid_1 tx_1 l_1) fun b34 =>
          bif (!(b33 == b34)) then
            (some true)
          else
            Option.bind (m_rectangle_At std tx_1 l_1) fun l66 =>
            Option.bind (m_ref35_At std tx_1 l_1) fun l99 =>
            Option.bind (m_slices_Equal std l66 l99) fun b45 =>
            bif (!b45) then
              (some true)
            else
              Option.bind (m_rectangle_During std valid_1 l_1) fun l100 =>
              Option.bind (m_ref35_During std valid_1 l_1) fun l108 =>
              Option.bind (m_slices_Equal std l100 l108) fun b46 =>
              (some (!b46)) : Option ((Bool))) fun x141 =>
        bif x141 then
          (some false)
        else
          Option.bind (m_ref35_Combine std 0 l_1 (([] : List (Int × Int × Int × Int)))) fun (_, n61) =>
          Option.bind (
            bif (!(n61 == 0)) then
              (some true)
            else
              Option.bind (m_rectangle_Area std l_1) fun n62 =>
              Option.bind (m_ref35_Area std l_1) fun n72 =>
              (some (n62 == n72)) : Option ((Bool))) fun x187 =>
          (some x187)) : Option (Bool)) := rfl
end Go.Proofs.YtkdffpncpikdmaaGreat
