/-
  Equations of models (printed by lift.py).
-/
import Derived.Test.YtkdffpncpikdmaaRM
namespace Go.Proofs.Ytkdffpncpikdmaa
open Go.RowKit
set_option maxRecDepth 100000

theorem m_law35_rect_eq (a_1 : Int) (b_1 : Int) (c_1 : Int) (d_1 : Int) : m_law35_rect std a_1 b_1 c_1 d_1 =
(((some (a_1, b_1, c_1, d_1))) : Option (Int × Int × Int × Int)) := rfl
theorem m_rectangle_isSpan_eq (s_1 : Int) (s_2 : Int) : m_rectangle_isSpan std s_1 s_2 =
((Option.bind (
    bif (decide ((-62135596800) ≤ s_1)) then
      bif (decide (s_1 < s_2)) then
        (some (decide (s_2 ≤ 253402300800)))
      else
        (some false)
    else
      (some false) : Option ((Bool))) fun x4 =>
  (some x4)) : Option (Bool)) := rfl
theorem m_rectangle_Valid_eq (r_1 : Int) (r_2 : Int) (r_3 : Int) (r_4 : Int) : m_rectangle_Valid std r_1 r_2 r_3 r_4 =
((Option.bind (
    Option.bind (m_rectangle_isSpan std r_1 r_2) fun b1 =>
    bif b1 then
      Option.bind (m_rectangle_isSpan std r_3 r_4) fun b2 =>
      (some b2)
    else
      (some false) : Option ((Bool))) fun x6 =>
  (some x6)) : Option (Bool)) := rfl
theorem m_rectangle_check_1_eq (r_1 : Int) (r_2 : Int) (r_3 : Int) (r_4 : Int) : m_rectangle_check_1 std r_1 r_2 r_3 r_4 =
((Option.bind (m_rectangle_Valid std r_1 r_2 r_3 r_4) fun b3 =>
  (some (!b3))) : Option (Bool)) := rfl
theorem m_slices_IndexFunc_L1_eq (s_1 : List (Int × Int × Int × Int)) (x1 : Int) : m_slices_IndexFunc_L1 std s_1 x1 =
((bif (decide (x1 < (((List.length s_1) : Nat) : Int))) then
    grd (okIdx x1 ((List.length s_1))) <|
    grd (okKin ((Int.toNat x1)) ((List.length s_1))) <|
    Option.bind (m_rectangle_check_1 std ((List.getD s_1 (Int.toNat x1) (0, 0, 0, 0)).1) ((List.getD s_1 (Int.toNat x1) (0, 0, 0, 0)).2.1) ((List.getD s_1 (Int.toNat x1) (0, 0, 0, 0)).2.2.1) ((List.getD s_1 (Int.toNat x1) (0, 0, 0, 0)).2.2.2)) fun b4 =>
    bif b4 then
      (some (Sum.inr (Sum.inl x1)))
    else
      grd (okI .i64 ((x1 + 1))) <|
      (some (Sum.inl (x1 + 1)))
  else
    (some (Sum.inr (Sum.inr ())))) : Option ((Int) ⊕ ((Int) ⊕ (Unit)))) := rfl
theorem m_slices_IndexFunc_eq (s_1 : List (Int × Int × Int × Int)) : m_slices_IndexFunc std s_1 =
((Option.bind (loop (m_slices_IndexFunc_L1 std s_1) 0) fun e => match e with
  | .inl x7 =>
    (some x7)
  | .inr (_) =>
    (some (-1))) : Option (Int)) := rfl
theorem m_slices_ContainsFunc_eq (s_1 : List (Int × Int × Int × Int)) : m_slices_ContainsFunc std s_1 =
((Option.bind (m_slices_IndexFunc std s_1) fun n9 =>
  (some (decide (0 ≤ n9)))) : Option (Bool)) := rfl
theorem m_rectangle_check_eq (lists_1 : List (Int × Int × Int × Int)) (lists_2 : List (Int × Int × Int × Int)) : m_rectangle_check std lists_1 lists_2 =
((Option.bind (m_slices_ContainsFunc std lists_1) fun b5 =>
  bif b5 then
    (some 1)
  else
    grd (okI .i64 ((0 + 1))) <|
    Option.bind (m_slices_ContainsFunc std lists_2) fun b6 =>
    bif b6 then
      (some 1)
    else
      grd (okI .i64 ((1 + 1))) <|
      bif (decide (500 < (((List.length lists_1) : Nat) : Int))) then
        (some 5)
      else
        bif (decide (500 < (((List.length lists_2) : Nat) : Int))) then
          (some 5)
        else
          (some 0)) : Option (Int)) := rfl
theorem m_slices_Concat_eq (slices_1 : List (Int × Int × Int × Int)) (slices_2 : List (Int × Int × Int × Int)) : m_slices_Concat std slices_1 slices_2 =
((grd (okI .i64 ((0 + (((List.length slices_1) : Nat) : Int)))) <|
  bif (decide ((0 + (((List.length slices_1) : Nat) : Int)) < 0)) then
    none
  else
    grd (okI .i64 ((0 + 1))) <|
    grd (okI .i64 (((0 + (((List.length slices_1) : Nat) : Int)) + (((List.length slices_2) : Nat) : Int)))) <|
    bif (decide (((0 + (((List.length slices_1) : Nat) : Int)) + (((List.length slices_2) : Nat) : Int)) < 0)) then
      none
    else
      grd (okI .i64 ((1 + 1))) <|
      Option.bind (m_grow_i4 std (((0 + (((List.length slices_1) : Nat) : Int)) + (((List.length slices_2) : Nat) : Int)))) fun l1 =>
      grd (okRoom ((List.length l1))) <|
      grd (okRoom ((List.length slices_1))) <|
      grd (okRoom ((List.length (l1 ++ slices_1)))) <|
      grd (okRoom ((List.length slices_2))) <|
      (some ((l1 ++ slices_1) ++ slices_2))) : Option (List (Int × Int × Int × Int))) := rfl
theorem m_interval_line_eq (x_1 : Int) : m_interval_line std x_1 =
((Option.bind (
    bif (decide ((-4398046511104) ≤ x_1)) then
      (some (decide (x_1 ≤ 4398046511104)))
    else
      (some false) : Option ((Bool))) fun x18 =>
  (some x18)) : Option (Bool)) := rfl
theorem m_interval_Valid_eq (s_1 : Int) (s_2 : Int) : m_interval_Valid std s_1 s_2 =
((Option.bind (
    Option.bind (m_interval_line std s_1) fun b7 =>
    bif b7 then
      Option.bind (m_interval_line std s_2) fun b8 =>
      bif b8 then
        (some (decide (s_1 < s_2)))
      else
        (some false)
    else
      (some false) : Option ((Bool))) fun x21 =>
  (some x21)) : Option (Bool)) := rfl
theorem m_runs_Of_1_eq (s_1 : Int) (s_2 : Int) : m_runs_Of_1 std s_1 s_2 =
((Option.bind (m_interval_Valid std s_1 s_2) fun b9 =>
  (some (!b9))) : Option (Bool)) := rfl
theorem m_slices_IndexFunc_2_L1_eq (s_1 : List (Int × Int)) (x16 : Int) : m_slices_IndexFunc_2_L1 std s_1 x16 =
((bif (decide (x16 < (((List.length s_1) : Nat) : Int))) then
    grd (okIdx x16 ((List.length s_1))) <|
    grd (okKin ((Int.toNat x16)) ((List.length s_1))) <|
    Option.bind (m_runs_Of_1 std ((List.getD s_1 (Int.toNat x16) (0, 0)).1) ((List.getD s_1 (Int.toNat x16) (0, 0)).2)) fun b10 =>
    bif b10 then
      (some (Sum.inr (Sum.inl x16)))
    else
      grd (okI .i64 ((x16 + 1))) <|
      (some (Sum.inl (x16 + 1)))
  else
    (some (Sum.inr (Sum.inr ())))) : Option ((Int) ⊕ ((Int) ⊕ (Unit)))) := rfl
theorem m_slices_IndexFunc_2_eq (s_1 : List (Int × Int)) : m_slices_IndexFunc_2 std s_1 =
((Option.bind (loop (m_slices_IndexFunc_2_L1 std s_1) 0) fun e => match e with
  | .inl x22 =>
    (some x22)
  | .inr (_) =>
    (some (-1))) : Option (Int)) := rfl
theorem m_slices_ContainsFunc_2_eq (s_1 : List (Int × Int)) : m_slices_ContainsFunc_2 std s_1 =
((Option.bind (m_slices_IndexFunc_2 std s_1) fun n11 =>
  (some (decide (0 ≤ n11)))) : Option (Bool)) := rfl
theorem m_runs_done_eq (l_1 : List (Int × Int)) : m_runs_done std l_1 =
((bif (decide (2000 < (((List.length l_1) : Nat) : Int))) then
    (some (Sum.inl (([] : List (Int × Int)), 5)))
  else
    (some (Sum.inr 0))) : Option (((List (Int × Int) × Int) ⊕ (Int)))) := rfl
theorem m_runs_Of_L1_eq (l14 : List (Int × Int)) (x26 : Int) (l17 : List (Int × Int)) : m_runs_Of_L1 std l14 (x26, l17) =
((bif (decide (x26 < (((List.length l14) : Nat) : Int))) then
    grd (okIdx x26 ((List.length l14))) <|
    grd (okKin ((Int.toNat x26)) ((List.length l14))) <|
    Option.bind (
      bif (decide (0 < (((List.length l17) : Nat) : Int))) then
        grd (okI .i64 (((((List.length l17) : Nat) : Int) - 1))) <|
        grd (okIdx (((((List.length l17) : Nat) : Int) - 1)) ((List.length l17))) <|
        grd (okKin ((Int.toNat ((((List.length l17) : Nat) : Int) - 1))) ((List.length l17))) <|
        (some (decide ((List.getD l14 (Int.toNat x26) (0, 0)).1 ≤ (List.getD l17 (Int.toNat ((((List.length l17) : Nat) : Int) - 1)) (0, 0)).2)))
      else
        (some false) : Option ((Bool))) fun x28 =>
    Option.bind (
      bif x28 then
        grd (okI .i64 (((((List.length l17) : Nat) : Int) - 1))) <|
        grd (okIdx (((((List.length l17) : Nat) : Int) - 1)) ((List.length l17))) <|
        grd (okKin ((Int.toNat ((((List.length l17) : Nat) : Int) - 1))) ((List.length l17))) <|
        (some (List.set l17 (Int.toNat ((((List.length l17) : Nat) : Int) - 1)) ((List.getD l17 (Int.toNat ((((List.length l17) : Nat) : Int) - 1)) (0, 0)).1, (ma (List.getD l17 (Int.toNat ((((List.length l17) : Nat) : Int) - 1)) (0, 0)).2 (List.getD l14 (Int.toNat x26) (0, 0)).2))))
      else
        grd (okRoom ((List.length l17))) <|
        grd (okRoom ((List.length [((List.getD l14 (Int.toNat x26) (0, 0)).1, (List.getD l14 (Int.toNat x26) (0, 0)).2)]))) <|
        (some (l17 ++ [((List.getD l14 (Int.toNat x26) (0, 0)).1, (List.getD l14 (Int.toNat x26) (0, 0)).2)])) : Option ((List (Int × Int)))) fun l19 =>
    grd (okI .i64 ((x26 + 1))) <|
    (some (Sum.inl ((x26 + 1), l19)))
  else
    (some (Sum.inr l17))) : Option ((Int × List (Int × Int)) ⊕ (List (Int × Int)))) := rfl
theorem m_runs_Of_eq (l_1 : List (Int × Int)) : m_runs_Of std l_1 =
((Option.bind (m_slices_ContainsFunc_2 std l_1) fun b11 =>
  bif b11 then
    (some (([] : List (Int × Int)), 1))
  else
    Option.bind (m_clone_i2 std l_1) fun l13 =>
    Option.bind (m_sortSp std l13) fun l14 =>
    Option.bind (loop (m_runs_Of_L1 std l14) (0, ([] : List (Int × Int)))) fun l20 =>
    Option.bind (
      Option.bind (m_runs_done std l20) fun e => match e with
      | .inl (l21, n12) =>
        (some (n12, l21))
      | .inr (n13) =>
        (some (n13, l20)) : Option ((Int × List (Int × Int)))) fun (x30, l23) =>
    (some (l23, x30))) : Option (List (Int × Int) × Int)) := rfl
theorem m_rectangle_times_L1_eq (l_1 : List (Int × Int × Int × Int)) (tx_1 : Int) (x13 : Int) (l9 : List (Int × Int)) : m_rectangle_times_L1 std l_1 tx_1 (x13, l9) =
((bif (decide (x13 < (((List.length l_1) : Nat) : Int))) then
    grd (okIdx x13 ((List.length l_1))) <|
    grd (okKin ((Int.toNat x13)) ((List.length l_1))) <|
    Option.bind (
      bif (decide ((List.getD l_1 (Int.toNat x13) (0, 0, 0, 0)).2.2.1 ≤ tx_1)) then
        (some (decide (tx_1 < (List.getD l_1 (Int.toNat x13) (0, 0, 0, 0)).2.2.2)))
      else
        (some false) : Option ((Bool))) fun x15 =>
    Option.bind (
      bif x15 then
        grd (okRoom ((List.length l9))) <|
        grd (okRoom ((List.length [((List.getD l_1 (Int.toNat x13) (0, 0, 0, 0)).1, (List.getD l_1 (Int.toNat x13) (0, 0, 0, 0)).2.1)]))) <|
        (some (l9 ++ [((List.getD l_1 (Int.toNat x13) (0, 0, 0, 0)).1, (List.getD l_1 (Int.toNat x13) (0, 0, 0, 0)).2.1)]))
      else
        (some l9) : Option ((List (Int × Int)))) fun l11 =>
    grd (okI .i64 ((x13 + 1))) <|
    (some (Sum.inl ((x13 + 1), l11)))
  else
    (some (Sum.inr l9))) : Option ((Int × List (Int × Int)) ⊕ (List (Int × Int)))) := rfl
theorem m_rectangle_times_eq (tx_1 : Int) (l_1 : List (Int × Int × Int × Int)) : m_rectangle_times std tx_1 l_1 =
((Option.bind (loop (m_rectangle_times_L1 std l_1 tx_1) (0, ([] : List (Int × Int)))) fun l12 =>
  Option.bind (m_runs_Of std l12) fun (l24, _) =>
  (some l24)) : Option (List (Int × Int))) := rfl
theorem m_runs_Valid_L1_eq (l_1 : List (Int × Int)) (x31 : Int) : m_runs_Valid_L1 std l_1 x31 =
((bif (decide (x31 < (((List.length l_1) : Nat) : Int))) then
    grd (okIdx x31 ((List.length l_1))) <|
    grd (okKin ((Int.toNat x31)) ((List.length l_1))) <|
    Option.bind (
      Option.bind (m_interval_Valid std ((List.getD l_1 (Int.toNat x31) (0, 0)).1) ((List.getD l_1 (Int.toNat x31) (0, 0)).2)) fun b12 =>
      bif (!b12) then
        (some true)
      else
        bif (decide (0 < x31)) then
          grd (okI .i64 ((x31 - 1))) <|
          grd (okIdx ((x31 - 1)) ((List.length l_1))) <|
          grd (okKin ((Int.toNat (x31 - 1))) ((List.length l_1))) <|
          (some (decide ((List.getD l_1 (Int.toNat x31) (0, 0)).1 ≤ (List.getD l_1 (Int.toNat (x31 - 1)) (0, 0)).2)))
        else
          (some false) : Option ((Bool))) fun x34 =>
    bif x34 then
      (some (Sum.inr (Sum.inl ())))
    else
      grd (okI .i64 ((x31 + 1))) <|
      (some (Sum.inl (x31 + 1)))
  else
    (some (Sum.inr (Sum.inr ())))) : Option ((Int) ⊕ ((Unit) ⊕ (Unit)))) := rfl
theorem m_runs_Valid_eq (l_1 : List (Int × Int)) : m_runs_Valid std l_1 =
((bif (decide (2000 < (((List.length l_1) : Nat) : Int))) then
    (some false)
  else
    Option.bind (loop (m_runs_Valid_L1 std l_1) 0) fun e => match e with
    | .inl _ =>
      (some false)
    | .inr (_) =>
      (some true)) : Option (Bool)) := rfl
theorem m_runs_combine_1_eq (n_1 : Int) (l_1 : List (Int × Int)) : m_runs_combine_1 std n_1 l_1 =
((grd (okI .i64 ((2 * (((List.length l_1) : Nat) : Int)))) <|
  bif (n_1 == (2 * (((List.length l_1) : Nat) : Int))) then
    (some 8796093022208)
  else
    grd (okNz 2) <|
    bif ((Int.tmod n_1 2) == 0) then
      grd (okI .i64 ((Int.tdiv n_1 2))) <|
      grd (okIdx ((Int.tdiv n_1 2)) ((List.length l_1))) <|
      grd (okKin ((Int.toNat (Int.tdiv n_1 2))) ((List.length l_1))) <|
      (some (List.getD l_1 (Int.toNat (Int.tdiv n_1 2)) (0, 0)).1)
    else
      grd (okI .i64 ((Int.tdiv n_1 2))) <|
      grd (okIdx ((Int.tdiv n_1 2)) ((List.length l_1))) <|
      grd (okKin ((Int.toNat (Int.tdiv n_1 2))) ((List.length l_1))) <|
      (some (List.getD l_1 (Int.toNat (Int.tdiv n_1 2)) (0, 0)).2)) : Option (Int)) := rfl
theorem m_runs_Union_1_eq (a_1 : Bool) (b_1 : Bool) : m_runs_Union_1 std a_1 b_1 =
((Option.bind (
    bif a_1 then
      (some true)
    else
      (some b_1) : Option ((Bool))) fun x40 =>
  (some x40)) : Option (Bool)) := rfl
theorem m_runs_combine_L1_eq (a_1 : List (Int × Int)) (b_1 : List (Int × Int)) (i5 : Int) (k4 : Int) (inside2 : Bool) (from2 : Int) (l29 : List (Int × Int)) : m_runs_combine_L1 std a_1 b_1 (i5, k4, inside2, from2, l29) =
((Option.bind (
    bif (decide (i5 < (2 * (((List.length a_1) : Nat) : Int)))) then
      grd (okI .i64 ((2 * (((List.length a_1) : Nat) : Int)))) <|
      (some true)
    else
      grd (okI .i64 ((2 * (((List.length a_1) : Nat) : Int)))) <|
      grd (okI .i64 ((2 * (((List.length b_1) : Nat) : Int)))) <|
      (some (decide (k4 < (2 * (((List.length b_1) : Nat) : Int))))) : Option ((Bool))) fun x42 =>
  bif x42 then
    Option.bind (m_runs_combine_1 std i5 a_1) fun n19 =>
    Option.bind (m_runs_combine_1 std k4 b_1) fun n20 =>
    Option.bind (m_runs_combine_1 std i5 a_1) fun n21 =>
    Option.bind (
      bif (n21 == (mi n19 n20)) then
        grd (okI .i64 ((i5 + 1))) <|
        (some (i5 + 1))
      else
        (some i5) : Option ((Int))) fun i7 =>
    Option.bind (m_runs_combine_1 std k4 b_1) fun n22 =>
    Option.bind (
      bif (n22 == (mi n19 n20)) then
        grd (okI .i64 ((k4 + 1))) <|
        (some (k4 + 1))
      else
        (some k4) : Option ((Int))) fun k6 =>
    grd (okNz 2) <|
    Option.bind (m_runs_Union_1 std (((Int.tmod i7 2) == 1)) (((Int.tmod k6 2) == 1))) fun b16 =>
    bif (b16 == inside2) then
      (some (Sum.inl (i7, k6, inside2, from2, l29)))
    else
      Option.bind (
        bif inside2 then
          grd (okRoom ((List.length l29))) <|
          grd (okRoom ((List.length [(from2, (mi n19 n20))]))) <|
          (some (l29 ++ [(from2, (mi n19 n20))]))
        else
          (some l29) : Option ((List (Int × Int)))) fun l31 =>
      (some (Sum.inl (i7, k6, b16, (mi n19 n20), l31)))
  else
    (some (Sum.inr l29))) : Option ((Int × Int × Bool × Int × List (Int × Int)) ⊕ (List (Int × Int)))) := rfl
theorem m_runs_combine_eq (a_1 : List (Int × Int)) (b_1 : List (Int × Int)) : m_runs_combine std a_1 b_1 =
((Option.bind (
    Option.bind (m_runs_Valid std a_1) fun b13 =>
    bif (!b13) then
      (some true)
    else
      Option.bind (m_runs_Valid std b_1) fun b14 =>
      (some (!b14)) : Option ((Bool))) fun x36 =>
  bif x36 then
    (some (([] : List (Int × Int)), 1))
  else
    Option.bind (loop (m_runs_combine_L1 std a_1 b_1) (0, 0, false, 0, ([] : List (Int × Int)))) fun l32 =>
    Option.bind (
      Option.bind (m_runs_done std l32) fun e => match e with
      | .inl (l33, n23) =>
        (some (n23, l33))
      | .inr (n24) =>
        (some (n24, l32)) : Option ((Int × List (Int × Int)))) fun (x44, l35) =>
    (some (l35, x44))) : Option (List (Int × Int) × Int)) := rfl
theorem m_runs_Union_eq (a_1 : List (Int × Int)) (b_1 : List (Int × Int)) : m_runs_Union std a_1 b_1 =
((Option.bind (m_runs_combine std a_1 b_1) fun (l36, n25) =>
  (some (l36, n25))) : Option (List (Int × Int) × Int)) := rfl
theorem m_slices_Equal_L1_eq (s1_1 : List (Int × Int)) (s2_1 : List (Int × Int)) (x45 : Int) : m_slices_Equal_L1 std s1_1 s2_1 x45 =
((bif (decide (x45 < (((List.length s1_1) : Nat) : Int))) then
    grd (okIdx x45 ((List.length s1_1))) <|
    grd (okKin ((Int.toNat x45)) ((List.length s1_1))) <|
    grd (okIdx x45 ((List.length s2_1))) <|
    grd (okKin ((Int.toNat x45)) ((List.length s2_1))) <|
    bif (!(((List.getD s1_1 (Int.toNat x45) (0, 0)).1 == (List.getD s2_1 (Int.toNat x45) (0, 0)).1) && ((List.getD s1_1 (Int.toNat x45) (0, 0)).2 == (List.getD s2_1 (Int.toNat x45) (0, 0)).2))) then
      (some (Sum.inr (Sum.inl ())))
    else
      grd (okI .i64 ((x45 + 1))) <|
      (some (Sum.inl (x45 + 1)))
  else
    (some (Sum.inr (Sum.inr ())))) : Option ((Int) ⊕ ((Unit) ⊕ (Unit)))) := rfl
theorem m_slices_Equal_eq (s1_1 : List (Int × Int)) (s2_1 : List (Int × Int)) : m_slices_Equal std s1_1 s2_1 =
((bif (!((((List.length s1_1) : Nat) : Int) == (((List.length s2_1) : Nat) : Int))) then
    (some false)
  else
    Option.bind (loop (m_slices_Equal_L1 std s1_1 s2_1) 0) fun e => match e with
    | .inl _ =>
      (some false)
    | .inr (_) =>
      (some true)) : Option (Bool)) := rfl
theorem m_rectangle_combine_L1_eq (l2 : List (Int × Int × Int × Int)) (x9 : Int) (l3 : List Int) : m_rectangle_combine_L1 std l2 (x9, l3) =
((bif (decide (x9 < (((List.length l2) : Nat) : Int))) then
    grd (okIdx x9 ((List.length l2))) <|
    grd (okKin ((Int.toNat x9)) ((List.length l2))) <|
    grd (okRoom ((List.length l3))) <|
    grd (okRoom ((List.length [(List.getD l2 (Int.toNat x9) (0, 0, 0, 0)).2.2.1, (List.getD l2 (Int.toNat x9) (0, 0, 0, 0)).2.2.2]))) <|
    grd (okI .i64 ((x9 + 1))) <|
    (some (Sum.inl ((x9 + 1), (l3 ++ [(List.getD l2 (Int.toNat x9) (0, 0, 0, 0)).2.2.1, (List.getD l2 (Int.toNat x9) (0, 0, 0, 0)).2.2.2]))))
  else
    (some (Sum.inr l3))) : Option ((Int × List Int) ⊕ (List Int))) := rfl
theorem m_rectangle_combine_L2_eq (i8 : Int) (l6 : List Int) (k10 : Int) (l47 : List (Int × Int × Int × Int)) : m_rectangle_combine_L2 std i8 l6 (k10, l47) =
((bif (decide (k10 < (((List.length l47) : Nat) : Int))) then
    grd (okIdx ((i8 + 1)) ((List.length l6))) <|
    grd (okKin ((Int.toNat (i8 + 1))) ((List.length l6))) <|
    grd (okIdx k10 ((List.length l47))) <|
    grd (okKin ((Int.toNat k10)) ((List.length l47))) <|
    grd (okI .i64 ((k10 + 1))) <|
    (some (Sum.inl ((k10 + 1), (List.set l47 (Int.toNat k10) ((List.getD l47 (Int.toNat k10) (0, 0, 0, 0)).1, (List.getD l47 (Int.toNat k10) (0, 0, 0, 0)).2.1, (List.getD l47 (Int.toNat k10) (0, 0, 0, 0)).2.2.1, (List.getD l6 (Int.toNat (i8 + 1)) 0))))))
  else
    (some (Sum.inr l47))) : Option ((Int × List (Int × Int × Int × Int)) ⊕ (List (Int × Int × Int × Int)))) := rfl
theorem m_rectangle_combine_L3_eq (i8 : Int) (l46 : List (Int × Int)) (l6 : List Int) (x49 : Int) (l49 : List (Int × Int × Int × Int)) : m_rectangle_combine_L3 std i8 l46 l6 (x49, l49) =
((bif (decide (x49 < (((List.length l46) : Nat) : Int))) then
    grd (okIdx x49 ((List.length l46))) <|
    grd (okKin ((Int.toNat x49)) ((List.length l46))) <|
    grd (okRng ((((List.length l49) : Nat) : Int)) ((List.length l49))) <|
    grd (okRng ((((List.length l49) : Nat) : Int)) ((Int.toNat (((List.length l49) : Nat) : Int)))) <|
    grd (okIdx ((i8 + 1)) ((List.length l6))) <|
    grd (okKin ((Int.toNat (i8 + 1))) ((List.length l6))) <|
    grd (okRoom ((List.length (List.take ((Int.toNat (((List.length l49) : Nat) : Int)) - 0) (List.drop 0 l49))))) <|
    grd (okRoom ((List.length [((List.getD l46 (Int.toNat x49) (0, 0)).1, (List.getD l46 (Int.toNat x49) (0, 0)).2, (List.getD l6 (Int.toNat i8) 0), (List.getD l6 (Int.toNat (i8 + 1)) 0))]))) <|
    grd (okKin 0 ((List.length [((List.getD l46 (Int.toNat x49) (0, 0)).1, (List.getD l46 (Int.toNat x49) (0, 0)).2, (List.getD l6 (Int.toNat i8) 0), (List.getD l6 (Int.toNat (i8 + 1)) 0))]))) <|
    grd (okI .i64 ((x49 + 1))) <|
    (some (Sum.inl ((x49 + 1), ((List.take ((Int.toNat (((List.length l49) : Nat) : Int)) - 0) (List.drop 0 l49)) ++ [((List.getD l46 (Int.toNat x49) (0, 0)).1, (List.getD l46 (Int.toNat x49) (0, 0)).2, (List.getD l6 (Int.toNat i8) 0), (List.getD l6 (Int.toNat (i8 + 1)) 0))]))))
  else
    (some (Sum.inr l49))) : Option ((Int × List (Int × Int × Int × Int)) ⊕ (List (Int × Int × Int × Int)))) := rfl
theorem m_rectangle_combine_L4_eq (a_1 : List (Int × Int × Int × Int)) (b_1 : List (Int × Int × Int × Int)) (l6 : List Int) (start2 : Int) (i8 : Int) (l42 : List (Int × Int × Int × Int)) (l43 : List (Int × Int)) : m_rectangle_combine_L4 std a_1 b_1 l6 (start2, i8, l42, l43) =
((grd (okI .i64 ((i8 + 1))) <|
  bif (decide ((i8 + 1) < (((List.length l6) : Nat) : Int))) then
    grd (okIdx i8 ((List.length l6))) <|
    grd (okKin ((Int.toNat i8)) ((List.length l6))) <|
    Option.bind (m_rectangle_times std ((List.getD l6 (Int.toNat i8) 0)) a_1) fun l44 =>
    Option.bind (m_rectangle_times std ((List.getD l6 (Int.toNat i8) 0)) b_1) fun l45 =>
    Option.bind (m_runs_Union std l44 l45) fun (l46, n27) =>
    bif (!(n27 == 0)) then
      (some (Sum.inr (Sum.inl n27)))
    else
      Option.bind (m_slices_Equal std l46 l43) fun b18 =>
      bif b18 then
        Option.bind (loop (m_rectangle_combine_L2 std i8 l6) (start2, l42)) fun l48 =>
        (some (Sum.inl (start2, (i8 + 1), l48, l43)))
      else
        Option.bind (loop (m_rectangle_combine_L3 std i8 l46 l6) (0, l42)) fun l50 =>
        bif (decide (500 < (((List.length l50) : Nat) : Int))) then
          (some (Sum.inr (Sum.inl 5)))
        else
          (some (Sum.inl ((((List.length l42) : Nat) : Int), (i8 + 1), l50, l46)))
  else
    (some (Sum.inr (Sum.inr l42)))) : Option ((Int × Int × List (Int × Int × Int × Int) × List (Int × Int)) ⊕ ((Int) ⊕ (List (Int × Int × Int × Int))))) := rfl
theorem m_rectangle_combine_eq (a_1 : List (Int × Int × Int × Int)) (b_1 : List (Int × Int × Int × Int)) : m_rectangle_combine std a_1 b_1 =
((Option.bind (m_rectangle_check std a_1 b_1) fun n10 =>
  bif (!(n10 == 0)) then
    (some (([] : List (Int × Int × Int × Int)), n10))
  else
    Option.bind (m_slices_Concat std a_1 b_1) fun l2 =>
    Option.bind (loop (m_rectangle_combine_L1 std l2) (0, ([] : List Int))) fun l4 =>
    Option.bind (m_sortI std l4) fun l5 =>
    Option.bind (m_compI std l5) fun l6 =>
    Option.bind (loop (m_rectangle_combine_L4 std a_1 b_1 l6) (0, 0, ([] : List (Int × Int × Int × Int)), ([] : List (Int × Int)))) fun e => match e with
    | .inl x51 =>
      (some (([] : List (Int × Int × Int × Int)), x51))
    | .inr (l51) =>
      (some (l51, 0))) : Option (List (Int × Int × Int × Int) × Int)) := rfl
theorem m_rectangle_Canonical_eq (l_1 : List (Int × Int × Int × Int)) : m_rectangle_Canonical std l_1 =
((Option.bind (m_rectangle_combine std l_1 (([] : List (Int × Int × Int × Int)))) fun (l52, n28) =>
  (some (l52, n28))) : Option (List (Int × Int × Int × Int) × Int)) := rfl
theorem m_slices_Equal_2_L1_eq (s1_1 : List (Int × Int × Int × Int)) (s2_1 : List (Int × Int × Int × Int)) (x52 : Int) : m_slices_Equal_2_L1 std s1_1 s2_1 x52 =
((bif (decide (x52 < (((List.length s1_1) : Nat) : Int))) then
    grd (okIdx x52 ((List.length s1_1))) <|
    grd (okKin ((Int.toNat x52)) ((List.length s1_1))) <|
    grd (okIdx x52 ((List.length s2_1))) <|
    grd (okKin ((Int.toNat x52)) ((List.length s2_1))) <|
    bif (!(((List.getD s1_1 (Int.toNat x52) (0, 0, 0, 0)).1 == (List.getD s2_1 (Int.toNat x52) (0, 0, 0, 0)).1) && (((List.getD s1_1 (Int.toNat x52) (0, 0, 0, 0)).2.1 == (List.getD s2_1 (Int.toNat x52) (0, 0, 0, 0)).2.1) && (((List.getD s1_1 (Int.toNat x52) (0, 0, 0, 0)).2.2.1 == (List.getD s2_1 (Int.toNat x52) (0, 0, 0, 0)).2.2.1) && ((List.getD s1_1 (Int.toNat x52) (0, 0, 0, 0)).2.2.2 == (List.getD s2_1 (Int.toNat x52) (0, 0, 0, 0)).2.2.2))))) then
      (some (Sum.inr (Sum.inl ())))
    else
      grd (okI .i64 ((x52 + 1))) <|
      (some (Sum.inl (x52 + 1)))
  else
    (some (Sum.inr (Sum.inr ())))) : Option ((Int) ⊕ ((Unit) ⊕ (Unit)))) := rfl
theorem m_slices_Equal_2_eq (s1_1 : List (Int × Int × Int × Int)) (s2_1 : List (Int × Int × Int × Int)) : m_slices_Equal_2 std s1_1 s2_1 =
((bif (!((((List.length s1_1) : Nat) : Int) == (((List.length s2_1) : Nat) : Int))) then
    (some false)
  else
    Option.bind (loop (m_slices_Equal_2_L1 std s1_1 s2_1) 0) fun e => match e with
    | .inl _ =>
      (some false)
    | .inr (_) =>
      (some true)) : Option (Bool)) := rfl
theorem m_law35_awake_eq : m_law35_awake std =
((Option.bind (m_law35_rect std 5 15 5 10) fun (n1, n2, n3, n4) =>
  Option.bind (m_law35_rect std 0 10 0 10) fun (n5, n6, n7, n8) =>
  Option.bind (m_rectangle_Canonical std ([(n1, n2, n3, n4), (n5, n6, n7, n8)])) fun (l53, n29) =>
  Option.bind (
    bif (n29 == 0) then
      Option.bind (m_law35_rect std 0 10 0 5) fun (n30, n31, n32, n33) =>
      Option.bind (m_law35_rect std 0 15 5 10) fun (n34, n35, n36, n37) =>
      Option.bind (m_slices_Equal_2 std l53 ([(n30, n31, n32, n33), (n34, n35, n36, n37)])) fun b19 =>
      (some b19)
    else
      (some false) : Option ((Bool))) fun x54 =>
  (some x54)) : Option (Bool)) := rfl
theorem m_law35_few_1_eq (l_1 : List (Int × Int × Int × Int)) : m_law35_few_1 std l_1 =
(((some (decide (30 < (((List.length l_1) : Nat) : Int))))) : Option (Bool)) := rfl
theorem m_slices_IndexFunc_3_eq (s_1 : List (Int × Int × Int × Int)) : m_slices_IndexFunc_3 std s_1 =
((Option.bind (m_law35_few_1 std s_1) fun b21 =>
  bif b21 then
    (some 0)
  else
    grd (okI .i64 ((0 + 1))) <|
    (some (-1))) : Option (Int)) := rfl
theorem m_slices_ContainsFunc_3_eq (s_1 : List (Int × Int × Int × Int)) : m_slices_ContainsFunc_3 std s_1 =
((Option.bind (m_slices_IndexFunc_3 std s_1) fun n38 =>
  (some (decide (0 ≤ n38)))) : Option (Bool)) := rfl
theorem m_law35_few_eq (lists_1 : List (Int × Int × Int × Int)) : m_law35_few std lists_1 =
((Option.bind (m_slices_ContainsFunc_3 std lists_1) fun b22 =>
  (some (!b22))) : Option (Bool)) := rfl
theorem m_ref35_Span_eq (s_1 : Int) (s_2 : Int) : m_ref35_Span std s_1 s_2 =
((Option.bind (
    bif (decide ((-62135596800) ≤ s_1)) then
      bif (decide (s_1 < s_2)) then
        (some (decide (s_2 ≤ 253402300800)))
      else
        (some false)
    else
      (some false) : Option ((Bool))) fun x57 =>
  (some x57)) : Option (Bool)) := rfl
theorem m_ref35_Valid_eq (r_1 : Int) (r_2 : Int) (r_3 : Int) (r_4 : Int) : m_ref35_Valid std r_1 r_2 r_3 r_4 =
((Option.bind (
    Option.bind (m_ref35_Span std r_1 r_2) fun b24 =>
    bif b24 then
      Option.bind (m_ref35_Span std r_3 r_4) fun b25 =>
      (some b25)
    else
      (some false) : Option ((Bool))) fun x59 =>
  (some x59)) : Option (Bool)) := rfl
theorem m_ref35_List_L1_eq (l_1 : List (Int × Int × Int × Int)) (i9 : Int) : m_ref35_List_L1 std l_1 i9 =
((bif (decide (i9 < (((List.length l_1) : Nat) : Int))) then
    grd (okIdx i9 ((List.length l_1))) <|
    grd (okKin ((Int.toNat i9)) ((List.length l_1))) <|
    Option.bind (m_ref35_Valid std ((List.getD l_1 (Int.toNat i9) (0, 0, 0, 0)).1) ((List.getD l_1 (Int.toNat i9) (0, 0, 0, 0)).2.1) ((List.getD l_1 (Int.toNat i9) (0, 0, 0, 0)).2.2.1) ((List.getD l_1 (Int.toNat i9) (0, 0, 0, 0)).2.2.2)) fun b26 =>
    bif (!b26) then
      (some (Sum.inr (Sum.inl ())))
    else
      grd (okI .i64 ((i9 + 1))) <|
      (some (Sum.inl (i9 + 1)))
  else
    (some (Sum.inr (Sum.inr ())))) : Option ((Int) ⊕ ((Unit) ⊕ (Unit)))) := rfl
theorem m_ref35_List_eq (l_1 : List (Int × Int × Int × Int)) : m_ref35_List std l_1 =
((Option.bind (loop (m_ref35_List_L1 std l_1) 0) fun e => match e with
  | .inl _ =>
    (some false)
  | .inr (_) =>
    (some true)) : Option (Bool)) := rfl
theorem m_ref35_put_L1_eq (l_1 : List Int) (x_1 : Int) (done4 : Bool) (i12 : Int) (l59 : List Int) : m_ref35_put_L1 std l_1 x_1 (done4, i12, l59) =
((bif (decide (i12 < (((List.length l_1) : Nat) : Int))) then
    Option.bind (
      bif (!done4) then
        grd (okIdx i12 ((List.length l_1))) <|
        grd (okKin ((Int.toNat i12)) ((List.length l_1))) <|
        (some (decide (x_1 ≤ (List.getD l_1 (Int.toNat i12) 0))))
      else
        (some false) : Option ((Bool))) fun x67 =>
    Option.bind (
      bif x67 then
        grd (okIdx i12 ((List.length l_1))) <|
        grd (okKin ((Int.toNat i12)) ((List.length l_1))) <|
        Option.bind (
          bif (decide (x_1 < (List.getD l_1 (Int.toNat i12) 0))) then
            grd (okRoom ((List.length l59))) <|
            grd (okRoom ((List.length [x_1]))) <|
            (some (l59 ++ [x_1]))
          else
            (some l59) : Option ((List Int))) fun l61 =>
        (some (true, l61))
      else
        (some (done4, l59)) : Option ((Bool × List Int))) fun (done6, l63) =>
    grd (okIdx i12 ((List.length l_1))) <|
    grd (okKin ((Int.toNat i12)) ((List.length l_1))) <|
    grd (okRoom ((List.length l63))) <|
    grd (okRoom ((List.length [(List.getD l_1 (Int.toNat i12) 0)]))) <|
    grd (okI .i64 ((i12 + 1))) <|
    (some (Sum.inl (done6, (i12 + 1), (l63 ++ [(List.getD l_1 (Int.toNat i12) 0)]))))
  else
    (some (Sum.inr (done4, l59)))) : Option ((Bool × Int × List Int) ⊕ (Bool × List Int))) := rfl
theorem m_ref35_put_eq (x_1 : Int) (l_1 : List Int) : m_ref35_put std x_1 l_1 =
((Option.bind (loop (m_ref35_put_L1 std l_1 x_1) (false, 0, ([] : List Int))) fun (done7, l64) =>
  Option.bind (
    bif (!done7) then
      grd (okRoom ((List.length l64))) <|
      grd (okRoom ((List.length [x_1]))) <|
      (some (l64 ++ [x_1]))
    else
      (some l64) : Option ((List Int))) fun l66 =>
  (some l66)) : Option (List Int)) := rfl
theorem m_ref35_ends_L1_eq (a_1 : List (Int × Int × Int × Int)) (i13 : Int) (l69 : List Int) : m_ref35_ends_L1 std a_1 (i13, l69) =
((bif (decide (i13 < (((List.length a_1) : Nat) : Int))) then
    grd (okIdx i13 ((List.length a_1))) <|
    grd (okKin ((Int.toNat i13)) ((List.length a_1))) <|
    Option.bind (m_ref35_put std ((List.getD a_1 (Int.toNat i13) (0, 0, 0, 0)).2.2.1) l69) fun l70 =>
    Option.bind (m_ref35_put std ((List.getD a_1 (Int.toNat i13) (0, 0, 0, 0)).2.2.2) l70) fun l71 =>
    grd (okI .i64 ((i13 + 1))) <|
    (some (Sum.inl ((i13 + 1), l71)))
  else
    (some (Sum.inr l69))) : Option ((Int × List Int) ⊕ (List Int))) := rfl
theorem m_ref35_ends_L2_eq (b_1 : List (Int × Int × Int × Int)) (i15 : Int) (l75 : List Int) : m_ref35_ends_L2 std b_1 (i15, l75) =
((bif (decide (i15 < (((List.length b_1) : Nat) : Int))) then
    grd (okIdx i15 ((List.length b_1))) <|
    grd (okKin ((Int.toNat i15)) ((List.length b_1))) <|
    Option.bind (m_ref35_put std ((List.getD b_1 (Int.toNat i15) (0, 0, 0, 0)).2.2.1) l75) fun l76 =>
    Option.bind (m_ref35_put std ((List.getD b_1 (Int.toNat i15) (0, 0, 0, 0)).2.2.2) l76) fun l77 =>
    grd (okI .i64 ((i15 + 1))) <|
    (some (Sum.inl ((i15 + 1), l77)))
  else
    (some (Sum.inr l75))) : Option ((Int × List Int) ⊕ (List Int))) := rfl
theorem m_ref35_ends_eq (a_1 : List (Int × Int × Int × Int)) (b_1 : List (Int × Int × Int × Int)) : m_ref35_ends std a_1 b_1 =
((Option.bind (loop (m_ref35_ends_L1 std a_1) (0, ([] : List Int))) fun l72 =>
  Option.bind (loop (m_ref35_ends_L2 std b_1) (0, l72)) fun l78 =>
  (some l78)) : Option (List Int)) := rfl
theorem m_ref12_Number_eq (x_1 : Int) : m_ref12_Number std x_1 =
((Option.bind (
    bif (decide ((-4398046511104) ≤ x_1)) then
      (some (decide (x_1 ≤ 4398046511104)))
    else
      (some false) : Option ((Bool))) fun x73 =>
  (some x73)) : Option (Bool)) := rfl
theorem m_ref12_Span_eq (s_1 : Int) (s_2 : Int) : m_ref12_Span std s_1 s_2 =
((Option.bind (
    Option.bind (m_ref12_Number std s_1) fun b29 =>
    bif b29 then
      Option.bind (m_ref12_Number std s_2) fun b30 =>
      bif b30 then
        (some (decide (s_1 < s_2)))
      else
        (some false)
    else
      (some false) : Option ((Bool))) fun x76 =>
  (some x76)) : Option (Bool)) := rfl
theorem m_ref12_Spans_L1_eq (l_1 : List (Int × Int)) (i19 : Int) : m_ref12_Spans_L1 std l_1 i19 =
((bif (decide (i19 < (((List.length l_1) : Nat) : Int))) then
    grd (okIdx i19 ((List.length l_1))) <|
    grd (okKin ((Int.toNat i19)) ((List.length l_1))) <|
    Option.bind (m_ref12_Span std ((List.getD l_1 (Int.toNat i19) (0, 0)).1) ((List.getD l_1 (Int.toNat i19) (0, 0)).2)) fun b31 =>
    bif (!b31) then
      (some (Sum.inr (Sum.inl ())))
    else
      grd (okI .i64 ((i19 + 1))) <|
      (some (Sum.inl (i19 + 1)))
  else
    (some (Sum.inr (Sum.inr ())))) : Option ((Int) ⊕ ((Unit) ⊕ (Unit)))) := rfl
theorem m_ref12_Spans_eq (l_1 : List (Int × Int)) : m_ref12_Spans std l_1 =
((Option.bind (loop (m_ref12_Spans_L1 std l_1) 0) fun e => match e with
  | .inl _ =>
    (some false)
  | .inr (_) =>
    (some true)) : Option (Bool)) := rfl
theorem m_ref12_Ends_L1_eq (i27 : Int) (l90 : List Int) (l_1 : List (Int × Int)) (i29 : Int) : m_ref12_Ends_L1 std i27 l90 l_1 i29 =
((Option.bind (
    bif (decide (0 < i29)) then
      grd (okI .i64 ((i29 - 1))) <|
      grd (okIdx ((i29 - 1)) ((List.length l90))) <|
      grd (okKin ((Int.toNat (i29 - 1))) ((List.length l90))) <|
      (some (decide ((List.getD l_1 (Int.toNat i27) (0, 0)).1 ≤ (List.getD l90 (Int.toNat (i29 - 1)) 0))))
    else
      (some false) : Option ((Bool))) fun x92 =>
  bif x92 then
    grd (okI .i64 ((i29 - 1))) <|
    (some (Sum.inl (i29 - 1)))
  else
    (some (Sum.inr i29))) : Option ((Int) ⊕ (Int))) := rfl
theorem m_ref12_Ends_L2_eq (i27 : Int) (l92 : List Int) (l_1 : List (Int × Int)) (i32 : Int) : m_ref12_Ends_L2 std i27 l92 l_1 i32 =
((Option.bind (
    bif (decide (0 < i32)) then
      grd (okI .i64 ((i32 - 1))) <|
      grd (okIdx ((i32 - 1)) ((List.length l92))) <|
      grd (okKin ((Int.toNat (i32 - 1))) ((List.length l92))) <|
      (some (decide ((List.getD l_1 (Int.toNat i27) (0, 0)).2 ≤ (List.getD l92 (Int.toNat (i32 - 1)) 0))))
    else
      (some false) : Option ((Bool))) fun x98 =>
  bif x98 then
    grd (okI .i64 ((i32 - 1))) <|
    (some (Sum.inl (i32 - 1)))
  else
    (some (Sum.inr i32))) : Option ((Int) ⊕ (Int))) := rfl
theorem m_ref12_Ends_L3_eq (l_1 : List (Int × Int)) (i27 : Int) (l90 : List Int) : m_ref12_Ends_L3 std l_1 (i27, l90) =
((bif (decide (i27 < (((List.length l_1) : Nat) : Int))) then
    Option.bind (
      grd (okIdx i27 ((List.length l_1))) <|
      grd (okKin ((Int.toNat i27)) ((List.length l_1))) <|
      Option.bind (loop (m_ref12_Ends_L1 std i27 l90 l_1) (((List.length l90) : Nat) : Int)) fun i30 =>
      Option.bind (
        bif (decide (i30 < (((List.length l90) : Nat) : Int))) then
          grd (okIdx i30 ((List.length l90))) <|
          grd (okKin ((Int.toNat i30)) ((List.length l90))) <|
          (some ((List.getD l90 (Int.toNat i30) 0) == (List.getD l_1 (Int.toNat i27) (0, 0)).1))
        else
          (some false) : Option ((Bool))) fun x94 =>
      bif x94 then
        (some l90)
      else
        grd (okRng i30 ((List.length l90))) <|
        grd (okRoom ((List.length ([] : List Int)))) <|
        grd (okRoom ((List.length (List.take ((Int.toNat i30) - 0) (List.drop 0 l90))))) <|
        grd (okRoom ((List.length (([] : List Int) ++ (List.take ((Int.toNat i30) - 0) (List.drop 0 l90)))))) <|
        grd (okRoom ((List.length [(List.getD l_1 (Int.toNat i27) (0, 0)).1]))) <|
        grd (okRoom ((List.length ((([] : List Int) ++ (List.take ((Int.toNat i30) - 0) (List.drop 0 l90))) ++ [(List.getD l_1 (Int.toNat i27) (0, 0)).1])))) <|
        grd (okRoom ((List.length (List.take ((List.length l90) - (Int.toNat i30)) (List.drop (Int.toNat i30) l90))))) <|
        (some (((([] : List Int) ++ (List.take ((Int.toNat i30) - 0) (List.drop 0 l90))) ++ [(List.getD l_1 (Int.toNat i27) (0, 0)).1]) ++ (List.take ((List.length l90) - (Int.toNat i30)) (List.drop (Int.toNat i30) l90)))) : Option ((List Int))) fun l92 =>
    Option.bind (
      Option.bind (loop (m_ref12_Ends_L2 std i27 l92 l_1) (((List.length l92) : Nat) : Int)) fun i33 =>
      Option.bind (
        bif (decide (i33 < (((List.length l92) : Nat) : Int))) then
          grd (okIdx i33 ((List.length l92))) <|
          grd (okKin ((Int.toNat i33)) ((List.length l92))) <|
          (some ((List.getD l92 (Int.toNat i33) 0) == (List.getD l_1 (Int.toNat i27) (0, 0)).2))
        else
          (some false) : Option ((Bool))) fun x100 =>
      bif x100 then
        (some l92)
      else
        grd (okRng i33 ((List.length l92))) <|
        grd (okRoom ((List.length ([] : List Int)))) <|
        grd (okRoom ((List.length (List.take ((Int.toNat i33) - 0) (List.drop 0 l92))))) <|
        grd (okRoom ((List.length (([] : List Int) ++ (List.take ((Int.toNat i33) - 0) (List.drop 0 l92)))))) <|
        grd (okRoom ((List.length [(List.getD l_1 (Int.toNat i27) (0, 0)).2]))) <|
        grd (okRoom ((List.length ((([] : List Int) ++ (List.take ((Int.toNat i33) - 0) (List.drop 0 l92))) ++ [(List.getD l_1 (Int.toNat i27) (0, 0)).2])))) <|
        grd (okRoom ((List.length (List.take ((List.length l92) - (Int.toNat i33)) (List.drop (Int.toNat i33) l92))))) <|
        (some (((([] : List Int) ++ (List.take ((Int.toNat i33) - 0) (List.drop 0 l92))) ++ [(List.getD l_1 (Int.toNat i27) (0, 0)).2]) ++ (List.take ((List.length l92) - (Int.toNat i33)) (List.drop (Int.toNat i33) l92)))) : Option ((List Int))) fun l94 =>
    grd (okI .i64 ((i27 + 1))) <|
    (some (Sum.inl ((i27 + 1), l94)))
  else
    (some (Sum.inr l90))) : Option ((Int × List Int) ⊕ (List Int))) := rfl
theorem m_ref12_Ends_eq (l_1 : List (Int × Int)) : m_ref12_Ends std l_1 =
((Option.bind (loop (m_ref12_Ends_L3 std l_1) (0, ([] : List Int))) fun l95 =>
  (some l95)) : Option (List Int)) := rfl
theorem m_ref12_In_L1_eq (l_1 : List (Int × Int)) (x_1 : Int) (i35 : Int) : m_ref12_In_L1 std l_1 x_1 i35 =
((bif (decide (i35 < (((List.length l_1) : Nat) : Int))) then
    Option.bind (
      bif (decide ((List.getD l_1 (Int.toNat i35) (0, 0)).1 ≤ x_1)) then
        grd (okIdx i35 ((List.length l_1))) <|
        grd (okKin ((Int.toNat i35)) ((List.length l_1))) <|
        (some (decide (x_1 < (List.getD l_1 (Int.toNat i35) (0, 0)).2)))
      else
        grd (okIdx i35 ((List.length l_1))) <|
        grd (okKin ((Int.toNat i35)) ((List.length l_1))) <|
        (some false) : Option ((Bool))) fun x102 =>
    bif x102 then
      (some (Sum.inr (Sum.inl ())))
    else
      grd (okI .i64 ((i35 + 1))) <|
      (some (Sum.inl (i35 + 1)))
  else
    (some (Sum.inr (Sum.inr ())))) : Option ((Int) ⊕ ((Unit) ⊕ (Unit)))) := rfl
theorem m_ref12_In_eq (x_1 : Int) (l_1 : List (Int × Int)) : m_ref12_In std x_1 l_1 =
((Option.bind (loop (m_ref12_In_L1 std l_1 x_1) 0) fun e => match e with
  | .inl _ =>
    (some true)
  | .inr (_) =>
    (some false)) : Option (Bool)) := rfl
theorem m_ref12_keep_eq (kind_1 : Int) (a_1 : Bool) (b_1 : Bool) : m_ref12_keep std kind_1 a_1 b_1 =
((Option.bind (
    bif (kind_1 == 1) then
      Option.bind (
        bif a_1 then
          (some true)
        else
          (some b_1) : Option ((Bool))) fun x104 =>
      (some (Sum.inl x104))
    else
      Option.bind (
        bif (kind_1 == 2) then
          Option.bind (
            bif a_1 then
              (some b_1)
            else
              (some false) : Option ((Bool))) fun x106 =>
          (some (Sum.inl x106))
        else
          bif (kind_1 == 3) then
            Option.bind (
              bif a_1 then
                (some (!b_1))
              else
                (some false) : Option ((Bool))) fun x108 =>
            (some (Sum.inl x108))
          else
            (some (Sum.inr ())) : Option (((Bool) ⊕ (Unit)))) fun e => match e with
      | .inl x110 =>
        (some (Sum.inl x110))
      | .inr (_) =>
        (some (Sum.inr ())) : Option (((Bool) ⊕ (Unit)))) fun e => match e with
  | .inl x112 =>
    (some x112)
  | .inr (_) =>
    (some (!(a_1 == b_1)))) : Option (Bool)) := rfl
theorem m_ref12_Combine_L1_eq (a_1 : List (Int × Int)) (b_1 : List (Int × Int)) (kind_1 : Int) (l96 : List Int) (i36 : Int) (l101 : List (Int × Int)) : m_ref12_Combine_L1 std a_1 b_1 kind_1 l96 (i36, l101) =
((grd (okI .i64 ((i36 + 1))) <|
  bif (decide ((i36 + 1) < (((List.length l96) : Nat) : Int))) then
    grd (okIdx i36 ((List.length l96))) <|
    grd (okKin ((Int.toNat i36)) ((List.length l96))) <|
    Option.bind (m_ref12_In std ((List.getD l96 (Int.toNat i36) 0)) a_1) fun b36 =>
    Option.bind (m_ref12_In std ((List.getD l96 (Int.toNat i36) 0)) b_1) fun b37 =>
    Option.bind (m_ref12_keep std kind_1 b36 b37) fun b38 =>
    Option.bind (
      bif b38 then
        Option.bind (
          grd (okIdx ((i36 + 1)) ((List.length l96))) <|
          grd (okKin ((Int.toNat (i36 + 1))) ((List.length l96))) <|
          Option.bind (
            bif (decide (0 < (((List.length l101) : Nat) : Int))) then
              grd (okI .i64 (((((List.length l101) : Nat) : Int) - 1))) <|
              grd (okIdx (((((List.length l101) : Nat) : Int) - 1)) ((List.length l101))) <|
              grd (okKin ((Int.toNat ((((List.length l101) : Nat) : Int) - 1))) ((List.length l101))) <|
              (some ((List.getD l101 (Int.toNat ((((List.length l101) : Nat) : Int) - 1)) (0, 0)).2 == (List.getD l96 (Int.toNat i36) 0)))
            else
              (some false) : Option ((Bool))) fun x116 =>
          bif x116 then
            grd (okI .i64 (((((List.length l101) : Nat) : Int) - 1))) <|
            grd (okIdx (((((List.length l101) : Nat) : Int) - 1)) ((List.length l101))) <|
            grd (okKin ((Int.toNat ((((List.length l101) : Nat) : Int) - 1))) ((List.length l101))) <|
            (some (List.set l101 (Int.toNat ((((List.length l101) : Nat) : Int) - 1)) ((List.getD l101 (Int.toNat ((((List.length l101) : Nat) : Int) - 1)) (0, 0)).1, (List.getD l96 (Int.toNat (i36 + 1)) 0))))
          else
            grd (okRoom ((List.length l101))) <|
            grd (okRoom ((List.length [((List.getD l96 (Int.toNat i36) 0), (List.getD l96 (Int.toNat (i36 + 1)) 0))]))) <|
            (some (l101 ++ [((List.getD l96 (Int.toNat i36) 0), (List.getD l96 (Int.toNat (i36 + 1)) 0))])) : Option ((List (Int × Int)))) fun l103 =>
        (some l103)
      else
        (some l101) : Option ((List (Int × Int)))) fun l105 =>
    (some (Sum.inl ((i36 + 1), l105)))
  else
    (some (Sum.inr l101))) : Option ((Int × List (Int × Int)) ⊕ (List (Int × Int)))) := rfl
theorem m_ref12_Combine_eq (kind_1 : Int) (a_1 : List (Int × Int)) (b_1 : List (Int × Int)) : m_ref12_Combine std kind_1 a_1 b_1 =
((grd (okRoom ((List.length ([] : List (Int × Int))))) <|
  grd (okRoom ((List.length a_1))) <|
  grd (okRoom ((List.length (([] : List (Int × Int)) ++ a_1)))) <|
  grd (okRoom ((List.length b_1))) <|
  Option.bind (m_ref12_Ends std (((([] : List (Int × Int)) ++ a_1) ++ b_1))) fun l96 =>
  Option.bind (loop (m_ref12_Combine_L1 std a_1 b_1 kind_1 l96) (0, ([] : List (Int × Int)))) fun l106 =>
  (some l106)) : Option (List (Int × Int))) := rfl
theorem m_ref12_full_eq (l_1 : List (Int × Int)) : m_ref12_full std l_1 =
((bif (decide (2000 < (((List.length l_1) : Nat) : Int))) then
    (some (Sum.inl (([] : List (Int × Int)), 5)))
  else
    (some (Sum.inr 0))) : Option (((List (Int × Int) × Int) ⊕ (Int)))) := rfl
theorem m_ref12_Of_eq (l_1 : List (Int × Int)) : m_ref12_Of std l_1 =
((Option.bind (m_ref12_Spans std l_1) fun b32 =>
  bif (!b32) then
    (some (([] : List (Int × Int)), 1))
  else
    Option.bind (
      Option.bind (m_ref12_Combine std 1 l_1 (([] : List (Int × Int)))) fun l107 =>
      Option.bind (m_ref12_full std l107) fun e => match e with
      | .inl (l108, n40) =>
        (some (n40, l108))
      | .inr (n41) =>
        (some (n41, l107)) : Option ((Int × List (Int × Int)))) fun (x118, l110) =>
    (some (l110, x118))) : Option (List (Int × Int) × Int)) := rfl
theorem m_ref35_At_L1_eq (l_1 : List (Int × Int × Int × Int)) (tx_1 : Int) (i18 : Int) (l82 : List (Int × Int)) : m_ref35_At_L1 std l_1 tx_1 (i18, l82) =
((bif (decide (i18 < (((List.length l_1) : Nat) : Int))) then
    Option.bind (
      bif (decide ((List.getD l_1 (Int.toNat i18) (0, 0, 0, 0)).2.2.1 ≤ tx_1)) then
        grd (okIdx i18 ((List.length l_1))) <|
        grd (okKin ((Int.toNat i18)) ((List.length l_1))) <|
        (some (decide (tx_1 < (List.getD l_1 (Int.toNat i18) (0, 0, 0, 0)).2.2.2)))
      else
        grd (okIdx i18 ((List.length l_1))) <|
        grd (okKin ((Int.toNat i18)) ((List.length l_1))) <|
        (some false) : Option ((Bool))) fun x71 =>
    Option.bind (
      bif x71 then
        grd (okRoom ((List.length l82))) <|
        grd (okRoom ((List.length [((List.getD l_1 (Int.toNat i18) (0, 0, 0, 0)).1, (List.getD l_1 (Int.toNat i18) (0, 0, 0, 0)).2.1)]))) <|
        (some (l82 ++ [((List.getD l_1 (Int.toNat i18) (0, 0, 0, 0)).1, (List.getD l_1 (Int.toNat i18) (0, 0, 0, 0)).2.1)]))
      else
        (some l82) : Option ((List (Int × Int)))) fun l84 =>
    grd (okI .i64 ((i18 + 1))) <|
    (some (Sum.inl ((i18 + 1), l84)))
  else
    (some (Sum.inr l82))) : Option ((Int × List (Int × Int)) ⊕ (List (Int × Int)))) := rfl
theorem m_ref35_At_eq (tx_1 : Int) (l_1 : List (Int × Int × Int × Int)) : m_ref35_At std tx_1 l_1 =
((Option.bind (loop (m_ref35_At_L1 std l_1 tx_1) (0, ([] : List (Int × Int)))) fun l85 =>
  Option.bind (m_ref12_Of std l85) fun (l111, _) =>
  (some l111)) : Option (List (Int × Int))) := rfl
theorem m_ref35_has_eq (x_1 : Int) (l_1 : List (Int × Int)) : m_ref35_has std x_1 l_1 =
((Option.bind (m_ref12_In std x_1 l_1) fun b39 =>
  (some b39)) : Option (Bool)) := rfl
theorem m_ref35_mix_L1_eq (a_1 : List (Int × Int)) (i38 : Int) (l116 : List Int) : m_ref35_mix_L1 std a_1 (i38, l116) =
((bif (decide (i38 < (((List.length a_1) : Nat) : Int))) then
    grd (okIdx i38 ((List.length a_1))) <|
    grd (okKin ((Int.toNat i38)) ((List.length a_1))) <|
    Option.bind (m_ref35_put std ((List.getD a_1 (Int.toNat i38) (0, 0)).1) l116) fun l117 =>
    Option.bind (m_ref35_put std ((List.getD a_1 (Int.toNat i38) (0, 0)).2) l117) fun l118 =>
    grd (okI .i64 ((i38 + 1))) <|
    (some (Sum.inl ((i38 + 1), l118)))
  else
    (some (Sum.inr l116))) : Option ((Int × List Int) ⊕ (List Int))) := rfl
theorem m_ref35_mix_L2_eq (b_1 : List (Int × Int)) (i40 : Int) (l122 : List Int) : m_ref35_mix_L2 std b_1 (i40, l122) =
((bif (decide (i40 < (((List.length b_1) : Nat) : Int))) then
    grd (okIdx i40 ((List.length b_1))) <|
    grd (okKin ((Int.toNat i40)) ((List.length b_1))) <|
    Option.bind (m_ref35_put std ((List.getD b_1 (Int.toNat i40) (0, 0)).1) l122) fun l123 =>
    Option.bind (m_ref35_put std ((List.getD b_1 (Int.toNat i40) (0, 0)).2) l123) fun l124 =>
    grd (okI .i64 ((i40 + 1))) <|
    (some (Sum.inl ((i40 + 1), l124)))
  else
    (some (Sum.inr l122))) : Option ((Int × List Int) ⊕ (List Int))) := rfl
theorem m_ref35_mix_L3_eq (a_1 : List (Int × Int)) (b_1 : List (Int × Int)) (kind_1 : Int) (l125 : List Int) (i42 : Int) (l130 : List (Int × Int)) : m_ref35_mix_L3 std a_1 b_1 kind_1 l125 (i42, l130) =
((grd (okI .i64 ((i42 + 1))) <|
  bif (decide ((i42 + 1) < (((List.length l125) : Nat) : Int))) then
    grd (okIdx i42 ((List.length l125))) <|
    grd (okKin ((Int.toNat i42)) ((List.length l125))) <|
    Option.bind (m_ref35_has std ((List.getD l125 (Int.toNat i42) 0)) a_1) fun b42 =>
    Option.bind (m_ref35_has std ((List.getD l125 (Int.toNat i42) 0)) b_1) fun b43 =>
    Option.bind (
      bif (kind_1 == 0) then
        bif b42 then
          (some true)
        else
          bif b43 then
            (some true)
          else
            bif (kind_1 == 1) then
              bif (kind_1 == 2) then
                (some false)
              else
                (some false)
            else
              bif (kind_1 == 2) then
                (some false)
              else
                (some false)
      else
        bif (kind_1 == 1) then
          bif b42 then
            bif b43 then
              (some true)
            else
              bif (kind_1 == 2) then
                (some (!false))
              else
                (some false)
          else
            bif (kind_1 == 2) then
              (some false)
            else
              (some false)
        else
          bif (kind_1 == 2) then
            bif b42 then
              (some (!b43))
            else
              (some false)
          else
            (some false) : Option ((Bool))) fun x146 =>
    Option.bind (
      bif x146 then
        Option.bind (
          bif (decide (0 < (((List.length l130) : Nat) : Int))) then
            grd (okI .i64 (((((List.length l130) : Nat) : Int) - 1))) <|
            grd (okIdx (((((List.length l130) : Nat) : Int) - 1)) ((List.length l130))) <|
            grd (okKin ((Int.toNat ((((List.length l130) : Nat) : Int) - 1))) ((List.length l130))) <|
            (some ((List.getD l130 (Int.toNat ((((List.length l130) : Nat) : Int) - 1)) (0, 0)).2 == (List.getD l125 (Int.toNat i42) 0)))
          else
            (some false) : Option ((Bool))) fun x148 =>
        Option.bind (
          bif x148 then
            grd (okI .i64 (((((List.length l130) : Nat) : Int) - 1))) <|
            grd (okIdx ((i42 + 1)) ((List.length l125))) <|
            grd (okKin ((Int.toNat (i42 + 1))) ((List.length l125))) <|
            grd (okIdx (((((List.length l130) : Nat) : Int) - 1)) ((List.length l130))) <|
            grd (okKin ((Int.toNat ((((List.length l130) : Nat) : Int) - 1))) ((List.length l130))) <|
            (some (List.set l130 (Int.toNat ((((List.length l130) : Nat) : Int) - 1)) ((List.getD l130 (Int.toNat ((((List.length l130) : Nat) : Int) - 1)) (0, 0)).1, (List.getD l125 (Int.toNat (i42 + 1)) 0))))
          else
            grd (okIdx ((i42 + 1)) ((List.length l125))) <|
            grd (okKin ((Int.toNat (i42 + 1))) ((List.length l125))) <|
            grd (okRoom ((List.length l130))) <|
            grd (okRoom ((List.length [((List.getD l125 (Int.toNat i42) 0), (List.getD l125 (Int.toNat (i42 + 1)) 0))]))) <|
            (some (l130 ++ [((List.getD l125 (Int.toNat i42) 0), (List.getD l125 (Int.toNat (i42 + 1)) 0))])) : Option ((List (Int × Int)))) fun l132 =>
        (some l132)
      else
        (some l130) : Option ((List (Int × Int)))) fun l134 =>
    (some (Sum.inl ((i42 + 1), l134)))
  else
    (some (Sum.inr l130))) : Option ((Int × List (Int × Int)) ⊕ (List (Int × Int)))) := rfl
theorem m_ref35_mix_eq (kind_1 : Int) (a_1 : List (Int × Int)) (b_1 : List (Int × Int)) : m_ref35_mix std kind_1 a_1 b_1 =
((Option.bind (loop (m_ref35_mix_L1 std a_1) (0, ([] : List Int))) fun l119 =>
  Option.bind (loop (m_ref35_mix_L2 std b_1) (0, l119)) fun l125 =>
  Option.bind (loop (m_ref35_mix_L3 std a_1 b_1 kind_1 l125) (0, ([] : List (Int × Int)))) fun l135 =>
  (some l135)) : Option (List (Int × Int))) := rfl
theorem m_ref12_Same_L1_eq (a_1 : List (Int × Int)) (b_1 : List (Int × Int)) (i43 : Int) : m_ref12_Same_L1 std a_1 b_1 i43 =
((bif (decide (i43 < (((List.length a_1) : Nat) : Int))) then
    Option.bind (
      bif (!((List.getD a_1 (Int.toNat i43) (0, 0)).1 == (List.getD b_1 (Int.toNat i43) (0, 0)).1)) then
        grd (okIdx i43 ((List.length a_1))) <|
        grd (okKin ((Int.toNat i43)) ((List.length a_1))) <|
        grd (okIdx i43 ((List.length b_1))) <|
        grd (okKin ((Int.toNat i43)) ((List.length b_1))) <|
        (some true)
      else
        grd (okIdx i43 ((List.length a_1))) <|
        grd (okKin ((Int.toNat i43)) ((List.length a_1))) <|
        grd (okIdx i43 ((List.length b_1))) <|
        grd (okKin ((Int.toNat i43)) ((List.length b_1))) <|
        (some (!((List.getD a_1 (Int.toNat i43) (0, 0)).2 == (List.getD b_1 (Int.toNat i43) (0, 0)).2))) : Option ((Bool))) fun x150 =>
    bif x150 then
      (some (Sum.inr (Sum.inl ())))
    else
      grd (okI .i64 ((i43 + 1))) <|
      (some (Sum.inl (i43 + 1)))
  else
    (some (Sum.inr (Sum.inr ())))) : Option ((Int) ⊕ ((Unit) ⊕ (Unit)))) := rfl
theorem m_ref12_Same_eq (a_1 : List (Int × Int)) (b_1 : List (Int × Int)) : m_ref12_Same std a_1 b_1 =
((bif (!((((List.length a_1) : Nat) : Int) == (((List.length b_1) : Nat) : Int))) then
    (some false)
  else
    Option.bind (loop (m_ref12_Same_L1 std a_1 b_1) 0) fun e => match e with
    | .inl _ =>
      (some false)
    | .inr (_) =>
      (some true)) : Option (Bool)) := rfl
theorem m_ref35_Combine_L1_eq (from4 : Int) (i44 : Int) (l142 : List (Int × Int)) (l79 : List Int) (k14 : Int) (l148 : List (Int × Int × Int × Int)) : m_ref35_Combine_L1 std from4 i44 l142 l79 (k14, l148) =
((bif (decide (k14 < (((List.length l142) : Nat) : Int))) then
    grd (okIdx k14 ((List.length l142))) <|
    grd (okKin ((Int.toNat k14)) ((List.length l142))) <|
    grd (okIdx i44 ((List.length l79))) <|
    grd (okKin ((Int.toNat i44)) ((List.length l79))) <|
    grd (okRoom ((List.length l148))) <|
    grd (okRoom ((List.length [((List.getD l142 (Int.toNat k14) (0, 0)).1, (List.getD l142 (Int.toNat k14) (0, 0)).2, from4, (List.getD l79 (Int.toNat i44) 0))]))) <|
    grd (okI .i64 ((k14 + 1))) <|
    (some (Sum.inl ((k14 + 1), (l148 ++ [((List.getD l142 (Int.toNat k14) (0, 0)).1, (List.getD l142 (Int.toNat k14) (0, 0)).2, from4, (List.getD l79 (Int.toNat i44) 0))]))))
  else
    (some (Sum.inr l148))) : Option ((Int × List (Int × Int × Int × Int)) ⊕ (List (Int × Int × Int × Int)))) := rfl
theorem m_ref35_Combine_L2_eq (a_1 : List (Int × Int × Int × Int)) (b_1 : List (Int × Int × Int × Int)) (kind_1 : Int) (l79 : List Int) (from4 : Int) (i44 : Int) (l141 : List (Int × Int × Int × Int)) (l142 : List (Int × Int)) : m_ref35_Combine_L2 std a_1 b_1 kind_1 l79 (from4, i44, l141, l142) =
((bif (decide (i44 < (((List.length l79) : Nat) : Int))) then
    grd (okI .i64 ((i44 + 1))) <|
    Option.bind (
      bif (decide ((i44 + 1) < (((List.length l79) : Nat) : Int))) then
        grd (okIdx i44 ((List.length l79))) <|
        grd (okKin ((Int.toNat i44)) ((List.length l79))) <|
        Option.bind (m_ref35_At std ((List.getD l79 (Int.toNat i44) 0)) a_1) fun l143 =>
        Option.bind (m_ref35_At std ((List.getD l79 (Int.toNat i44) 0)) b_1) fun l144 =>
        Option.bind (m_ref35_mix std kind_1 l143 l144) fun l145 =>
        (some l145)
      else
        (some ([] : List (Int × Int))) : Option ((List (Int × Int)))) fun l147 =>
    Option.bind (m_ref12_Same std l147 l142) fun b45 =>
    bif b45 then
      (some (Sum.inl (from4, (i44 + 1), l141, l142)))
    else
      Option.bind (loop (m_ref35_Combine_L1 std from4 i44 l142 l79) (0, l141)) fun l149 =>
      grd (okIdx i44 ((List.length l79))) <|
      grd (okKin ((Int.toNat i44)) ((List.length l79))) <|
      (some (Sum.inl ((List.getD l79 (Int.toNat i44) 0), (i44 + 1), l149, l147)))
  else
    (some (Sum.inr l141))) : Option ((Int × Int × List (Int × Int × Int × Int) × List (Int × Int)) ⊕ (List (Int × Int × Int × Int)))) := rfl
theorem m_ref35_Combine_eq (kind_1 : Int) (a_1 : List (Int × Int × Int × Int)) (b_1 : List (Int × Int × Int × Int)) : m_ref35_Combine std kind_1 a_1 b_1 =
((Option.bind (
    Option.bind (m_ref35_List std a_1) fun b27 =>
    bif (!b27) then
      (some true)
    else
      Option.bind (m_ref35_List std b_1) fun b28 =>
      (some (!b28)) : Option ((Bool))) fun x61 =>
  bif x61 then
    (some (([] : List (Int × Int × Int × Int)), 1))
  else
    Option.bind (
      bif (decide (500 < (((List.length a_1) : Nat) : Int))) then
        (some true)
      else
        (some (decide (500 < (((List.length b_1) : Nat) : Int)))) : Option ((Bool))) fun x63 =>
    bif x63 then
      (some (([] : List (Int × Int × Int × Int)), 5))
    else
      Option.bind (m_ref35_ends std a_1 b_1) fun l79 =>
      Option.bind (loop (m_ref35_Combine_L2 std a_1 b_1 kind_1 l79) (0, 0, ([] : List (Int × Int × Int × Int)), ([] : List (Int × Int)))) fun l150 =>
      bif (decide (500 < (((List.length l150) : Nat) : Int))) then
        (some (([] : List (Int × Int × Int × Int)), 5))
      else
        (some (l150, 0))) : Option (List (Int × Int × Int × Int) × Int)) := rfl
theorem m_law35_RectangleCanonical_1_eq (r_1 : Int) (r_2 : Int) (r_3 : Int) (r_4 : Int) : m_law35_RectangleCanonical_1 std r_1 r_2 r_3 r_4 =
((Option.bind (m_rectangle_Valid std r_1 r_2 r_3 r_4) fun b47 =>
  Option.bind (m_ref35_Valid std r_1 r_2 r_3 r_4) fun b48 =>
  (some (!(b47 == b48)))) : Option (Bool)) := rfl
theorem m_slices_IndexFunc_4_L1_eq (s_1 : List (Int × Int × Int × Int)) (x151 : Int) : m_slices_IndexFunc_4_L1 std s_1 x151 =
((bif (decide (x151 < (((List.length s_1) : Nat) : Int))) then
    grd (okIdx x151 ((List.length s_1))) <|
    grd (okKin ((Int.toNat x151)) ((List.length s_1))) <|
    Option.bind (m_law35_RectangleCanonical_1 std ((List.getD s_1 (Int.toNat x151) (0, 0, 0, 0)).1) ((List.getD s_1 (Int.toNat x151) (0, 0, 0, 0)).2.1) ((List.getD s_1 (Int.toNat x151) (0, 0, 0, 0)).2.2.1) ((List.getD s_1 (Int.toNat x151) (0, 0, 0, 0)).2.2.2)) fun b49 =>
    bif b49 then
      (some (Sum.inr (Sum.inl x151)))
    else
      grd (okI .i64 ((x151 + 1))) <|
      (some (Sum.inl (x151 + 1)))
  else
    (some (Sum.inr (Sum.inr ())))) : Option ((Int) ⊕ ((Int) ⊕ (Unit)))) := rfl
theorem m_slices_IndexFunc_4_eq (s_1 : List (Int × Int × Int × Int)) : m_slices_IndexFunc_4 std s_1 =
((Option.bind (loop (m_slices_IndexFunc_4_L1 std s_1) 0) fun e => match e with
  | .inl x152 =>
    (some x152)
  | .inr (_) =>
    (some (-1))) : Option (Int)) := rfl
theorem m_slices_ContainsFunc_4_eq (s_1 : List (Int × Int × Int × Int)) : m_slices_ContainsFunc_4 std s_1 =
((Option.bind (m_slices_IndexFunc_4 std s_1) fun n44 =>
  (some (decide (0 ≤ n44)))) : Option (Bool)) := rfl
theorem m_law35_RectangleCanonical_eq (l_1 : List (Int × Int × Int × Int)) : m_law35_RectangleCanonical std l_1 =
((Option.bind (m_law35_awake std) fun b20 =>
  bif (!b20) then
    (some false)
  else
    Option.bind (m_law35_few std l_1) fun b23 =>
    bif (!b23) then
      (some true)
    else
      Option.bind (m_rectangle_Canonical std l_1) fun (l54, n39) =>
      Option.bind (m_ref35_Combine std 0 l_1 (([] : List (Int × Int × Int × Int)))) fun (l151, n43) =>
      Option.bind (
        Option.bind (m_slices_Equal_2 std l54 l151) fun b46 =>
        bif b46 then
          bif (n39 == n43) then
            Option.bind (m_slices_ContainsFunc_4 std l_1) fun b50 =>
            (some (!b50))
          else
            (some false)
        else
          (some false) : Option ((Bool))) fun x155 =>
      (some x155)) : Option (Bool)) := rfl
theorem m_slices_IndexFunc_5_eq (s_1 : List (Int × Int × Int × Int)) (s_2 : List (Int × Int × Int × Int)) : m_slices_IndexFunc_5 std s_1 s_2 =
((Option.bind (m_law35_few_1 std s_1) fun b52 =>
  bif b52 then
    (some 0)
  else
    grd (okI .i64 ((0 + 1))) <|
    Option.bind (m_law35_few_1 std s_2) fun b53 =>
    bif b53 then
      (some 1)
    else
      grd (okI .i64 ((1 + 1))) <|
      (some (-1))) : Option (Int)) := rfl
theorem m_slices_ContainsFunc_5_eq (s_1 : List (Int × Int × Int × Int)) (s_2 : List (Int × Int × Int × Int)) : m_slices_ContainsFunc_5 std s_1 s_2 =
((Option.bind (m_slices_IndexFunc_5 std s_1 s_2) fun n45 =>
  (some (decide (0 ≤ n45)))) : Option (Bool)) := rfl
theorem m_law35_few_2_eq (lists_1 : List (Int × Int × Int × Int)) (lists_2 : List (Int × Int × Int × Int)) : m_law35_few_2 std lists_1 lists_2 =
((Option.bind (m_slices_ContainsFunc_5 std lists_1 lists_2) fun b54 =>
  (some (!b54))) : Option (Bool)) := rfl
theorem m_rectangle_Union_eq (a_1 : List (Int × Int × Int × Int)) (b_1 : List (Int × Int × Int × Int)) : m_rectangle_Union std a_1 b_1 =
((Option.bind (m_rectangle_combine std a_1 b_1) fun (l152, n46) =>
  (some (l152, n46))) : Option (List (Int × Int × Int × Int) × Int)) := rfl
theorem m_runs_Meet_1_eq (a_1 : Bool) (b_1 : Bool) : m_runs_Meet_1 std a_1 b_1 =
((Option.bind (
    bif a_1 then
      (some b_1)
    else
      (some false) : Option ((Bool))) fun x165 =>
  (some x165)) : Option (Bool)) := rfl
theorem m_runs_combine_2_L1_eq (a_1 : List (Int × Int)) (b_1 : List (Int × Int)) (i49 : Int) (k18 : Int) (inside4 : Bool) (from6 : Int) (l164 : List (Int × Int)) : m_runs_combine_2_L1 std a_1 b_1 (i49, k18, inside4, from6, l164) =
((Option.bind (
    bif (decide (i49 < (2 * (((List.length a_1) : Nat) : Int)))) then
      grd (okI .i64 ((2 * (((List.length a_1) : Nat) : Int)))) <|
      (some true)
    else
      grd (okI .i64 ((2 * (((List.length a_1) : Nat) : Int)))) <|
      grd (okI .i64 ((2 * (((List.length b_1) : Nat) : Int)))) <|
      (some (decide (k18 < (2 * (((List.length b_1) : Nat) : Int))))) : Option ((Bool))) fun x167 =>
  bif x167 then
    Option.bind (m_runs_combine_1 std i49 a_1) fun n54 =>
    Option.bind (m_runs_combine_1 std k18 b_1) fun n55 =>
    Option.bind (m_runs_combine_1 std i49 a_1) fun n56 =>
    Option.bind (
      bif (n56 == (mi n54 n55)) then
        grd (okI .i64 ((i49 + 1))) <|
        (some (i49 + 1))
      else
        (some i49) : Option ((Int))) fun i51 =>
    Option.bind (m_runs_combine_1 std k18 b_1) fun n57 =>
    Option.bind (
      bif (n57 == (mi n54 n55)) then
        grd (okI .i64 ((k18 + 1))) <|
        (some (k18 + 1))
      else
        (some k18) : Option ((Int))) fun k20 =>
    grd (okNz 2) <|
    Option.bind (m_runs_Meet_1 std (((Int.tmod i51 2) == 1)) (((Int.tmod k20 2) == 1))) fun b60 =>
    bif (b60 == inside4) then
      (some (Sum.inl (i51, k20, inside4, from6, l164)))
    else
      Option.bind (
        bif inside4 then
          grd (okRoom ((List.length l164))) <|
          grd (okRoom ((List.length [(from6, (mi n54 n55))]))) <|
          (some (l164 ++ [(from6, (mi n54 n55))]))
        else
          (some l164) : Option ((List (Int × Int)))) fun l166 =>
      (some (Sum.inl (i51, k20, b60, (mi n54 n55), l166)))
  else
    (some (Sum.inr l164))) : Option ((Int × Int × Bool × Int × List (Int × Int)) ⊕ (List (Int × Int)))) := rfl
theorem m_runs_combine_2_eq (a_1 : List (Int × Int)) (b_1 : List (Int × Int)) : m_runs_combine_2 std a_1 b_1 =
((Option.bind (
    Option.bind (m_runs_Valid std a_1) fun b57 =>
    bif (!b57) then
      (some true)
    else
      Option.bind (m_runs_Valid std b_1) fun b58 =>
      (some (!b58)) : Option ((Bool))) fun x161 =>
  bif x161 then
    (some (([] : List (Int × Int)), 1))
  else
    Option.bind (loop (m_runs_combine_2_L1 std a_1 b_1) (0, 0, false, 0, ([] : List (Int × Int)))) fun l167 =>
    Option.bind (
      Option.bind (m_runs_done std l167) fun e => match e with
      | .inl (l168, n58) =>
        (some (n58, l168))
      | .inr (n59) =>
        (some (n59, l167)) : Option ((Int × List (Int × Int)))) fun (x169, l170) =>
    (some (l170, x169))) : Option (List (Int × Int) × Int)) := rfl
theorem m_runs_Meet_eq (a_1 : List (Int × Int)) (b_1 : List (Int × Int)) : m_runs_Meet std a_1 b_1 =
((Option.bind (m_runs_combine_2 std a_1 b_1) fun (l171, n60) =>
  (some (l171, n60))) : Option (List (Int × Int) × Int)) := rfl
theorem m_rectangle_combine_2_L1_eq (l155 : List (Int × Int × Int × Int)) (x159 : Int) (l156 : List Int) : m_rectangle_combine_2_L1 std l155 (x159, l156) =
((bif (decide (x159 < (((List.length l155) : Nat) : Int))) then
    grd (okIdx x159 ((List.length l155))) <|
    grd (okKin ((Int.toNat x159)) ((List.length l155))) <|
    grd (okRoom ((List.length l156))) <|
    grd (okRoom ((List.length [(List.getD l155 (Int.toNat x159) (0, 0, 0, 0)).2.2.1, (List.getD l155 (Int.toNat x159) (0, 0, 0, 0)).2.2.2]))) <|
    grd (okI .i64 ((x159 + 1))) <|
    (some (Sum.inl ((x159 + 1), (l156 ++ [(List.getD l155 (Int.toNat x159) (0, 0, 0, 0)).2.2.1, (List.getD l155 (Int.toNat x159) (0, 0, 0, 0)).2.2.2]))))
  else
    (some (Sum.inr l156))) : Option ((Int × List Int) ⊕ (List Int))) := rfl
theorem m_rectangle_combine_2_L2_eq (i52 : Int) (l159 : List Int) (k24 : Int) (l182 : List (Int × Int × Int × Int)) : m_rectangle_combine_2_L2 std i52 l159 (k24, l182) =
((bif (decide (k24 < (((List.length l182) : Nat) : Int))) then
    grd (okIdx ((i52 + 1)) ((List.length l159))) <|
    grd (okKin ((Int.toNat (i52 + 1))) ((List.length l159))) <|
    grd (okIdx k24 ((List.length l182))) <|
    grd (okKin ((Int.toNat k24)) ((List.length l182))) <|
    grd (okI .i64 ((k24 + 1))) <|
    (some (Sum.inl ((k24 + 1), (List.set l182 (Int.toNat k24) ((List.getD l182 (Int.toNat k24) (0, 0, 0, 0)).1, (List.getD l182 (Int.toNat k24) (0, 0, 0, 0)).2.1, (List.getD l182 (Int.toNat k24) (0, 0, 0, 0)).2.2.1, (List.getD l159 (Int.toNat (i52 + 1)) 0))))))
  else
    (some (Sum.inr l182))) : Option ((Int × List (Int × Int × Int × Int)) ⊕ (List (Int × Int × Int × Int)))) := rfl
theorem m_rectangle_combine_2_L3_eq (i52 : Int) (l159 : List Int) (l181 : List (Int × Int)) (x173 : Int) (l184 : List (Int × Int × Int × Int)) : m_rectangle_combine_2_L3 std i52 l159 l181 (x173, l184) =
((bif (decide (x173 < (((List.length l181) : Nat) : Int))) then
    grd (okIdx x173 ((List.length l181))) <|
    grd (okKin ((Int.toNat x173)) ((List.length l181))) <|
    grd (okRng ((((List.length l184) : Nat) : Int)) ((List.length l184))) <|
    grd (okRng ((((List.length l184) : Nat) : Int)) ((Int.toNat (((List.length l184) : Nat) : Int)))) <|
    grd (okIdx ((i52 + 1)) ((List.length l159))) <|
    grd (okKin ((Int.toNat (i52 + 1))) ((List.length l159))) <|
    grd (okRoom ((List.length (List.take ((Int.toNat (((List.length l184) : Nat) : Int)) - 0) (List.drop 0 l184))))) <|
    grd (okRoom ((List.length [((List.getD l181 (Int.toNat x173) (0, 0)).1, (List.getD l181 (Int.toNat x173) (0, 0)).2, (List.getD l159 (Int.toNat i52) 0), (List.getD l159 (Int.toNat (i52 + 1)) 0))]))) <|
    grd (okKin 0 ((List.length [((List.getD l181 (Int.toNat x173) (0, 0)).1, (List.getD l181 (Int.toNat x173) (0, 0)).2, (List.getD l159 (Int.toNat i52) 0), (List.getD l159 (Int.toNat (i52 + 1)) 0))]))) <|
    grd (okI .i64 ((x173 + 1))) <|
    (some (Sum.inl ((x173 + 1), ((List.take ((Int.toNat (((List.length l184) : Nat) : Int)) - 0) (List.drop 0 l184)) ++ [((List.getD l181 (Int.toNat x173) (0, 0)).1, (List.getD l181 (Int.toNat x173) (0, 0)).2, (List.getD l159 (Int.toNat i52) 0), (List.getD l159 (Int.toNat (i52 + 1)) 0))]))))
  else
    (some (Sum.inr l184))) : Option ((Int × List (Int × Int × Int × Int)) ⊕ (List (Int × Int × Int × Int)))) := rfl
theorem m_rectangle_combine_2_L4_eq (a_1 : List (Int × Int × Int × Int)) (b_1 : List (Int × Int × Int × Int)) (l159 : List Int) (start4 : Int) (i52 : Int) (l177 : List (Int × Int × Int × Int)) (l178 : List (Int × Int)) : m_rectangle_combine_2_L4 std a_1 b_1 l159 (start4, i52, l177, l178) =
((grd (okI .i64 ((i52 + 1))) <|
  bif (decide ((i52 + 1) < (((List.length l159) : Nat) : Int))) then
    grd (okIdx i52 ((List.length l159))) <|
    grd (okKin ((Int.toNat i52)) ((List.length l159))) <|
    Option.bind (m_rectangle_times std ((List.getD l159 (Int.toNat i52) 0)) a_1) fun l179 =>
    Option.bind (m_rectangle_times std ((List.getD l159 (Int.toNat i52) 0)) b_1) fun l180 =>
    Option.bind (m_runs_Meet std l179 l180) fun (l181, n62) =>
    bif (!(n62 == 0)) then
      (some (Sum.inr (Sum.inl n62)))
    else
      Option.bind (m_slices_Equal std l181 l178) fun b62 =>
      bif b62 then
        Option.bind (loop (m_rectangle_combine_2_L2 std i52 l159) (start4, l177)) fun l183 =>
        (some (Sum.inl (start4, (i52 + 1), l183, l178)))
      else
        Option.bind (loop (m_rectangle_combine_2_L3 std i52 l159 l181) (0, l177)) fun l185 =>
        bif (decide (500 < (((List.length l185) : Nat) : Int))) then
          (some (Sum.inr (Sum.inl 5)))
        else
          (some (Sum.inl ((((List.length l177) : Nat) : Int), (i52 + 1), l185, l181)))
  else
    (some (Sum.inr (Sum.inr l177)))) : Option ((Int × Int × List (Int × Int × Int × Int) × List (Int × Int)) ⊕ ((Int) ⊕ (List (Int × Int × Int × Int))))) := rfl
theorem m_rectangle_combine_2_eq (a_1 : List (Int × Int × Int × Int)) (b_1 : List (Int × Int × Int × Int)) : m_rectangle_combine_2 std a_1 b_1 =
((Option.bind (m_rectangle_check std a_1 b_1) fun n49 =>
  bif (!(n49 == 0)) then
    (some (([] : List (Int × Int × Int × Int)), n49))
  else
    Option.bind (m_slices_Concat std a_1 b_1) fun l155 =>
    Option.bind (loop (m_rectangle_combine_2_L1 std l155) (0, ([] : List Int))) fun l157 =>
    Option.bind (m_sortI std l157) fun l158 =>
    Option.bind (m_compI std l158) fun l159 =>
    Option.bind (loop (m_rectangle_combine_2_L4 std a_1 b_1 l159) (0, 0, ([] : List (Int × Int × Int × Int)), ([] : List (Int × Int)))) fun e => match e with
    | .inl x175 =>
      (some (([] : List (Int × Int × Int × Int)), x175))
    | .inr (l186) =>
      (some (l186, 0))) : Option (List (Int × Int × Int × Int) × Int)) := rfl
theorem m_rectangle_Meet_eq (a_1 : List (Int × Int × Int × Int)) (b_1 : List (Int × Int × Int × Int)) : m_rectangle_Meet std a_1 b_1 =
((Option.bind (m_rectangle_combine_2 std a_1 b_1) fun (l187, n63) =>
  (some (l187, n63))) : Option (List (Int × Int × Int × Int) × Int)) := rfl
theorem m_runs_Minus_1_eq (a_1 : Bool) (b_1 : Bool) : m_runs_Minus_1 std a_1 b_1 =
((Option.bind (
    bif a_1 then
      (some (!b_1))
    else
      (some false) : Option ((Bool))) fun x185 =>
  (some x185)) : Option (Bool)) := rfl
theorem m_runs_combine_3_L1_eq (a_1 : List (Int × Int)) (b_1 : List (Int × Int)) (i57 : Int) (k28 : Int) (inside6 : Bool) (from8 : Int) (l199 : List (Int × Int)) : m_runs_combine_3_L1 std a_1 b_1 (i57, k28, inside6, from8, l199) =
((Option.bind (
    bif (decide (i57 < (2 * (((List.length a_1) : Nat) : Int)))) then
      grd (okI .i64 ((2 * (((List.length a_1) : Nat) : Int)))) <|
      (some true)
    else
      grd (okI .i64 ((2 * (((List.length a_1) : Nat) : Int)))) <|
      grd (okI .i64 ((2 * (((List.length b_1) : Nat) : Int)))) <|
      (some (decide (k28 < (2 * (((List.length b_1) : Nat) : Int))))) : Option ((Bool))) fun x187 =>
  bif x187 then
    Option.bind (m_runs_combine_1 std i57 a_1) fun n71 =>
    Option.bind (m_runs_combine_1 std k28 b_1) fun n72 =>
    Option.bind (m_runs_combine_1 std i57 a_1) fun n73 =>
    Option.bind (
      bif (n73 == (mi n71 n72)) then
        grd (okI .i64 ((i57 + 1))) <|
        (some (i57 + 1))
      else
        (some i57) : Option ((Int))) fun i59 =>
    Option.bind (m_runs_combine_1 std k28 b_1) fun n74 =>
    Option.bind (
      bif (n74 == (mi n71 n72)) then
        grd (okI .i64 ((k28 + 1))) <|
        (some (k28 + 1))
      else
        (some k28) : Option ((Int))) fun k30 =>
    grd (okNz 2) <|
    Option.bind (m_runs_Minus_1 std (((Int.tmod i59 2) == 1)) (((Int.tmod k30 2) == 1))) fun b67 =>
    bif (b67 == inside6) then
      (some (Sum.inl (i59, k30, inside6, from8, l199)))
    else
      Option.bind (
        bif inside6 then
          grd (okRoom ((List.length l199))) <|
          grd (okRoom ((List.length [(from8, (mi n71 n72))]))) <|
          (some (l199 ++ [(from8, (mi n71 n72))]))
        else
          (some l199) : Option ((List (Int × Int)))) fun l201 =>
      (some (Sum.inl (i59, k30, b67, (mi n71 n72), l201)))
  else
    (some (Sum.inr l199))) : Option ((Int × Int × Bool × Int × List (Int × Int)) ⊕ (List (Int × Int)))) := rfl
theorem m_runs_combine_3_eq (a_1 : List (Int × Int)) (b_1 : List (Int × Int)) : m_runs_combine_3 std a_1 b_1 =
((Option.bind (
    Option.bind (m_runs_Valid std a_1) fun b64 =>
    bif (!b64) then
      (some true)
    else
      Option.bind (m_runs_Valid std b_1) fun b65 =>
      (some (!b65)) : Option ((Bool))) fun x181 =>
  bif x181 then
    (some (([] : List (Int × Int)), 1))
  else
    Option.bind (loop (m_runs_combine_3_L1 std a_1 b_1) (0, 0, false, 0, ([] : List (Int × Int)))) fun l202 =>
    Option.bind (
      Option.bind (m_runs_done std l202) fun e => match e with
      | .inl (l203, n75) =>
        (some (n75, l203))
      | .inr (n76) =>
        (some (n76, l202)) : Option ((Int × List (Int × Int)))) fun (x189, l205) =>
    (some (l205, x189))) : Option (List (Int × Int) × Int)) := rfl
theorem m_runs_Minus_eq (a_1 : List (Int × Int)) (b_1 : List (Int × Int)) : m_runs_Minus std a_1 b_1 =
((Option.bind (m_runs_combine_3 std a_1 b_1) fun (l206, n77) =>
  (some (l206, n77))) : Option (List (Int × Int) × Int)) := rfl
theorem m_rectangle_combine_3_L1_eq (l190 : List (Int × Int × Int × Int)) (x179 : Int) (l191 : List Int) : m_rectangle_combine_3_L1 std l190 (x179, l191) =
((bif (decide (x179 < (((List.length l190) : Nat) : Int))) then
    grd (okIdx x179 ((List.length l190))) <|
    grd (okKin ((Int.toNat x179)) ((List.length l190))) <|
    grd (okRoom ((List.length l191))) <|
    grd (okRoom ((List.length [(List.getD l190 (Int.toNat x179) (0, 0, 0, 0)).2.2.1, (List.getD l190 (Int.toNat x179) (0, 0, 0, 0)).2.2.2]))) <|
    grd (okI .i64 ((x179 + 1))) <|
    (some (Sum.inl ((x179 + 1), (l191 ++ [(List.getD l190 (Int.toNat x179) (0, 0, 0, 0)).2.2.1, (List.getD l190 (Int.toNat x179) (0, 0, 0, 0)).2.2.2]))))
  else
    (some (Sum.inr l191))) : Option ((Int × List Int) ⊕ (List Int))) := rfl
theorem m_rectangle_combine_3_L2_eq (i60 : Int) (l194 : List Int) (k34 : Int) (l217 : List (Int × Int × Int × Int)) : m_rectangle_combine_3_L2 std i60 l194 (k34, l217) =
((bif (decide (k34 < (((List.length l217) : Nat) : Int))) then
    grd (okIdx ((i60 + 1)) ((List.length l194))) <|
    grd (okKin ((Int.toNat (i60 + 1))) ((List.length l194))) <|
    grd (okIdx k34 ((List.length l217))) <|
    grd (okKin ((Int.toNat k34)) ((List.length l217))) <|
    grd (okI .i64 ((k34 + 1))) <|
    (some (Sum.inl ((k34 + 1), (List.set l217 (Int.toNat k34) ((List.getD l217 (Int.toNat k34) (0, 0, 0, 0)).1, (List.getD l217 (Int.toNat k34) (0, 0, 0, 0)).2.1, (List.getD l217 (Int.toNat k34) (0, 0, 0, 0)).2.2.1, (List.getD l194 (Int.toNat (i60 + 1)) 0))))))
  else
    (some (Sum.inr l217))) : Option ((Int × List (Int × Int × Int × Int)) ⊕ (List (Int × Int × Int × Int)))) := rfl
theorem m_rectangle_combine_3_L3_eq (i60 : Int) (l194 : List Int) (l216 : List (Int × Int)) (x193 : Int) (l219 : List (Int × Int × Int × Int)) : m_rectangle_combine_3_L3 std i60 l194 l216 (x193, l219) =
((bif (decide (x193 < (((List.length l216) : Nat) : Int))) then
    grd (okIdx x193 ((List.length l216))) <|
    grd (okKin ((Int.toNat x193)) ((List.length l216))) <|
    grd (okRng ((((List.length l219) : Nat) : Int)) ((List.length l219))) <|
    grd (okRng ((((List.length l219) : Nat) : Int)) ((Int.toNat (((List.length l219) : Nat) : Int)))) <|
    grd (okIdx ((i60 + 1)) ((List.length l194))) <|
    grd (okKin ((Int.toNat (i60 + 1))) ((List.length l194))) <|
    grd (okRoom ((List.length (List.take ((Int.toNat (((List.length l219) : Nat) : Int)) - 0) (List.drop 0 l219))))) <|
    grd (okRoom ((List.length [((List.getD l216 (Int.toNat x193) (0, 0)).1, (List.getD l216 (Int.toNat x193) (0, 0)).2, (List.getD l194 (Int.toNat i60) 0), (List.getD l194 (Int.toNat (i60 + 1)) 0))]))) <|
    grd (okKin 0 ((List.length [((List.getD l216 (Int.toNat x193) (0, 0)).1, (List.getD l216 (Int.toNat x193) (0, 0)).2, (List.getD l194 (Int.toNat i60) 0), (List.getD l194 (Int.toNat (i60 + 1)) 0))]))) <|
    grd (okI .i64 ((x193 + 1))) <|
    (some (Sum.inl ((x193 + 1), ((List.take ((Int.toNat (((List.length l219) : Nat) : Int)) - 0) (List.drop 0 l219)) ++ [((List.getD l216 (Int.toNat x193) (0, 0)).1, (List.getD l216 (Int.toNat x193) (0, 0)).2, (List.getD l194 (Int.toNat i60) 0), (List.getD l194 (Int.toNat (i60 + 1)) 0))]))))
  else
    (some (Sum.inr l219))) : Option ((Int × List (Int × Int × Int × Int)) ⊕ (List (Int × Int × Int × Int)))) := rfl
theorem m_rectangle_combine_3_L4_eq (a_1 : List (Int × Int × Int × Int)) (b_1 : List (Int × Int × Int × Int)) (l194 : List Int) (start6 : Int) (i60 : Int) (l212 : List (Int × Int × Int × Int)) (l213 : List (Int × Int)) : m_rectangle_combine_3_L4 std a_1 b_1 l194 (start6, i60, l212, l213) =
((grd (okI .i64 ((i60 + 1))) <|
  bif (decide ((i60 + 1) < (((List.length l194) : Nat) : Int))) then
    grd (okIdx i60 ((List.length l194))) <|
    grd (okKin ((Int.toNat i60)) ((List.length l194))) <|
    Option.bind (m_rectangle_times std ((List.getD l194 (Int.toNat i60) 0)) a_1) fun l214 =>
    Option.bind (m_rectangle_times std ((List.getD l194 (Int.toNat i60) 0)) b_1) fun l215 =>
    Option.bind (m_runs_Minus std l214 l215) fun (l216, n79) =>
    bif (!(n79 == 0)) then
      (some (Sum.inr (Sum.inl n79)))
    else
      Option.bind (m_slices_Equal std l216 l213) fun b69 =>
      bif b69 then
        Option.bind (loop (m_rectangle_combine_3_L2 std i60 l194) (start6, l212)) fun l218 =>
        (some (Sum.inl (start6, (i60 + 1), l218, l213)))
      else
        Option.bind (loop (m_rectangle_combine_3_L3 std i60 l194 l216) (0, l212)) fun l220 =>
        bif (decide (500 < (((List.length l220) : Nat) : Int))) then
          (some (Sum.inr (Sum.inl 5)))
        else
          (some (Sum.inl ((((List.length l212) : Nat) : Int), (i60 + 1), l220, l216)))
  else
    (some (Sum.inr (Sum.inr l212)))) : Option ((Int × Int × List (Int × Int × Int × Int) × List (Int × Int)) ⊕ ((Int) ⊕ (List (Int × Int × Int × Int))))) := rfl
theorem m_rectangle_combine_3_eq (a_1 : List (Int × Int × Int × Int)) (b_1 : List (Int × Int × Int × Int)) : m_rectangle_combine_3 std a_1 b_1 =
((Option.bind (m_rectangle_check std a_1 b_1) fun n66 =>
  bif (!(n66 == 0)) then
    (some (([] : List (Int × Int × Int × Int)), n66))
  else
    Option.bind (m_slices_Concat std a_1 b_1) fun l190 =>
    Option.bind (loop (m_rectangle_combine_3_L1 std l190) (0, ([] : List Int))) fun l192 =>
    Option.bind (m_sortI std l192) fun l193 =>
    Option.bind (m_compI std l193) fun l194 =>
    Option.bind (loop (m_rectangle_combine_3_L4 std a_1 b_1 l194) (0, 0, ([] : List (Int × Int × Int × Int)), ([] : List (Int × Int)))) fun e => match e with
    | .inl x195 =>
      (some (([] : List (Int × Int × Int × Int)), x195))
    | .inr (l221) =>
      (some (l221, 0))) : Option (List (Int × Int × Int × Int) × Int)) := rfl
theorem m_rectangle_Minus_eq (a_1 : List (Int × Int × Int × Int)) (b_1 : List (Int × Int × Int × Int)) : m_rectangle_Minus std a_1 b_1 =
((Option.bind (m_rectangle_combine_3 std a_1 b_1) fun (l222, n80) =>
  (some (l222, n80))) : Option (List (Int × Int × Int × Int) × Int)) := rfl
theorem m_rectangle_Equal_eq (a_1 : List (Int × Int × Int × Int)) (b_1 : List (Int × Int × Int × Int)) : m_rectangle_Equal std a_1 b_1 =
((Option.bind (m_rectangle_check std a_1 b_1) fun n85 =>
  bif (!(n85 == 0)) then
    (some false)
  else
    Option.bind (m_rectangle_combine_3 std a_1 b_1) fun (l227, n86) =>
    Option.bind (m_rectangle_combine_3 std b_1 a_1) fun (l228, n87) =>
    Option.bind (
      bif (n86 == 0) then
        bif (n87 == 0) then
          bif ((((List.length l227) : Nat) : Int) == 0) then
            (some ((((List.length l228) : Nat) : Int) == 0))
          else
            (some false)
        else
          (some false)
      else
        (some false) : Option ((Bool))) fun x201 =>
    (some x201)) : Option (Bool)) := rfl
theorem m_law35_RectangleOperations_eq (a_1 : List (Int × Int × Int × Int)) (b_1 : List (Int × Int × Int × Int)) : m_law35_RectangleOperations std a_1 b_1 =
((Option.bind (m_law35_awake std) fun b51 =>
  bif (!b51) then
    (some false)
  else
    Option.bind (m_law35_few_2 std a_1 b_1) fun b55 =>
    bif (!b55) then
      (some true)
    else
      Option.bind (m_rectangle_Union std a_1 b_1) fun (l153, n47) =>
      Option.bind (m_ref35_Combine std 0 a_1 b_1) fun (l154, n48) =>
      Option.bind (
        Option.bind (m_slices_Equal_2 std l153 l154) fun b56 =>
        bif (!b56) then
          (some true)
        else
          (some (!(n47 == n48))) : Option ((Bool))) fun x157 =>
      bif x157 then
        (some false)
      else
        grd (okI .i64 ((0 + 1))) <|
        Option.bind (m_rectangle_Meet std a_1 b_1) fun (l188, n64) =>
        Option.bind (m_ref35_Combine std 1 a_1 b_1) fun (l189, n65) =>
        Option.bind (
          Option.bind (m_slices_Equal_2 std l188 l189) fun b63 =>
          bif (!b63) then
            (some true)
          else
            (some (!(n64 == n65))) : Option ((Bool))) fun x177 =>
        bif x177 then
          (some false)
        else
          grd (okI .i64 ((1 + 1))) <|
          Option.bind (m_rectangle_Minus std a_1 b_1) fun (l223, n81) =>
          Option.bind (m_ref35_Combine std 2 a_1 b_1) fun (l224, n82) =>
          Option.bind (
            Option.bind (m_slices_Equal_2 std l223 l224) fun b70 =>
            bif (!b70) then
              (some true)
            else
              (some (!(n81 == n82))) : Option ((Bool))) fun x197 =>
          bif x197 then
            (some false)
          else
            grd (okI .i64 ((2 + 1))) <|
            Option.bind (m_ref35_Combine std 0 a_1 (([] : List (Int × Int × Int × Int)))) fun (l225, n83) =>
            Option.bind (m_ref35_Combine std 0 b_1 (([] : List (Int × Int × Int × Int)))) fun (l226, n84) =>
            Option.bind (
              bif (n83 == 5) then
                (some true)
              else
                bif (n84 == 5) then
                  (some true)
                else
                  Option.bind (m_rectangle_Equal std a_1 b_1) fun b71 =>
                  bif (n83 == 0) then
                    bif (n84 == 0) then
                      Option.bind (m_slices_Equal_2 std l225 l226) fun b72 =>
                      (some (b71 == b72))
                    else
                      (some (b71 == false))
                  else
                    (some (b71 == false)) : Option ((Bool))) fun x205 =>
            (some x205)) : Option (Bool)) := rfl
theorem m_law35_RectangleForm_L1_eq (i65 : Int) (l229 : List (Int × Int × Int × Int)) (i67 : Int) (l234 : List (Int × Int)) : m_law35_RectangleForm_L1 std i65 l229 (i67, l234) =
((Option.bind (
    bif (decide (i67 < (((List.length l229) : Nat) : Int))) then
      grd (okIdx i67 ((List.length l229))) <|
      grd (okKin ((Int.toNat i67)) ((List.length l229))) <|
      (some (((List.getD l229 (Int.toNat i67) (0, 0, 0, 0)).2.2.1 == (List.getD l229 (Int.toNat i65) (0, 0, 0, 0)).2.2.1) && ((List.getD l229 (Int.toNat i67) (0, 0, 0, 0)).2.2.2 == (List.getD l229 (Int.toNat i65) (0, 0, 0, 0)).2.2.2)))
    else
      (some false) : Option ((Bool))) fun x224 =>
  bif x224 then
    grd (okIdx i67 ((List.length l229))) <|
    grd (okKin ((Int.toNat i67)) ((List.length l229))) <|
    grd (okRoom ((List.length l234))) <|
    grd (okRoom ((List.length [((List.getD l229 (Int.toNat i67) (0, 0, 0, 0)).1, (List.getD l229 (Int.toNat i67) (0, 0, 0, 0)).2.1)]))) <|
    grd (okI .i64 ((i67 + 1))) <|
    (some (Sum.inl ((i67 + 1), (l234 ++ [((List.getD l229 (Int.toNat i67) (0, 0, 0, 0)).1, (List.getD l229 (Int.toNat i67) (0, 0, 0, 0)).2.1)]))))
  else
    (some (Sum.inr (i67, l234)))) : Option ((Int × List (Int × Int)) ⊕ (Int × List (Int × Int)))) := rfl
theorem m_law35_RectangleForm_L2_eq (l229 : List (Int × Int × Int × Int)) (i65 : Int) (l233 : List (Int × Int)) (x219 : Int) (x220 : Int) : m_law35_RectangleForm_L2 std l229 (i65, l233, x219, x220) =
((bif (decide (i65 < (((List.length l229) : Nat) : Int))) then
    grd (okIdx i65 ((List.length l229))) <|
    grd (okKin ((Int.toNat i65)) ((List.length l229))) <|
    Option.bind (loop (m_law35_RectangleForm_L1 std i65 l229) (i65, ([] : List (Int × Int)))) fun (i68, l235) =>
    Option.bind (
      Option.bind (m_runs_Valid std l235) fun b80 =>
      bif (!b80) then
        (some true)
      else
        Option.bind (m_ref35_Span std ((List.getD l229 (Int.toNat i65) (0, 0, 0, 0)).2.2.1) ((List.getD l229 (Int.toNat i65) (0, 0, 0, 0)).2.2.2)) fun b81 =>
        bif (!b81) then
          (some true)
        else
          bif (decide (0 < (((List.length l233) : Nat) : Int))) then
            bif (decide ((List.getD l229 (Int.toNat i65) (0, 0, 0, 0)).2.2.1 < x220)) then
              (some true)
            else
              bif ((List.getD l229 (Int.toNat i65) (0, 0, 0, 0)).2.2.1 == x220) then
                Option.bind (m_slices_Equal std l235 l233) fun b82 =>
                (some b82)
              else
                (some false)
          else
            (some false) : Option ((Bool))) fun x228 =>
    bif x228 then
      (some (Sum.inr (Sum.inl ())))
    else
      (some (Sum.inl (i68, l235, (List.getD l229 (Int.toNat i65) (0, 0, 0, 0)).2.2.1, (List.getD l229 (Int.toNat i65) (0, 0, 0, 0)).2.2.2)))
  else
    (some (Sum.inr (Sum.inr ())))) : Option ((Int × List (Int × Int) × Int × Int) ⊕ ((Unit) ⊕ (Unit)))) := rfl
theorem m_law35_RectangleForm_eq (l_1 : List (Int × Int × Int × Int)) : m_law35_RectangleForm std l_1 =
((Option.bind (m_law35_awake std) fun b73 =>
  bif (!b73) then
    (some false)
  else
    Option.bind (m_law35_few std l_1) fun b74 =>
    bif (!b74) then
      (some true)
    else
      Option.bind (m_rectangle_Canonical std l_1) fun (l229, n88) =>
      bif (!(n88 == 0)) then
        Option.bind (
          bif ((((List.length l229) : Nat) : Int) == 0) then
            Option.bind (m_ref35_List std l_1) fun b75 =>
            bif (!b75) then
              (some true)
            else
              (some (decide (10 < (((List.length l_1) : Nat) : Int))))
          else
            (some false) : Option ((Bool))) fun x208 =>
        (some x208)
      else
        Option.bind (m_rectangle_Canonical std l229) fun (l230, n89) =>
        Option.bind (
          bif (!(n89 == 0)) then
            (some true)
          else
            Option.bind (m_slices_Equal_2 std l230 l229) fun b76 =>
            (some (!b76)) : Option ((Bool))) fun x210 =>
        bif x210 then
          (some false)
        else
          Option.bind (loop (m_law35_RectangleForm_L2 std l229) (0, ([] : List (Int × Int)), 0, 0)) fun e => match e with
          | .inl _ =>
            (some false)
          | .inr (_) =>
            (some true)) : Option (Bool)) := rfl
theorem m_law35_critical_L1_eq (lists_1 : List (Int × Int × Int × Int)) (x234 : Int) (l239 : List Int) (l240 : List Int) : m_law35_critical_L1 std lists_1 (x234, l239, l240) =
((bif (decide (x234 < (((List.length lists_1) : Nat) : Int))) then
    grd (okIdx x234 ((List.length lists_1))) <|
    grd (okKin ((Int.toNat x234)) ((List.length lists_1))) <|
    grd (okI .i64 (((List.getD lists_1 (Int.toNat x234) (0, 0, 0, 0)).1 - 1))) <|
    grd (okI .i64 (((List.getD lists_1 (Int.toNat x234) (0, 0, 0, 0)).2.1 - 1))) <|
    grd (okRoom ((List.length l239))) <|
    grd (okRoom ((List.length [((List.getD lists_1 (Int.toNat x234) (0, 0, 0, 0)).1 - 1), (List.getD lists_1 (Int.toNat x234) (0, 0, 0, 0)).1, ((List.getD lists_1 (Int.toNat x234) (0, 0, 0, 0)).2.1 - 1), (List.getD lists_1 (Int.toNat x234) (0, 0, 0, 0)).2.1]))) <|
    grd (okI .i64 (((List.getD lists_1 (Int.toNat x234) (0, 0, 0, 0)).2.2.1 - 1))) <|
    grd (okI .i64 (((List.getD lists_1 (Int.toNat x234) (0, 0, 0, 0)).2.2.2 - 1))) <|
    grd (okRoom ((List.length l240))) <|
    grd (okRoom ((List.length [((List.getD lists_1 (Int.toNat x234) (0, 0, 0, 0)).2.2.1 - 1), (List.getD lists_1 (Int.toNat x234) (0, 0, 0, 0)).2.2.1, ((List.getD lists_1 (Int.toNat x234) (0, 0, 0, 0)).2.2.2 - 1), (List.getD lists_1 (Int.toNat x234) (0, 0, 0, 0)).2.2.2]))) <|
    grd (okI .i64 ((x234 + 1))) <|
    (some (Sum.inl ((x234 + 1), (l239 ++ [((List.getD lists_1 (Int.toNat x234) (0, 0, 0, 0)).1 - 1), (List.getD lists_1 (Int.toNat x234) (0, 0, 0, 0)).1, ((List.getD lists_1 (Int.toNat x234) (0, 0, 0, 0)).2.1 - 1), (List.getD lists_1 (Int.toNat x234) (0, 0, 0, 0)).2.1]), (l240 ++ [((List.getD lists_1 (Int.toNat x234) (0, 0, 0, 0)).2.2.1 - 1), (List.getD lists_1 (Int.toNat x234) (0, 0, 0, 0)).2.2.1, ((List.getD lists_1 (Int.toNat x234) (0, 0, 0, 0)).2.2.2 - 1), (List.getD lists_1 (Int.toNat x234) (0, 0, 0, 0)).2.2.2]))))
  else
    (some (Sum.inr (l239, l240)))) : Option ((Int × List Int × List Int) ⊕ (List Int × List Int))) := rfl
theorem m_law35_critical_L2_eq (lists_2 : List (Int × Int × Int × Int)) (x236 : Int) (l243 : List Int) (l244 : List Int) : m_law35_critical_L2 std lists_2 (x236, l243, l244) =
((bif (decide (x236 < (((List.length lists_2) : Nat) : Int))) then
    grd (okIdx x236 ((List.length lists_2))) <|
    grd (okKin ((Int.toNat x236)) ((List.length lists_2))) <|
    grd (okI .i64 (((List.getD lists_2 (Int.toNat x236) (0, 0, 0, 0)).1 - 1))) <|
    grd (okI .i64 (((List.getD lists_2 (Int.toNat x236) (0, 0, 0, 0)).2.1 - 1))) <|
    grd (okRoom ((List.length l243))) <|
    grd (okRoom ((List.length [((List.getD lists_2 (Int.toNat x236) (0, 0, 0, 0)).1 - 1), (List.getD lists_2 (Int.toNat x236) (0, 0, 0, 0)).1, ((List.getD lists_2 (Int.toNat x236) (0, 0, 0, 0)).2.1 - 1), (List.getD lists_2 (Int.toNat x236) (0, 0, 0, 0)).2.1]))) <|
    grd (okI .i64 (((List.getD lists_2 (Int.toNat x236) (0, 0, 0, 0)).2.2.1 - 1))) <|
    grd (okI .i64 (((List.getD lists_2 (Int.toNat x236) (0, 0, 0, 0)).2.2.2 - 1))) <|
    grd (okRoom ((List.length l244))) <|
    grd (okRoom ((List.length [((List.getD lists_2 (Int.toNat x236) (0, 0, 0, 0)).2.2.1 - 1), (List.getD lists_2 (Int.toNat x236) (0, 0, 0, 0)).2.2.1, ((List.getD lists_2 (Int.toNat x236) (0, 0, 0, 0)).2.2.2 - 1), (List.getD lists_2 (Int.toNat x236) (0, 0, 0, 0)).2.2.2]))) <|
    grd (okI .i64 ((x236 + 1))) <|
    (some (Sum.inl ((x236 + 1), (l243 ++ [((List.getD lists_2 (Int.toNat x236) (0, 0, 0, 0)).1 - 1), (List.getD lists_2 (Int.toNat x236) (0, 0, 0, 0)).1, ((List.getD lists_2 (Int.toNat x236) (0, 0, 0, 0)).2.1 - 1), (List.getD lists_2 (Int.toNat x236) (0, 0, 0, 0)).2.1]), (l244 ++ [((List.getD lists_2 (Int.toNat x236) (0, 0, 0, 0)).2.2.1 - 1), (List.getD lists_2 (Int.toNat x236) (0, 0, 0, 0)).2.2.1, ((List.getD lists_2 (Int.toNat x236) (0, 0, 0, 0)).2.2.2 - 1), (List.getD lists_2 (Int.toNat x236) (0, 0, 0, 0)).2.2.2]))))
  else
    (some (Sum.inr (l243, l244)))) : Option ((Int × List Int × List Int) ⊕ (List Int × List Int))) := rfl
theorem m_law35_critical_eq (lists_1 : List (Int × Int × Int × Int)) (lists_2 : List (Int × Int × Int × Int)) : m_law35_critical std lists_1 lists_2 =
((Option.bind (loop (m_law35_critical_L1 std lists_1) (0, ([] : List Int), ([] : List Int))) fun (l241, l242) =>
  grd (okI .i64 ((0 + 1))) <|
  Option.bind (loop (m_law35_critical_L2 std lists_2) (0, l241, l242)) fun (l245, l246) =>
  grd (okI .i64 ((1 + 1))) <|
  Option.bind (m_sortI std l245) fun l247 =>
  Option.bind (m_sortI std l246) fun l248 =>
  Option.bind (m_compI std l247) fun l249 =>
  Option.bind (m_compI std l248) fun l250 =>
  (some (l249, l250))) : Option (List Int × List Int)) := rfl
theorem m_law35_in_1_eq (r_1 : Int) (r_2 : Int) (r_3 : Int) (r_4 : Int) (x_1 : Int) (x_2 : Int) : m_law35_in_1 std r_1 r_2 r_3 r_4 x_1 x_2 =
((Option.bind (
    bif (decide (r_1 ≤ x_1)) then
      bif (decide (x_1 < r_2)) then
        bif (decide (r_3 ≤ x_2)) then
          (some (decide (x_2 < r_4)))
        else
          (some false)
      else
        (some false)
    else
      (some false) : Option ((Bool))) fun x243 =>
  (some x243)) : Option (Bool)) := rfl
theorem m_slices_IndexFunc_6_L1_eq (c_1 : Int) (c_2 : Int) (s_1 : List (Int × Int × Int × Int)) (x239 : Int) : m_slices_IndexFunc_6_L1 std c_1 c_2 s_1 x239 =
((bif (decide (x239 < (((List.length s_1) : Nat) : Int))) then
    grd (okIdx x239 ((List.length s_1))) <|
    grd (okKin ((Int.toNat x239)) ((List.length s_1))) <|
    Option.bind (m_law35_in_1 std ((List.getD s_1 (Int.toNat x239) (0, 0, 0, 0)).1) ((List.getD s_1 (Int.toNat x239) (0, 0, 0, 0)).2.1) ((List.getD s_1 (Int.toNat x239) (0, 0, 0, 0)).2.2.1) ((List.getD s_1 (Int.toNat x239) (0, 0, 0, 0)).2.2.2) c_1 c_2) fun b86 =>
    bif b86 then
      (some (Sum.inr (Sum.inl x239)))
    else
      grd (okI .i64 ((x239 + 1))) <|
      (some (Sum.inl (x239 + 1)))
  else
    (some (Sum.inr (Sum.inr ())))) : Option ((Int) ⊕ ((Int) ⊕ (Unit)))) := rfl
theorem m_slices_IndexFunc_6_eq (s_1 : List (Int × Int × Int × Int)) (c_1 : Int) (c_2 : Int) : m_slices_IndexFunc_6 std s_1 c_1 c_2 =
((Option.bind (loop (m_slices_IndexFunc_6_L1 std c_1 c_2 s_1) 0) fun e => match e with
  | .inl x244 =>
    (some x244)
  | .inr (_) =>
    (some (-1))) : Option (Int)) := rfl
theorem m_slices_ContainsFunc_6_eq (s_1 : List (Int × Int × Int × Int)) (c_1 : Int) (c_2 : Int) : m_slices_ContainsFunc_6 std s_1 c_1 c_2 =
((Option.bind (m_slices_IndexFunc_6 std s_1 c_1 c_2) fun n93 =>
  (some (decide (0 ≤ n93)))) : Option (Bool)) := rfl
theorem m_law35_in_eq (valid_1 : Int) (tx_1 : Int) (l_1 : List (Int × Int × Int × Int)) : m_law35_in std valid_1 tx_1 l_1 =
((Option.bind (m_slices_ContainsFunc_6 std l_1 valid_1 tx_1) fun b87 =>
  (some b87)) : Option (Bool)) := rfl
theorem m_rectangle_check_2_eq (lists_1 : List (Int × Int × Int × Int)) : m_rectangle_check_2 std lists_1 =
((Option.bind (m_slices_ContainsFunc std lists_1) fun b93 =>
  bif b93 then
    (some 1)
  else
    grd (okI .i64 ((0 + 1))) <|
    bif (decide (500 < (((List.length lists_1) : Nat) : Int))) then
      (some 5)
    else
      (some 0)) : Option (Int)) := rfl
theorem m_rectangle_Has_1_eq (r_1 : Int) (r_2 : Int) (r_3 : Int) (r_4 : Int) (x_1 : Int) (x_2 : Int) : m_rectangle_Has_1 std r_1 r_2 r_3 r_4 x_1 x_2 =
((Option.bind (
    bif (decide (r_1 ≤ x_1)) then
      bif (decide (x_1 < r_2)) then
        bif (decide (r_3 ≤ x_2)) then
          (some (decide (x_2 < r_4)))
        else
          (some false)
      else
        (some false)
    else
      (some false) : Option ((Bool))) fun x249 =>
  (some x249)) : Option (Bool)) := rfl
theorem m_slices_IndexFunc_7_L1_eq (c_1 : Int) (c_2 : Int) (s_1 : List (Int × Int × Int × Int)) (x245 : Int) : m_slices_IndexFunc_7_L1 std c_1 c_2 s_1 x245 =
((bif (decide (x245 < (((List.length s_1) : Nat) : Int))) then
    grd (okIdx x245 ((List.length s_1))) <|
    grd (okKin ((Int.toNat x245)) ((List.length s_1))) <|
    Option.bind (m_rectangle_Has_1 std ((List.getD s_1 (Int.toNat x245) (0, 0, 0, 0)).1) ((List.getD s_1 (Int.toNat x245) (0, 0, 0, 0)).2.1) ((List.getD s_1 (Int.toNat x245) (0, 0, 0, 0)).2.2.1) ((List.getD s_1 (Int.toNat x245) (0, 0, 0, 0)).2.2.2) c_1 c_2) fun b94 =>
    bif b94 then
      (some (Sum.inr (Sum.inl x245)))
    else
      grd (okI .i64 ((x245 + 1))) <|
      (some (Sum.inl (x245 + 1)))
  else
    (some (Sum.inr (Sum.inr ())))) : Option ((Int) ⊕ ((Int) ⊕ (Unit)))) := rfl
theorem m_slices_IndexFunc_7_eq (s_1 : List (Int × Int × Int × Int)) (c_1 : Int) (c_2 : Int) : m_slices_IndexFunc_7 std s_1 c_1 c_2 =
((Option.bind (loop (m_slices_IndexFunc_7_L1 std c_1 c_2 s_1) 0) fun e => match e with
  | .inl x250 =>
    (some x250)
  | .inr (_) =>
    (some (-1))) : Option (Int)) := rfl
theorem m_slices_ContainsFunc_7_eq (s_1 : List (Int × Int × Int × Int)) (c_1 : Int) (c_2 : Int) : m_slices_ContainsFunc_7 std s_1 c_1 c_2 =
((Option.bind (m_slices_IndexFunc_7 std s_1 c_1 c_2) fun n95 =>
  (some (decide (0 ≤ n95)))) : Option (Bool)) := rfl
theorem m_rectangle_Has_eq (valid_1 : Int) (tx_1 : Int) (l_1 : List (Int × Int × Int × Int)) : m_rectangle_Has std valid_1 tx_1 l_1 =
((Option.bind (
    Option.bind (m_rectangle_check_2 std l_1) fun n94 =>
    bif (n94 == 0) then
      Option.bind (m_slices_ContainsFunc_7 std l_1 valid_1 tx_1) fun b95 =>
      (some b95)
    else
      (some false) : Option ((Bool))) fun x252 =>
  (some x252)) : Option (Bool)) := rfl
theorem m_law35_RectanglePointwise_L1_eq (a_1 : List (Int × Int × Int × Int)) (b_1 : List (Int × Int × Int × Int)) (l236 : List (Int × Int × Int × Int)) (l237 : List (Int × Int × Int × Int)) (l238 : List (Int × Int × Int × Int)) (l251 : List Int) (l252 : List Int) (x266 : Int) (x267 : Int) : m_law35_RectanglePointwise_L1 std a_1 b_1 l236 l237 l238 l251 l252 x266 x267 =
((bif (decide (x267 < (((List.length l251) : Nat) : Int))) then
    grd (okIdx x267 ((List.length l251))) <|
    grd (okKin ((Int.toNat x267)) ((List.length l251))) <|
    Option.bind (m_law35_in std ((List.getD l251 (Int.toNat x267) 0)) ((List.getD l252 (Int.toNat x266) 0)) a_1) fun b109 =>
    Option.bind (m_law35_in std ((List.getD l251 (Int.toNat x267) 0)) ((List.getD l252 (Int.toNat x266) 0)) b_1) fun b110 =>
    Option.bind (
      Option.bind (m_law35_in std ((List.getD l251 (Int.toNat x267) 0)) ((List.getD l252 (Int.toNat x266) 0)) l236) fun b111 =>
      bif b109 then
        bif (!(b111 == true)) then
          (some true)
        else
          Option.bind (m_law35_in std ((List.getD l251 (Int.toNat x267) 0)) ((List.getD l252 (Int.toNat x266) 0)) l237) fun b112 =>
          bif (!(b112 == b110)) then
            (some true)
          else
            Option.bind (m_law35_in std ((List.getD l251 (Int.toNat x267) 0)) ((List.getD l252 (Int.toNat x266) 0)) l238) fun b113 =>
            bif (!(b113 == (!b110))) then
              (some true)
            else
              Option.bind (m_rectangle_Has std ((List.getD l251 (Int.toNat x267) 0)) ((List.getD l252 (Int.toNat x266) 0)) a_1) fun b114 =>
              (some (!(b114 == true)))
      else
        bif (!(b111 == b110)) then
          (some true)
        else
          Option.bind (m_law35_in std ((List.getD l251 (Int.toNat x267) 0)) ((List.getD l252 (Int.toNat x266) 0)) l237) fun b115 =>
          bif (!(b115 == false)) then
            (some true)
          else
            Option.bind (m_law35_in std ((List.getD l251 (Int.toNat x267) 0)) ((List.getD l252 (Int.toNat x266) 0)) l238) fun b116 =>
            bif (!(b116 == false)) then
              (some true)
            else
              Option.bind (m_rectangle_Has std ((List.getD l251 (Int.toNat x267) 0)) ((List.getD l252 (Int.toNat x266) 0)) a_1) fun b117 =>
              (some (!(b117 == false))) : Option ((Bool))) fun x273 =>
    bif x273 then
      (some (Sum.inr (Sum.inl ())))
    else
      grd (okI .i64 ((x267 + 1))) <|
      (some (Sum.inl (x267 + 1)))
  else
    (some (Sum.inr (Sum.inr ())))) : Option ((Int) ⊕ ((Unit) ⊕ (Unit)))) := rfl
theorem m_law35_RectanglePointwise_L2_eq (a_1 : List (Int × Int × Int × Int)) (b_1 : List (Int × Int × Int × Int)) (l236 : List (Int × Int × Int × Int)) (l237 : List (Int × Int × Int × Int)) (l238 : List (Int × Int × Int × Int)) (l251 : List Int) (l252 : List Int) (x266 : Int) : m_law35_RectanglePointwise_L2 std a_1 b_1 l236 l237 l238 l251 l252 x266 =
((bif (decide (x266 < (((List.length l252) : Nat) : Int))) then
    grd (okIdx x266 ((List.length l252))) <|
    grd (okKin ((Int.toNat x266)) ((List.length l252))) <|
    Option.bind (loop (m_law35_RectanglePointwise_L1 std a_1 b_1 l236 l237 l238 l251 l252 x266) 0) fun e => match e with
    | .inl _ =>
      (some (Sum.inr (Sum.inl ())))
    | .inr (_) =>
      grd (okI .i64 ((x266 + 1))) <|
      (some (Sum.inl (x266 + 1)))
  else
    (some (Sum.inr (Sum.inr ())))) : Option ((Int) ⊕ ((Unit) ⊕ (Unit)))) := rfl
theorem m_law35_RectanglePointwise_eq (a_1 : List (Int × Int × Int × Int)) (b_1 : List (Int × Int × Int × Int)) : m_law35_RectanglePointwise std a_1 b_1 =
((Option.bind (m_law35_awake std) fun b83 =>
  bif (!b83) then
    (some false)
  else
    Option.bind (
      bif (decide (8 < (((List.length a_1) : Nat) : Int))) then
        (some true)
      else
        bif (decide (8 < (((List.length b_1) : Nat) : Int))) then
          (some true)
        else
          Option.bind (m_ref35_List std a_1) fun b84 =>
          bif (!b84) then
            (some true)
          else
            Option.bind (m_ref35_List std b_1) fun b85 =>
            (some (!b85)) : Option ((Bool))) fun x230 =>
    bif x230 then
      (some true)
    else
      Option.bind (m_rectangle_Union std a_1 b_1) fun (l236, n90) =>
      Option.bind (m_rectangle_Meet std a_1 b_1) fun (l237, n91) =>
      Option.bind (m_rectangle_Minus std a_1 b_1) fun (l238, n92) =>
      Option.bind (
        bif (!(n90 == 0)) then
          (some true)
        else
          bif (!(n91 == 0)) then
            (some true)
          else
            (some (!(n92 == 0))) : Option ((Bool))) fun x232 =>
      bif x232 then
        (some false)
      else
        Option.bind (m_law35_critical std a_1 b_1) fun (l251, l252) =>
        Option.bind (loop (m_law35_RectanglePointwise_L2 std a_1 b_1 l236 l237 l238 l251 l252) 0) fun e => match e with
        | .inl _ =>
          (some false)
        | .inr (_) =>
          (some true)) : Option (Bool)) := rfl
theorem m_law35_RectangleOrder_L1_eq (i70 : Int) (j2 : Int) (l254 : List (Int × Int × Int × Int)) : m_law35_RectangleOrder_L1 std (i70, j2, l254) =
((bif (decide (i70 < j2)) then
    grd (okIdx j2 ((List.length l254))) <|
    grd (okKin ((Int.toNat j2)) ((List.length l254))) <|
    grd (okIdx i70 ((List.length l254))) <|
    grd (okKin ((Int.toNat i70)) ((List.length l254))) <|
    grd (okIdx j2 ((List.length (List.set l254 (Int.toNat i70) ((List.getD l254 (Int.toNat j2) (0, 0, 0, 0)).1, (List.getD l254 (Int.toNat j2) (0, 0, 0, 0)).2.1, (List.getD l254 (Int.toNat j2) (0, 0, 0, 0)).2.2.1, (List.getD l254 (Int.toNat j2) (0, 0, 0, 0)).2.2.2))))) <|
    grd (okKin ((Int.toNat j2)) ((List.length (List.set l254 (Int.toNat i70) ((List.getD l254 (Int.toNat j2) (0, 0, 0, 0)).1, (List.getD l254 (Int.toNat j2) (0, 0, 0, 0)).2.1, (List.getD l254 (Int.toNat j2) (0, 0, 0, 0)).2.2.1, (List.getD l254 (Int.toNat j2) (0, 0, 0, 0)).2.2.2))))) <|
    grd (okI .i64 ((i70 + 1))) <|
    grd (okI .i64 ((j2 - 1))) <|
    (some (Sum.inl ((i70 + 1), (j2 - 1), (List.set (List.set l254 (Int.toNat i70) ((List.getD l254 (Int.toNat j2) (0, 0, 0, 0)).1, (List.getD l254 (Int.toNat j2) (0, 0, 0, 0)).2.1, (List.getD l254 (Int.toNat j2) (0, 0, 0, 0)).2.2.1, (List.getD l254 (Int.toNat j2) (0, 0, 0, 0)).2.2.2)) (Int.toNat j2) ((List.getD l254 (Int.toNat i70) (0, 0, 0, 0)).1, (List.getD l254 (Int.toNat i70) (0, 0, 0, 0)).2.1, (List.getD l254 (Int.toNat i70) (0, 0, 0, 0)).2.2.1, (List.getD l254 (Int.toNat i70) (0, 0, 0, 0)).2.2.2)))))
  else
    (some (Sum.inr l254))) : Option ((Int × Int × List (Int × Int × Int × Int)) ⊕ (List (Int × Int × Int × Int)))) := rfl
theorem m_law35_RectangleOrder_eq (turn_1 : Int) (at_1 : Int) (by_1 : Bool) (l_1 : List (Int × Int × Int × Int)) : m_law35_RectangleOrder std turn_1 at_1 by_1 l_1 =
((Option.bind (m_law35_awake std) fun b118 =>
  bif (!b118) then
    (some false)
  else
    Option.bind (
      bif (decide (29 < (((List.length l_1) : Nat) : Int))) then
        (some true)
      else
        Option.bind (m_ref35_List std l_1) fun b119 =>
        bif (!b119) then
          (some true)
        else
          (some ((((List.length l_1) : Nat) : Int) == 0)) : Option ((Bool))) fun x275 =>
    bif x275 then
      (some true)
    else
      grd (okI .i64 turn_1) <|
      grd (okNz ((((List.length l_1) : Nat) : Int))) <|
      grd (okRng ((Int.tmod turn_1 (((List.length l_1) : Nat) : Int))) ((List.length l_1))) <|
      Option.bind (m_slices_Concat std ((List.take ((List.length l_1) - (Int.toNat (Int.tmod turn_1 (((List.length l_1) : Nat) : Int)))) (List.drop (Int.toNat (Int.tmod turn_1 (((List.length l_1) : Nat) : Int))) l_1))) ((List.take ((Int.toNat (Int.tmod turn_1 (((List.length l_1) : Nat) : Int))) - 0) (List.drop 0 l_1)))) fun l253 =>
      grd (okI .i64 (((((List.length l253) : Nat) : Int) - 1))) <|
      Option.bind (loop (m_law35_RectangleOrder_L1 std) (0, ((((List.length l253) : Nat) : Int) - 1), l253)) fun l255 =>
      grd (okIdx 0 ((List.length l255))) <|
      grd (okKin ((Int.toNat 0)) ((List.length l255))) <|
      Option.bind (
        bif by_1 then
          bif (decide ((List.getD l255 (Int.toNat 0) (0, 0, 0, 0)).1 < at_1)) then
            (some (true, (decide (at_1 < (List.getD l255 (Int.toNat 0) (0, 0, 0, 0)).2.1))))
          else
            (some (true, false))
        else
          (some (false, false)) : Option ((Bool × Bool))) fun (by2, x278) =>
      Option.bind (
        bif x278 then
          (some (at_1, at_1))
        else
          (some ((List.getD l255 (Int.toNat 0) (0, 0, 0, 0)).2.1, (List.getD l255 (Int.toNat 0) (0, 0, 0, 0)).1)) : Option ((Int × Int))) fun (x281, x282) =>
      Option.bind (
        bif (!by2) then
          bif (decide ((List.getD l255 (Int.toNat 0) (0, 0, 0, 0)).2.2.1 < at_1)) then
            (some (decide (at_1 < (List.getD l255 (Int.toNat 0) (0, 0, 0, 0)).2.2.2)))
          else
            (some false)
        else
          (some false) : Option ((Bool))) fun x285 =>
      Option.bind (
        bif x285 then
          (some (at_1, at_1))
        else
          (some ((List.getD l255 (Int.toNat 0) (0, 0, 0, 0)).2.2.2, (List.getD l255 (Int.toNat 0) (0, 0, 0, 0)).2.2.1)) : Option ((Int × Int))) fun (x288, x289) =>
      grd (okRng ((((List.length l255) : Nat) : Int)) ((List.length l255))) <|
      grd (okRng ((((List.length l255) : Nat) : Int)) ((Int.toNat (((List.length l255) : Nat) : Int)))) <|
      grd (okRng 1 ((Int.toNat (((List.length l255) : Nat) : Int)))) <|
      grd (okRoom ((List.length (List.take ((Int.toNat (((List.length l255) : Nat) : Int)) - (Int.toNat 1)) (List.drop (Int.toNat 1) l255))))) <|
      grd (okRoom ((List.length [((List.getD l255 (Int.toNat 0) (0, 0, 0, 0)).1, x281, (List.getD l255 (Int.toNat 0) (0, 0, 0, 0)).2.2.1, x288), (x282, (List.getD l255 (Int.toNat 0) (0, 0, 0, 0)).2.1, x289, (List.getD l255 (Int.toNat 0) (0, 0, 0, 0)).2.2.2)]))) <|
      grd (okKin 0 ((List.length [((List.getD l255 (Int.toNat 0) (0, 0, 0, 0)).1, x281, (List.getD l255 (Int.toNat 0) (0, 0, 0, 0)).2.2.1, x288), (x282, (List.getD l255 (Int.toNat 0) (0, 0, 0, 0)).2.1, x289, (List.getD l255 (Int.toNat 0) (0, 0, 0, 0)).2.2.2)]))) <|
      Option.bind (m_rectangle_Canonical std l_1) fun (l256, n96) =>
      Option.bind (m_rectangle_Canonical std (((List.take ((Int.toNat (((List.length l255) : Nat) : Int)) - (Int.toNat 1)) (List.drop (Int.toNat 1) l255)) ++ [((List.getD l255 (Int.toNat 0) (0, 0, 0, 0)).1, x281, (List.getD l255 (Int.toNat 0) (0, 0, 0, 0)).2.2.1, x288), (x282, (List.getD l255 (Int.toNat 0) (0, 0, 0, 0)).2.1, x289, (List.getD l255 (Int.toNat 0) (0, 0, 0, 0)).2.2.2)]))) fun (l257, n97) =>
      Option.bind (
        bif (n96 == n97) then
          Option.bind (m_slices_Equal_2 std l256 l257) fun b120 =>
          bif b120 then
            bif (!(n96 == 0)) then
              (some true)
            else
              Option.bind (m_rectangle_Equal std l_1 (((List.take ((Int.toNat (((List.length l255) : Nat) : Int)) - (Int.toNat 1)) (List.drop (Int.toNat 1) l255)) ++ [((List.getD l255 (Int.toNat 0) (0, 0, 0, 0)).1, x281, (List.getD l255 (Int.toNat 0) (0, 0, 0, 0)).2.2.1, x288), (x282, (List.getD l255 (Int.toNat 0) (0, 0, 0, 0)).2.1, x289, (List.getD l255 (Int.toNat 0) (0, 0, 0, 0)).2.2.2)]))) fun b121 =>
              (some b121)
          else
            (some false)
        else
          (some false) : Option ((Bool))) fun x293 =>
      (some x293)) : Option (Bool)) := rfl
theorem m_law35_RectangleAlgebra_eq (a_1 : List (Int × Int × Int × Int)) (b_1 : List (Int × Int × Int × Int)) (c_1 : List (Int × Int × Int × Int)) : m_law35_RectangleAlgebra std a_1 b_1 c_1 =
((Option.bind (m_law35_awake std) fun b122 =>
  bif (!b122) then
    (some false)
  else
    Option.bind (
      bif (decide (10 < (((List.length a_1) : Nat) : Int))) then
        (some true)
      else
        bif (decide (10 < (((List.length b_1) : Nat) : Int))) then
          (some true)
        else
          bif (decide (10 < (((List.length c_1) : Nat) : Int))) then
            (some true)
          else
            Option.bind (m_ref35_List std a_1) fun b123 =>
            bif (!b123) then
              (some true)
            else
              Option.bind (m_ref35_List std b_1) fun b124 =>
              bif (!b124) then
                (some true)
              else
                Option.bind (m_ref35_List std c_1) fun b125 =>
                (some (!b125)) : Option ((Bool))) fun x295 =>
    bif x295 then
      (some true)
    else
      Option.bind (m_rectangle_Minus std a_1 b_1) fun (l258, n98) =>
      Option.bind (m_rectangle_Meet std a_1 b_1) fun (l259, n99) =>
      Option.bind (
        bif (!(n98 == 0)) then
          (some true)
        else
          (some (!(n99 == 0))) : Option ((Bool))) fun x297 =>
      Option.bind (
        Option.bind (m_rectangle_Minus std a_1 l258) fun (l260, n100) =>
        Option.bind (
          bif x297 then
            (some true)
          else
            (some (!(n100 == 0))) : Option ((Bool))) fun x299 =>
        Option.bind (m_rectangle_Equal std l260 l259) fun b126 =>
        bif b126 then
          Option.bind (m_rectangle_Union std l258 l259) fun (l261, n101) =>
          Option.bind (
            bif x299 then
              (some true)
            else
              (some (!(n101 == 0))) : Option ((Bool))) fun x301 =>
          Option.bind (m_rectangle_Equal std l261 a_1) fun b127 =>
          bif b127 then
            Option.bind (m_rectangle_Union std a_1 b_1) fun (l262, n102) =>
            Option.bind (
              bif x301 then
                (some true)
              else
                (some (!(n102 == 0))) : Option ((Bool))) fun x303 =>
            Option.bind (m_rectangle_Union std b_1 a_1) fun (l263, n103) =>
            Option.bind (
              bif x303 then
                (some true)
              else
                (some (!(n103 == 0))) : Option ((Bool))) fun x305 =>
            Option.bind (m_rectangle_Equal std l262 l263) fun b128 =>
            bif b128 then
              Option.bind (m_rectangle_Meet std b_1 a_1) fun (l264, n104) =>
              Option.bind (
                bif x305 then
                  (some true)
                else
                  (some (!(n104 == 0))) : Option ((Bool))) fun x307 =>
              Option.bind (m_rectangle_Equal std l259 l264) fun b129 =>
              bif b129 then
                Option.bind (m_rectangle_Union std b_1 c_1) fun (l265, n105) =>
                Option.bind (
                  bif x307 then
                    (some true)
                  else
                    (some (!(n105 == 0))) : Option ((Bool))) fun x309 =>
                Option.bind (m_rectangle_Meet std a_1 l265) fun (l266, n106) =>
                Option.bind (
                  bif x309 then
                    (some true)
                  else
                    (some (!(n106 == 0))) : Option ((Bool))) fun x311 =>
                Option.bind (m_rectangle_Meet std a_1 c_1) fun (l267, n107) =>
                Option.bind (
                  bif x311 then
                    (some true)
                  else
                    (some (!(n107 == 0))) : Option ((Bool))) fun x313 =>
                Option.bind (m_rectangle_Union std l259 l267) fun (l268, n108) =>
                Option.bind (
                  bif x313 then
                    (some true)
                  else
                    (some (!(n108 == 0))) : Option ((Bool))) fun x315 =>
                Option.bind (m_rectangle_Equal std l266 l268) fun b130 =>
                bif b130 then
                  Option.bind (m_rectangle_Union std b_1 c_1) fun (l269, n109) =>
                  Option.bind (
                    bif x315 then
                      (some true)
                    else
                      (some (!(n109 == 0))) : Option ((Bool))) fun x317 =>
                  Option.bind (m_rectangle_Minus std a_1 l269) fun (l270, n110) =>
                  Option.bind (
                    bif x317 then
                      (some true)
                    else
                      (some (!(n110 == 0))) : Option ((Bool))) fun x319 =>
                  Option.bind (m_rectangle_Minus std l258 c_1) fun (l271, n111) =>
                  Option.bind (
                    bif x319 then
                      (some true)
                    else
                      (some (!(n111 == 0))) : Option ((Bool))) fun x321 =>
                  Option.bind (m_rectangle_Equal std l270 l271) fun b131 =>
                  bif b131 then
                    Option.bind (m_rectangle_Meet std l258 b_1) fun (l272, n112) =>
                    Option.bind (
                      bif x321 then
                        (some true)
                      else
                        (some (!(n112 == 0))) : Option ((Bool))) fun x323 =>
                    (some (((((List.length l272) : Nat) : Int) == 0), x323))
                  else
                    (some (false, x321))
                else
                  (some (false, x315))
              else
                (some (false, x307))
            else
              (some (false, x305))
          else
            (some (false, x301))
        else
          (some (false, x299)) : Option ((Bool × Bool))) fun (ok7, x330) =>
      Option.bind (
        bif ok7 then
          (some true)
        else
          (some x330) : Option ((Bool))) fun x332 =>
      (some x332)) : Option (Bool)) := rfl
theorem m_rectangle_At_eq (tx_1 : Int) (l_1 : List (Int × Int × Int × Int)) : m_rectangle_At std tx_1 l_1 =
((Option.bind (m_rectangle_check_2 std l_1) fun n113 =>
  bif (!(n113 == 0)) then
    (some ([] : List (Int × Int)))
  else
    Option.bind (m_rectangle_times std tx_1 l_1) fun l275 =>
    (some l275)) : Option (List (Int × Int))) := rfl
theorem m_rectangle_During_L1_eq (l_1 : List (Int × Int × Int × Int)) (x338 : Int) (l277 : List (Int × Int × Int × Int)) : m_rectangle_During_L1 std l_1 (x338, l277) =
((bif (decide (x338 < (((List.length l_1) : Nat) : Int))) then
    grd (okIdx x338 ((List.length l_1))) <|
    grd (okKin ((Int.toNat x338)) ((List.length l_1))) <|
    grd (okRoom ((List.length l277))) <|
    grd (okRoom ((List.length [((List.getD l_1 (Int.toNat x338) (0, 0, 0, 0)).2.2.1, (List.getD l_1 (Int.toNat x338) (0, 0, 0, 0)).2.2.2, (List.getD l_1 (Int.toNat x338) (0, 0, 0, 0)).1, (List.getD l_1 (Int.toNat x338) (0, 0, 0, 0)).2.1)]))) <|
    grd (okI .i64 ((x338 + 1))) <|
    (some (Sum.inl ((x338 + 1), (l277 ++ [((List.getD l_1 (Int.toNat x338) (0, 0, 0, 0)).2.2.1, (List.getD l_1 (Int.toNat x338) (0, 0, 0, 0)).2.2.2, (List.getD l_1 (Int.toNat x338) (0, 0, 0, 0)).1, (List.getD l_1 (Int.toNat x338) (0, 0, 0, 0)).2.1)]))))
  else
    (some (Sum.inr l277))) : Option ((Int × List (Int × Int × Int × Int)) ⊕ (List (Int × Int × Int × Int)))) := rfl
theorem m_rectangle_During_eq (valid_1 : Int) (l_1 : List (Int × Int × Int × Int)) : m_rectangle_During std valid_1 l_1 =
((Option.bind (m_rectangle_check_2 std l_1) fun n114 =>
  bif (!(n114 == 0)) then
    (some ([] : List (Int × Int)))
  else
    Option.bind (loop (m_rectangle_During_L1 std l_1) (0, ([] : List (Int × Int × Int × Int)))) fun l278 =>
    Option.bind (m_rectangle_times std valid_1 l278) fun l279 =>
    (some l279)) : Option (List (Int × Int))) := rfl
theorem m_runs_search_1_eq (s_1 : Int) (s_2 : Int) (x_1 : Int) : m_runs_search_1 std s_1 s_2 x_1 =
((bif (decide (s_2 ≤ x_1)) then
    (some (-1))
  else
    (some 1)) : Option (Int)) := rfl
theorem m_slices_BinarySearchFunc_L1_eq (target_1 : Int) (x_1 : List (Int × Int)) (i71 : Int) (j3 : Int) : m_slices_BinarySearchFunc_L1 std target_1 x_1 (i71, j3) =
((bif (decide (i71 < j3)) then
    grd (okI .i64 ((i71 + j3))) <|
    grd (okI .u64 ((i71 + j3))) <|
    grd (okIdx 1 65) <|
    grd (okI .i64 (((i71 + j3) / 2 ^ (Int.toNat 1)))) <|
    grd (okIdx (((i71 + j3) / 2 ^ (Int.toNat 1))) ((List.length x_1))) <|
    grd (okKin ((Int.toNat ((i71 + j3) / 2 ^ (Int.toNat 1)))) ((List.length x_1))) <|
    Option.bind (m_runs_search_1 std ((List.getD x_1 (Int.toNat ((i71 + j3) / 2 ^ (Int.toNat 1))) (0, 0)).1) ((List.getD x_1 (Int.toNat ((i71 + j3) / 2 ^ (Int.toNat 1))) (0, 0)).2) target_1) fun n115 =>
    Option.bind (
      bif (decide (n115 < 0)) then
        grd (okI .i64 ((((i71 + j3) / 2 ^ (Int.toNat 1)) + 1))) <|
        (some ((((i71 + j3) / 2 ^ (Int.toNat 1)) + 1), j3))
      else
        (some (i71, ((i71 + j3) / 2 ^ (Int.toNat 1)))) : Option ((Int × Int))) fun (i73, j5) =>
    (some (Sum.inl (i73, j5)))
  else
    (some (Sum.inr i71))) : Option ((Int × Int) ⊕ (Int))) := rfl
theorem m_slices_BinarySearchFunc_eq (target_1 : Int) (x_1 : List (Int × Int)) : m_slices_BinarySearchFunc std target_1 x_1 =
((Option.bind (loop (m_slices_BinarySearchFunc_L1 std target_1 x_1) (0, (((List.length x_1) : Nat) : Int))) fun i74 =>
  Option.bind (
    bif (decide (i74 < (((List.length x_1) : Nat) : Int))) then
      grd (okIdx i74 ((List.length x_1))) <|
      grd (okKin ((Int.toNat i74)) ((List.length x_1))) <|
      Option.bind (m_runs_search_1 std ((List.getD x_1 (Int.toNat i74) (0, 0)).1) ((List.getD x_1 (Int.toNat i74) (0, 0)).2) target_1) fun n116 =>
      (some (n116 == 0))
    else
      (some false) : Option ((Bool))) fun x342 =>
  (some (i74, x342))) : Option (Int × Bool)) := rfl
theorem m_runs_search_eq (x_1 : Int) (a_1 : List (Int × Int)) : m_runs_search std x_1 a_1 =
((Option.bind (m_slices_BinarySearchFunc std x_1 a_1) fun (n117, _) =>
  (some n117)) : Option (Int)) := rfl
theorem m_runs_Has_eq (x_1 : Int) (a_1 : List (Int × Int)) : m_runs_Has std x_1 a_1 =
((Option.bind (m_runs_Valid std a_1) fun b140 =>
  bif (!b140) then
    (some false)
  else
    Option.bind (m_runs_search std x_1 a_1) fun n118 =>
    Option.bind (
      bif (decide (n118 < (((List.length a_1) : Nat) : Int))) then
        grd (okIdx n118 ((List.length a_1))) <|
        grd (okKin ((Int.toNat n118)) ((List.length a_1))) <|
        (some (decide ((List.getD a_1 (Int.toNat n118) (0, 0)).1 ≤ x_1)))
      else
        (some false) : Option ((Bool))) fun x344 =>
    (some x344)) : Option (Bool)) := rfl
theorem m_law35_RectangleSlices_L1_eq (l_1 : List (Int × Int × Int × Int)) (x336 : Int) (l273 : List (Int × Int × Int × Int)) : m_law35_RectangleSlices_L1 std l_1 (x336, l273) =
((bif (decide (x336 < (((List.length l_1) : Nat) : Int))) then
    grd (okIdx x336 ((List.length l_1))) <|
    grd (okKin ((Int.toNat x336)) ((List.length l_1))) <|
    grd (okRoom ((List.length l273))) <|
    grd (okRoom ((List.length [((List.getD l_1 (Int.toNat x336) (0, 0, 0, 0)).2.2.1, (List.getD l_1 (Int.toNat x336) (0, 0, 0, 0)).2.2.2, (List.getD l_1 (Int.toNat x336) (0, 0, 0, 0)).1, (List.getD l_1 (Int.toNat x336) (0, 0, 0, 0)).2.1)]))) <|
    grd (okI .i64 ((x336 + 1))) <|
    (some (Sum.inl ((x336 + 1), (l273 ++ [((List.getD l_1 (Int.toNat x336) (0, 0, 0, 0)).2.2.1, (List.getD l_1 (Int.toNat x336) (0, 0, 0, 0)).2.2.2, (List.getD l_1 (Int.toNat x336) (0, 0, 0, 0)).1, (List.getD l_1 (Int.toNat x336) (0, 0, 0, 0)).2.1)]))))
  else
    (some (Sum.inr l273))) : Option ((Int × List (Int × Int × Int × Int)) ⊕ (List (Int × Int × Int × Int)))) := rfl
theorem m_law35_RectangleSlices_eq (valid_1 : Int) (tx_1 : Int) (l_1 : List (Int × Int × Int × Int)) : m_law35_RectangleSlices std valid_1 tx_1 l_1 =
((Option.bind (m_law35_awake std) fun b132 =>
  bif (!b132) then
    (some false)
  else
    Option.bind (
      Option.bind (m_law35_few std l_1) fun b133 =>
      bif (!b133) then
        (some true)
      else
        Option.bind (m_ref35_List std l_1) fun b134 =>
        (some (!b134)) : Option ((Bool))) fun x334 =>
    bif x334 then
      (some true)
    else
      Option.bind (loop (m_law35_RectangleSlices_L1 std l_1) (0, ([] : List (Int × Int × Int × Int)))) fun l274 =>
      Option.bind (m_rectangle_At std tx_1 l_1) fun l276 =>
      Option.bind (m_rectangle_During std valid_1 l_1) fun l280 =>
      Option.bind (
        Option.bind (m_runs_Valid std l276) fun b135 =>
        bif (!b135) then
          (some true)
        else
          Option.bind (m_runs_Valid std l280) fun b136 =>
          bif (!b136) then
            (some true)
          else
            Option.bind (m_rectangle_During std tx_1 l274) fun l281 =>
            Option.bind (m_slices_Equal std l281 l276) fun b137 =>
            bif (!b137) then
              (some true)
            else
              Option.bind (m_rectangle_At std valid_1 l274) fun l282 =>
              Option.bind (m_slices_Equal std l282 l280) fun b138 =>
              (some (!b138)) : Option ((Bool))) fun x340 =>
      bif x340 then
        (some false)
      else
        Option.bind (m_law35_in std valid_1 tx_1 l_1) fun b139 =>
        Option.bind (
          Option.bind (m_runs_Has std valid_1 l276) fun b142 =>
          bif (b142 == b139) then
            Option.bind (m_runs_Has std tx_1 l280) fun b143 =>
            bif (b143 == b139) then
              Option.bind (m_rectangle_Has std tx_1 valid_1 l274) fun b144 =>
              (some (b144 == b139))
            else
              (some false)
          else
            (some false) : Option ((Bool))) fun x347 =>
        (some x347)) : Option (Bool)) := rfl
theorem m_runs_Measure_L1_eq (a_1 : List (Int × Int)) (n122 : Int) (x354 : Int) : m_runs_Measure_L1 std a_1 (n122, x354) =
((bif (decide (x354 < (((List.length a_1) : Nat) : Int))) then
    grd (okIdx x354 ((List.length a_1))) <|
    grd (okKin ((Int.toNat x354)) ((List.length a_1))) <|
    grd (okI .i64 (((List.getD a_1 (Int.toNat x354) (0, 0)).2 - (List.getD a_1 (Int.toNat x354) (0, 0)).1))) <|
    grd (okI .i64 ((n122 + ((List.getD a_1 (Int.toNat x354) (0, 0)).2 - (List.getD a_1 (Int.toNat x354) (0, 0)).1)))) <|
    grd (okI .i64 ((x354 + 1))) <|
    (some (Sum.inl ((n122 + ((List.getD a_1 (Int.toNat x354) (0, 0)).2 - (List.getD a_1 (Int.toNat x354) (0, 0)).1)), (x354 + 1))))
  else
    (some (Sum.inr n122))) : Option ((Int × Int) ⊕ (Int))) := rfl
theorem m_runs_Measure_eq (a_1 : List (Int × Int)) : m_runs_Measure std a_1 =
((Option.bind (m_runs_Valid std a_1) fun b148 =>
  bif (!b148) then
    (some 0)
  else
    Option.bind (loop (m_runs_Measure_L1 std a_1) (0, 0)) fun n123 =>
    (some n123)) : Option (Int)) := rfl
theorem m_rectangle_Area_L1_eq (l_1 : List (Int × Int × Int × Int)) (x353 : Int) (l285 : List Int) : m_rectangle_Area_L1 std l_1 (x353, l285) =
((bif (decide (x353 < (((List.length l_1) : Nat) : Int))) then
    grd (okIdx x353 ((List.length l_1))) <|
    grd (okKin ((Int.toNat x353)) ((List.length l_1))) <|
    grd (okRoom ((List.length l285))) <|
    grd (okRoom ((List.length [(List.getD l_1 (Int.toNat x353) (0, 0, 0, 0)).2.2.1, (List.getD l_1 (Int.toNat x353) (0, 0, 0, 0)).2.2.2]))) <|
    grd (okI .i64 ((x353 + 1))) <|
    (some (Sum.inl ((x353 + 1), (l285 ++ [(List.getD l_1 (Int.toNat x353) (0, 0, 0, 0)).2.2.1, (List.getD l_1 (Int.toNat x353) (0, 0, 0, 0)).2.2.2]))))
  else
    (some (Sum.inr l285))) : Option ((Int × List Int) ⊕ (List Int))) := rfl
theorem m_rectangle_Area_L2_eq (l288 : List Int) (l_1 : List (Int × Int × Int × Int)) (sum2 : Int) (i76 : Int) : m_rectangle_Area_L2 std l288 l_1 (sum2, i76) =
((grd (okI .i64 ((i76 + 1))) <|
  bif (decide ((i76 + 1) < (((List.length l288) : Nat) : Int))) then
    grd (okIdx ((i76 + 1)) ((List.length l288))) <|
    grd (okKin ((Int.toNat (i76 + 1))) ((List.length l288))) <|
    grd (okIdx i76 ((List.length l288))) <|
    grd (okKin ((Int.toNat i76)) ((List.length l288))) <|
    grd (okI .i64 (((List.getD l288 (Int.toNat (i76 + 1)) 0) - (List.getD l288 (Int.toNat i76) 0)))) <|
    grd (okI .u64 (((List.getD l288 (Int.toNat (i76 + 1)) 0) - (List.getD l288 (Int.toNat i76) 0)))) <|
    Option.bind (m_rectangle_times std ((List.getD l288 (Int.toNat i76) 0)) l_1) fun l290 =>
    Option.bind (m_runs_Measure std l290) fun n129 =>
    grd (okI .u64 n129) <|
    Option.bind (m_bits_Mul64 std (((List.getD l288 (Int.toNat (i76 + 1)) 0) - (List.getD l288 (Int.toNat i76) 0))) n129) fun (n130, n131) =>
    Option.bind (m_bits_Add64 std sum2 n131 0) fun (n132, n133) =>
    Option.bind (
      bif (!(n130 == 0)) then
        (some true)
      else
        bif (!(n133 == 0)) then
          (some true)
        else
          (some (decide (9223372036854775807 < n132))) : Option ((Bool))) fun x358 =>
    bif x358 then
      (some (Sum.inr (Sum.inl ())))
    else
      (some (Sum.inl (n132, (i76 + 1))))
  else
    (some (Sum.inr (Sum.inr sum2)))) : Option ((Int × Int) ⊕ ((Unit) ⊕ (Int)))) := rfl
theorem m_rectangle_Area_eq (l_1 : List (Int × Int × Int × Int)) : m_rectangle_Area std l_1 =
((Option.bind (m_rectangle_check_2 std l_1) fun n121 =>
  bif (!(n121 == 0)) then
    (some (-1))
  else
    Option.bind (loop (m_rectangle_Area_L1 std l_1) (0, ([] : List Int))) fun l286 =>
    Option.bind (m_sortI std l286) fun l287 =>
    Option.bind (m_compI std l287) fun l288 =>
    Option.bind (loop (m_rectangle_Area_L2 std l288 l_1) (0, 0)) fun e => match e with
    | .inl _ =>
      (some (-1))
    | .inr (sum3) =>
      grd (okI .i64 sum3) <|
      (some sum3)) : Option (Int)) := rfl
theorem m_law35_RectangleAreas_L1_eq (n134 : Int) (n135 : Int) (n136 : Int) (n137 : Int) (x362 : Int) : m_law35_RectangleAreas_L1 std n134 n135 n136 n137 x362 =
((bif (decide (x362 < (((List.length [n134, n135, n136, n137]) : Nat) : Int))) then
    grd (okIdx x362 ((List.length [n134, n135, n136, n137]))) <|
    grd (okKin ((Int.toNat x362)) ((List.length [n134, n135, n136, n137]))) <|
    Option.bind (
      bif (decide (4611686018427387904 < (List.getD [n134, n135, n136, n137] (Int.toNat x362) 0))) then
        (some true)
      else
        (some (decide ((List.getD [n134, n135, n136, n137] (Int.toNat x362) 0) < 0))) : Option ((Bool))) fun x364 =>
    bif x364 then
      (some (Sum.inr (Sum.inl (decide ((-1) ≤ (List.getD [n134, n135, n136, n137] (Int.toNat x362) 0))))))
    else
      grd (okI .i64 ((x362 + 1))) <|
      (some (Sum.inl (x362 + 1)))
  else
    (some (Sum.inr (Sum.inr ())))) : Option ((Int) ⊕ ((Bool) ⊕ (Unit)))) := rfl
theorem m_law35_RectangleAreas_eq (a_1 : List (Int × Int × Int × Int)) (b_1 : List (Int × Int × Int × Int)) : m_law35_RectangleAreas std a_1 b_1 =
((Option.bind (m_law35_awake std) fun b145 =>
  bif (!b145) then
    (some false)
  else
    Option.bind (
      bif (decide (15 < (((List.length a_1) : Nat) : Int))) then
        (some true)
      else
        bif (decide (15 < (((List.length b_1) : Nat) : Int))) then
          (some true)
        else
          Option.bind (m_ref35_List std a_1) fun b146 =>
          bif (!b146) then
            (some true)
          else
            Option.bind (m_ref35_List std b_1) fun b147 =>
            (some (!b147)) : Option ((Bool))) fun x349 =>
    bif x349 then
      (some true)
    else
      Option.bind (m_rectangle_Union std a_1 b_1) fun (l283, n119) =>
      Option.bind (m_rectangle_Meet std a_1 b_1) fun (l284, n120) =>
      Option.bind (
        bif (!(n119 == 0)) then
          (some true)
        else
          (some (!(n120 == 0))) : Option ((Bool))) fun x351 =>
      bif x351 then
        (some true)
      else
        Option.bind (m_rectangle_Area std a_1) fun n134 =>
        Option.bind (m_rectangle_Area std b_1) fun n135 =>
        Option.bind (m_rectangle_Area std l283) fun n136 =>
        Option.bind (m_rectangle_Area std l284) fun n137 =>
        Option.bind (loop (m_law35_RectangleAreas_L1 std n134 n135 n136 n137) 0) fun e => match e with
        | .inl x365 =>
          (some x365)
        | .inr (_) =>
          grd (okI .i64 ((n134 + n135))) <|
          grd (okI .i64 ((n136 + n137))) <|
          (some ((n134 + n135) == (n136 + n137)))) : Option (Bool)) := rfl
end Go.Proofs.Ytkdffpncpikdmaa
