/-
  Equations of models (printed by lift.py).
-/
import Derived.Test.YtfhfifcfkimgpaaHM
namespace Go.Proofs.Ytfhfifcfkimgpaa
open Go.RowKit
set_option maxRecDepth 100000

theorem m_interval_line_eq (x_1 : Int) : m_interval_line std x_1 =
((Option.bind (
    bif (decide ((-4398046511104) ≤ x_1)) then
      (some (decide (x_1 ≤ 4398046511104)))
    else
      (some false) : Option ((Bool))) fun x3 =>
  (some x3)) : Option (Bool)) := rfl
theorem m_interval_Valid_eq (s_1 : Int) (s_2 : Int) : m_interval_Valid std s_1 s_2 =
((Option.bind (
    Option.bind (m_interval_line std s_1) fun b1 =>
    bif b1 then
      Option.bind (m_interval_line std s_2) fun b2 =>
      bif b2 then
        (some (decide (s_1 < s_2)))
      else
        (some false)
    else
      (some false) : Option ((Bool))) fun x6 =>
  (some x6)) : Option (Bool)) := rfl
theorem m_periodic_Of_1_eq (s_1 : Int) (s_2 : Int) : m_periodic_Of_1 std s_1 s_2 =
((Option.bind (m_interval_Valid std s_1 s_2) fun b3 =>
  (some (!b3))) : Option (Bool)) := rfl
theorem m_slices_IndexFunc_L1_eq (s_1 : List (Int × Int)) (x1 : Int) : m_slices_IndexFunc_L1 std s_1 x1 =
((bif (decide (x1 < (((List.length s_1) : Nat) : Int))) then
    grd (okIdx x1 ((List.length s_1))) <|
    grd (okKin ((Int.toNat x1)) ((List.length s_1))) <|
    Option.bind (m_periodic_Of_1 std ((List.getD s_1 (Int.toNat x1) (0, 0)).1) ((List.getD s_1 (Int.toNat x1) (0, 0)).2)) fun b4 =>
    bif b4 then
      (some (Sum.inr (Sum.inl x1)))
    else
      grd (okI .i64 ((x1 + 1))) <|
      (some (Sum.inl (x1 + 1)))
  else
    (some (Sum.inr (Sum.inr ())))) : Option ((Int) ⊕ ((Int) ⊕ (Unit)))) := rfl
theorem m_slices_IndexFunc_eq (s_1 : List (Int × Int)) : m_slices_IndexFunc std s_1 =
((Option.bind (loop (m_slices_IndexFunc_L1 std s_1) 0) fun e => match e with
  | .inl x7 =>
    (some x7)
  | .inr (_) =>
    (some (-1))) : Option (Int)) := rfl
theorem m_slices_ContainsFunc_eq (s_1 : List (Int × Int)) : m_slices_ContainsFunc std s_1 =
((Option.bind (m_slices_IndexFunc std s_1) fun n1 =>
  (some (decide (0 ≤ n1)))) : Option (Bool)) := rfl
theorem m_integer_Div_eq (a_1 : Int) (b_1 : Int) : m_integer_Div std a_1 b_1 =
((Option.bind (
    bif (b_1 == 0) then
      (some (Sum.inl 10))
    else
      Option.bind (
        bif (a_1 == (-9223372036854775808)) then
          (some (b_1 == (-1)))
        else
          (some false) : Option ((Bool))) fun x12 =>
      bif x12 then
        (some (Sum.inl 9))
      else
        (some (Sum.inr ())) : Option (((Int) ⊕ (Unit)))) fun e => match e with
  | .inl x14 =>
    (some (0, 0, x14))
  | .inr (_) =>
    grd (okNz b_1) <|
    grd (okI .i64 ((Int.tdiv a_1 b_1))) <|
    Option.bind (
      bif (!((Int.tmod a_1 b_1) == 0)) then
        (some (!((decide ((Int.tmod a_1 b_1) < 0)) == (decide (b_1 < 0)))))
      else
        (some false) : Option ((Bool))) fun x16 =>
    Option.bind (
      bif x16 then
        grd (okI .i64 (((Int.tdiv a_1 b_1) - 1))) <|
        grd (okI .i64 (((Int.tmod a_1 b_1) + b_1))) <|
        (some (((Int.tdiv a_1 b_1) - 1), ((Int.tmod a_1 b_1) + b_1)))
      else
        (some ((Int.tdiv a_1 b_1), (Int.tmod a_1 b_1))) : Option ((Int × Int))) fun (q2, r2) =>
    (some (q2, r2, 0))) : Option (Int × Int × Int)) := rfl
theorem m_integer_Mod_eq (a_1 : Int) (b_1 : Int) : m_integer_Mod std a_1 b_1 =
((Option.bind (m_integer_Div std a_1 b_1) fun (_, n3, _) =>
  (some n3)) : Option (Int)) := rfl
theorem m_periodic_fold_L1_eq (l_1 : List (Int × Int)) (period_1 : Int) (x17 : Int) (l3 : List (Int × Int)) : m_periodic_fold_L1 std l_1 period_1 (x17, l3) =
((bif (decide (x17 < (((List.length l_1) : Nat) : Int))) then
    grd (okIdx x17 ((List.length l_1))) <|
    grd (okKin ((Int.toNat x17)) ((List.length l_1))) <|
    grd (okI .i64 (((List.getD l_1 (Int.toNat x17) (0, 0)).2 - (List.getD l_1 (Int.toNat x17) (0, 0)).1))) <|
    bif (decide (period_1 ≤ ((List.getD l_1 (Int.toNat x17) (0, 0)).2 - (List.getD l_1 (Int.toNat x17) (0, 0)).1))) then
      (some (Sum.inr (Sum.inl ())))
    else
      Option.bind (m_integer_Mod std ((List.getD l_1 (Int.toNat x17) (0, 0)).1) period_1) fun n6 =>
      grd (okI .i64 ((n6 + (List.getD l_1 (Int.toNat x17) (0, 0)).2))) <|
      grd (okI .i64 (((n6 + (List.getD l_1 (Int.toNat x17) (0, 0)).2) - (List.getD l_1 (Int.toNat x17) (0, 0)).1))) <|
      grd (okRoom ((List.length l3))) <|
      grd (okRoom ((List.length [(n6, (mi ((n6 + (List.getD l_1 (Int.toNat x17) (0, 0)).2) - (List.getD l_1 (Int.toNat x17) (0, 0)).1) period_1))]))) <|
      Option.bind (
        bif (decide (period_1 < ((n6 + (List.getD l_1 (Int.toNat x17) (0, 0)).2) - (List.getD l_1 (Int.toNat x17) (0, 0)).1))) then
          grd (okI .i64 ((((n6 + (List.getD l_1 (Int.toNat x17) (0, 0)).2) - (List.getD l_1 (Int.toNat x17) (0, 0)).1) - period_1))) <|
          grd (okRoom ((List.length (l3 ++ [(n6, (mi ((n6 + (List.getD l_1 (Int.toNat x17) (0, 0)).2) - (List.getD l_1 (Int.toNat x17) (0, 0)).1) period_1))])))) <|
          grd (okRoom ((List.length [(0, (((n6 + (List.getD l_1 (Int.toNat x17) (0, 0)).2) - (List.getD l_1 (Int.toNat x17) (0, 0)).1) - period_1))]))) <|
          (some ((l3 ++ [(n6, (mi ((n6 + (List.getD l_1 (Int.toNat x17) (0, 0)).2) - (List.getD l_1 (Int.toNat x17) (0, 0)).1) period_1))]) ++ [(0, (((n6 + (List.getD l_1 (Int.toNat x17) (0, 0)).2) - (List.getD l_1 (Int.toNat x17) (0, 0)).1) - period_1))]))
        else
          (some (l3 ++ [(n6, (mi ((n6 + (List.getD l_1 (Int.toNat x17) (0, 0)).2) - (List.getD l_1 (Int.toNat x17) (0, 0)).1) period_1))])) : Option ((List (Int × Int)))) fun l5 =>
      grd (okI .i64 ((x17 + 1))) <|
      (some (Sum.inl ((x17 + 1), l5)))
  else
    (some (Sum.inr (Sum.inr l3)))) : Option ((Int × List (Int × Int)) ⊕ ((Unit) ⊕ (List (Int × Int))))) := rfl
theorem m_periodic_fold_L2_eq (l7 : List (Int × Int)) (x21 : Int) (l10 : List (Int × Int)) : m_periodic_fold_L2 std l7 (x21, l10) =
((bif (decide (x21 < (((List.length l7) : Nat) : Int))) then
    grd (okIdx x21 ((List.length l7))) <|
    grd (okKin ((Int.toNat x21)) ((List.length l7))) <|
    Option.bind (
      bif (decide (0 < (((List.length l10) : Nat) : Int))) then
        grd (okI .i64 (((((List.length l10) : Nat) : Int) - 1))) <|
        grd (okIdx (((((List.length l10) : Nat) : Int) - 1)) ((List.length l10))) <|
        grd (okKin ((Int.toNat ((((List.length l10) : Nat) : Int) - 1))) ((List.length l10))) <|
        (some (decide ((List.getD l7 (Int.toNat x21) (0, 0)).1 ≤ (List.getD l10 (Int.toNat ((((List.length l10) : Nat) : Int) - 1)) (0, 0)).2)))
      else
        (some false) : Option ((Bool))) fun x23 =>
    Option.bind (
      bif x23 then
        grd (okI .i64 (((((List.length l10) : Nat) : Int) - 1))) <|
        grd (okIdx (((((List.length l10) : Nat) : Int) - 1)) ((List.length l10))) <|
        grd (okKin ((Int.toNat ((((List.length l10) : Nat) : Int) - 1))) ((List.length l10))) <|
        (some (List.set l10 (Int.toNat ((((List.length l10) : Nat) : Int) - 1)) ((List.getD l10 (Int.toNat ((((List.length l10) : Nat) : Int) - 1)) (0, 0)).1, (ma (List.getD l10 (Int.toNat ((((List.length l10) : Nat) : Int) - 1)) (0, 0)).2 (List.getD l7 (Int.toNat x21) (0, 0)).2))))
      else
        grd (okRoom ((List.length l10))) <|
        grd (okRoom ((List.length [((List.getD l7 (Int.toNat x21) (0, 0)).1, (List.getD l7 (Int.toNat x21) (0, 0)).2)]))) <|
        (some (l10 ++ [((List.getD l7 (Int.toNat x21) (0, 0)).1, (List.getD l7 (Int.toNat x21) (0, 0)).2)])) : Option ((List (Int × Int)))) fun l12 =>
    grd (okI .i64 ((x21 + 1))) <|
    (some (Sum.inl ((x21 + 1), l12)))
  else
    (some (Sum.inr l10))) : Option ((Int × List (Int × Int)) ⊕ (List (Int × Int)))) := rfl
theorem m_periodic_fold_eq (period_1 : Int) (l_1 : List (Int × Int)) : m_periodic_fold std period_1 l_1 =
((Option.bind (loop (m_periodic_fold_L1 std l_1 period_1) (0, ([] : List (Int × Int)))) fun e => match e with
  | .inl _ =>
    (some [(0, period_1)])
  | .inr (l6) =>
    Option.bind (m_sortSp std l6) fun l7 =>
    Option.bind (loop (m_periodic_fold_L2 std l7) (0, ([] : List (Int × Int)))) fun l13 =>
    (some l13)) : Option (List (Int × Int))) := rfl
theorem m_periodic_repeats_L1_eq (l_1 : List (Int × Int)) (period_1 : Int) (x27 : Int) (l21 : List Int) : m_periodic_repeats_L1 std l_1 period_1 (x27, l21) =
((bif (decide (x27 < (((List.length l_1) : Nat) : Int))) then
    grd (okIdx x27 ((List.length l_1))) <|
    grd (okKin ((Int.toNat x27)) ((List.length l_1))) <|
    Option.bind (
      bif (decide (0 < (List.getD l_1 (Int.toNat x27) (0, 0)).1)) then
        (some true)
      else
        grd (okI .i64 (((((List.length l_1) : Nat) : Int) - 1))) <|
        grd (okIdx (((((List.length l_1) : Nat) : Int) - 1)) ((List.length l_1))) <|
        grd (okKin ((Int.toNat ((((List.length l_1) : Nat) : Int) - 1))) ((List.length l_1))) <|
        (some (decide ((List.getD l_1 (Int.toNat ((((List.length l_1) : Nat) : Int) - 1)) (0, 0)).2 < period_1))) : Option ((Bool))) fun x29 =>
    Option.bind (
      bif x29 then
        grd (okRoom ((List.length l21))) <|
        grd (okRoom ((List.length [(List.getD l_1 (Int.toNat x27) (0, 0)).1]))) <|
        (some (l21 ++ [(List.getD l_1 (Int.toNat x27) (0, 0)).1]))
      else
        (some l21) : Option ((List Int))) fun l23 =>
    Option.bind (
      bif (decide ((List.getD l_1 (Int.toNat x27) (0, 0)).2 < period_1)) then
        grd (okRoom ((List.length l23))) <|
        grd (okRoom ((List.length [(List.getD l_1 (Int.toNat x27) (0, 0)).2]))) <|
        (some (l23 ++ [(List.getD l_1 (Int.toNat x27) (0, 0)).2]))
      else
        grd (okIdx 0 ((List.length l_1))) <|
        grd (okKin ((Int.toNat 0)) ((List.length l_1))) <|
        Option.bind (
          bif (decide (0 < (List.getD l_1 (Int.toNat 0) (0, 0)).1)) then
            grd (okRoom ((List.length l23))) <|
            grd (okRoom ((List.length [0]))) <|
            (some (l23 ++ [0]))
          else
            (some l23) : Option ((List Int))) fun l25 =>
        (some l25) : Option ((List Int))) fun l27 =>
    grd (okI .i64 ((x27 + 1))) <|
    (some (Sum.inl ((x27 + 1), l27)))
  else
    (some (Sum.inr l21))) : Option ((Int × List Int) ⊕ (List Int))) := rfl
theorem m_periodic_repeats_L2_eq (l29 : List Int) (period_1 : Int) (q_1 : Int) (x30 : Int) : m_periodic_repeats_L2 std l29 period_1 q_1 x30 =
((bif (decide (x30 < (((List.length l29) : Nat) : Int))) then
    grd (okIdx x30 ((List.length l29))) <|
    grd (okKin ((Int.toNat x30)) ((List.length l29))) <|
    grd (okI .i64 (((List.getD l29 (Int.toNat x30) 0) + q_1))) <|
    Option.bind (
      bif (decide (period_1 ≤ ((List.getD l29 (Int.toNat x30) 0) + q_1))) then
        grd (okI .i64 ((((List.getD l29 (Int.toNat x30) 0) + q_1) - period_1))) <|
        (some (((List.getD l29 (Int.toNat x30) 0) + q_1) - period_1))
      else
        (some ((List.getD l29 (Int.toNat x30) 0) + q_1)) : Option ((Int))) fun y2 =>
    grd (okI .i64 ((x30 + (Int.tdiv ((((List.length l29) : Nat) : Int) * q_1) period_1)))) <|
    grd (okNz ((((List.length l29) : Nat) : Int))) <|
    grd (okIdx ((Int.tmod (x30 + (Int.tdiv ((((List.length l29) : Nat) : Int) * q_1) period_1)) (((List.length l29) : Nat) : Int))) ((List.length l29))) <|
    grd (okKin ((Int.toNat (Int.tmod (x30 + (Int.tdiv ((((List.length l29) : Nat) : Int) * q_1) period_1)) (((List.length l29) : Nat) : Int)))) ((List.length l29))) <|
    bif (!((List.getD l29 (Int.toNat (Int.tmod (x30 + (Int.tdiv ((((List.length l29) : Nat) : Int) * q_1) period_1)) (((List.length l29) : Nat) : Int))) 0) == y2)) then
      (some (Sum.inr (Sum.inl ())))
    else
      grd (okI .i64 ((x30 + 1))) <|
      (some (Sum.inl (x30 + 1)))
  else
    (some (Sum.inr (Sum.inr ())))) : Option ((Int) ⊕ ((Unit) ⊕ (Unit)))) := rfl
theorem m_periodic_repeats_eq (period_1 : Int) (q_1 : Int) (l_1 : List (Int × Int)) : m_periodic_repeats std period_1 q_1 l_1 =
((Option.bind (loop (m_periodic_repeats_L1 std l_1 period_1) (0, ([] : List Int))) fun l28 =>
  Option.bind (m_sortI std l28) fun l29 =>
  bif ((((List.length l29) : Nat) : Int) == 0) then
    (some true)
  else
    grd (okI .i64 (((((List.length l29) : Nat) : Int) * q_1))) <|
    grd (okNz period_1) <|
    grd (okI .i64 ((Int.tdiv ((((List.length l29) : Nat) : Int) * q_1) period_1))) <|
    grd (okI .i64 (((Int.tdiv ((((List.length l29) : Nat) : Int) * q_1) period_1) * period_1))) <|
    bif (!(((Int.tdiv ((((List.length l29) : Nat) : Int) * q_1) period_1) * period_1) == ((((List.length l29) : Nat) : Int) * q_1))) then
      (some false)
    else
      grd (okNz 2) <|
      bif (!((Int.tmod (Int.tdiv ((((List.length l29) : Nat) : Int) * q_1) period_1) 2) == 0)) then
        (some false)
      else
        Option.bind (loop (m_periodic_repeats_L2 std l29 period_1 q_1) 0) fun e => match e with
        | .inl _ =>
          (some false)
        | .inr (_) =>
          (some true)) : Option (Bool)) := rfl
theorem m_periodic_least_L1_eq (l_1 : List (Int × Int)) (period_1 : Int) (best1 : Int) (q3 : Int) : m_periodic_least_L1 std l_1 period_1 (best1, q3) =
((grd (okNz q3) <|
  grd (okI .i64 ((Int.tdiv period_1 q3))) <|
  bif (decide (q3 ≤ (Int.tdiv period_1 q3))) then
    bif (!((Int.tmod period_1 q3) == 0)) then
      grd (okI .i64 ((q3 + 1))) <|
      (some (Sum.inl (best1, (q3 + 1))))
    else
      Option.bind (m_periodic_repeats std period_1 q3 l_1) fun b6 =>
      bif b6 then
        (some (Sum.inr q3))
      else
        Option.bind (m_periodic_repeats std period_1 ((Int.tdiv period_1 q3)) l_1) fun b7 =>
        Option.bind (
          bif b7 then
            (some (Int.tdiv period_1 q3))
          else
            (some best1) : Option ((Int))) fun best3 =>
        grd (okI .i64 ((q3 + 1))) <|
        (some (Sum.inl (best3, (q3 + 1))))
  else
    (some (Sum.inr best1))) : Option ((Int × Int) ⊕ (Int))) := rfl
theorem m_periodic_least_L2_eq (best5 : Int) (l_1 : List (Int × Int)) (x32 : Int) (l32 : List (Int × Int)) : m_periodic_least_L2 std best5 l_1 (x32, l32) =
((bif (decide (x32 < (((List.length l_1) : Nat) : Int))) then
    grd (okIdx x32 ((List.length l_1))) <|
    grd (okKin ((Int.toNat x32)) ((List.length l_1))) <|
    Option.bind (
      bif (decide ((List.getD l_1 (Int.toNat x32) (0, 0)).1 < best5)) then
        grd (okRoom ((List.length l32))) <|
        grd (okRoom ((List.length [((List.getD l_1 (Int.toNat x32) (0, 0)).1, (mi (List.getD l_1 (Int.toNat x32) (0, 0)).2 best5))]))) <|
        (some (l32 ++ [((List.getD l_1 (Int.toNat x32) (0, 0)).1, (mi (List.getD l_1 (Int.toNat x32) (0, 0)).2 best5))]))
      else
        (some l32) : Option ((List (Int × Int)))) fun l34 =>
    grd (okI .i64 ((x32 + 1))) <|
    (some (Sum.inl ((x32 + 1), l34)))
  else
    (some (Sum.inr l32))) : Option ((Int × List (Int × Int)) ⊕ (List (Int × Int)))) := rfl
theorem m_periodic_least_eq (period_1 : Int) (l_1 : List (Int × Int)) : m_periodic_least std period_1 l_1 =
((Option.bind (loop (m_periodic_least_L1 std l_1 period_1) (period_1, 1)) fun best5 =>
  Option.bind (loop (m_periodic_least_L2 std best5 l_1) (0, ([] : List (Int × Int)))) fun l35 =>
  (some (best5, l35))) : Option (Int × List (Int × Int))) := rfl
theorem m_periodic_limited_eq (period_1 : Int) (l_1 : List (Int × Int)) : m_periodic_limited std period_1 l_1 =
((Option.bind (m_periodic_least std period_1 l_1) fun (n7, l36) =>
  bif (decide (2000 < (((List.length l36) : Nat) : Int))) then
    (some (0, ([] : List (Int × Int)), 5))
  else
    (some (n7, l36, 0))) : Option (Int × List (Int × Int) × Int)) := rfl
theorem m_periodic_Of_eq (period_1 : Int) (l_1 : List (Int × Int)) : m_periodic_Of std period_1 l_1 =
((Option.bind (
    bif (decide (period_1 < 1)) then
      (some true)
    else
      bif (decide (12622780800 < period_1)) then
        (some true)
      else
        Option.bind (m_slices_ContainsFunc std l_1) fun b5 =>
        (some b5) : Option ((Bool))) fun x9 =>
  bif x9 then
    (some (0, ([] : List (Int × Int)), 1))
  else
    bif (decide (2000 < (((List.length l_1) : Nat) : Int))) then
      (some (0, ([] : List (Int × Int)), 5))
    else
      Option.bind (m_periodic_fold std period_1 l_1) fun l14 =>
      Option.bind (m_periodic_limited std period_1 l14) fun (n8, l37, n9) =>
      (some (n8, l37, n9))) : Option (Int × List (Int × Int) × Int)) := rfl
theorem m_law13_set_eq (period_1 : Int) (l_1 : List (Int × Int)) : m_law13_set std period_1 l_1 =
(((some period_1)) : Option (Int)) := rfl
theorem m_runs_Valid_L1_eq (l_1 : List (Int × Int)) (x33 : Int) : m_runs_Valid_L1 std l_1 x33 =
((bif (decide (x33 < (((List.length l_1) : Nat) : Int))) then
    grd (okIdx x33 ((List.length l_1))) <|
    grd (okKin ((Int.toNat x33)) ((List.length l_1))) <|
    Option.bind (
      Option.bind (m_interval_Valid std ((List.getD l_1 (Int.toNat x33) (0, 0)).1) ((List.getD l_1 (Int.toNat x33) (0, 0)).2)) fun b8 =>
      bif (!b8) then
        (some true)
      else
        bif (decide (0 < x33)) then
          grd (okI .i64 ((x33 - 1))) <|
          grd (okIdx ((x33 - 1)) ((List.length l_1))) <|
          grd (okKin ((Int.toNat (x33 - 1))) ((List.length l_1))) <|
          (some (decide ((List.getD l_1 (Int.toNat x33) (0, 0)).1 ≤ (List.getD l_1 (Int.toNat (x33 - 1)) (0, 0)).2)))
        else
          (some false) : Option ((Bool))) fun x36 =>
    bif x36 then
      (some (Sum.inr (Sum.inl ())))
    else
      grd (okI .i64 ((x33 + 1))) <|
      (some (Sum.inl (x33 + 1)))
  else
    (some (Sum.inr (Sum.inr ())))) : Option ((Int) ⊕ ((Unit) ⊕ (Unit)))) := rfl
theorem m_runs_Valid_eq (l_1 : List (Int × Int)) : m_runs_Valid std l_1 =
((bif (decide (2000 < (((List.length l_1) : Nat) : Int))) then
    (some false)
  else
    Option.bind (loop (m_runs_Valid_L1 std l_1) 0) fun e => match e with
    | .inl _ =>
      (some false)
    | .inr (_) =>
      (some true)) : Option (Bool)) := rfl
theorem m_periodic_inside_eq (period_1 : Int) (l_1 : List (Int × Int)) : m_periodic_inside std period_1 l_1 =
((Option.bind (
    Option.bind (m_runs_Valid std l_1) fun b9 =>
    bif b9 then
      bif ((((List.length l_1) : Nat) : Int) == 0) then
        (some true)
      else
        bif (decide (0 ≤ (List.getD l_1 (Int.toNat 0) (0, 0)).1)) then
          grd (okIdx 0 ((List.length l_1))) <|
          grd (okKin ((Int.toNat 0)) ((List.length l_1))) <|
          grd (okI .i64 (((((List.length l_1) : Nat) : Int) - 1))) <|
          grd (okIdx (((((List.length l_1) : Nat) : Int) - 1)) ((List.length l_1))) <|
          grd (okKin ((Int.toNat ((((List.length l_1) : Nat) : Int) - 1))) ((List.length l_1))) <|
          (some (decide ((List.getD l_1 (Int.toNat ((((List.length l_1) : Nat) : Int) - 1)) (0, 0)).2 ≤ period_1)))
        else
          grd (okIdx 0 ((List.length l_1))) <|
          grd (okKin ((Int.toNat 0)) ((List.length l_1))) <|
          (some false)
    else
      (some false) : Option ((Bool))) fun x40 =>
  (some x40)) : Option (Bool)) := rfl
theorem m_periodic_Valid_eq (p_1 : Int) (p_2 : List (Int × Int)) : m_periodic_Valid std p_1 p_2 =
((Option.bind (
    bif (decide (1 ≤ p_1)) then
      bif (decide (p_1 ≤ 12622780800)) then
        Option.bind (m_periodic_inside std p_1 p_2) fun b10 =>
        bif b10 then
          Option.bind (m_periodic_least std p_1 p_2) fun (n14, _) =>
          (some (n14 == p_1))
        else
          (some false)
      else
        (some false)
    else
      (some false) : Option ((Bool))) fun x44 =>
  (some x44)) : Option (Bool)) := rfl
theorem m_integer_size_eq (a_1 : Int) : m_integer_size std a_1 =
((bif (decide (a_1 < 0)) then
    grd (okI .u64 a_1) <|
    grd (okI .u64 ((0 - a_1))) <|
    (some (0 - a_1))
  else
    grd (okI .u64 a_1) <|
    (some a_1)) : Option (Int)) := rfl
theorem m_integer_signed_eq (m_1 : Int) (neg_1 : Bool) : m_integer_signed std m_1 neg_1 =
((Option.bind (
    bif neg_1 then
      (some (true, (decide (m_1 ≤ 9223372036854775808))))
    else
      (some (false, false)) : Option ((Bool × Bool))) fun (neg2, x52) =>
  Option.bind (
    bif x52 then
      grd (okI .u64 ((0 - m_1))) <|
      grd (okI .i64 ((0 - m_1))) <|
      (some (Sum.inl (0 - m_1)))
    else
      Option.bind (
        bif (!neg2) then
          (some (decide (m_1 ≤ 9223372036854775807)))
        else
          (some false) : Option ((Bool))) fun x54 =>
      bif x54 then
        grd (okI .i64 m_1) <|
        (some (Sum.inl m_1))
      else
        (some (Sum.inr ())) : Option (((Int) ⊕ (Unit)))) fun e => match e with
  | .inl x56 =>
    (some (x56, true))
  | .inr (_) =>
    (some (0, false))) : Option (Int × Bool)) := rfl
theorem m_integer_Gcd_L1_eq (x49 : Int) (y3 : Int) : m_integer_Gcd_L1 std (x49, y3) =
((bif (!(y3 == 0)) then
    grd (okNz y3) <|
    (some (Sum.inl (y3, (Int.tmod x49 y3))))
  else
    (some (Sum.inr x49))) : Option ((Int × Int) ⊕ (Int))) := rfl
theorem m_integer_Gcd_eq (a_1 : Int) (b_1 : Int) : m_integer_Gcd std a_1 b_1 =
((Option.bind (m_integer_size std a_1) fun n15 =>
  Option.bind (m_integer_size std b_1) fun n16 =>
  Option.bind (loop (m_integer_Gcd_L1 std) (n15, n16)) fun x50 =>
  Option.bind (m_integer_signed std x50 false) fun (n17, _) =>
  (some n17)) : Option (Int)) := rfl
theorem m_integer_Lcm_eq (a_1 : Int) (b_1 : Int) : m_integer_Lcm std a_1 b_1 =
((Option.bind (
    bif (decide (a_1 < 1)) then
      (some true)
    else
      (some (decide (b_1 < 1))) : Option ((Bool))) fun x48 =>
  bif x48 then
    (some (0, 2))
  else
    Option.bind (m_integer_Gcd std a_1 b_1) fun n18 =>
    grd (okNz n18) <|
    grd (okI .i64 ((Int.tdiv b_1 n18))) <|
    Option.bind (m_integer_Mul std a_1 ((Int.tdiv b_1 n18))) fun (n19, n20) =>
    (some (n19, n20))) : Option (Int × Int)) := rfl
theorem m_periodic_spread_L1_eq (at2 : Int) (p_2 : List (Int × Int)) (x66 : Int) (l45 : List (Int × Int)) : m_periodic_spread_L1 std at2 p_2 (x66, l45) =
((bif (decide (x66 < (((List.length p_2) : Nat) : Int))) then
    grd (okIdx x66 ((List.length p_2))) <|
    grd (okKin ((Int.toNat x66)) ((List.length p_2))) <|
    grd (okI .i64 (((List.getD p_2 (Int.toNat x66) (0, 0)).1 + at2))) <|
    grd (okI .i64 (((List.getD p_2 (Int.toNat x66) (0, 0)).2 + at2))) <|
    grd (okRoom ((List.length l45))) <|
    grd (okRoom ((List.length [(((List.getD p_2 (Int.toNat x66) (0, 0)).1 + at2), ((List.getD p_2 (Int.toNat x66) (0, 0)).2 + at2))]))) <|
    grd (okI .i64 ((x66 + 1))) <|
    (some (Sum.inl ((x66 + 1), (l45 ++ [(((List.getD p_2 (Int.toNat x66) (0, 0)).1 + at2), ((List.getD p_2 (Int.toNat x66) (0, 0)).2 + at2))]))))
  else
    (some (Sum.inr l45))) : Option ((Int × List (Int × Int)) ⊕ (List (Int × Int)))) := rfl
theorem m_periodic_spread_L2_eq (m_1 : Int) (p_1 : Int) (p_2 : List (Int × Int)) (at2 : Int) (l44 : List (Int × Int)) : m_periodic_spread_L2 std m_1 p_1 p_2 (at2, l44) =
((Option.bind (
    bif (decide (at2 < m_1)) then
      (some (decide (0 < (((List.length p_2) : Nat) : Int))))
    else
      (some false) : Option ((Bool))) fun x64 =>
  bif x64 then
    Option.bind (loop (m_periodic_spread_L1 std at2 p_2) (0, l44)) fun l46 =>
    grd (okI .i64 ((at2 + p_1))) <|
    (some (Sum.inl ((at2 + p_1), l46)))
  else
    (some (Sum.inr l44))) : Option ((Int × List (Int × Int)) ⊕ (List (Int × Int)))) := rfl
theorem m_periodic_spread_L3_eq (l48 : List (Int × Int)) (x70 : Int) (l51 : List (Int × Int)) : m_periodic_spread_L3 std l48 (x70, l51) =
((bif (decide (x70 < (((List.length l48) : Nat) : Int))) then
    grd (okIdx x70 ((List.length l48))) <|
    grd (okKin ((Int.toNat x70)) ((List.length l48))) <|
    Option.bind (
      bif (decide (0 < (((List.length l51) : Nat) : Int))) then
        grd (okI .i64 (((((List.length l51) : Nat) : Int) - 1))) <|
        grd (okIdx (((((List.length l51) : Nat) : Int) - 1)) ((List.length l51))) <|
        grd (okKin ((Int.toNat ((((List.length l51) : Nat) : Int) - 1))) ((List.length l51))) <|
        (some (decide ((List.getD l48 (Int.toNat x70) (0, 0)).1 ≤ (List.getD l51 (Int.toNat ((((List.length l51) : Nat) : Int) - 1)) (0, 0)).2)))
      else
        (some false) : Option ((Bool))) fun x72 =>
    Option.bind (
      bif x72 then
        grd (okI .i64 (((((List.length l51) : Nat) : Int) - 1))) <|
        grd (okIdx (((((List.length l51) : Nat) : Int) - 1)) ((List.length l51))) <|
        grd (okKin ((Int.toNat ((((List.length l51) : Nat) : Int) - 1))) ((List.length l51))) <|
        (some (List.set l51 (Int.toNat ((((List.length l51) : Nat) : Int) - 1)) ((List.getD l51 (Int.toNat ((((List.length l51) : Nat) : Int) - 1)) (0, 0)).1, (ma (List.getD l51 (Int.toNat ((((List.length l51) : Nat) : Int) - 1)) (0, 0)).2 (List.getD l48 (Int.toNat x70) (0, 0)).2))))
      else
        grd (okRoom ((List.length l51))) <|
        grd (okRoom ((List.length [((List.getD l48 (Int.toNat x70) (0, 0)).1, (List.getD l48 (Int.toNat x70) (0, 0)).2)]))) <|
        (some (l51 ++ [((List.getD l48 (Int.toNat x70) (0, 0)).1, (List.getD l48 (Int.toNat x70) (0, 0)).2)])) : Option ((List (Int × Int)))) fun l53 =>
    grd (okI .i64 ((x70 + 1))) <|
    (some (Sum.inl ((x70 + 1), l53)))
  else
    (some (Sum.inr l51))) : Option ((Int × List (Int × Int)) ⊕ (List (Int × Int)))) := rfl
theorem m_periodic_spread_eq (p_1 : Int) (m_1 : Int) (p_2 : List (Int × Int)) : m_periodic_spread std p_1 m_1 p_2 =
((Option.bind (
    bif (p_1 == 1) then
      bif ((((List.length p_2) : Nat) : Int) == 0) then
        (some (Sum.inl ([] : List (Int × Int))))
      else
        (some (Sum.inl [(0, m_1)]))
    else
      (some (Sum.inr ())) : Option (((List (Int × Int)) ⊕ (Unit)))) fun e => match e with
  | .inl l41 =>
    (some l41)
  | .inr (_) =>
    Option.bind (loop (m_periodic_spread_L2 std m_1 p_1 p_2) (0, ([] : List (Int × Int)))) fun l47 =>
    Option.bind (m_sortSp std l47) fun l48 =>
    Option.bind (loop (m_periodic_spread_L3 std l48) (0, ([] : List (Int × Int)))) fun l54 =>
    (some l54)) : Option (List (Int × Int))) := rfl
theorem m_periodic_combine_1_eq (n_1 : Int) (l_1 : List (Int × Int)) : m_periodic_combine_1 std n_1 l_1 =
((grd (okNz 2) <|
  grd (okI .i64 ((Int.tdiv n_1 2))) <|
  bif (decide ((((List.length l_1) : Nat) : Int) ≤ (Int.tdiv n_1 2))) then
    (some (0, false))
  else
    bif ((Int.tmod n_1 2) == 0) then
      grd (okIdx ((Int.tdiv n_1 2)) ((List.length l_1))) <|
      grd (okKin ((Int.toNat (Int.tdiv n_1 2))) ((List.length l_1))) <|
      (some ((List.getD l_1 (Int.toNat (Int.tdiv n_1 2)) (0, 0)).1, true))
    else
      grd (okIdx ((Int.tdiv n_1 2)) ((List.length l_1))) <|
      grd (okKin ((Int.toNat (Int.tdiv n_1 2))) ((List.length l_1))) <|
      (some ((List.getD l_1 (Int.toNat (Int.tdiv n_1 2)) (0, 0)).2, true))) : Option (Int × Bool)) := rfl
theorem m_periodic_Union_1_eq (a_1 : Bool) (b_1 : Bool) : m_periodic_Union_1 std a_1 b_1 =
((Option.bind (
    bif a_1 then
      (some true)
    else
      (some b_1) : Option ((Bool))) fun x79 =>
  (some x79)) : Option (Bool)) := rfl
theorem m_periodic_combine_L1_eq (a_1 : List (Int × Int)) (b_1 : List (Int × Int)) (i4 : Int) (k4 : Int) (l61 : List (Int × Int)) : m_periodic_combine_L1 std a_1 b_1 (i4, k4, l61) =
((Option.bind (m_periodic_combine_1 std i4 a_1) fun (n25, b18) =>
  Option.bind (m_periodic_combine_1 std k4 b_1) fun (n26, b19) =>
  Option.bind (
    bif (!b18) then
      (some (!b19))
    else
      (some false) : Option ((Bool))) fun x89 =>
  bif x89 then
    (some (Sum.inr l61))
  else
    Option.bind (
      bif (!b18) then
        (some (b19, true))
      else
        bif b19 then
          (some (true, (decide (n26 < n25))))
        else
          (some (false, false)) : Option ((Bool × Bool))) fun (is6, x92) =>
    Option.bind (
      bif x92 then
        (some n26)
      else
        (some n25) : Option ((Int))) fun at6 =>
    grd (okNz 2) <|
    Option.bind (m_periodic_Union_1 std (((Int.tmod i4 2) == 1)) (((Int.tmod k4 2) == 1))) fun b20 =>
    Option.bind (
      bif b18 then
        (some (n25 == at6))
      else
        (some false) : Option ((Bool))) fun x94 =>
    Option.bind (
      bif x94 then
        grd (okI .i64 ((i4 + 1))) <|
        (some (i4 + 1))
      else
        (some i4) : Option ((Int))) fun i6 =>
    Option.bind (
      bif is6 then
        (some (n26 == at6))
      else
        (some false) : Option ((Bool))) fun x96 =>
    Option.bind (
      bif x96 then
        grd (okI .i64 ((k4 + 1))) <|
        (some (k4 + 1))
      else
        (some k4) : Option ((Int))) fun k6 =>
    Option.bind (m_periodic_Union_1 std (((Int.tmod i6 2) == 1)) (((Int.tmod k6 2) == 1))) fun b21 =>
    Option.bind (
      bif (!b20) then
        (some b21)
      else
        (some false) : Option ((Bool))) fun x98 =>
    Option.bind (
      bif x98 then
        grd (okRoom ((List.length l61))) <|
        grd (okRoom ((List.length [(at6, 0)]))) <|
        (some (l61 ++ [(at6, 0)]))
      else
        Option.bind (
          bif b20 then
            (some (!b21))
          else
            (some false) : Option ((Bool))) fun x100 =>
        Option.bind (
          bif x100 then
            grd (okI .i64 (((((List.length l61) : Nat) : Int) - 1))) <|
            grd (okIdx (((((List.length l61) : Nat) : Int) - 1)) ((List.length l61))) <|
            grd (okKin ((Int.toNat ((((List.length l61) : Nat) : Int) - 1))) ((List.length l61))) <|
            (some (List.set l61 (Int.toNat ((((List.length l61) : Nat) : Int) - 1)) ((List.getD l61 (Int.toNat ((((List.length l61) : Nat) : Int) - 1)) (0, 0)).1, at6)))
          else
            (some l61) : Option ((List (Int × Int)))) fun l63 =>
        (some l63) : Option ((List (Int × Int)))) fun l65 =>
    (some (Sum.inl (i6, k6, l65)))) : Option ((Int × Int × List (Int × Int)) ⊕ (List (Int × Int)))) := rfl
theorem m_periodic_combine_eq (a_1 : List (Int × Int)) (b_1 : List (Int × Int)) : m_periodic_combine std a_1 b_1 =
((Option.bind (loop (m_periodic_combine_L1 std a_1 b_1) (0, 0, ([] : List (Int × Int)))) fun l66 =>
  (some l66)) : Option (List (Int × Int))) := rfl
theorem m_periodic_both_eq (a_1 : Int) (b_1 : Int) (a_2 : List (Int × Int)) (b_2 : List (Int × Int)) : m_periodic_both std a_1 b_1 a_2 b_2 =
((Option.bind (
    Option.bind (m_periodic_Valid std a_1 a_2) fun b11 =>
    bif (!b11) then
      (some true)
    else
      Option.bind (m_periodic_Valid std b_1 b_2) fun b12 =>
      (some (!b12)) : Option ((Bool))) fun x46 =>
  bif x46 then
    (some (0, ([] : List (Int × Int)), 1))
  else
    Option.bind (m_integer_Lcm std a_1 b_1) fun (n21, n22) =>
    Option.bind (
      bif (!(n22 == 0)) then
        (some true)
      else
        (some (decide (12622780800 < n21))) : Option ((Bool))) fun x58 =>
    bif x58 then
      (some (0, ([] : List (Int × Int)), 9))
    else
      grd (okNz a_1) <|
      grd (okI .i64 ((Int.tdiv n21 a_1))) <|
      grd (okI .i64 (((Int.tdiv n21 a_1) * (((List.length a_2) : Nat) : Int)))) <|
      grd (okNz b_1) <|
      grd (okI .i64 ((Int.tdiv n21 b_1))) <|
      grd (okI .i64 (((Int.tdiv n21 b_1) * (((List.length b_2) : Nat) : Int)))) <|
      grd (okI .i64 ((((Int.tdiv n21 a_1) * (((List.length a_2) : Nat) : Int)) + ((Int.tdiv n21 b_1) * (((List.length b_2) : Nat) : Int))))) <|
      bif (decide (2000 < (((Int.tdiv n21 a_1) * (((List.length a_2) : Nat) : Int)) + ((Int.tdiv n21 b_1) * (((List.length b_2) : Nat) : Int))))) then
        (some (0, ([] : List (Int × Int)), 5))
      else
        Option.bind (m_periodic_spread std a_1 n21 a_2) fun l55 =>
        Option.bind (m_periodic_spread std b_1 n21 b_2) fun l56 =>
        Option.bind (m_periodic_combine std l55 l56) fun l67 =>
        Option.bind (m_periodic_limited std n21 l67) fun (n27, l68, n28) =>
        (some (n27, l68, n28))) : Option (Int × List (Int × Int) × Int)) := rfl
theorem m_periodic_Union_eq (a_1 : Int) (b_1 : Int) (a_2 : List (Int × Int)) (b_2 : List (Int × Int)) : m_periodic_Union std a_1 b_1 a_2 b_2 =
((Option.bind (m_periodic_both std a_1 b_1 a_2 b_2) fun (n29, l69, n30) =>
  (some (n29, l69, n30))) : Option (Int × List (Int × Int) × Int)) := rfl
theorem m_ref13_Same_L1_eq (a_1 : List (Int × Int)) (b_1 : List (Int × Int)) (i7 : Int) : m_ref13_Same_L1 std a_1 b_1 i7 =
((bif (decide (i7 < (((List.length a_1) : Nat) : Int))) then
    grd (okIdx i7 ((List.length a_1))) <|
    grd (okKin ((Int.toNat i7)) ((List.length a_1))) <|
    grd (okIdx i7 ((List.length b_1))) <|
    grd (okKin ((Int.toNat i7)) ((List.length b_1))) <|
    bif (!(((List.getD a_1 (Int.toNat i7) (0, 0)).1 == (List.getD b_1 (Int.toNat i7) (0, 0)).1) && ((List.getD a_1 (Int.toNat i7) (0, 0)).2 == (List.getD b_1 (Int.toNat i7) (0, 0)).2))) then
      (some (Sum.inr (Sum.inl ())))
    else
      grd (okI .i64 ((i7 + 1))) <|
      (some (Sum.inl (i7 + 1)))
  else
    (some (Sum.inr (Sum.inr ())))) : Option ((Int) ⊕ ((Unit) ⊕ (Unit)))) := rfl
theorem m_ref13_Same_eq (a_1 : List (Int × Int)) (b_1 : List (Int × Int)) : m_ref13_Same std a_1 b_1 =
((bif (!((((List.length a_1) : Nat) : Int) == (((List.length b_1) : Nat) : Int))) then
    (some false)
  else
    Option.bind (loop (m_ref13_Same_L1 std a_1 b_1) 0) fun e => match e with
    | .inl _ =>
      (some false)
    | .inr (_) =>
      (some true)) : Option (Bool)) := rfl
theorem m_ref13_Equal_eq (a_1 : Int) (b_1 : Int) (a_2 : List (Int × Int)) (b_2 : List (Int × Int)) : m_ref13_Equal std a_1 b_1 a_2 b_2 =
((Option.bind (
    bif (a_1 == b_1) then
      Option.bind (m_ref13_Same std a_2 b_2) fun b22 =>
      (some b22)
    else
      (some false) : Option ((Bool))) fun x102 =>
  (some x102)) : Option (Bool)) := rfl
theorem m_law13_awake_eq : m_law13_awake std =
((Option.bind (m_periodic_Of std 14 ([(0, 2), (7, 9)])) fun (n10, l38, n11) =>
  Option.bind (m_law13_set std 2 ([(0, 1)])) fun n12 =>
  Option.bind (m_law13_set std 3 ([(0, 1)])) fun n13 =>
  Option.bind (m_periodic_Union std n12 n13 ([(0, 1)]) ([(0, 1)])) fun (n31, l70, n32) =>
  Option.bind (
    bif (n11 == 0) then
      Option.bind (m_law13_set std 7 ([(0, 2)])) fun n33 =>
      Option.bind (m_ref13_Equal std n10 n33 l38 ([(0, 2)])) fun b23 =>
      bif b23 then
        bif (n32 == 0) then
          Option.bind (m_law13_set std 6 ([(0, 1), (2, 5)])) fun n34 =>
          Option.bind (m_ref13_Equal std n31 n34 l70 ([(0, 1), (2, 5)])) fun b24 =>
          (some b24)
        else
          (some false)
      else
        (some false)
    else
      (some false) : Option ((Bool))) fun x106 =>
  (some x106)) : Option (Bool)) := rfl
theorem m_ref13_Span_eq (s_1 : Int) (s_2 : Int) : m_ref13_Span std s_1 s_2 =
((Option.bind (
    bif (decide ((-4398046511104) ≤ s_1)) then
      bif (decide (s_2 ≤ 4398046511104)) then
        (some (decide (s_1 < s_2)))
      else
        (some false)
    else
      (some false) : Option ((Bool))) fun x113 =>
  (some x113)) : Option (Bool)) := rfl
theorem m_ref01_Div_eq (a_1 : Int) (b_1 : Int) : m_ref01_Div std a_1 b_1 =
((bif (b_1 == 0) then
    (some (0, 0, 10))
  else
    Option.bind (
      bif (a_1 == (-9223372036854775808)) then
        (some (b_1 == (-1)))
      else
        (some false) : Option ((Bool))) fun x115 =>
    bif x115 then
      (some (0, 0, 9))
    else
      grd (okNz b_1) <|
      grd (okI .i64 ((Int.tdiv a_1 b_1))) <|
      Option.bind (
        bif (!((Int.tmod a_1 b_1) == 0)) then
          (some (!((decide ((Int.tmod a_1 b_1) < 0)) == (decide (b_1 < 0)))))
        else
          (some false) : Option ((Bool))) fun x117 =>
      Option.bind (
        bif x117 then
          grd (okI .i64 (((Int.tdiv a_1 b_1) - 1))) <|
          grd (okI .i64 (((Int.tmod a_1 b_1) + b_1))) <|
          (some (((Int.tdiv a_1 b_1) - 1), ((Int.tmod a_1 b_1) + b_1)))
        else
          (some ((Int.tdiv a_1 b_1), (Int.tmod a_1 b_1))) : Option ((Int × Int))) fun (q5, r4) =>
      (some (q5, r4, 0))) : Option (Int × Int × Int)) := rfl
theorem m_ref01_Mod_eq (a_1 : Int) (b_1 : Int) : m_ref01_Mod std a_1 b_1 =
((Option.bind (m_ref01_Div std a_1 b_1) fun (_, n38, _) =>
  (some n38)) : Option (Int)) := rfl
theorem m_ref13_ends_L1_eq (a_1 : List (Int × Int)) (i13 : Int) (l84 : List Int) : m_ref13_ends_L1 std a_1 (i13, l84) =
((bif (decide (i13 < (((List.length a_1) : Nat) : Int))) then
    grd (okIdx i13 ((List.length a_1))) <|
    grd (okKin ((Int.toNat i13)) ((List.length a_1))) <|
    grd (okRoom ((List.length l84))) <|
    grd (okRoom ((List.length [(List.getD a_1 (Int.toNat i13) (0, 0)).1, (List.getD a_1 (Int.toNat i13) (0, 0)).2]))) <|
    grd (okI .i64 ((i13 + 1))) <|
    (some (Sum.inl ((i13 + 1), (l84 ++ [(List.getD a_1 (Int.toNat i13) (0, 0)).1, (List.getD a_1 (Int.toNat i13) (0, 0)).2]))))
  else
    (some (Sum.inr l84))) : Option ((Int × List Int) ⊕ (List Int))) := rfl
theorem m_ref13_ends_L2_eq (b_1 : List (Int × Int)) (i15 : Int) (l86 : List Int) : m_ref13_ends_L2 std b_1 (i15, l86) =
((bif (decide (i15 < (((List.length b_1) : Nat) : Int))) then
    grd (okIdx i15 ((List.length b_1))) <|
    grd (okKin ((Int.toNat i15)) ((List.length b_1))) <|
    grd (okRoom ((List.length l86))) <|
    grd (okRoom ((List.length [(List.getD b_1 (Int.toNat i15) (0, 0)).1, (List.getD b_1 (Int.toNat i15) (0, 0)).2]))) <|
    grd (okI .i64 ((i15 + 1))) <|
    (some (Sum.inl ((i15 + 1), (l86 ++ [(List.getD b_1 (Int.toNat i15) (0, 0)).1, (List.getD b_1 (Int.toNat i15) (0, 0)).2]))))
  else
    (some (Sum.inr l86))) : Option ((Int × List Int) ⊕ (List Int))) := rfl
theorem m_ref13_ends_L3_eq (l85 : List Int) (l87 : List Int) (i19 : Int) (k10 : Int) (l90 : List Int) : m_ref13_ends_L3 std l85 l87 (i19, k10, l90) =
((Option.bind (
    bif (decide (i19 < (((List.length l85) : Nat) : Int))) then
      (some true)
    else
      (some (decide (k10 < (((List.length l87) : Nat) : Int)))) : Option ((Bool))) fun x124 =>
  bif x124 then
    Option.bind (
      bif (k10 == (((List.length l87) : Nat) : Int)) then
        (some true)
      else
        bif (decide (i19 < (((List.length l85) : Nat) : Int))) then
          grd (okIdx i19 ((List.length l85))) <|
          grd (okKin ((Int.toNat i19)) ((List.length l85))) <|
          grd (okIdx k10 ((List.length l87))) <|
          grd (okKin ((Int.toNat k10)) ((List.length l87))) <|
          (some (decide ((List.getD l85 (Int.toNat i19) 0) ≤ (List.getD l87 (Int.toNat k10) 0))))
        else
          (some false) : Option ((Bool))) fun x127 =>
    Option.bind (
      bif x127 then
        grd (okIdx i19 ((List.length l85))) <|
        grd (okKin ((Int.toNat i19)) ((List.length l85))) <|
        grd (okRoom ((List.length l90))) <|
        grd (okRoom ((List.length [(List.getD l85 (Int.toNat i19) 0)]))) <|
        grd (okI .i64 ((i19 + 1))) <|
        (some ((i19 + 1), k10, (l90 ++ [(List.getD l85 (Int.toNat i19) 0)])))
      else
        grd (okIdx k10 ((List.length l87))) <|
        grd (okKin ((Int.toNat k10)) ((List.length l87))) <|
        grd (okRoom ((List.length l90))) <|
        grd (okRoom ((List.length [(List.getD l87 (Int.toNat k10) 0)]))) <|
        grd (okI .i64 ((k10 + 1))) <|
        (some (i19, (k10 + 1), (l90 ++ [(List.getD l87 (Int.toNat k10) 0)]))) : Option ((Int × Int × List Int))) fun (i21, k12, l92) =>
    (some (Sum.inl (i21, k12, l92)))
  else
    (some (Sum.inr l90))) : Option ((Int × Int × List Int) ⊕ (List Int))) := rfl
theorem m_ref13_ends_eq (a_1 : List (Int × Int)) (b_1 : List (Int × Int)) : m_ref13_ends std a_1 b_1 =
((Option.bind (loop (m_ref13_ends_L1 std a_1) (0, ([] : List Int))) fun l85 =>
  Option.bind (loop (m_ref13_ends_L2 std b_1) (0, ([] : List Int))) fun l87 =>
  Option.bind (loop (m_ref13_ends_L3 std l85 l87) (0, 0, ([] : List Int))) fun l93 =>
  (some l93)) : Option (List Int)) := rfl
theorem m_ref13_rule_eq (kind_1 : Int) (a_1 : Bool) (b_1 : Bool) : m_ref13_rule std kind_1 a_1 b_1 =
((bif (kind_1 == 0) then
    Option.bind (
      bif a_1 then
        (some true)
      else
        (some b_1) : Option ((Bool))) fun x135 =>
    (some x135)
  else
    bif (kind_1 == 1) then
      Option.bind (
        bif a_1 then
          (some b_1)
        else
          (some false) : Option ((Bool))) fun x137 =>
      (some x137)
    else
      Option.bind (
        bif a_1 then
          (some (!b_1))
        else
          (some false) : Option ((Bool))) fun x139 =>
      (some x139)) : Option (Bool)) := rfl
theorem m_ref13_Lists_L1_eq (a_1 : List (Int × Int)) (c2 : Int) (l94 : List Int) (i27 : Int) : m_ref13_Lists_L1 std a_1 c2 l94 i27 =
((Option.bind (
    bif (decide (i27 < (((List.length a_1) : Nat) : Int))) then
      grd (okIdx i27 ((List.length a_1))) <|
      grd (okKin ((Int.toNat i27)) ((List.length a_1))) <|
      (some (decide ((List.getD a_1 (Int.toNat i27) (0, 0)).2 ≤ (List.getD l94 (Int.toNat c2) 0))))
    else
      (some false) : Option ((Bool))) fun x147 =>
  bif x147 then
    grd (okI .i64 ((i27 + 1))) <|
    (some (Sum.inl (i27 + 1)))
  else
    (some (Sum.inr i27))) : Option ((Int) ⊕ (Int))) := rfl
theorem m_ref13_Lists_L2_eq (b_1 : List (Int × Int)) (c2 : Int) (l94 : List Int) (k17 : Int) : m_ref13_Lists_L2 std b_1 c2 l94 k17 =
((Option.bind (
    bif (decide (k17 < (((List.length b_1) : Nat) : Int))) then
      grd (okIdx k17 ((List.length b_1))) <|
      grd (okKin ((Int.toNat k17)) ((List.length b_1))) <|
      (some (decide ((List.getD b_1 (Int.toNat k17) (0, 0)).2 ≤ (List.getD l94 (Int.toNat c2) 0))))
    else
      (some false) : Option ((Bool))) fun x149 =>
  bif x149 then
    grd (okI .i64 ((k17 + 1))) <|
    (some (Sum.inl (k17 + 1)))
  else
    (some (Sum.inr k17))) : Option ((Int) ⊕ (Int))) := rfl
theorem m_ref13_Lists_L3_eq (a_1 : List (Int × Int)) (b_1 : List (Int × Int)) (kind_1 : Int) (l94 : List Int) (i26 : Int) (k16 : Int) (c2 : Int) (l97 : List (Int × Int)) : m_ref13_Lists_L3 std a_1 b_1 kind_1 l94 (i26, k16, c2, l97) =
((grd (okI .i64 ((c2 + 1))) <|
  bif (decide ((c2 + 1) < (((List.length l94) : Nat) : Int))) then
    grd (okIdx c2 ((List.length l94))) <|
    grd (okKin ((Int.toNat c2)) ((List.length l94))) <|
    grd (okIdx ((c2 + 1)) ((List.length l94))) <|
    grd (okKin ((Int.toNat (c2 + 1))) ((List.length l94))) <|
    bif ((List.getD l94 (Int.toNat c2) 0) == (List.getD l94 (Int.toNat (c2 + 1)) 0)) then
      (some (Sum.inl (i26, k16, (c2 + 1), l97)))
    else
      Option.bind (loop (m_ref13_Lists_L1 std a_1 c2 l94) i26) fun i28 =>
      Option.bind (loop (m_ref13_Lists_L2 std b_1 c2 l94) k16) fun k18 =>
      Option.bind (
        bif (decide (i28 < (((List.length a_1) : Nat) : Int))) then
          bif (decide (k18 < (((List.length b_1) : Nat) : Int))) then
            grd (okIdx i28 ((List.length a_1))) <|
            grd (okKin ((Int.toNat i28)) ((List.length a_1))) <|
            grd (okIdx k18 ((List.length b_1))) <|
            grd (okKin ((Int.toNat k18)) ((List.length b_1))) <|
            Option.bind (m_ref13_rule std kind_1 ((decide ((List.getD a_1 (Int.toNat i28) (0, 0)).1 ≤ (List.getD l94 (Int.toNat c2) 0)))) ((decide ((List.getD b_1 (Int.toNat k18) (0, 0)).1 ≤ (List.getD l94 (Int.toNat c2) 0))))) fun b32 =>
            (some (!b32))
          else
            grd (okIdx i28 ((List.length a_1))) <|
            grd (okKin ((Int.toNat i28)) ((List.length a_1))) <|
            Option.bind (m_ref13_rule std kind_1 ((decide ((List.getD a_1 (Int.toNat i28) (0, 0)).1 ≤ (List.getD l94 (Int.toNat c2) 0)))) false) fun b33 =>
            (some (!b33))
        else
          bif (decide (k18 < (((List.length b_1) : Nat) : Int))) then
            grd (okIdx k18 ((List.length b_1))) <|
            grd (okKin ((Int.toNat k18)) ((List.length b_1))) <|
            Option.bind (m_ref13_rule std kind_1 false ((decide ((List.getD b_1 (Int.toNat k18) (0, 0)).1 ≤ (List.getD l94 (Int.toNat c2) 0))))) fun b34 =>
            (some (!b34))
          else
            Option.bind (m_ref13_rule std kind_1 false false) fun b35 =>
            (some (!b35)) : Option ((Bool))) fun x153 =>
      bif x153 then
        (some (Sum.inl (i28, k18, (c2 + 1), l97)))
      else
        Option.bind (
          bif (decide (0 < (((List.length l97) : Nat) : Int))) then
            grd (okI .i64 (((((List.length l97) : Nat) : Int) - 1))) <|
            grd (okIdx (((((List.length l97) : Nat) : Int) - 1)) ((List.length l97))) <|
            grd (okKin ((Int.toNat ((((List.length l97) : Nat) : Int) - 1))) ((List.length l97))) <|
            (some ((List.getD l97 (Int.toNat ((((List.length l97) : Nat) : Int) - 1)) (0, 0)).2 == (List.getD l94 (Int.toNat c2) 0)))
          else
            (some false) : Option ((Bool))) fun x155 =>
        Option.bind (
          bif x155 then
            grd (okI .i64 (((((List.length l97) : Nat) : Int) - 1))) <|
            grd (okIdx (((((List.length l97) : Nat) : Int) - 1)) ((List.length l97))) <|
            grd (okKin ((Int.toNat ((((List.length l97) : Nat) : Int) - 1))) ((List.length l97))) <|
            (some (List.set l97 (Int.toNat ((((List.length l97) : Nat) : Int) - 1)) ((List.getD l97 (Int.toNat ((((List.length l97) : Nat) : Int) - 1)) (0, 0)).1, (List.getD l94 (Int.toNat (c2 + 1)) 0))))
          else
            grd (okRoom ((List.length l97))) <|
            grd (okRoom ((List.length [((List.getD l94 (Int.toNat c2) 0), (List.getD l94 (Int.toNat (c2 + 1)) 0))]))) <|
            (some (l97 ++ [((List.getD l94 (Int.toNat c2) 0), (List.getD l94 (Int.toNat (c2 + 1)) 0))])) : Option ((List (Int × Int)))) fun l99 =>
        (some (Sum.inl (i28, k18, (c2 + 1), l99)))
  else
    (some (Sum.inr l97))) : Option ((Int × Int × Int × List (Int × Int)) ⊕ (List (Int × Int)))) := rfl
theorem m_ref13_Lists_eq (kind_1 : Int) (a_1 : List (Int × Int)) (b_1 : List (Int × Int)) : m_ref13_Lists std kind_1 a_1 b_1 =
((Option.bind (m_ref13_ends std a_1 b_1) fun l94 =>
  Option.bind (loop (m_ref13_Lists_L3 std a_1 b_1 kind_1 l94) (0, 0, 0, ([] : List (Int × Int)))) fun l100 =>
  (some l100)) : Option (List (Int × Int))) := rfl
theorem m_ref13_rotated_L1_eq (l_1 : List (Int × Int)) (n41 : Int) (period_1 : Int) (i11 : Int) (l76 : List (Int × Int)) (l77 : List (Int × Int)) : m_ref13_rotated_L1 std l_1 n41 period_1 (i11, l76, l77) =
((bif (decide (i11 < (((List.length l_1) : Nat) : Int))) then
    grd (okIdx i11 ((List.length l_1))) <|
    grd (okKin ((Int.toNat i11)) ((List.length l_1))) <|
    grd (okI .i64 (((List.getD l_1 (Int.toNat i11) (0, 0)).1 + n41))) <|
    grd (okI .i64 (((List.getD l_1 (Int.toNat i11) (0, 0)).2 + n41))) <|
    Option.bind (
      bif (decide (((List.getD l_1 (Int.toNat i11) (0, 0)).1 + n41) < period_1)) then
        grd (okRoom ((List.length l77))) <|
        grd (okRoom ((List.length [(((List.getD l_1 (Int.toNat i11) (0, 0)).1 + n41), (mi ((List.getD l_1 (Int.toNat i11) (0, 0)).2 + n41) period_1))]))) <|
        (some (l77 ++ [(((List.getD l_1 (Int.toNat i11) (0, 0)).1 + n41), (mi ((List.getD l_1 (Int.toNat i11) (0, 0)).2 + n41) period_1))]))
      else
        (some l77) : Option ((List (Int × Int)))) fun l79 =>
    Option.bind (
      bif (decide (period_1 < ((List.getD l_1 (Int.toNat i11) (0, 0)).2 + n41))) then
        grd (okI .i64 (((ma ((List.getD l_1 (Int.toNat i11) (0, 0)).1 + n41) period_1) - period_1))) <|
        grd (okI .i64 ((((List.getD l_1 (Int.toNat i11) (0, 0)).2 + n41) - period_1))) <|
        grd (okRoom ((List.length l76))) <|
        grd (okRoom ((List.length [(((ma ((List.getD l_1 (Int.toNat i11) (0, 0)).1 + n41) period_1) - period_1), (((List.getD l_1 (Int.toNat i11) (0, 0)).2 + n41) - period_1))]))) <|
        (some (l76 ++ [(((ma ((List.getD l_1 (Int.toNat i11) (0, 0)).1 + n41) period_1) - period_1), (((List.getD l_1 (Int.toNat i11) (0, 0)).2 + n41) - period_1))]))
      else
        (some l76) : Option ((List (Int × Int)))) fun l81 =>
    grd (okI .i64 ((i11 + 1))) <|
    (some (Sum.inl ((i11 + 1), l81, l79)))
  else
    (some (Sum.inr (l76, l77)))) : Option ((Int × List (Int × Int) × List (Int × Int)) ⊕ (List (Int × Int) × List (Int × Int)))) := rfl
theorem m_ref13_rotated_eq (period_1 : Int) (n_1 : Int) (l_1 : List (Int × Int)) : m_ref13_rotated std period_1 n_1 l_1 =
((Option.bind (m_ref01_Mod std n_1 period_1) fun n41 =>
  bif (n41 == 0) then
    (some (Sum.inl ()))
  else
    Option.bind (loop (m_ref13_rotated_L1 std l_1 n41 period_1) (0, ([] : List (Int × Int)), ([] : List (Int × Int)))) fun (l82, l83) =>
    Option.bind (m_ref13_Lists std 0 l82 l83) fun l101 =>
    (some (Sum.inr l101))) : Option (((Unit) ⊕ (List (Int × Int))))) := rfl
theorem m_ref13_Same_2_L1_eq (a_1 : List (Int × Int)) (i30 : Int) : m_ref13_Same_2_L1 std a_1 i30 =
((bif (decide (i30 < (((List.length a_1) : Nat) : Int))) then
    grd (okIdx i30 ((List.length a_1))) <|
    grd (okKin ((Int.toNat i30)) ((List.length a_1))) <|
    bif (!(((List.getD a_1 (Int.toNat i30) (0, 0)).1 == (List.getD a_1 (Int.toNat i30) (0, 0)).1) && ((List.getD a_1 (Int.toNat i30) (0, 0)).2 == (List.getD a_1 (Int.toNat i30) (0, 0)).2))) then
      (some (Sum.inr (Sum.inl ())))
    else
      grd (okI .i64 ((i30 + 1))) <|
      (some (Sum.inl (i30 + 1)))
  else
    (some (Sum.inr (Sum.inr ())))) : Option ((Int) ⊕ ((Unit) ⊕ (Unit)))) := rfl
theorem m_ref13_Same_2_eq (a_1 : List (Int × Int)) : m_ref13_Same_2 std a_1 =
((bif (!((((List.length a_1) : Nat) : Int) == (((List.length a_1) : Nat) : Int))) then
    (some false)
  else
    Option.bind (loop (m_ref13_Same_2_L1 std a_1) 0) fun e => match e with
    | .inl _ =>
      (some false)
    | .inr (_) =>
      (some true)) : Option (Bool)) := rfl
theorem m_ref13_cut_L1_eq (l_1 : List (Int × Int)) (period_1 : Int) (i32 : Int) (l119 : List (Int × Int)) : m_ref13_cut_L1 std l_1 period_1 (i32, l119) =
((bif (decide (i32 < (((List.length l_1) : Nat) : Int))) then
    grd (okIdx i32 ((List.length l_1))) <|
    grd (okKin ((Int.toNat i32)) ((List.length l_1))) <|
    Option.bind (
      bif (decide ((List.getD l_1 (Int.toNat i32) (0, 0)).1 < period_1)) then
        grd (okRoom ((List.length l119))) <|
        grd (okRoom ((List.length [((List.getD l_1 (Int.toNat i32) (0, 0)).1, (mi (List.getD l_1 (Int.toNat i32) (0, 0)).2 period_1))]))) <|
        (some (l119 ++ [((List.getD l_1 (Int.toNat i32) (0, 0)).1, (mi (List.getD l_1 (Int.toNat i32) (0, 0)).2 period_1))]))
      else
        (some l119) : Option ((List (Int × Int)))) fun l121 =>
    grd (okI .i64 ((i32 + 1))) <|
    (some (Sum.inl ((i32 + 1), l121)))
  else
    (some (Sum.inr l119))) : Option ((Int × List (Int × Int)) ⊕ (List (Int × Int)))) := rfl
theorem m_ref13_cut_eq (period_1 : Int) (l_1 : List (Int × Int)) : m_ref13_cut std period_1 l_1 =
((Option.bind (loop (m_ref13_cut_L1 std l_1 period_1) (0, ([] : List (Int × Int)))) fun l122 =>
  (some (period_1, l122))) : Option (Int × List (Int × Int))) := rfl
theorem m_ref13_Least_L1_eq (l_1 : List (Int × Int)) (period_1 : Int) (q6 : Int) : m_ref13_Least_L1 std l_1 period_1 q6 =
((grd (okI .i64 ((q6 * q6))) <|
  bif (decide ((q6 * q6) ≤ period_1)) then
    Option.bind (
      bif ((Int.tmod period_1 q6) == 0) then
        grd (okNz q6) <|
        Option.bind (m_ref13_rotated std period_1 q6 l_1) fun e => match e with
        | .inl _ =>
          Option.bind (m_ref13_Same_2 std l_1) fun b36 =>
          (some b36)
        | .inr (l116) =>
          Option.bind (m_ref13_Same std l116 l_1) fun b37 =>
          (some b37)
      else
        grd (okNz q6) <|
        (some false) : Option ((Bool))) fun x158 =>
    bif x158 then
      Option.bind (m_ref13_cut std q6 l_1) fun (n43, l123) =>
      (some (Sum.inr (Sum.inl (n43, l123))))
    else
      grd (okI .i64 ((q6 + 1))) <|
      (some (Sum.inl (q6 + 1)))
  else
    (some (Sum.inr (Sum.inr ())))) : Option ((Int) ⊕ ((Int × List (Int × Int)) ⊕ (Unit)))) := rfl
theorem m_ref13_Least_L2_eq (l_1 : List (Int × Int)) (period_1 : Int) (best6 : Int) (q7 : Int) : m_ref13_Least_L2 std l_1 period_1 (best6, q7) =
((grd (okI .i64 ((q7 * q7))) <|
  bif (decide ((q7 * q7) ≤ period_1)) then
    Option.bind (
      bif ((Int.tmod period_1 q7) == 0) then
        grd (okNz q7) <|
        grd (okI .i64 ((Int.tdiv period_1 q7))) <|
        Option.bind (m_ref13_rotated std period_1 ((Int.tdiv period_1 q7)) l_1) fun e => match e with
        | .inl _ =>
          Option.bind (m_ref13_Same_2 std l_1) fun b38 =>
          (some b38)
        | .inr (l125) =>
          Option.bind (m_ref13_Same std l125 l_1) fun b39 =>
          (some b39)
      else
        grd (okNz q7) <|
        (some false) : Option ((Bool))) fun x162 =>
    Option.bind (
      bif x162 then
        grd (okI .i64 ((Int.tdiv period_1 q7))) <|
        (some (Int.tdiv period_1 q7))
      else
        (some best6) : Option ((Int))) fun best8 =>
    grd (okI .i64 ((q7 + 1))) <|
    (some (Sum.inl (best8, (q7 + 1))))
  else
    (some (Sum.inr best6))) : Option ((Int × Int) ⊕ (Int))) := rfl
theorem m_ref13_Least_eq (period_1 : Int) (l_1 : List (Int × Int)) : m_ref13_Least std period_1 l_1 =
((Option.bind (loop (m_ref13_Least_L1 std l_1 period_1) 1) fun e => match e with
  | .inl (x159, l124) =>
    (some (x159, l124))
  | .inr (_) =>
    Option.bind (loop (m_ref13_Least_L2 std l_1 period_1) (period_1, 1)) fun best9 =>
    Option.bind (m_ref13_cut std best9 l_1) fun (n44, l126) =>
    (some (n44, l126))) : Option (Int × List (Int × Int))) := rfl
theorem m_ref13_limited_eq (p_1 : Int) (p_2 : List (Int × Int)) : m_ref13_limited std p_1 p_2 =
((bif (decide (2000 < (((List.length p_2) : Nat) : Int))) then
    (some (Sum.inl (0, 5)))
  else
    (some (Sum.inr (p_1, 0)))) : Option (((Int × Int) ⊕ (Int × Int)))) := rfl
theorem m_ref13_Of_L1_eq (l_1 : List (Int × Int)) (i8 : Int) : m_ref13_Of_L1 std l_1 i8 =
((bif (decide (i8 < (((List.length l_1) : Nat) : Int))) then
    grd (okIdx i8 ((List.length l_1))) <|
    grd (okKin ((Int.toNat i8)) ((List.length l_1))) <|
    Option.bind (m_ref13_Span std ((List.getD l_1 (Int.toNat i8) (0, 0)).1) ((List.getD l_1 (Int.toNat i8) (0, 0)).2)) fun b27 =>
    bif (!b27) then
      (some (Sum.inr (Sum.inl ())))
    else
      grd (okI .i64 ((i8 + 1))) <|
      (some (Sum.inl (i8 + 1)))
  else
    (some (Sum.inr (Sum.inr ())))) : Option ((Int) ⊕ ((Unit) ⊕ (Unit)))) := rfl
theorem m_ref13_Of_L2_eq (l_1 : List (Int × Int)) (period_1 : Int) (i29 : Int) (l108 : List (Int × Int)) : m_ref13_Of_L2 std l_1 period_1 (i29, l108) =
((bif (decide (i29 < (((List.length l_1) : Nat) : Int))) then
    grd (okIdx i29 ((List.length l_1))) <|
    grd (okKin ((Int.toNat i29)) ((List.length l_1))) <|
    grd (okI .i64 (((List.getD l_1 (Int.toNat i29) (0, 0)).2 - (List.getD l_1 (Int.toNat i29) (0, 0)).1))) <|
    Option.bind (
      bif (decide (((List.getD l_1 (Int.toNat i29) (0, 0)).2 - (List.getD l_1 (Int.toNat i29) (0, 0)).1) < period_1)) then
        Option.bind (m_ref01_Mod std ((List.getD l_1 (Int.toNat i29) (0, 0)).1) period_1) fun n42 =>
        Option.bind (
          Option.bind (m_ref13_rotated std period_1 n42 ([(0, ((List.getD l_1 (Int.toNat i29) (0, 0)).2 - (List.getD l_1 (Int.toNat i29) (0, 0)).1))])) fun e => match e with
          | .inl _ =>
            (some [(0, ((List.getD l_1 (Int.toNat i29) (0, 0)).2 - (List.getD l_1 (Int.toNat i29) (0, 0)).1))])
          | .inr (l109) =>
            (some l109) : Option ((List (Int × Int)))) fun l111 =>
        (some l111)
      else
        (some [(0, period_1)]) : Option ((List (Int × Int)))) fun l113 =>
    Option.bind (m_ref13_Lists std 0 l108 l113) fun l114 =>
    grd (okI .i64 ((i29 + 1))) <|
    (some (Sum.inl ((i29 + 1), l114)))
  else
    (some (Sum.inr l108))) : Option ((Int × List (Int × Int)) ⊕ (List (Int × Int)))) := rfl
theorem m_ref13_Of_eq (period_1 : Int) (l_1 : List (Int × Int)) : m_ref13_Of std period_1 l_1 =
((Option.bind (
    bif (decide (period_1 < 1)) then
      (some true)
    else
      (some (decide (12622780800 < period_1))) : Option ((Bool))) fun x110 =>
  bif x110 then
    (some (0, ([] : List (Int × Int)), 1))
  else
    Option.bind (loop (m_ref13_Of_L1 std l_1) 0) fun e => match e with
    | .inl _ =>
      (some (0, ([] : List (Int × Int)), 1))
    | .inr (_) =>
      bif (decide (2000 < (((List.length l_1) : Nat) : Int))) then
        (some (0, ([] : List (Int × Int)), 5))
      else
        Option.bind (loop (m_ref13_Of_L2 std l_1 period_1) (0, ([] : List (Int × Int)))) fun l115 =>
        Option.bind (
          Option.bind (m_ref13_Least std period_1 l115) fun (n45, l127) =>
          Option.bind (m_ref13_limited std n45 l127) fun e => match e with
          | .inl (n46, n47) =>
            (some (Sum.inl (n47, n46)))
          | .inr ((n48, n49)) =>
            (some (Sum.inr (n49, n48, l127))) : Option (((Int × Int) ⊕ (Int × Int × List (Int × Int))))) fun e => match e with
        | .inl (x165, x166) =>
          (some (x166, ([] : List (Int × Int)), x165))
        | .inr ((x167, x168, l128)) =>
          (some (x168, l128, x167))) : Option (Int × List (Int × Int) × Int)) := rfl
theorem m_slices_Equal_L1_eq (s1_1 : List (Int × Int)) (s2_1 : List (Int × Int)) (x169 : Int) : m_slices_Equal_L1 std s1_1 s2_1 x169 =
((bif (decide (x169 < (((List.length s1_1) : Nat) : Int))) then
    grd (okIdx x169 ((List.length s1_1))) <|
    grd (okKin ((Int.toNat x169)) ((List.length s1_1))) <|
    grd (okIdx x169 ((List.length s2_1))) <|
    grd (okKin ((Int.toNat x169)) ((List.length s2_1))) <|
    bif (!(((List.getD s1_1 (Int.toNat x169) (0, 0)).1 == (List.getD s2_1 (Int.toNat x169) (0, 0)).1) && ((List.getD s1_1 (Int.toNat x169) (0, 0)).2 == (List.getD s2_1 (Int.toNat x169) (0, 0)).2))) then
      (some (Sum.inr (Sum.inl ())))
    else
      grd (okI .i64 ((x169 + 1))) <|
      (some (Sum.inl (x169 + 1)))
  else
    (some (Sum.inr (Sum.inr ())))) : Option ((Int) ⊕ ((Unit) ⊕ (Unit)))) := rfl
theorem m_slices_Equal_eq (s1_1 : List (Int × Int)) (s2_1 : List (Int × Int)) : m_slices_Equal std s1_1 s2_1 =
((bif (!((((List.length s1_1) : Nat) : Int) == (((List.length s2_1) : Nat) : Int))) then
    (some false)
  else
    Option.bind (loop (m_slices_Equal_L1 std s1_1 s2_1) 0) fun e => match e with
    | .inl _ =>
      (some false)
    | .inr (_) =>
      (some true)) : Option (Bool)) := rfl
theorem m_law13_PeriodicOf_eq (period_1 : Int) (l_1 : List (Int × Int)) : m_law13_PeriodicOf std period_1 l_1 =
((Option.bind (
    Option.bind (m_law13_awake std) fun b25 =>
    bif (!b25) then
      (some true)
    else
      (some (decide (40 < (((List.length l_1) : Nat) : Int)))) : Option ((Bool))) fun x108 =>
  bif x108 then
    Option.bind (m_law13_awake std) fun b26 =>
    (some b26)
  else
    Option.bind (m_periodic_Of std period_1 l_1) fun (n35, l71, n36) =>
    Option.bind (m_ref13_Of std period_1 l_1) fun (n50, l129, n51) =>
    Option.bind (
      bif (n36 == n51) then
        bif (n35 == n50) then
          Option.bind (m_slices_Equal std l71 l129) fun b40 =>
          (some b40)
        else
          (some false)
      else
        (some false) : Option ((Bool))) fun x172 =>
    (some x172)) : Option (Bool)) := rfl
theorem m_law13_long_eq (p_1 : Int) (p_2 : List (Int × Int)) : m_law13_long std p_1 p_2 =
(((some (decide (40 < (((List.length p_2) : Nat) : Int))))) : Option (Bool)) := rfl
theorem m_ref13_Runs_L1_eq (l_1 : List (Int × Int)) (i33 : Int) : m_ref13_Runs_L1 std l_1 i33 =
((bif (decide (i33 < (((List.length l_1) : Nat) : Int))) then
    Option.bind (
      grd (okIdx i33 ((List.length l_1))) <|
      grd (okKin ((Int.toNat i33)) ((List.length l_1))) <|
      Option.bind (m_ref13_Span std ((List.getD l_1 (Int.toNat i33) (0, 0)).1) ((List.getD l_1 (Int.toNat i33) (0, 0)).2)) fun b45 =>
      bif (!b45) then
        (some true)
      else
        bif (decide (0 < i33)) then
          grd (okI .i64 ((i33 - 1))) <|
          grd (okIdx ((i33 - 1)) ((List.length l_1))) <|
          grd (okKin ((Int.toNat (i33 - 1))) ((List.length l_1))) <|
          (some (decide ((List.getD l_1 (Int.toNat i33) (0, 0)).1 ≤ (List.getD l_1 (Int.toNat (i33 - 1)) (0, 0)).2)))
        else
          (some false) : Option ((Bool))) fun x177 =>
    bif x177 then
      (some (Sum.inr (Sum.inl ())))
    else
      grd (okI .i64 ((i33 + 1))) <|
      (some (Sum.inl (i33 + 1)))
  else
    (some (Sum.inr (Sum.inr ())))) : Option ((Int) ⊕ ((Unit) ⊕ (Unit)))) := rfl
theorem m_ref13_Runs_eq (l_1 : List (Int × Int)) : m_ref13_Runs std l_1 =
((Option.bind (loop (m_ref13_Runs_L1 std l_1) 0) fun e => match e with
  | .inl _ =>
    (some false)
  | .inr (_) =>
    (some true)) : Option (Bool)) := rfl
theorem m_ref13_Valid_eq (p_1 : Int) (p_2 : List (Int × Int)) : m_ref13_Valid std p_1 p_2 =
((Option.bind (
    bif (decide (p_1 < 1)) then
      (some true)
    else
      bif (decide (12622780800 < p_1)) then
        (some true)
      else
        bif (decide (2000 < (((List.length p_2) : Nat) : Int))) then
          (some true)
        else
          Option.bind (m_ref13_Runs std p_2) fun b46 =>
          (some (!b46)) : Option ((Bool))) fun x179 =>
  bif x179 then
    (some false)
  else
    Option.bind (
      bif (decide (0 < (((List.length p_2) : Nat) : Int))) then
        bif (decide ((List.getD p_2 (Int.toNat 0) (0, 0)).1 < 0)) then
          grd (okIdx 0 ((List.length p_2))) <|
          grd (okKin ((Int.toNat 0)) ((List.length p_2))) <|
          (some true)
        else
          grd (okIdx 0 ((List.length p_2))) <|
          grd (okKin ((Int.toNat 0)) ((List.length p_2))) <|
          grd (okI .i64 (((((List.length p_2) : Nat) : Int) - 1))) <|
          grd (okIdx (((((List.length p_2) : Nat) : Int) - 1)) ((List.length p_2))) <|
          grd (okKin ((Int.toNat ((((List.length p_2) : Nat) : Int) - 1))) ((List.length p_2))) <|
          (some (decide (p_1 < (List.getD p_2 (Int.toNat ((((List.length p_2) : Nat) : Int) - 1)) (0, 0)).2)))
      else
        (some false) : Option ((Bool))) fun x182 =>
    bif x182 then
      (some false)
    else
      Option.bind (m_ref13_Least std p_1 p_2) fun (n52, _) =>
      (some (n52 == p_1))) : Option (Bool)) := rfl
theorem m_periodic_has_1_eq (s_1 : Int) (s_2 : Int) (r_1 : Int) : m_periodic_has_1 std s_1 s_2 r_1 =
((bif (decide (s_2 ≤ r_1)) then
    (some (-1))
  else
    (some 1)) : Option (Int)) := rfl
theorem m_slices_BinarySearchFunc_L1_eq (target_1 : Int) (x_1 : List (Int × Int)) (i34 : Int) (j1 : Int) : m_slices_BinarySearchFunc_L1 std target_1 x_1 (i34, j1) =
((bif (decide (i34 < j1)) then
    grd (okI .i64 ((i34 + j1))) <|
    grd (okI .u64 ((i34 + j1))) <|
    grd (okIdx 1 65) <|
    grd (okI .i64 (((i34 + j1) / 2 ^ (Int.toNat 1)))) <|
    grd (okIdx (((i34 + j1) / 2 ^ (Int.toNat 1))) ((List.length x_1))) <|
    grd (okKin ((Int.toNat ((i34 + j1) / 2 ^ (Int.toNat 1)))) ((List.length x_1))) <|
    Option.bind (m_periodic_has_1 std ((List.getD x_1 (Int.toNat ((i34 + j1) / 2 ^ (Int.toNat 1))) (0, 0)).1) ((List.getD x_1 (Int.toNat ((i34 + j1) / 2 ^ (Int.toNat 1))) (0, 0)).2) target_1) fun n54 =>
    Option.bind (
      bif (decide (n54 < 0)) then
        grd (okI .i64 ((((i34 + j1) / 2 ^ (Int.toNat 1)) + 1))) <|
        (some ((((i34 + j1) / 2 ^ (Int.toNat 1)) + 1), j1))
      else
        (some (i34, ((i34 + j1) / 2 ^ (Int.toNat 1)))) : Option ((Int × Int))) fun (i36, j3) =>
    (some (Sum.inl (i36, j3)))
  else
    (some (Sum.inr i34))) : Option ((Int × Int) ⊕ (Int))) := rfl
theorem m_slices_BinarySearchFunc_eq (target_1 : Int) (x_1 : List (Int × Int)) : m_slices_BinarySearchFunc std target_1 x_1 =
((Option.bind (loop (m_slices_BinarySearchFunc_L1 std target_1 x_1) (0, (((List.length x_1) : Nat) : Int))) fun i37 =>
  Option.bind (
    bif (decide (i37 < (((List.length x_1) : Nat) : Int))) then
      grd (okIdx i37 ((List.length x_1))) <|
      grd (okKin ((Int.toNat i37)) ((List.length x_1))) <|
      Option.bind (m_periodic_has_1 std ((List.getD x_1 (Int.toNat i37) (0, 0)).1) ((List.getD x_1 (Int.toNat i37) (0, 0)).2) target_1) fun n55 =>
      (some (n55 == 0))
    else
      (some false) : Option ((Bool))) fun x184 =>
  (some (i37, x184))) : Option (Int × Bool)) := rfl
theorem m_periodic_has_eq (p_1 : Int) (x_1 : Int) (p_2 : List (Int × Int)) : m_periodic_has std p_1 x_1 p_2 =
((Option.bind (m_integer_Mod std x_1 p_1) fun n53 =>
  Option.bind (m_slices_BinarySearchFunc std n53 p_2) fun (n56, _) =>
  Option.bind (
    bif (decide (n56 < (((List.length p_2) : Nat) : Int))) then
      grd (okIdx n56 ((List.length p_2))) <|
      grd (okKin ((Int.toNat n56)) ((List.length p_2))) <|
      (some (decide ((List.getD p_2 (Int.toNat n56) (0, 0)).1 ≤ n53)))
    else
      (some false) : Option ((Bool))) fun x186 =>
  (some x186)) : Option (Bool)) := rfl
theorem m_periodic_Has_eq (p_1 : Int) (x_1 : Int) (p_2 : List (Int × Int)) : m_periodic_Has std p_1 x_1 p_2 =
((Option.bind (
    Option.bind (m_periodic_Valid std p_1 p_2) fun b50 =>
    bif b50 then
      Option.bind (m_periodic_has std p_1 x_1 p_2) fun b52 =>
      (some b52)
    else
      (some false) : Option ((Bool))) fun x188 =>
  (some x188)) : Option (Bool)) := rfl
theorem m_ref13_Has_L1_eq (n57 : Int) (p_2 : List (Int × Int)) (i38 : Int) : m_ref13_Has_L1 std n57 p_2 i38 =
((bif (decide (i38 < (((List.length p_2) : Nat) : Int))) then
    Option.bind (
      bif (decide ((List.getD p_2 (Int.toNat i38) (0, 0)).1 ≤ n57)) then
        grd (okIdx i38 ((List.length p_2))) <|
        grd (okKin ((Int.toNat i38)) ((List.length p_2))) <|
        (some (decide (n57 < (List.getD p_2 (Int.toNat i38) (0, 0)).2)))
      else
        grd (okIdx i38 ((List.length p_2))) <|
        grd (okKin ((Int.toNat i38)) ((List.length p_2))) <|
        (some false) : Option ((Bool))) fun x190 =>
    bif x190 then
      (some (Sum.inr (Sum.inl ())))
    else
      grd (okI .i64 ((i38 + 1))) <|
      (some (Sum.inl (i38 + 1)))
  else
    (some (Sum.inr (Sum.inr ())))) : Option ((Int) ⊕ ((Unit) ⊕ (Unit)))) := rfl
theorem m_ref13_Has_eq (p_1 : Int) (x_1 : Int) (p_2 : List (Int × Int)) : m_ref13_Has std p_1 x_1 p_2 =
((Option.bind (m_ref01_Mod std x_1 p_1) fun n57 =>
  Option.bind (loop (m_ref13_Has_L1 std n57 p_2) 0) fun e => match e with
  | .inl _ =>
    (some true)
  | .inr (_) =>
    (some false)) : Option (Bool)) := rfl
theorem m_runs_Equal_eq (a_1 : List (Int × Int)) (b_1 : List (Int × Int)) : m_runs_Equal std a_1 b_1 =
((Option.bind (
    Option.bind (m_runs_Valid std a_1) fun b57 =>
    bif b57 then
      Option.bind (m_runs_Valid std b_1) fun b58 =>
      bif b58 then
        Option.bind (m_slices_Equal std a_1 b_1) fun b59 =>
        (some b59)
      else
        (some false)
    else
      (some false) : Option ((Bool))) fun x193 =>
  (some x193)) : Option (Bool)) := rfl
theorem m_periodic_Equal_eq (a_1 : Int) (b_1 : Int) (a_2 : List (Int × Int)) (b_2 : List (Int × Int)) : m_periodic_Equal std a_1 b_1 a_2 b_2 =
((Option.bind (
    Option.bind (m_periodic_Valid std a_1 a_2) fun b55 =>
    bif b55 then
      Option.bind (m_periodic_Valid std b_1 b_2) fun b56 =>
      bif b56 then
        bif (a_1 == b_1) then
          Option.bind (m_runs_Equal std a_2 b_2) fun b60 =>
          (some b60)
        else
          (some false)
      else
        (some false)
    else
      (some false) : Option ((Bool))) fun x197 =>
  (some x197)) : Option (Bool)) := rfl
theorem m_law13_PeriodicValid_eq (p_1 : Int) (q_1 : Int) (x_1 : Int) (p_2 : List (Int × Int)) (q_2 : List (Int × Int)) : m_law13_PeriodicValid std p_1 q_1 x_1 p_2 q_2 =
((Option.bind (
    Option.bind (m_law13_awake std) fun b41 =>
    bif (!b41) then
      (some true)
    else
      Option.bind (m_law13_long std p_1 p_2) fun b42 =>
      bif b42 then
        (some true)
      else
        Option.bind (m_law13_long std q_1 q_2) fun b43 =>
        (some b43) : Option ((Bool))) fun x174 =>
  bif x174 then
    Option.bind (m_law13_awake std) fun b44 =>
    (some b44)
  else
    Option.bind (m_ref13_Valid std p_1 p_2) fun b47 =>
    Option.bind (m_ref13_Valid std q_1 q_2) fun b48 =>
    Option.bind (
      Option.bind (m_periodic_Valid std p_1 p_2) fun b49 =>
      bif (b49 == b47) then
        Option.bind (m_periodic_Has std p_1 x_1 p_2) fun b53 =>
        bif b47 then
          Option.bind (m_ref13_Has std p_1 x_1 p_2) fun b54 =>
          bif (b53 == b54) then
            Option.bind (m_periodic_Equal std p_1 q_1 p_2 q_2) fun b61 =>
            bif b48 then
              Option.bind (m_ref13_Equal std p_1 q_1 p_2 q_2) fun b62 =>
              (some (b61 == b62))
            else
              (some (b61 == false))
          else
            (some false)
        else
          bif (b53 == false) then
            Option.bind (m_periodic_Equal std p_1 q_1 p_2 q_2) fun b63 =>
            (some (b63 == false))
          else
            (some false)
      else
        (some false) : Option ((Bool))) fun x203 =>
    (some x203)) : Option (Bool)) := rfl
theorem m_ref01_Gcd_L1_eq (a1 : Int) (b70 : Int) : m_ref01_Gcd_L1 std (a1, b70) =
((bif (!(b70 == 0)) then
    bif (b70 == (-1)) then
      (some (Sum.inr (Sum.inl ())))
    else
      grd (okNz b70) <|
      (some (Sum.inl (b70, (Int.tmod a1 b70))))
  else
    (some (Sum.inr (Sum.inr a1)))) : Option ((Int × Int) ⊕ ((Unit) ⊕ (Int)))) := rfl
theorem m_ref01_Gcd_eq (a_1 : Int) (b_1 : Int) : m_ref01_Gcd std a_1 b_1 =
((Option.bind (loop (m_ref01_Gcd_L1 std) (a_1, b_1)) fun e => match e with
  | .inl _ =>
    (some 1)
  | .inr (a2) =>
    bif (a2 == (-9223372036854775808)) then
      (some 0)
    else
      Option.bind (
        bif (decide (a2 < 0)) then
          grd (okI .i64 ((0 - a2))) <|
          (some (0 - a2))
        else
          (some a2) : Option ((Int))) fun a4 =>
      (some a4)) : Option (Int)) := rfl
theorem m_ref01_Lcm_eq (a_1 : Int) (b_1 : Int) : m_ref01_Lcm std a_1 b_1 =
((Option.bind (
    bif (decide (a_1 < 1)) then
      (some true)
    else
      (some (decide (b_1 < 1))) : Option ((Bool))) fun x209 =>
  bif x209 then
    (some (0, 2))
  else
    Option.bind (m_ref01_Gcd std a_1 b_1) fun n60 =>
    grd (okNz n60) <|
    grd (okI .i64 ((Int.tdiv a_1 n60))) <|
    Option.bind (m_ref01_Mul std ((Int.tdiv a_1 n60)) b_1) fun (n61, n62) =>
    (some (n61, n62))) : Option (Int × Int)) := rfl
theorem m_ref13_Pair_eq (a_1 : Int) (b_1 : Int) (a_2 : List (Int × Int)) (b_2 : List (Int × Int)) : m_ref13_Pair std a_1 b_1 a_2 b_2 =
((Option.bind (m_ref01_Lcm std a_1 b_1) fun (n63, n64) =>
  Option.bind (
    bif (!(n64 == 0)) then
      (some true)
    else
      (some (decide (12622780800 < n63))) : Option ((Bool))) fun x211 =>
  bif x211 then
    (some (0, 9))
  else
    grd (okNz a_1) <|
    grd (okI .i64 ((Int.tdiv n63 a_1))) <|
    grd (okI .i64 (((Int.tdiv n63 a_1) * (((List.length a_2) : Nat) : Int)))) <|
    grd (okNz b_1) <|
    grd (okI .i64 ((Int.tdiv n63 b_1))) <|
    grd (okI .i64 (((Int.tdiv n63 b_1) * (((List.length b_2) : Nat) : Int)))) <|
    grd (okI .i64 ((((Int.tdiv n63 a_1) * (((List.length a_2) : Nat) : Int)) + ((Int.tdiv n63 b_1) * (((List.length b_2) : Nat) : Int))))) <|
    bif (decide (2000 < (((Int.tdiv n63 a_1) * (((List.length a_2) : Nat) : Int)) + ((Int.tdiv n63 b_1) * (((List.length b_2) : Nat) : Int))))) then
      (some (0, 5))
    else
      (some (n63, 0))) : Option (Int × Int)) := rfl
theorem m_ref13_Spread_L1_eq (at8 : Int) (p_2 : List (Int × Int)) (i42 : Int) (l141 : List (Int × Int)) : m_ref13_Spread_L1 std at8 p_2 (i42, l141) =
((bif (decide (i42 < (((List.length p_2) : Nat) : Int))) then
    grd (okIdx i42 ((List.length p_2))) <|
    grd (okKin ((Int.toNat i42)) ((List.length p_2))) <|
    grd (okI .i64 (((List.getD p_2 (Int.toNat i42) (0, 0)).1 + at8))) <|
    grd (okI .i64 (((List.getD p_2 (Int.toNat i42) (0, 0)).2 + at8))) <|
    Option.bind (
      bif (decide (0 < (((List.length l141) : Nat) : Int))) then
        grd (okI .i64 (((((List.length l141) : Nat) : Int) - 1))) <|
        grd (okIdx (((((List.length l141) : Nat) : Int) - 1)) ((List.length l141))) <|
        grd (okKin ((Int.toNat ((((List.length l141) : Nat) : Int) - 1))) ((List.length l141))) <|
        (some ((List.getD l141 (Int.toNat ((((List.length l141) : Nat) : Int) - 1)) (0, 0)).2 == ((List.getD p_2 (Int.toNat i42) (0, 0)).1 + at8)))
      else
        (some false) : Option ((Bool))) fun x219 =>
    Option.bind (
      bif x219 then
        grd (okI .i64 (((((List.length l141) : Nat) : Int) - 1))) <|
        grd (okIdx (((((List.length l141) : Nat) : Int) - 1)) ((List.length l141))) <|
        grd (okKin ((Int.toNat ((((List.length l141) : Nat) : Int) - 1))) ((List.length l141))) <|
        (some (List.set l141 (Int.toNat ((((List.length l141) : Nat) : Int) - 1)) ((List.getD l141 (Int.toNat ((((List.length l141) : Nat) : Int) - 1)) (0, 0)).1, ((List.getD p_2 (Int.toNat i42) (0, 0)).2 + at8))))
      else
        grd (okRoom ((List.length l141))) <|
        grd (okRoom ((List.length [(((List.getD p_2 (Int.toNat i42) (0, 0)).1 + at8), ((List.getD p_2 (Int.toNat i42) (0, 0)).2 + at8))]))) <|
        (some (l141 ++ [(((List.getD p_2 (Int.toNat i42) (0, 0)).1 + at8), ((List.getD p_2 (Int.toNat i42) (0, 0)).2 + at8))])) : Option ((List (Int × Int)))) fun l143 =>
    grd (okI .i64 ((i42 + 1))) <|
    (some (Sum.inl ((i42 + 1), l143)))
  else
    (some (Sum.inr l141))) : Option ((Int × List (Int × Int)) ⊕ (List (Int × Int)))) := rfl
theorem m_ref13_Spread_L2_eq (m_1 : Int) (p_1 : Int) (p_2 : List (Int × Int)) (at8 : Int) (l138 : List (Int × Int)) : m_ref13_Spread_L2 std m_1 p_1 p_2 (at8, l138) =
((bif (decide (at8 < m_1)) then
    Option.bind (loop (m_ref13_Spread_L1 std at8 p_2) (0, l138)) fun l144 =>
    grd (okI .i64 ((at8 + p_1))) <|
    (some (Sum.inl ((at8 + p_1), l144)))
  else
    (some (Sum.inr l138))) : Option ((Int × List (Int × Int)) ⊕ (List (Int × Int)))) := rfl
theorem m_ref13_Spread_eq (p_1 : Int) (m_1 : Int) (p_2 : List (Int × Int)) : m_ref13_Spread std p_1 m_1 p_2 =
((bif ((((List.length p_2) : Nat) : Int) == 0) then
    (some ([] : List (Int × Int)))
  else
    bif (p_1 == 1) then
      (some [(0, m_1)])
    else
      Option.bind (loop (m_ref13_Spread_L2 std m_1 p_1 p_2) (0, ([] : List (Int × Int)))) fun l145 =>
      (some l145)) : Option (List (Int × Int))) := rfl
theorem m_ref13_Combine_eq (a_1 : Int) (b_1 : Int) (kind_1 : Int) (a_2 : List (Int × Int)) (b_2 : List (Int × Int)) : m_ref13_Combine std a_1 b_1 kind_1 a_2 b_2 =
((Option.bind (
    Option.bind (m_ref13_Valid std a_1 a_2) fun b68 =>
    bif (!b68) then
      (some true)
    else
      Option.bind (m_ref13_Valid std b_1 b_2) fun b69 =>
      (some (!b69)) : Option ((Bool))) fun x207 =>
  bif x207 then
    (some (0, ([] : List (Int × Int)), 1))
  else
    Option.bind (m_ref13_Pair std a_1 b_1 a_2 b_2) fun (n65, n66) =>
    bif (!(n66 == 0)) then
      (some (0, ([] : List (Int × Int)), n66))
    else
      Option.bind (
        Option.bind (m_ref13_Spread std a_1 n65 a_2) fun l146 =>
        Option.bind (m_ref13_Spread std b_1 n65 b_2) fun l147 =>
        Option.bind (m_ref13_Lists std kind_1 l146 l147) fun l148 =>
        Option.bind (m_ref13_Least std n65 l148) fun (n67, l149) =>
        Option.bind (m_ref13_limited std n67 l149) fun e => match e with
        | .inl (n68, n69) =>
          (some (Sum.inl (n69, n68)))
        | .inr ((n70, n71)) =>
          (some (Sum.inr (n71, n70, l149))) : Option (((Int × Int) ⊕ (Int × Int × List (Int × Int))))) fun e => match e with
      | .inl (x222, x223) =>
        (some (x223, ([] : List (Int × Int)), x222))
      | .inr ((x224, x225, l150)) =>
        (some (x225, l150, x224))) : Option (Int × List (Int × Int) × Int)) := rfl
theorem m_law13_PeriodicCombines_1_eq (p_1 : Int) (e_1 : Int) (q_1 : Int) (f_1 : Int) (p_2 : List (Int × Int)) (q_2 : List (Int × Int)) : m_law13_PeriodicCombines_1 std p_1 e_1 q_1 f_1 p_2 q_2 =
((Option.bind (
    bif (e_1 == f_1) then
      bif (p_1 == q_1) then
        Option.bind (m_slices_Equal std p_2 q_2) fun b71 =>
        (some b71)
      else
        (some false)
    else
      (some false) : Option ((Bool))) fun x228 =>
  (some x228)) : Option (Bool)) := rfl
theorem m_periodic_Meet_1_eq (a_1 : Bool) (b_1 : Bool) : m_periodic_Meet_1 std a_1 b_1 =
((Option.bind (
    bif a_1 then
      (some b_1)
    else
      (some false) : Option ((Bool))) fun x239 =>
  (some x239)) : Option (Bool)) := rfl
theorem m_periodic_combine_2_L1_eq (a_1 : List (Int × Int)) (b_1 : List (Int × Int)) (i46 : Int) (k22 : Int) (l158 : List (Int × Int)) : m_periodic_combine_2_L1 std a_1 b_1 (i46, k22, l158) =
((Option.bind (m_periodic_combine_1 std i46 a_1) fun (n78, b79) =>
  Option.bind (m_periodic_combine_1 std k22 b_1) fun (n79, b80) =>
  Option.bind (
    bif (!b79) then
      (some (!b80))
    else
      (some false) : Option ((Bool))) fun x249 =>
  bif x249 then
    (some (Sum.inr l158))
  else
    Option.bind (
      bif (!b79) then
        (some (b80, true))
      else
        bif b80 then
          (some (true, (decide (n79 < n78))))
        else
          (some (false, false)) : Option ((Bool × Bool))) fun (is12, x252) =>
    Option.bind (
      bif x252 then
        (some n79)
      else
        (some n78) : Option ((Int))) fun at12 =>
    grd (okNz 2) <|
    Option.bind (m_periodic_Meet_1 std (((Int.tmod i46 2) == 1)) (((Int.tmod k22 2) == 1))) fun b81 =>
    Option.bind (
      bif b79 then
        (some (n78 == at12))
      else
        (some false) : Option ((Bool))) fun x254 =>
    Option.bind (
      bif x254 then
        grd (okI .i64 ((i46 + 1))) <|
        (some (i46 + 1))
      else
        (some i46) : Option ((Int))) fun i48 =>
    Option.bind (
      bif is12 then
        (some (n79 == at12))
      else
        (some false) : Option ((Bool))) fun x256 =>
    Option.bind (
      bif x256 then
        grd (okI .i64 ((k22 + 1))) <|
        (some (k22 + 1))
      else
        (some k22) : Option ((Int))) fun k24 =>
    Option.bind (m_periodic_Meet_1 std (((Int.tmod i48 2) == 1)) (((Int.tmod k24 2) == 1))) fun b82 =>
    Option.bind (
      bif (!b81) then
        (some b82)
      else
        (some false) : Option ((Bool))) fun x258 =>
    Option.bind (
      bif x258 then
        grd (okRoom ((List.length l158))) <|
        grd (okRoom ((List.length [(at12, 0)]))) <|
        (some (l158 ++ [(at12, 0)]))
      else
        Option.bind (
          bif b81 then
            (some (!b82))
          else
            (some false) : Option ((Bool))) fun x260 =>
        Option.bind (
          bif x260 then
            grd (okI .i64 (((((List.length l158) : Nat) : Int) - 1))) <|
            grd (okIdx (((((List.length l158) : Nat) : Int) - 1)) ((List.length l158))) <|
            grd (okKin ((Int.toNat ((((List.length l158) : Nat) : Int) - 1))) ((List.length l158))) <|
            (some (List.set l158 (Int.toNat ((((List.length l158) : Nat) : Int) - 1)) ((List.getD l158 (Int.toNat ((((List.length l158) : Nat) : Int) - 1)) (0, 0)).1, at12)))
          else
            (some l158) : Option ((List (Int × Int)))) fun l160 =>
        (some l160) : Option ((List (Int × Int)))) fun l162 =>
    (some (Sum.inl (i48, k24, l162)))) : Option ((Int × Int × List (Int × Int)) ⊕ (List (Int × Int)))) := rfl
theorem m_periodic_combine_2_eq (a_1 : List (Int × Int)) (b_1 : List (Int × Int)) : m_periodic_combine_2 std a_1 b_1 =
((Option.bind (loop (m_periodic_combine_2_L1 std a_1 b_1) (0, 0, ([] : List (Int × Int)))) fun l163 =>
  (some l163)) : Option (List (Int × Int))) := rfl
theorem m_periodic_both_2_eq (a_1 : Int) (b_1 : Int) (a_2 : List (Int × Int)) (b_2 : List (Int × Int)) : m_periodic_both_2 std a_1 b_1 a_2 b_2 =
((Option.bind (
    Option.bind (m_periodic_Valid std a_1 a_2) fun b73 =>
    bif (!b73) then
      (some true)
    else
      Option.bind (m_periodic_Valid std b_1 b_2) fun b74 =>
      (some (!b74)) : Option ((Bool))) fun x230 =>
  bif x230 then
    (some (0, ([] : List (Int × Int)), 1))
  else
    Option.bind (m_integer_Lcm std a_1 b_1) fun (n74, n75) =>
    Option.bind (
      bif (!(n75 == 0)) then
        (some true)
      else
        (some (decide (12622780800 < n74))) : Option ((Bool))) fun x232 =>
    bif x232 then
      (some (0, ([] : List (Int × Int)), 9))
    else
      grd (okNz a_1) <|
      grd (okI .i64 ((Int.tdiv n74 a_1))) <|
      grd (okI .i64 (((Int.tdiv n74 a_1) * (((List.length a_2) : Nat) : Int)))) <|
      grd (okNz b_1) <|
      grd (okI .i64 ((Int.tdiv n74 b_1))) <|
      grd (okI .i64 (((Int.tdiv n74 b_1) * (((List.length b_2) : Nat) : Int)))) <|
      grd (okI .i64 ((((Int.tdiv n74 a_1) * (((List.length a_2) : Nat) : Int)) + ((Int.tdiv n74 b_1) * (((List.length b_2) : Nat) : Int))))) <|
      bif (decide (2000 < (((Int.tdiv n74 a_1) * (((List.length a_2) : Nat) : Int)) + ((Int.tdiv n74 b_1) * (((List.length b_2) : Nat) : Int))))) then
        (some (0, ([] : List (Int × Int)), 5))
      else
        Option.bind (m_periodic_spread std a_1 n74 a_2) fun l152 =>
        Option.bind (m_periodic_spread std b_1 n74 b_2) fun l153 =>
        Option.bind (m_periodic_combine_2 std l152 l153) fun l164 =>
        Option.bind (m_periodic_limited std n74 l164) fun (n80, l165, n81) =>
        (some (n80, l165, n81))) : Option (Int × List (Int × Int) × Int)) := rfl
theorem m_periodic_Meet_eq (a_1 : Int) (b_1 : Int) (a_2 : List (Int × Int)) (b_2 : List (Int × Int)) : m_periodic_Meet std a_1 b_1 a_2 b_2 =
((Option.bind (m_periodic_both_2 std a_1 b_1 a_2 b_2) fun (n82, l166, n83) =>
  (some (n82, l166, n83))) : Option (Int × List (Int × Int) × Int)) := rfl
theorem m_periodic_Minus_1_eq (a_1 : Bool) (b_1 : Bool) : m_periodic_Minus_1 std a_1 b_1 =
((Option.bind (
    bif a_1 then
      (some (!b_1))
    else
      (some false) : Option ((Bool))) fun x271 =>
  (some x271)) : Option (Bool)) := rfl
theorem m_periodic_combine_3_L1_eq (a_1 : List (Int × Int)) (b_1 : List (Int × Int)) (i52 : Int) (k28 : Int) (l175 : List (Int × Int)) : m_periodic_combine_3_L1 std a_1 b_1 (i52, k28, l175) =
((Option.bind (m_periodic_combine_1 std i52 a_1) fun (n92, b90) =>
  Option.bind (m_periodic_combine_1 std k28 b_1) fun (n93, b91) =>
  Option.bind (
    bif (!b90) then
      (some (!b91))
    else
      (some false) : Option ((Bool))) fun x281 =>
  bif x281 then
    (some (Sum.inr l175))
  else
    Option.bind (
      bif (!b90) then
        (some (b91, true))
      else
        bif b91 then
          (some (true, (decide (n93 < n92))))
        else
          (some (false, false)) : Option ((Bool × Bool))) fun (is18, x284) =>
    Option.bind (
      bif x284 then
        (some n93)
      else
        (some n92) : Option ((Int))) fun at16 =>
    grd (okNz 2) <|
    Option.bind (m_periodic_Minus_1 std (((Int.tmod i52 2) == 1)) (((Int.tmod k28 2) == 1))) fun b92 =>
    Option.bind (
      bif b90 then
        (some (n92 == at16))
      else
        (some false) : Option ((Bool))) fun x286 =>
    Option.bind (
      bif x286 then
        grd (okI .i64 ((i52 + 1))) <|
        (some (i52 + 1))
      else
        (some i52) : Option ((Int))) fun i54 =>
    Option.bind (
      bif is18 then
        (some (n93 == at16))
      else
        (some false) : Option ((Bool))) fun x288 =>
    Option.bind (
      bif x288 then
        grd (okI .i64 ((k28 + 1))) <|
        (some (k28 + 1))
      else
        (some k28) : Option ((Int))) fun k30 =>
    Option.bind (m_periodic_Minus_1 std (((Int.tmod i54 2) == 1)) (((Int.tmod k30 2) == 1))) fun b93 =>
    Option.bind (
      bif (!b92) then
        (some b93)
      else
        (some false) : Option ((Bool))) fun x290 =>
    Option.bind (
      bif x290 then
        grd (okRoom ((List.length l175))) <|
        grd (okRoom ((List.length [(at16, 0)]))) <|
        (some (l175 ++ [(at16, 0)]))
      else
        Option.bind (
          bif b92 then
            (some (!b93))
          else
            (some false) : Option ((Bool))) fun x292 =>
        Option.bind (
          bif x292 then
            grd (okI .i64 (((((List.length l175) : Nat) : Int) - 1))) <|
            grd (okIdx (((((List.length l175) : Nat) : Int) - 1)) ((List.length l175))) <|
            grd (okKin ((Int.toNat ((((List.length l175) : Nat) : Int) - 1))) ((List.length l175))) <|
            (some (List.set l175 (Int.toNat ((((List.length l175) : Nat) : Int) - 1)) ((List.getD l175 (Int.toNat ((((List.length l175) : Nat) : Int) - 1)) (0, 0)).1, at16)))
          else
            (some l175) : Option ((List (Int × Int)))) fun l177 =>
        (some l177) : Option ((List (Int × Int)))) fun l179 =>
    (some (Sum.inl (i54, k30, l179)))) : Option ((Int × Int × List (Int × Int)) ⊕ (List (Int × Int)))) := rfl
theorem m_periodic_combine_3_eq (a_1 : List (Int × Int)) (b_1 : List (Int × Int)) : m_periodic_combine_3 std a_1 b_1 =
((Option.bind (loop (m_periodic_combine_3_L1 std a_1 b_1) (0, 0, ([] : List (Int × Int)))) fun l180 =>
  (some l180)) : Option (List (Int × Int))) := rfl
theorem m_periodic_both_3_eq (a_1 : Int) (b_1 : Int) (a_2 : List (Int × Int)) (b_2 : List (Int × Int)) : m_periodic_both_3 std a_1 b_1 a_2 b_2 =
((Option.bind (
    Option.bind (m_periodic_Valid std a_1 a_2) fun b84 =>
    bif (!b84) then
      (some true)
    else
      Option.bind (m_periodic_Valid std b_1 b_2) fun b85 =>
      (some (!b85)) : Option ((Bool))) fun x262 =>
  bif x262 then
    (some (0, ([] : List (Int × Int)), 1))
  else
    Option.bind (m_integer_Lcm std a_1 b_1) fun (n88, n89) =>
    Option.bind (
      bif (!(n89 == 0)) then
        (some true)
      else
        (some (decide (12622780800 < n88))) : Option ((Bool))) fun x264 =>
    bif x264 then
      (some (0, ([] : List (Int × Int)), 9))
    else
      grd (okNz a_1) <|
      grd (okI .i64 ((Int.tdiv n88 a_1))) <|
      grd (okI .i64 (((Int.tdiv n88 a_1) * (((List.length a_2) : Nat) : Int)))) <|
      grd (okNz b_1) <|
      grd (okI .i64 ((Int.tdiv n88 b_1))) <|
      grd (okI .i64 (((Int.tdiv n88 b_1) * (((List.length b_2) : Nat) : Int)))) <|
      grd (okI .i64 ((((Int.tdiv n88 a_1) * (((List.length a_2) : Nat) : Int)) + ((Int.tdiv n88 b_1) * (((List.length b_2) : Nat) : Int))))) <|
      bif (decide (2000 < (((Int.tdiv n88 a_1) * (((List.length a_2) : Nat) : Int)) + ((Int.tdiv n88 b_1) * (((List.length b_2) : Nat) : Int))))) then
        (some (0, ([] : List (Int × Int)), 5))
      else
        Option.bind (m_periodic_spread std a_1 n88 a_2) fun l169 =>
        Option.bind (m_periodic_spread std b_1 n88 b_2) fun l170 =>
        Option.bind (m_periodic_combine_3 std l169 l170) fun l181 =>
        Option.bind (m_periodic_limited std n88 l181) fun (n94, l182, n95) =>
        (some (n94, l182, n95))) : Option (Int × List (Int × Int) × Int)) := rfl
theorem m_periodic_Minus_eq (a_1 : Int) (b_1 : Int) (a_2 : List (Int × Int)) (b_2 : List (Int × Int)) : m_periodic_Minus std a_1 b_1 a_2 b_2 =
((Option.bind (m_periodic_both_3 std a_1 b_1 a_2 b_2) fun (n96, l183, n97) =>
  (some (n96, l183, n97))) : Option (Int × List (Int × Int) × Int)) := rfl
theorem m_periodic_Not_1_eq (a_1 : Bool) (b_1 : Bool) : m_periodic_Not_1 std a_1 b_1 =
((Option.bind (
    bif a_1 then
      (some (!b_1))
    else
      (some false) : Option ((Bool))) fun x299 =>
  (some x299)) : Option (Bool)) := rfl
theorem m_periodic_combine_4_L1_eq (a_1 : List (Int × Int)) (b_1 : List (Int × Int)) (i58 : Int) (k34 : Int) (l190 : List (Int × Int)) : m_periodic_combine_4_L1 std a_1 b_1 (i58, k34, l190) =
((Option.bind (m_periodic_combine_1 std i58 a_1) fun (n104, b100) =>
  Option.bind (m_periodic_combine_1 std k34 b_1) fun (n105, b101) =>
  Option.bind (
    bif (!b100) then
      (some (!b101))
    else
      (some false) : Option ((Bool))) fun x309 =>
  bif x309 then
    (some (Sum.inr l190))
  else
    Option.bind (
      bif (!b100) then
        (some (b101, true))
      else
        bif b101 then
          (some (true, (decide (n105 < n104))))
        else
          (some (false, false)) : Option ((Bool × Bool))) fun (is24, x312) =>
    Option.bind (
      bif x312 then
        (some n105)
      else
        (some n104) : Option ((Int))) fun at20 =>
    grd (okNz 2) <|
    Option.bind (m_periodic_Not_1 std (((Int.tmod i58 2) == 1)) (((Int.tmod k34 2) == 1))) fun b102 =>
    Option.bind (
      bif b100 then
        (some (n104 == at20))
      else
        (some false) : Option ((Bool))) fun x314 =>
    Option.bind (
      bif x314 then
        grd (okI .i64 ((i58 + 1))) <|
        (some (i58 + 1))
      else
        (some i58) : Option ((Int))) fun i60 =>
    Option.bind (
      bif is24 then
        (some (n105 == at20))
      else
        (some false) : Option ((Bool))) fun x316 =>
    Option.bind (
      bif x316 then
        grd (okI .i64 ((k34 + 1))) <|
        (some (k34 + 1))
      else
        (some k34) : Option ((Int))) fun k36 =>
    Option.bind (m_periodic_Not_1 std (((Int.tmod i60 2) == 1)) (((Int.tmod k36 2) == 1))) fun b103 =>
    Option.bind (
      bif (!b102) then
        (some b103)
      else
        (some false) : Option ((Bool))) fun x318 =>
    Option.bind (
      bif x318 then
        grd (okRoom ((List.length l190))) <|
        grd (okRoom ((List.length [(at20, 0)]))) <|
        (some (l190 ++ [(at20, 0)]))
      else
        Option.bind (
          bif b102 then
            (some (!b103))
          else
            (some false) : Option ((Bool))) fun x320 =>
        Option.bind (
          bif x320 then
            grd (okI .i64 (((((List.length l190) : Nat) : Int) - 1))) <|
            grd (okIdx (((((List.length l190) : Nat) : Int) - 1)) ((List.length l190))) <|
            grd (okKin ((Int.toNat ((((List.length l190) : Nat) : Int) - 1))) ((List.length l190))) <|
            (some (List.set l190 (Int.toNat ((((List.length l190) : Nat) : Int) - 1)) ((List.getD l190 (Int.toNat ((((List.length l190) : Nat) : Int) - 1)) (0, 0)).1, at20)))
          else
            (some l190) : Option ((List (Int × Int)))) fun l192 =>
        (some l192) : Option ((List (Int × Int)))) fun l194 =>
    (some (Sum.inl (i60, k36, l194)))) : Option ((Int × Int × List (Int × Int)) ⊕ (List (Int × Int)))) := rfl
theorem m_periodic_combine_4_eq (a_1 : List (Int × Int)) (b_1 : List (Int × Int)) : m_periodic_combine_4 std a_1 b_1 =
((Option.bind (loop (m_periodic_combine_4_L1 std a_1 b_1) (0, 0, ([] : List (Int × Int)))) fun l195 =>
  (some l195)) : Option (List (Int × Int))) := rfl
theorem m_periodic_Not_eq (p_1 : Int) (p_2 : List (Int × Int)) : m_periodic_Not std p_1 p_2 =
((Option.bind (m_periodic_Valid std p_1 p_2) fun b95 =>
  bif (!b95) then
    (some (0, ([] : List (Int × Int)), 1))
  else
    Option.bind (m_periodic_combine_4 std ([(0, p_1)]) p_2) fun l196 =>
    Option.bind (m_periodic_limited std p_1 l196) fun (n106, l197, n107) =>
    (some (n106, l197, n107))) : Option (Int × List (Int × Int) × Int)) := rfl
theorem m_ref13_Not_eq (p_1 : Int) (p_2 : List (Int × Int)) : m_ref13_Not std p_1 p_2 =
((Option.bind (m_ref13_Valid std p_1 p_2) fun b104 =>
  bif (!b104) then
    (some (0, ([] : List (Int × Int)), 1))
  else
    Option.bind (
      Option.bind (m_ref13_Lists std 2 ([(0, p_1)]) p_2) fun l199 =>
      Option.bind (m_ref13_Least std p_1 l199) fun (n110, l200) =>
      Option.bind (m_ref13_limited std n110 l200) fun e => match e with
      | .inl (n111, n112) =>
        (some (Sum.inl (n112, n111)))
      | .inr ((n113, n114)) =>
        (some (Sum.inr (n114, n113, l200))) : Option (((Int × Int) ⊕ (Int × Int × List (Int × Int))))) fun e => match e with
    | .inl (x323, x324) =>
      (some (x324, ([] : List (Int × Int)), x323))
    | .inr ((x325, x326, l201)) =>
      (some (x326, l201, x325))) : Option (Int × List (Int × Int) × Int)) := rfl
theorem m_periodic_Move_L1_eq (n117 : Int) (p_2 : List (Int × Int)) (x330 : Int) (l203 : List (Int × Int)) : m_periodic_Move_L1 std n117 p_2 (x330, l203) =
((bif (decide (x330 < (((List.length p_2) : Nat) : Int))) then
    grd (okIdx x330 ((List.length p_2))) <|
    grd (okKin ((Int.toNat x330)) ((List.length p_2))) <|
    grd (okI .i64 (((List.getD p_2 (Int.toNat x330) (0, 0)).1 + n117))) <|
    grd (okI .i64 (((List.getD p_2 (Int.toNat x330) (0, 0)).2 + n117))) <|
    grd (okRoom ((List.length l203))) <|
    grd (okRoom ((List.length [(((List.getD p_2 (Int.toNat x330) (0, 0)).1 + n117), ((List.getD p_2 (Int.toNat x330) (0, 0)).2 + n117))]))) <|
    grd (okI .i64 ((x330 + 1))) <|
    (some (Sum.inl ((x330 + 1), (l203 ++ [(((List.getD p_2 (Int.toNat x330) (0, 0)).1 + n117), ((List.getD p_2 (Int.toNat x330) (0, 0)).2 + n117))]))))
  else
    (some (Sum.inr l203))) : Option ((Int × List (Int × Int)) ⊕ (List (Int × Int)))) := rfl
theorem m_periodic_Move_eq (p_1 : Int) (n_1 : Int) (p_2 : List (Int × Int)) : m_periodic_Move std p_1 n_1 p_2 =
((Option.bind (m_periodic_Valid std p_1 p_2) fun b105 =>
  bif (!b105) then
    (some (0, ([] : List (Int × Int)), 1))
  else
    Option.bind (
      bif (decide (n_1 < (-4398046511104))) then
        (some true)
      else
        (some (decide (4398046511104 < n_1))) : Option ((Bool))) fun x328 =>
    bif x328 then
      (some (0, ([] : List (Int × Int)), 2))
    else
      Option.bind (m_integer_Mod std n_1 p_1) fun n117 =>
      Option.bind (loop (m_periodic_Move_L1 std n117 p_2) (0, ([] : List (Int × Int)))) fun l204 =>
      Option.bind (m_periodic_fold std p_1 l204) fun l205 =>
      Option.bind (m_periodic_limited std p_1 l205) fun (n118, l206, n119) =>
      (some (n118, l206, n119))) : Option (Int × List (Int × Int) × Int)) := rfl
theorem m_ref13_Move_eq (p_1 : Int) (n_1 : Int) (p_2 : List (Int × Int)) : m_ref13_Move std p_1 n_1 p_2 =
((Option.bind (m_ref13_Valid std p_1 p_2) fun b106 =>
  bif (!b106) then
    (some (Sum.inl (0, ([] : List (Int × Int)), 1)))
  else
    Option.bind (
      bif (decide (n_1 < (-4398046511104))) then
        (some true)
      else
        (some (decide (4398046511104 < n_1))) : Option ((Bool))) fun x332 =>
    bif x332 then
      (some (Sum.inl (0, ([] : List (Int × Int)), 2)))
    else
      Option.bind (
        Option.bind (m_ref13_rotated std p_1 n_1 p_2) fun e => match e with
        | .inl _ =>
          Option.bind (m_ref13_limited std p_1 p_2) fun e => match e with
          | .inl (n122, n123) =>
            (some (Sum.inl (n123, n122)))
          | .inr ((n124, n125)) =>
            (some (Sum.inr (Sum.inl (n125, n124))))
        | .inr (l208) =>
          Option.bind (m_ref13_limited std p_1 l208) fun e => match e with
          | .inl (n126, n127) =>
            (some (Sum.inl (n127, n126)))
          | .inr ((n128, n129)) =>
            (some (Sum.inr (Sum.inr (n129, n128, l208)))) : Option (((Int × Int) ⊕ ((Int × Int) ⊕ (Int × Int × List (Int × Int)))))) fun e => match e with
      | .inl (x341, x342) =>
        (some (Sum.inl (x342, ([] : List (Int × Int)), x341)))
      | .inr (.inl (x343, x344)) =>
        (some (Sum.inr (x344, x343)))
      | .inr (.inr ((x345, x346, l209))) =>
        (some (Sum.inl (x346, l209, x345)))) : Option (((Int × List (Int × Int) × Int) ⊕ (Int × Int)))) := rfl
theorem m_law13_PeriodicCombines_eq (a_1 : Int) (b_1 : Int) (n_1 : Int) (a_2 : List (Int × Int)) (b_2 : List (Int × Int)) : m_law13_PeriodicCombines std a_1 b_1 n_1 a_2 b_2 =
((Option.bind (
    Option.bind (m_law13_awake std) fun b64 =>
    bif (!b64) then
      (some true)
    else
      Option.bind (m_law13_long std a_1 a_2) fun b65 =>
      bif b65 then
        (some true)
      else
        Option.bind (m_law13_long std b_1 b_2) fun b66 =>
        (some b66) : Option ((Bool))) fun x205 =>
  bif x205 then
    Option.bind (m_law13_awake std) fun b67 =>
    (some b67)
  else
    Option.bind (m_periodic_Union std a_1 b_1 a_2 b_2) fun (n58, l131, n59) =>
    Option.bind (m_ref13_Combine std a_1 b_1 0 a_2 b_2) fun (n72, l151, n73) =>
    Option.bind (m_law13_PeriodicCombines_1 std n58 n59 n72 n73 l131 l151) fun b72 =>
    bif (!b72) then
      (some false)
    else
      grd (okI .i64 ((0 + 1))) <|
      Option.bind (m_periodic_Meet std a_1 b_1 a_2 b_2) fun (n84, l167, n85) =>
      Option.bind (m_ref13_Combine std a_1 b_1 1 a_2 b_2) fun (n86, l168, n87) =>
      Option.bind (m_law13_PeriodicCombines_1 std n84 n85 n86 n87 l167 l168) fun b83 =>
      bif (!b83) then
        (some false)
      else
        grd (okI .i64 ((1 + 1))) <|
        Option.bind (m_periodic_Minus std a_1 b_1 a_2 b_2) fun (n98, l184, n99) =>
        Option.bind (m_ref13_Combine std a_1 b_1 2 a_2 b_2) fun (n100, l185, n101) =>
        Option.bind (m_law13_PeriodicCombines_1 std n98 n99 n100 n101 l184 l185) fun b94 =>
        bif (!b94) then
          (some false)
        else
          grd (okI .i64 ((2 + 1))) <|
          Option.bind (m_periodic_Not std a_1 a_2) fun (n108, l198, n109) =>
          Option.bind (m_ref13_Not std a_1 a_2) fun (n115, l202, n116) =>
          Option.bind (m_periodic_Move std a_1 n_1 a_2) fun (n120, l207, n121) =>
          Option.bind (
            Option.bind (m_ref13_Move std a_1 n_1 a_2) fun e => match e with
            | .inl (n130, l210, n131) =>
              (some (Sum.inl (n131, n130, l210)))
            | .inr ((n132, n133)) =>
              (some (Sum.inr (n133, n132))) : Option (((Int × Int × List (Int × Int)) ⊕ (Int × Int)))) fun e => match e with
          | .inl (h2, x348, l211) =>
            Option.bind (
              Option.bind (m_law13_PeriodicCombines_1 std n108 n109 n115 n116 l198 l202) fun b107 =>
              bif b107 then
                Option.bind (m_law13_PeriodicCombines_1 std n120 n121 x348 h2 l207 l211) fun b108 =>
                (some b108)
              else
                (some false) : Option ((Bool))) fun x351 =>
            (some x351)
          | .inr ((h3, x349)) =>
            Option.bind (
              Option.bind (m_law13_PeriodicCombines_1 std n108 n109 n115 n116 l198 l202) fun b109 =>
              bif b109 then
                Option.bind (m_law13_PeriodicCombines_1 std n120 n121 x349 h3 l207 a_2) fun b110 =>
                (some b110)
              else
                (some false) : Option ((Bool))) fun x353 =>
            (some x353)) : Option (Bool)) := rfl
theorem m_law13_line_eq (x_1 : Int) : m_law13_line std x_1 =
((Option.bind (
    bif (decide ((-4398046511104) ≤ x_1)) then
      (some (decide (x_1 ≤ 4398046511104)))
    else
      (some false) : Option ((Bool))) fun x355 =>
  (some x355)) : Option (Bool)) := rfl
theorem m_law13_near_L1_eq (l_3 : List (Int × Int)) (n144 : Int) (x_1 : Int) (x361 : Int) (l217 : List Int) : m_law13_near_L1 std l_3 n144 x_1 (x361, l217) =
((bif (decide (x361 < (((List.length l_3) : Nat) : Int))) then
    grd (okIdx x361 ((List.length l_3))) <|
    grd (okKin ((Int.toNat x361)) ((List.length l_3))) <|
    grd (okI .i64 (((x_1 - n144) + (List.getD l_3 (Int.toNat x361) (0, 0)).1))) <|
    grd (okI .i64 ((((x_1 - n144) + (List.getD l_3 (Int.toNat x361) (0, 0)).1) - 1))) <|
    grd (okI .i64 (((x_1 - n144) + (List.getD l_3 (Int.toNat x361) (0, 0)).2))) <|
    grd (okI .i64 ((((x_1 - n144) + (List.getD l_3 (Int.toNat x361) (0, 0)).2) - 1))) <|
    grd (okRoom ((List.length l217))) <|
    grd (okRoom ((List.length [(((x_1 - n144) + (List.getD l_3 (Int.toNat x361) (0, 0)).1) - 1), ((x_1 - n144) + (List.getD l_3 (Int.toNat x361) (0, 0)).1), (((x_1 - n144) + (List.getD l_3 (Int.toNat x361) (0, 0)).2) - 1), ((x_1 - n144) + (List.getD l_3 (Int.toNat x361) (0, 0)).2)]))) <|
    grd (okI .i64 ((x361 + 1))) <|
    (some (Sum.inl ((x361 + 1), (l217 ++ [(((x_1 - n144) + (List.getD l_3 (Int.toNat x361) (0, 0)).1) - 1), ((x_1 - n144) + (List.getD l_3 (Int.toNat x361) (0, 0)).1), (((x_1 - n144) + (List.getD l_3 (Int.toNat x361) (0, 0)).2) - 1), ((x_1 - n144) + (List.getD l_3 (Int.toNat x361) (0, 0)).2)]))))
  else
    (some (Sum.inr l217))) : Option ((Int × List Int) ⊕ (List Int))) := rfl
theorem m_law13_near_L2_eq (l_4 : List (Int × Int)) (n145 : Int) (x_1 : Int) (x363 : Int) (l219 : List Int) : m_law13_near_L2 std l_4 n145 x_1 (x363, l219) =
((bif (decide (x363 < (((List.length l_4) : Nat) : Int))) then
    grd (okIdx x363 ((List.length l_4))) <|
    grd (okKin ((Int.toNat x363)) ((List.length l_4))) <|
    grd (okI .i64 (((x_1 - n145) + (List.getD l_4 (Int.toNat x363) (0, 0)).1))) <|
    grd (okI .i64 ((((x_1 - n145) + (List.getD l_4 (Int.toNat x363) (0, 0)).1) - 1))) <|
    grd (okI .i64 (((x_1 - n145) + (List.getD l_4 (Int.toNat x363) (0, 0)).2))) <|
    grd (okI .i64 ((((x_1 - n145) + (List.getD l_4 (Int.toNat x363) (0, 0)).2) - 1))) <|
    grd (okRoom ((List.length l219))) <|
    grd (okRoom ((List.length [(((x_1 - n145) + (List.getD l_4 (Int.toNat x363) (0, 0)).1) - 1), ((x_1 - n145) + (List.getD l_4 (Int.toNat x363) (0, 0)).1), (((x_1 - n145) + (List.getD l_4 (Int.toNat x363) (0, 0)).2) - 1), ((x_1 - n145) + (List.getD l_4 (Int.toNat x363) (0, 0)).2)]))) <|
    grd (okI .i64 ((x363 + 1))) <|
    (some (Sum.inl ((x363 + 1), (l219 ++ [(((x_1 - n145) + (List.getD l_4 (Int.toNat x363) (0, 0)).1) - 1), ((x_1 - n145) + (List.getD l_4 (Int.toNat x363) (0, 0)).1), (((x_1 - n145) + (List.getD l_4 (Int.toNat x363) (0, 0)).2) - 1), ((x_1 - n145) + (List.getD l_4 (Int.toNat x363) (0, 0)).2)]))))
  else
    (some (Sum.inr l219))) : Option ((Int × List Int) ⊕ (List Int))) := rfl
theorem m_law13_near_eq (x_1 : Int) (l_1 : Int) (l_2 : Int) (l_3 : List (Int × Int)) (l_4 : List (Int × Int)) : m_law13_near std x_1 l_1 l_2 l_3 l_4 =
((Option.bind (m_integer_Mod std x_1 l_1) fun n144 =>
  grd (okI .i64 ((x_1 - n144))) <|
  Option.bind (loop (m_law13_near_L1 std l_3 n144 x_1) (0, [x_1])) fun l218 =>
  grd (okI .i64 ((0 + 1))) <|
  Option.bind (m_integer_Mod std x_1 l_2) fun n145 =>
  grd (okI .i64 ((x_1 - n145))) <|
  Option.bind (loop (m_law13_near_L2 std l_4 n145 x_1) (0, l218)) fun l220 =>
  grd (okI .i64 ((1 + 1))) <|
  (some l220)) : Option (List Int)) := rfl
theorem m_law13_PeriodicPoints_L1_eq (a_1 : Int) (a_2 : List (Int × Int)) (b_1 : Int) (b_2 : List (Int × Int)) (l212 : List (Int × Int)) (l213 : List (Int × Int)) (l214 : List (Int × Int)) (l215 : List (Int × Int)) (l216 : List (Int × Int)) (l221 : List Int) (n134 : Int) (n135 : Int) (n136 : Int) (n137 : Int) (n138 : Int) (n139 : Int) (n140 : Int) (n142 : Int) (n_1 : Int) (x387 : Int) : m_law13_PeriodicPoints_L1 std a_1 a_2 b_1 b_2 l212 l213 l214 l215 l216 l221 n134 n135 n136 n137 n138 n139 n140 n142 n_1 x387 =
((bif (decide (x387 < (((List.length l221) : Nat) : Int))) then
    grd (okIdx x387 ((List.length l221))) <|
    grd (okKin ((Int.toNat x387)) ((List.length l221))) <|
    Option.bind (m_periodic_Has std a_1 ((List.getD l221 (Int.toNat x387) 0)) a_2) fun b134 =>
    Option.bind (m_periodic_Has std b_1 ((List.getD l221 (Int.toNat x387) 0)) b_2) fun b135 =>
    Option.bind (
      bif (n135 == 0) then
        Option.bind (m_periodic_Has std n134 ((List.getD l221 (Int.toNat x387) 0)) l212) fun b136 =>
        bif b134 then
          bif (!(b136 == true)) then
            (some (true, true))
          else
            bif (n137 == 0) then
              Option.bind (m_periodic_Has std n136 ((List.getD l221 (Int.toNat x387) 0)) l213) fun b137 =>
              bif (!(b137 == b135)) then
                (some (true, true))
              else
                bif (n139 == 0) then
                  Option.bind (m_periodic_Has std n138 ((List.getD l221 (Int.toNat x387) 0)) l214) fun b138 =>
                  (some (true, (!(b138 == (!b135)))))
                else
                  (some (true, false))
            else
              bif (n139 == 0) then
                Option.bind (m_periodic_Has std n138 ((List.getD l221 (Int.toNat x387) 0)) l214) fun b139 =>
                (some (true, (!(b139 == (!b135)))))
              else
                (some (true, false))
        else
          bif (!(b136 == b135)) then
            (some (false, true))
          else
            bif (n137 == 0) then
              Option.bind (m_periodic_Has std n136 ((List.getD l221 (Int.toNat x387) 0)) l213) fun b140 =>
              bif (!(b140 == false)) then
                (some (false, true))
              else
                bif (n139 == 0) then
                  Option.bind (m_periodic_Has std n138 ((List.getD l221 (Int.toNat x387) 0)) l214) fun b141 =>
                  (some (false, (!(b141 == false))))
                else
                  (some (false, false))
            else
              bif (n139 == 0) then
                Option.bind (m_periodic_Has std n138 ((List.getD l221 (Int.toNat x387) 0)) l214) fun b142 =>
                (some (false, (!(b142 == false))))
              else
                (some (false, false))
      else
        bif (n137 == 0) then
          Option.bind (m_periodic_Has std n136 ((List.getD l221 (Int.toNat x387) 0)) l213) fun b143 =>
          bif b134 then
            bif (!(b143 == b135)) then
              (some (true, true))
            else
              bif (n139 == 0) then
                Option.bind (m_periodic_Has std n138 ((List.getD l221 (Int.toNat x387) 0)) l214) fun b144 =>
                (some (true, (!(b144 == (!b135)))))
              else
                (some (true, false))
          else
            bif (!(b143 == false)) then
              (some (false, true))
            else
              bif (n139 == 0) then
                Option.bind (m_periodic_Has std n138 ((List.getD l221 (Int.toNat x387) 0)) l214) fun b145 =>
                (some (false, (!(b145 == false))))
              else
                (some (false, false))
        else
          bif (n139 == 0) then
            Option.bind (m_periodic_Has std n138 ((List.getD l221 (Int.toNat x387) 0)) l214) fun b146 =>
            bif b134 then
              (some (true, (!(b146 == (!b135)))))
            else
              (some (false, (!(b146 == false))))
          else
            (some (b134, false)) : Option ((Bool × Bool))) fun (p32, x407) =>
    bif x407 then
      (some (Sum.inr (Sum.inl ())))
    else
      Option.bind (
        Option.bind (m_periodic_Has std n140 ((List.getD l221 (Int.toNat x387) 0)) l215) fun b147 =>
        bif (b147 == p32) then
          (some true)
        else
          grd (okI .i64 (((List.getD l221 (Int.toNat x387) 0) + n_1))) <|
          Option.bind (m_periodic_Has std n142 (((List.getD l221 (Int.toNat x387) 0) + n_1)) l216) fun b148 =>
          (some (!(b148 == p32))) : Option ((Bool))) fun x409 =>
      bif x409 then
        (some (Sum.inr (Sum.inl ())))
      else
        grd (okI .i64 ((x387 + 1))) <|
        (some (Sum.inl (x387 + 1)))
  else
    (some (Sum.inr (Sum.inr ())))) : Option ((Int) ⊕ ((Unit) ⊕ (Unit)))) := rfl
theorem m_law13_PeriodicPoints_eq (a_1 : Int) (b_1 : Int) (n_1 : Int) (x_1 : Int) (a_2 : List (Int × Int)) (b_2 : List (Int × Int)) : m_law13_PeriodicPoints std a_1 b_1 n_1 x_1 a_2 b_2 =
((Option.bind (
    Option.bind (m_law13_awake std) fun b111 =>
    bif (!b111) then
      (some true)
    else
      Option.bind (m_law13_long std a_1 a_2) fun b112 =>
      bif b112 then
        (some true)
      else
        Option.bind (m_law13_long std b_1 b_2) fun b113 =>
        bif b113 then
          (some true)
        else
          Option.bind (m_periodic_Valid std a_1 a_2) fun b114 =>
          bif (!b114) then
            (some true)
          else
            Option.bind (m_periodic_Valid std b_1 b_2) fun b115 =>
            bif (!b115) then
              (some true)
            else
              Option.bind (m_law13_line std n_1) fun b116 =>
              bif (!b116) then
                (some true)
              else
                Option.bind (m_law13_line std x_1) fun b117 =>
                (some (!b117)) : Option ((Bool))) fun x357 =>
  bif x357 then
    Option.bind (m_law13_awake std) fun b118 =>
    (some b118)
  else
    Option.bind (m_periodic_Union std a_1 b_1 a_2 b_2) fun (n134, l212, n135) =>
    Option.bind (m_periodic_Meet std a_1 b_1 a_2 b_2) fun (n136, l213, n137) =>
    Option.bind (m_periodic_Minus std a_1 b_1 a_2 b_2) fun (n138, l214, n139) =>
    Option.bind (m_periodic_Not std a_1 a_2) fun (n140, l215, n141) =>
    Option.bind (m_periodic_Move std a_1 n_1 a_2) fun (n142, l216, n143) =>
    Option.bind (
      bif (!(n141 == 0)) then
        (some true)
      else
        (some (!(n143 == 0))) : Option ((Bool))) fun x359 =>
    bif x359 then
      (some false)
    else
      Option.bind (m_law13_near std x_1 a_1 b_1 a_2 b_2) fun l221 =>
      Option.bind (loop (m_law13_PeriodicPoints_L1 std a_1 a_2 b_1 b_2 l212 l213 l214 l215 l216 l221 n134 n135 n136 n137 n138 n139 n140 n142 n_1) 0) fun e => match e with
      | .inl _ =>
        (some false)
      | .inr (_) =>
        (some true)) : Option (Bool)) := rfl
theorem m_interval_Meet_eq (a_1 : Int) (a_2 : Int) (b_1 : Int) (b_2 : Int) : m_interval_Meet std a_1 a_2 b_1 b_2 =
((Option.bind (
    Option.bind (m_interval_Valid std a_1 a_2) fun b154 =>
    bif (!b154) then
      (some true)
    else
      Option.bind (m_interval_Valid std b_1 b_2) fun b155 =>
      bif (!b155) then
        (some true)
      else
        (some (decide ((mi a_2 b_2) ≤ (ma a_1 b_1)))) : Option ((Bool))) fun x418 =>
  bif x418 then
    (some (0, 0, false))
  else
    (some ((ma a_1 b_1), (mi a_2 b_2), true))) : Option (Int × Int × Bool)) := rfl
theorem m_periodic_Window_L1_eq (at22 : Int) (in_1 : Int) (in_2 : Int) (p_2 : List (Int × Int)) (x429 : Int) (l239 : List (Int × Int)) : m_periodic_Window_L1 std at22 in_1 in_2 p_2 (x429, l239) =
((bif (decide (x429 < (((List.length p_2) : Nat) : Int))) then
    grd (okIdx x429 ((List.length p_2))) <|
    grd (okKin ((Int.toNat x429)) ((List.length p_2))) <|
    grd (okI .i64 (((List.getD p_2 (Int.toNat x429) (0, 0)).1 + at22))) <|
    grd (okI .i64 (((List.getD p_2 (Int.toNat x429) (0, 0)).2 + at22))) <|
    Option.bind (m_interval_Meet std ((ma ((List.getD p_2 (Int.toNat x429) (0, 0)).1 + at22) in_1)) ((ma (mi ((List.getD p_2 (Int.toNat x429) (0, 0)).2 + at22) in_2) in_1)) in_1 in_2) fun (n153, n154, b159) =>
    Option.bind (
      bif (!b159) then
        (some l239)
      else
        Option.bind (
          bif (decide (0 < (((List.length l239) : Nat) : Int))) then
            grd (okI .i64 (((((List.length l239) : Nat) : Int) - 1))) <|
            grd (okIdx (((((List.length l239) : Nat) : Int) - 1)) ((List.length l239))) <|
            grd (okKin ((Int.toNat ((((List.length l239) : Nat) : Int) - 1))) ((List.length l239))) <|
            (some ((List.getD l239 (Int.toNat ((((List.length l239) : Nat) : Int) - 1)) (0, 0)).2 == n153))
          else
            (some false) : Option ((Bool))) fun x431 =>
        Option.bind (
          bif x431 then
            grd (okI .i64 (((((List.length l239) : Nat) : Int) - 1))) <|
            grd (okIdx (((((List.length l239) : Nat) : Int) - 1)) ((List.length l239))) <|
            grd (okKin ((Int.toNat ((((List.length l239) : Nat) : Int) - 1))) ((List.length l239))) <|
            (some (List.set l239 (Int.toNat ((((List.length l239) : Nat) : Int) - 1)) ((List.getD l239 (Int.toNat ((((List.length l239) : Nat) : Int) - 1)) (0, 0)).1, n154)))
          else
            grd (okRoom ((List.length l239))) <|
            grd (okRoom ((List.length [(n153, n154)]))) <|
            (some (l239 ++ [(n153, n154)])) : Option ((List (Int × Int)))) fun l241 =>
        (some l241) : Option ((List (Int × Int)))) fun l243 =>
    grd (okI .i64 ((x429 + 1))) <|
    (some (Sum.inl ((x429 + 1), l243)))
  else
    (some (Sum.inr l239))) : Option ((Int × List (Int × Int)) ⊕ (List (Int × Int)))) := rfl
theorem m_periodic_Window_L2_eq (in_1 : Int) (in_2 : Int) (p_1 : Int) (p_2 : List (Int × Int)) (at22 : Int) (l234 : List (Int × Int)) : m_periodic_Window_L2 std in_1 in_2 p_1 p_2 (at22, l234) =
((Option.bind (
    bif (decide (at22 < in_2)) then
      (some (decide (0 < (((List.length p_2) : Nat) : Int))))
    else
      (some false) : Option ((Bool))) fun x425 =>
  bif x425 then
    Option.bind (loop (m_periodic_Window_L1 std at22 in_1 in_2 p_2) (0, l234)) fun l244 =>
    bif (decide (2000 < (((List.length l244) : Nat) : Int))) then
      (some (Sum.inr (Sum.inl ())))
    else
      grd (okI .i64 ((at22 + p_1))) <|
      (some (Sum.inl ((at22 + p_1), l244)))
  else
    (some (Sum.inr (Sum.inr l234)))) : Option ((Int × List (Int × Int)) ⊕ ((Unit) ⊕ (List (Int × Int))))) := rfl
theorem m_periodic_Window_eq (p_1 : Int) (in_1 : Int) (in_2 : Int) (p_2 : List (Int × Int)) : m_periodic_Window std p_1 in_1 in_2 p_2 =
((Option.bind (
    Option.bind (m_periodic_Valid std p_1 p_2) fun b152 =>
    bif (!b152) then
      (some true)
    else
      Option.bind (m_interval_Valid std in_1 in_2) fun b153 =>
      (some (!b153)) : Option ((Bool))) fun x413 =>
  bif x413 then
    (some (([] : List (Int × Int)), 1))
  else
    Option.bind (
      bif (p_1 == 1) then
        bif ((((List.length p_2) : Nat) : Int) == 0) then
          (some (Sum.inl ([] : List (Int × Int))))
        else
          (some (Sum.inl [(in_1, in_2)]))
      else
        (some (Sum.inr ())) : Option (((List (Int × Int)) ⊕ (Unit)))) fun e => match e with
    | .inl l223 =>
      (some (l223, 0))
    | .inr (_) =>
      Option.bind (m_integer_Mod std in_1 p_1) fun n146 =>
      grd (okI .i64 ((in_1 - n146))) <|
      Option.bind (loop (m_periodic_Window_L2 std in_1 in_2 p_1 p_2) ((in_1 - n146), ([] : List (Int × Int)))) fun e => match e with
      | .inl _ =>
        (some (([] : List (Int × Int)), 5))
      | .inr (l245) =>
        (some (l245, 0))) : Option (List (Int × Int) × Int)) := rfl
theorem m_runs_Measure_L1_eq (a_1 : List (Int × Int)) (n159 : Int) (x434 : Int) : m_runs_Measure_L1 std a_1 (n159, x434) =
((bif (decide (x434 < (((List.length a_1) : Nat) : Int))) then
    grd (okIdx x434 ((List.length a_1))) <|
    grd (okKin ((Int.toNat x434)) ((List.length a_1))) <|
    grd (okI .i64 (((List.getD a_1 (Int.toNat x434) (0, 0)).2 - (List.getD a_1 (Int.toNat x434) (0, 0)).1))) <|
    grd (okI .i64 ((n159 + ((List.getD a_1 (Int.toNat x434) (0, 0)).2 - (List.getD a_1 (Int.toNat x434) (0, 0)).1)))) <|
    grd (okI .i64 ((x434 + 1))) <|
    (some (Sum.inl ((n159 + ((List.getD a_1 (Int.toNat x434) (0, 0)).2 - (List.getD a_1 (Int.toNat x434) (0, 0)).1)), (x434 + 1))))
  else
    (some (Sum.inr n159))) : Option ((Int × Int) ⊕ (Int))) := rfl
theorem m_runs_Measure_eq (a_1 : List (Int × Int)) : m_runs_Measure std a_1 =
((Option.bind (m_runs_Valid std a_1) fun b162 =>
  bif (!b162) then
    (some 0)
  else
    Option.bind (loop (m_runs_Measure_L1 std a_1) (0, 0)) fun n160 =>
    (some n160)) : Option (Int)) := rfl
theorem m_runs_Rank_L1_eq (a_1 : List (Int × Int)) (x_1 : Int) (n162 : Int) (x435 : Int) : m_runs_Rank_L1 std a_1 x_1 (n162, x435) =
((bif (decide (x435 < (((List.length a_1) : Nat) : Int))) then
    grd (okIdx x435 ((List.length a_1))) <|
    grd (okKin ((Int.toNat x435)) ((List.length a_1))) <|
    Option.bind (
      bif (decide ((List.getD a_1 (Int.toNat x435) (0, 0)).1 < x_1)) then
        grd (okI .i64 (((mi (List.getD a_1 (Int.toNat x435) (0, 0)).2 x_1) - (List.getD a_1 (Int.toNat x435) (0, 0)).1))) <|
        grd (okI .i64 ((n162 + ((mi (List.getD a_1 (Int.toNat x435) (0, 0)).2 x_1) - (List.getD a_1 (Int.toNat x435) (0, 0)).1)))) <|
        (some (n162 + ((mi (List.getD a_1 (Int.toNat x435) (0, 0)).2 x_1) - (List.getD a_1 (Int.toNat x435) (0, 0)).1)))
      else
        (some n162) : Option ((Int))) fun n164 =>
    grd (okI .i64 ((x435 + 1))) <|
    (some (Sum.inl (n164, (x435 + 1))))
  else
    (some (Sum.inr n162))) : Option ((Int × Int) ⊕ (Int))) := rfl
theorem m_runs_Rank_eq (x_1 : Int) (a_1 : List (Int × Int)) : m_runs_Rank std x_1 a_1 =
((Option.bind (m_runs_Valid std a_1) fun b163 =>
  bif (!b163) then
    (some 0)
  else
    Option.bind (loop (m_runs_Rank_L1 std a_1 x_1) (0, 0)) fun n165 =>
    (some n165)) : Option (Int)) := rfl
theorem m_periodic_below_eq (p_1 : Int) (x_1 : Int) (p_2 : List (Int × Int)) : m_periodic_below std p_1 x_1 p_2 =
((Option.bind (m_integer_Div std x_1 p_1) fun (n156, n157, _) =>
  Option.bind (m_runs_Measure std p_2) fun n161 =>
  grd (okI .i64 ((n156 * n161))) <|
  Option.bind (m_runs_Rank std n157 p_2) fun n166 =>
  grd (okI .i64 (((n156 * n161) + n166))) <|
  (some ((n156 * n161) + n166))) : Option (Int)) := rfl
theorem m_periodic_Count_eq (p_1 : Int) (in_1 : Int) (in_2 : Int) (p_2 : List (Int × Int)) : m_periodic_Count std p_1 in_1 in_2 p_2 =
((Option.bind (
    Option.bind (m_periodic_Valid std p_1 p_2) fun b160 =>
    bif (!b160) then
      (some true)
    else
      Option.bind (m_interval_Valid std in_1 in_2) fun b161 =>
      (some (!b161)) : Option ((Bool))) fun x433 =>
  bif x433 then
    (some (0, 1))
  else
    Option.bind (m_periodic_below std p_1 in_2 p_2) fun n167 =>
    Option.bind (m_periodic_below std p_1 in_1 p_2) fun n168 =>
    grd (okI .i64 ((n167 - n168))) <|
    (some ((n167 - n168), 0))) : Option (Int × Int)) := rfl
theorem m_ref13_Window_L1_eq (at24 : Int) (in_1 : Int) (in_2 : Int) (p_2 : List (Int × Int)) (i64 : Int) (l256 : List (Int × Int)) : m_ref13_Window_L1 std at24 in_1 in_2 p_2 (i64, l256) =
((bif (decide (i64 < (((List.length p_2) : Nat) : Int))) then
    grd (okIdx i64 ((List.length p_2))) <|
    grd (okKin ((Int.toNat i64)) ((List.length p_2))) <|
    grd (okI .i64 (((List.getD p_2 (Int.toNat i64) (0, 0)).1 + at24))) <|
    grd (okI .i64 (((List.getD p_2 (Int.toNat i64) (0, 0)).2 + at24))) <|
    bif (decide ((mi ((List.getD p_2 (Int.toNat i64) (0, 0)).2 + at24) in_2) ≤ (ma ((List.getD p_2 (Int.toNat i64) (0, 0)).1 + at24) in_1))) then
      grd (okI .i64 ((i64 + 1))) <|
      (some (Sum.inl ((i64 + 1), l256)))
    else
      Option.bind (
        bif (decide (0 < (((List.length l256) : Nat) : Int))) then
          grd (okI .i64 (((((List.length l256) : Nat) : Int) - 1))) <|
          grd (okIdx (((((List.length l256) : Nat) : Int) - 1)) ((List.length l256))) <|
          grd (okKin ((Int.toNat ((((List.length l256) : Nat) : Int) - 1))) ((List.length l256))) <|
          (some ((List.getD l256 (Int.toNat ((((List.length l256) : Nat) : Int) - 1)) (0, 0)).2 == (ma ((List.getD p_2 (Int.toNat i64) (0, 0)).1 + at24) in_1)))
        else
          (some false) : Option ((Bool))) fun x445 =>
      Option.bind (
        bif x445 then
          grd (okI .i64 (((((List.length l256) : Nat) : Int) - 1))) <|
          grd (okIdx (((((List.length l256) : Nat) : Int) - 1)) ((List.length l256))) <|
          grd (okKin ((Int.toNat ((((List.length l256) : Nat) : Int) - 1))) ((List.length l256))) <|
          (some (List.set l256 (Int.toNat ((((List.length l256) : Nat) : Int) - 1)) ((List.getD l256 (Int.toNat ((((List.length l256) : Nat) : Int) - 1)) (0, 0)).1, (mi ((List.getD p_2 (Int.toNat i64) (0, 0)).2 + at24) in_2))))
        else
          grd (okRoom ((List.length l256))) <|
          grd (okRoom ((List.length [((ma ((List.getD p_2 (Int.toNat i64) (0, 0)).1 + at24) in_1), (mi ((List.getD p_2 (Int.toNat i64) (0, 0)).2 + at24) in_2))]))) <|
          (some (l256 ++ [((ma ((List.getD p_2 (Int.toNat i64) (0, 0)).1 + at24) in_1), (mi ((List.getD p_2 (Int.toNat i64) (0, 0)).2 + at24) in_2))])) : Option ((List (Int × Int)))) fun l258 =>
      grd (okI .i64 ((i64 + 1))) <|
      (some (Sum.inl ((i64 + 1), l258)))
  else
    (some (Sum.inr l256))) : Option ((Int × List (Int × Int)) ⊕ (List (Int × Int)))) := rfl
theorem m_ref13_Window_L2_eq (in_1 : Int) (in_2 : Int) (p_1 : Int) (p_2 : List (Int × Int)) (at24 : Int) (l253 : List (Int × Int)) : m_ref13_Window_L2 std in_1 in_2 p_1 p_2 (at24, l253) =
((bif (decide (at24 < in_2)) then
    Option.bind (loop (m_ref13_Window_L1 std at24 in_1 in_2 p_2) (0, l253)) fun l259 =>
    bif (decide (2000 < (((List.length l259) : Nat) : Int))) then
      (some (Sum.inr (Sum.inl ())))
    else
      grd (okI .i64 ((at24 + p_1))) <|
      (some (Sum.inl ((at24 + p_1), l259)))
  else
    (some (Sum.inr (Sum.inr l253)))) : Option ((Int × List (Int × Int)) ⊕ ((Unit) ⊕ (List (Int × Int))))) := rfl
theorem m_ref13_Window_eq (p_1 : Int) (in_1 : Int) (in_2 : Int) (p_2 : List (Int × Int)) : m_ref13_Window std p_1 in_1 in_2 p_2 =
((Option.bind (
    Option.bind (m_ref13_Valid std p_1 p_2) fun b164 =>
    bif (!b164) then
      (some true)
    else
      Option.bind (m_ref13_Span std in_1 in_2) fun b165 =>
      (some (!b165)) : Option ((Bool))) fun x437 =>
  bif x437 then
    (some (([] : List (Int × Int)), 1))
  else
    bif ((((List.length p_2) : Nat) : Int) == 0) then
      (some (([] : List (Int × Int)), 0))
    else
      bif (p_1 == 1) then
        (some ([(in_1, in_2)], 0))
      else
        Option.bind (m_ref01_Mod std in_1 p_1) fun n171 =>
        grd (okI .i64 ((in_1 - n171))) <|
        Option.bind (loop (m_ref13_Window_L2 std in_1 in_2 p_1 p_2) ((in_1 - n171), ([] : List (Int × Int)))) fun e => match e with
        | .inl _ =>
          (some (([] : List (Int × Int)), 5))
        | .inr (l260) =>
          (some (l260, 0))) : Option (List (Int × Int) × Int)) := rfl
theorem m_ref13_below_L1_eq (n174 : Int) (p_2 : List (Int × Int)) (each1 : Int) (part1 : Int) (i65 : Int) : m_ref13_below_L1 std n174 p_2 (each1, part1, i65) =
((bif (decide (i65 < (((List.length p_2) : Nat) : Int))) then
    grd (okIdx i65 ((List.length p_2))) <|
    grd (okKin ((Int.toNat i65)) ((List.length p_2))) <|
    grd (okI .i64 ((each1 + (List.getD p_2 (Int.toNat i65) (0, 0)).2))) <|
    grd (okI .i64 (((each1 + (List.getD p_2 (Int.toNat i65) (0, 0)).2) - (List.getD p_2 (Int.toNat i65) (0, 0)).1))) <|
    grd (okI .i64 (((mi n174 (List.getD p_2 (Int.toNat i65) (0, 0)).2) - (List.getD p_2 (Int.toNat i65) (0, 0)).1))) <|
    grd (okI .i64 ((part1 + (ma 0 ((mi n174 (List.getD p_2 (Int.toNat i65) (0, 0)).2) - (List.getD p_2 (Int.toNat i65) (0, 0)).1))))) <|
    grd (okI .i64 ((i65 + 1))) <|
    (some (Sum.inl (((each1 + (List.getD p_2 (Int.toNat i65) (0, 0)).2) - (List.getD p_2 (Int.toNat i65) (0, 0)).1), (part1 + (ma 0 ((mi n174 (List.getD p_2 (Int.toNat i65) (0, 0)).2) - (List.getD p_2 (Int.toNat i65) (0, 0)).1))), (i65 + 1))))
  else
    (some (Sum.inr (each1, part1)))) : Option ((Int × Int × Int) ⊕ (Int × Int))) := rfl
theorem m_ref13_below_eq (p_1 : Int) (x_1 : Int) (p_2 : List (Int × Int)) : m_ref13_below std p_1 x_1 p_2 =
((Option.bind (m_ref01_Div std x_1 p_1) fun (n173, n174, _) =>
  Option.bind (loop (m_ref13_below_L1 std n174 p_2) (0, 0, 0)) fun (each2, part2) =>
  grd (okI .i64 ((n173 * each2))) <|
  grd (okI .i64 (((n173 * each2) + part2))) <|
  (some ((n173 * each2) + part2))) : Option (Int)) := rfl
theorem m_ref13_Count_eq (p_1 : Int) (in_1 : Int) (in_2 : Int) (p_2 : List (Int × Int)) : m_ref13_Count std p_1 in_1 in_2 p_2 =
((Option.bind (m_ref13_below std p_1 in_2 p_2) fun n176 =>
  Option.bind (m_ref13_below std p_1 in_1 p_2) fun n177 =>
  grd (okI .i64 ((n176 - n177))) <|
  (some (n176 - n177))) : Option (Int)) := rfl
theorem m_law13_PeriodicWindows_eq (p_1 : Int) (in_1 : Int) (in_2 : Int) (p_2 : List (Int × Int)) : m_law13_PeriodicWindows std p_1 in_1 in_2 p_2 =
((Option.bind (
    Option.bind (m_law13_awake std) fun b149 =>
    bif (!b149) then
      (some true)
    else
      Option.bind (m_law13_long std p_1 p_2) fun b150 =>
      (some b150) : Option ((Bool))) fun x411 =>
  bif x411 then
    Option.bind (m_law13_awake std) fun b151 =>
    (some b151)
  else
    Option.bind (m_periodic_Window std p_1 in_1 in_2 p_2) fun (l246, n155) =>
    Option.bind (m_periodic_Count std p_1 in_1 in_2 p_2) fun (n169, n170) =>
    Option.bind (m_ref13_Window std p_1 in_1 in_2 p_2) fun (l261, n172) =>
    Option.bind (
      bif (!(n155 == n172)) then
        (some true)
      else
        Option.bind (m_slices_Equal std l246 l261) fun b166 =>
        (some (!b166)) : Option ((Bool))) fun x447 =>
    bif x447 then
      (some false)
    else
      Option.bind (
        Option.bind (m_ref13_Valid std p_1 p_2) fun b167 =>
        bif (!b167) then
          (some true)
        else
          Option.bind (m_ref13_Span std in_1 in_2) fun b168 =>
          (some (!b168)) : Option ((Bool))) fun x449 =>
      bif x449 then
        Option.bind (
          bif (n169 == 0) then
            (some (n170 == 1))
          else
            (some false) : Option ((Bool))) fun x451 =>
        (some x451)
      else
        Option.bind (
          bif (n170 == 0) then
            Option.bind (m_ref13_Count std p_1 in_1 in_2 p_2) fun n178 =>
            bif (n169 == n178) then
              bif (!(n155 == 0)) then
                (some true)
              else
                Option.bind (m_runs_Measure std l246) fun n179 =>
                bif (n169 == n179) then
                  Option.bind (m_runs_Valid std l246) fun b169 =>
                  (some b169)
                else
                  (some false)
            else
              (some false)
          else
            (some false) : Option ((Bool))) fun x456 =>
        (some x456)) : Option (Bool)) := rfl
theorem m_law13_PeriodicCounts_eq (p_1 : Int) (a_1 : Int) (b_1 : Int) (c_1 : Int) (p_2 : List (Int × Int)) : m_law13_PeriodicCounts std p_1 a_1 b_1 c_1 p_2 =
((Option.bind (
    Option.bind (m_law13_awake std) fun b170 =>
    bif (!b170) then
      (some true)
    else
      Option.bind (m_law13_long std p_1 p_2) fun b171 =>
      bif b171 then
        (some true)
      else
        Option.bind (m_periodic_Valid std p_1 p_2) fun b172 =>
        bif (!b172) then
          (some true)
        else
          Option.bind (m_law13_line std a_1) fun b173 =>
          bif (!b173) then
            (some true)
          else
            Option.bind (m_law13_line std c_1) fun b174 =>
            bif (!b174) then
              (some true)
            else
              bif (decide (b_1 ≤ a_1)) then
                (some true)
              else
                (some (decide (c_1 ≤ b_1))) : Option ((Bool))) fun x458 =>
  bif x458 then
    Option.bind (m_law13_awake std) fun b175 =>
    (some b175)
  else
    Option.bind (m_periodic_Count std p_1 a_1 b_1 p_2) fun (n180, n181) =>
    Option.bind (m_periodic_Count std p_1 b_1 c_1 p_2) fun (n182, n183) =>
    Option.bind (m_periodic_Count std p_1 a_1 c_1 p_2) fun (n184, n185) =>
    Option.bind (m_periodic_Not std p_1 p_2) fun (n186, l262, n187) =>
    Option.bind (m_periodic_Count std n186 a_1 c_1 l262) fun (n188, n189) =>
    Option.bind (
      bif (!(n181 == 0)) then
        (some true)
      else
        bif (!(n183 == 0)) then
          (some true)
        else
          bif (!(n185 == 0)) then
            (some true)
          else
            bif (!(n187 == 0)) then
              (some true)
            else
              bif (!(n189 == 0)) then
                (some true)
              else
                bif (!((n180 + n182) == n184)) then
                  grd (okI .i64 ((n180 + n182))) <|
                  (some true)
                else
                  grd (okI .i64 ((n180 + n182))) <|
                  grd (okI .i64 ((n184 + n188))) <|
                  grd (okI .i64 ((c_1 - a_1))) <|
                  (some (!((n184 + n188) == (c_1 - a_1)))) : Option ((Bool))) fun x460 =>
    bif x460 then
      (some false)
    else
      grd (okI .i64 ((a_1 + p_1))) <|
      Option.bind (m_law13_line std ((a_1 + p_1))) fun b176 =>
      bif (!b176) then
        (some true)
      else
        Option.bind (m_periodic_Count std p_1 0 p_1 p_2) fun (n190, n191) =>
        Option.bind (m_periodic_Count std p_1 a_1 ((a_1 + p_1)) p_2) fun (n192, n193) =>
        Option.bind (
          bif (n191 == 0) then
            bif (n193 == 0) then
              (some (n190 == n192))
            else
              (some false)
          else
            (some false) : Option ((Bool))) fun x463 =>
        (some x463)) : Option (Bool)) := rfl
theorem m_runs_search_1_eq (s_1 : Int) (s_2 : Int) (x_1 : Int) : m_runs_search_1 std s_1 s_2 x_1 =
((bif (decide (s_2 ≤ x_1)) then
    (some (-1))
  else
    (some 1)) : Option (Int)) := rfl
theorem m_slices_BinarySearchFunc_2_L1_eq (target_1 : Int) (x_1 : List (Int × Int)) (i66 : Int) (j4 : Int) : m_slices_BinarySearchFunc_2_L1 std target_1 x_1 (i66, j4) =
((bif (decide (i66 < j4)) then
    grd (okI .i64 ((i66 + j4))) <|
    grd (okI .u64 ((i66 + j4))) <|
    grd (okIdx 1 65) <|
    grd (okI .i64 (((i66 + j4) / 2 ^ (Int.toNat 1)))) <|
    grd (okIdx (((i66 + j4) / 2 ^ (Int.toNat 1))) ((List.length x_1))) <|
    grd (okKin ((Int.toNat ((i66 + j4) / 2 ^ (Int.toNat 1)))) ((List.length x_1))) <|
    Option.bind (m_runs_search_1 std ((List.getD x_1 (Int.toNat ((i66 + j4) / 2 ^ (Int.toNat 1))) (0, 0)).1) ((List.getD x_1 (Int.toNat ((i66 + j4) / 2 ^ (Int.toNat 1))) (0, 0)).2) target_1) fun n195 =>
    Option.bind (
      bif (decide (n195 < 0)) then
        grd (okI .i64 ((((i66 + j4) / 2 ^ (Int.toNat 1)) + 1))) <|
        (some ((((i66 + j4) / 2 ^ (Int.toNat 1)) + 1), j4))
      else
        (some (i66, ((i66 + j4) / 2 ^ (Int.toNat 1)))) : Option ((Int × Int))) fun (i68, j6) =>
    (some (Sum.inl (i68, j6)))
  else
    (some (Sum.inr i66))) : Option ((Int × Int) ⊕ (Int))) := rfl
theorem m_slices_BinarySearchFunc_2_eq (target_1 : Int) (x_1 : List (Int × Int)) : m_slices_BinarySearchFunc_2 std target_1 x_1 =
((Option.bind (loop (m_slices_BinarySearchFunc_2_L1 std target_1 x_1) (0, (((List.length x_1) : Nat) : Int))) fun i69 =>
  Option.bind (
    bif (decide (i69 < (((List.length x_1) : Nat) : Int))) then
      grd (okIdx i69 ((List.length x_1))) <|
      grd (okKin ((Int.toNat i69)) ((List.length x_1))) <|
      Option.bind (m_runs_search_1 std ((List.getD x_1 (Int.toNat i69) (0, 0)).1) ((List.getD x_1 (Int.toNat i69) (0, 0)).2) target_1) fun n196 =>
      (some (n196 == 0))
    else
      (some false) : Option ((Bool))) fun x469 =>
  (some (i69, x469))) : Option (Int × Bool)) := rfl
theorem m_runs_search_eq (x_1 : Int) (a_1 : List (Int × Int)) : m_runs_search std x_1 a_1 =
((Option.bind (m_slices_BinarySearchFunc_2 std x_1 a_1) fun (n197, _) =>
  (some n197)) : Option (Int)) := rfl
theorem m_runs_Next_eq (x_1 : Int) (a_1 : List (Int × Int)) : m_runs_Next std x_1 a_1 =
((Option.bind (m_runs_Valid std a_1) fun b181 =>
  bif (!b181) then
    (some (0, false))
  else
    Option.bind (m_runs_search std x_1 a_1) fun n198 =>
    bif (n198 == (((List.length a_1) : Nat) : Int)) then
      (some (0, false))
    else
      grd (okIdx n198 ((List.length a_1))) <|
      grd (okKin ((Int.toNat n198)) ((List.length a_1))) <|
      (some ((ma x_1 (List.getD a_1 (Int.toNat n198) (0, 0)).1), true))) : Option (Int × Bool)) := rfl
theorem m_periodic_Next_eq (p_1 : Int) (x_1 : Int) (p_2 : List (Int × Int)) : m_periodic_Next std p_1 x_1 p_2 =
((Option.bind (
    Option.bind (m_periodic_Valid std p_1 p_2) fun b180 =>
    bif (!b180) then
      (some true)
    else
      bif ((((List.length p_2) : Nat) : Int) == 0) then
        (some true)
      else
        bif (decide (x_1 < (-4398046511104))) then
          (some true)
        else
          (some (decide (4398046511104 < x_1))) : Option ((Bool))) fun x467 =>
  bif x467 then
    (some (0, false))
  else
    Option.bind (m_integer_Mod std x_1 p_1) fun n194 =>
    Option.bind (m_runs_Next std n194 p_2) fun (n199, b183) =>
    bif b183 then
      grd (okI .i64 ((x_1 + n199))) <|
      grd (okI .i64 (((x_1 + n199) - n194))) <|
      (some (((x_1 + n199) - n194), true))
    else
      grd (okI .i64 ((x_1 + p_1))) <|
      grd (okI .i64 (((x_1 + p_1) - n194))) <|
      grd (okIdx 0 ((List.length p_2))) <|
      grd (okKin ((Int.toNat 0)) ((List.length p_2))) <|
      grd (okI .i64 ((((x_1 + p_1) - n194) + (List.getD p_2 (Int.toNat 0) (0, 0)).1))) <|
      (some ((((x_1 + p_1) - n194) + (List.getD p_2 (Int.toNat 0) (0, 0)).1), true))) : Option (Int × Bool)) := rfl
theorem m_law13_PeriodicNext_eq (p_1 : Int) (x_1 : Int) (p_2 : List (Int × Int)) : m_law13_PeriodicNext std p_1 x_1 p_2 =
((Option.bind (
    Option.bind (m_law13_awake std) fun b177 =>
    bif (!b177) then
      (some true)
    else
      Option.bind (m_law13_long std p_1 p_2) fun b178 =>
      (some b178) : Option ((Bool))) fun x465 =>
  bif x465 then
    Option.bind (m_law13_awake std) fun b179 =>
    (some b179)
  else
    Option.bind (m_periodic_Next std p_1 x_1 p_2) fun (n200, b184) =>
    Option.bind (
      Option.bind (m_periodic_Valid std p_1 p_2) fun b185 =>
      bif (!b185) then
        (some true)
      else
        Option.bind (m_law13_line std x_1) fun b186 =>
        bif (!b186) then
          (some true)
        else
          (some ((((List.length p_2) : Nat) : Int) == 0)) : Option ((Bool))) fun x471 =>
    bif x471 then
      Option.bind (
        bif (n200 == 0) then
          (some (!b184))
        else
          (some false) : Option ((Bool))) fun x473 =>
      (some x473)
    else
      Option.bind (
        bif (!b184) then
          (some true)
        else
          bif (decide (n200 < x_1)) then
            (some true)
          else
            bif (decide (p_1 ≤ (n200 - x_1))) then
              grd (okI .i64 ((n200 - x_1))) <|
              (some true)
            else
              grd (okI .i64 ((n200 - x_1))) <|
              Option.bind (m_periodic_Has std p_1 n200 p_2) fun b187 =>
              (some (!b187)) : Option ((Bool))) fun x475 =>
      bif x475 then
        (some false)
      else
        Option.bind (
          bif (n200 == x_1) then
            (some true)
          else
            Option.bind (m_law13_line std n200) fun b188 =>
            (some (!b188)) : Option ((Bool))) fun x477 =>
        bif x477 then
          (some true)
        else
          Option.bind (m_periodic_Count std p_1 x_1 n200 p_2) fun (n201, n202) =>
          Option.bind (
            bif (n202 == 0) then
              (some (n201 == 0))
            else
              (some false) : Option ((Bool))) fun x479 =>
          (some x479)) : Option (Bool)) := rfl
theorem m_periodic_Within_eq (a_1 : Int) (b_1 : Int) (a_2 : List (Int × Int)) (b_2 : List (Int × Int)) : m_periodic_Within std a_1 b_1 a_2 b_2 =
((Option.bind (m_periodic_Minus std a_1 b_1 a_2 b_2) fun (_, l263, n204) =>
  Option.bind (
    bif (n204 == 0) then
      (some ((((List.length l263) : Nat) : Int) == 0))
    else
      (some false) : Option ((Bool))) fun x483 =>
  (some (x483, n204))) : Option (Bool × Int)) := rfl
theorem m_law13_PeriodicWithin_eq (a_1 : Int) (b_1 : Int) (a_2 : List (Int × Int)) (b_2 : List (Int × Int)) : m_law13_PeriodicWithin std a_1 b_1 a_2 b_2 =
((Option.bind (
    Option.bind (m_law13_awake std) fun b189 =>
    bif (!b189) then
      (some true)
    else
      Option.bind (m_law13_long std a_1 a_2) fun b190 =>
      bif b190 then
        (some true)
      else
        Option.bind (m_law13_long std b_1 b_2) fun b191 =>
        (some b191) : Option ((Bool))) fun x481 =>
  bif x481 then
    Option.bind (m_law13_awake std) fun b192 =>
    (some b192)
  else
    Option.bind (m_periodic_Within std a_1 b_1 a_2 b_2) fun (b193, n205) =>
    Option.bind (m_periodic_Minus std a_1 b_1 a_2 b_2) fun (_, l264, n207) =>
    Option.bind (
      bif (!(n205 == n207)) then
        bif (n207 == 0) then
          (some (b193, true))
        else
          bif (!(n205 == 0)) then
            bif b193 then
              (some (true, true))
            else
              (some (false, (n207 == 0)))
          else
            (some (b193, false))
      else
        bif (!(n205 == 0)) then
          bif b193 then
            (some (true, true))
          else
            (some (false, (n207 == 0)))
        else
          (some (b193, false)) : Option ((Bool × Bool))) fun (ok7, x489) =>
    bif x489 then
      (some false)
    else
      bif (!(n205 == 0)) then
        (some (n205 == n207))
      else
        bif (!(ok7 == ((((List.length l264) : Nat) : Int) == 0))) then
          (some false)
        else
          Option.bind (m_periodic_Meet std a_1 b_1 a_2 b_2) fun (n208, l265, n209) =>
          Option.bind (m_periodic_Union std a_1 b_1 a_2 b_2) fun (n210, l266, n211) =>
          Option.bind (
            bif (!(n209 == 0)) then
              (some true)
            else
              (some (!(n211 == 0))) : Option ((Bool))) fun x491 =>
          bif x491 then
            (some true)
          else
            Option.bind (m_periodic_Within std n208 a_1 l265 a_2) fun (b194, n212) =>
            Option.bind (m_periodic_Within std b_1 n210 b_2 l266) fun (b195, n213) =>
            Option.bind (
              bif (!(n212 == 0)) then
                bif (!(n213 == 0)) then
                  (some true)
                else
                  (some b195)
              else
                bif b194 then
                  bif (!(n213 == 0)) then
                    (some true)
                  else
                    (some b195)
                else
                  (some false) : Option ((Bool))) fun x496 =>
            (some x496)) : Option (Bool)) := rfl
theorem m_law13_PeriodicLaws_1_eq (e_1 : Int) : m_law13_PeriodicLaws_1 std e_1 =
(((some (!(e_1 == 0)))) : Option (Bool)) := rfl
theorem m_slices_IndexFunc_2_L1_eq (s_1 : List Int) (x504 : Int) : m_slices_IndexFunc_2_L1 std s_1 x504 =
((bif (decide (x504 < (((List.length s_1) : Nat) : Int))) then
    grd (okIdx x504 ((List.length s_1))) <|
    grd (okKin ((Int.toNat x504)) ((List.length s_1))) <|
    Option.bind (m_law13_PeriodicLaws_1 std ((List.getD s_1 (Int.toNat x504) 0))) fun b204 =>
    bif b204 then
      (some (Sum.inr (Sum.inl x504)))
    else
      grd (okI .i64 ((x504 + 1))) <|
      (some (Sum.inl (x504 + 1)))
  else
    (some (Sum.inr (Sum.inr ())))) : Option ((Int) ⊕ ((Int) ⊕ (Unit)))) := rfl
theorem m_slices_IndexFunc_2_eq (s_1 : List Int) : m_slices_IndexFunc_2 std s_1 =
((Option.bind (loop (m_slices_IndexFunc_2_L1 std s_1) 0) fun e => match e with
  | .inl x505 =>
    (some x505)
  | .inr (_) =>
    (some (-1))) : Option (Int)) := rfl
theorem m_slices_ContainsFunc_2_eq (s_1 : List Int) : m_slices_ContainsFunc_2 std s_1 =
((Option.bind (m_slices_IndexFunc_2 std s_1) fun n228 =>
  (some (decide (0 ≤ n228)))) : Option (Bool)) := rfl
theorem m_law13_PeriodicLaws_eq (a_1 : Int) (b_1 : Int) (a_2 : List (Int × Int)) (b_2 : List (Int × Int)) : m_law13_PeriodicLaws std a_1 b_1 a_2 b_2 =
((Option.bind (
    Option.bind (m_law13_awake std) fun b196 =>
    bif (!b196) then
      (some true)
    else
      Option.bind (m_law13_long std a_1 a_2) fun b197 =>
      bif b197 then
        (some true)
      else
        Option.bind (m_law13_long std b_1 b_2) fun b198 =>
        bif b198 then
          (some true)
        else
          Option.bind (m_periodic_Valid std a_1 a_2) fun b199 =>
          bif (!b199) then
            (some true)
          else
            Option.bind (m_periodic_Valid std b_1 b_2) fun b200 =>
            (some (!b200)) : Option ((Bool))) fun x498 =>
  bif x498 then
    Option.bind (m_law13_awake std) fun b201 =>
    (some b201)
  else
    Option.bind (m_periodic_Union std a_1 b_1 a_2 b_2) fun (n214, l267, n215) =>
    Option.bind (m_periodic_Union std b_1 a_1 b_2 a_2) fun (n216, l268, n217) =>
    Option.bind (m_periodic_Meet std a_1 b_1 a_2 b_2) fun (n218, l269, n219) =>
    Option.bind (m_periodic_Minus std a_1 b_1 a_2 b_2) fun (n220, l270, n221) =>
    Option.bind (
      bif (!(n215 == n217)) then
        (some true)
      else
        bif (n215 == 0) then
          Option.bind (m_periodic_Valid std n214 l267) fun b202 =>
          bif (!b202) then
            (some true)
          else
            Option.bind (m_periodic_Equal std n214 n216 l267 l268) fun b203 =>
            (some (!b203))
        else
          (some false) : Option ((Bool))) fun x501 =>
    bif x501 then
      (some false)
    else
      Option.bind (
        bif (!(n215 == 0)) then
          (some true)
        else
          bif (!(n219 == 0)) then
            (some true)
          else
            (some (!(n221 == 0))) : Option ((Bool))) fun x503 =>
      bif x503 then
        (some true)
      else
        Option.bind (m_periodic_Not std a_1 a_2) fun (n222, l271, n223) =>
        Option.bind (m_periodic_Not std b_1 b_2) fun (n224, l272, n225) =>
        Option.bind (m_periodic_Not std n214 l267) fun (n226, l273, n227) =>
        Option.bind (m_slices_ContainsFunc_2 std ([n223, n225, n227])) fun b205 =>
        bif b205 then
          Option.bind (
            bif (n223 == 0) then
              bif (n225 == 0) then
                bif (n227 == 0) then
                  (some true)
                else
                  (some (n227 == 5))
              else
                bif (n225 == 5) then
                  bif (n227 == 0) then
                    (some true)
                  else
                    (some (n227 == 5))
                else
                  (some false)
            else
              bif (n223 == 5) then
                bif (n225 == 0) then
                  bif (n227 == 0) then
                    (some true)
                  else
                    (some (n227 == 5))
                else
                  bif (n225 == 5) then
                    bif (n227 == 0) then
                      (some true)
                    else
                      (some (n227 == 5))
                  else
                    (some false)
              else
                (some false) : Option ((Bool))) fun x516 =>
          (some x516)
        else
          Option.bind (m_periodic_Meet std n222 n224 l271 l272) fun (n229, l274, n230) =>
          Option.bind (
            bif (n230 == 0) then
              Option.bind (m_periodic_Equal std n226 n229 l273 l274) fun b206 =>
              (some (!b206))
            else
              (some false) : Option ((Bool))) fun x518 =>
          bif x518 then
            (some false)
          else
            Option.bind (m_periodic_Meet std a_1 n224 a_2 l272) fun (n231, l275, n232) =>
            Option.bind (m_periodic_Union std n220 n218 l270 l269) fun (n233, l276, n234) =>
            Option.bind (m_periodic_Meet std a_1 n214 a_2 l267) fun (n235, l277, n236) =>
            Option.bind (
              bif (!(n232 == 0)) then
                bif (!(n234 == 0)) then
                  bif (!(n236 == 0)) then
                    (some true)
                  else
                    Option.bind (m_periodic_Equal std n235 a_1 l277 a_2) fun b207 =>
                    (some b207)
                else
                  Option.bind (m_periodic_Equal std n233 a_1 l276 a_2) fun b208 =>
                  bif b208 then
                    bif (!(n236 == 0)) then
                      (some true)
                    else
                      Option.bind (m_periodic_Equal std n235 a_1 l277 a_2) fun b209 =>
                      (some b209)
                  else
                    (some false)
              else
                Option.bind (m_periodic_Equal std n231 n220 l275 l270) fun b210 =>
                bif b210 then
                  bif (!(n234 == 0)) then
                    bif (!(n236 == 0)) then
                      (some true)
                    else
                      Option.bind (m_periodic_Equal std n235 a_1 l277 a_2) fun b211 =>
                      (some b211)
                  else
                    Option.bind (m_periodic_Equal std n233 a_1 l276 a_2) fun b212 =>
                    bif b212 then
                      bif (!(n236 == 0)) then
                        (some true)
                      else
                        Option.bind (m_periodic_Equal std n235 a_1 l277 a_2) fun b213 =>
                        (some b213)
                    else
                      (some false)
                else
                  (some false) : Option ((Bool))) fun x529 =>
            (some x529)) : Option (Bool)) := rfl
end Go.Proofs.Ytfhfifcfkimgpaa
