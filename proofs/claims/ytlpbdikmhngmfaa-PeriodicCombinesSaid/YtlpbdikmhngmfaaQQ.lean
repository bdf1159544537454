/-
  Equations of models (printed by lift.py).
-/
import Derived.Test.YtlpbdikmhngmfaaQM
namespace Go.Proofs.Ytlpbdikmhngmfaa
open Go.RowKit
set_option maxRecDepth 100000

theorem m_interval_line_eq (x_1 : Int) : m_interval_line std x_1 =
((Option.bind (
    bif (decide ((-4398046511104) ≤ x_1)) then
      (some (decide (x_1 ≤ 4398046511104)))
    else
      (some false) : Option ((Bool))) fun x3 =>
  (some x3)) : Option (Bool)) := rfl
theorem m_interval_Valid_eq (s_1 : Int) (s_2 : Int) : m_interval_Valid std s_1 s_2 =
((Option.bind (
    Option.bind (m_interval_line std s_1) fun b1 =>
    bif b1 then
      Option.bind (m_interval_line std s_2) fun b2 =>
      bif b2 then
        (some (decide (s_1 < s_2)))
      else
        (some false)
    else
      (some false) : Option ((Bool))) fun x6 =>
  (some x6)) : Option (Bool)) := rfl
theorem m_periodic_Of_1_eq (s_1 : Int) (s_2 : Int) : m_periodic_Of_1 std s_1 s_2 =
((Option.bind (m_interval_Valid std s_1 s_2) fun b3 =>
  (some (!b3))) : Option (Bool)) := rfl
theorem m_slices_IndexFunc_L1_eq (s_1 : List (Int × Int)) (x1 : Int) : m_slices_IndexFunc_L1 std s_1 x1 =
((bif (decide (x1 < (((List.length s_1) : Nat) : Int))) then
    grd (okIdx x1 ((List.length s_1))) <|
    grd (okKin ((Int.toNat x1)) ((List.length s_1))) <|
    Option.bind (m_periodic_Of_1 std ((List.getD s_1 (Int.toNat x1) (0, 0)).1) ((List.getD s_1 (Int.toNat x1) (0, 0)).2)) fun b4 =>
    bif b4 then
      (some (Sum.inr (Sum.inl x1)))
    else
      grd (okI .i64 ((x1 + 1))) <|
      (some (Sum.inl (x1 + 1)))
  else
    (some (Sum.inr (Sum.inr ())))) : Option ((Int) ⊕ ((Int) ⊕ (Unit)))) := rfl
theorem m_slices_IndexFunc_eq (s_1 : List (Int × Int)) : m_slices_IndexFunc std s_1 =
((Option.bind (loop (m_slices_IndexFunc_L1 std s_1) 0) fun e => match e with
  | .inl x7 =>
    (some x7)
  | .inr (_) =>
    (some (-1))) : Option (Int)) := rfl
theorem m_slices_ContainsFunc_eq (s_1 : List (Int × Int)) : m_slices_ContainsFunc std s_1 =
((Option.bind (m_slices_IndexFunc std s_1) fun n1 =>
  (some (decide (0 ≤ n1)))) : Option (Bool)) := rfl
theorem m_integer_Div_eq (a_1 : Int) (b_1 : Int) : m_integer_Div std a_1 b_1 =
((Option.bind (
    bif (b_1 == 0) then
      (some (Sum.inl 10))
    else
      Option.bind (
        bif (a_1 == (-9223372036854775808)) then
          (some (b_1 == (-1)))
        else
          (some false) : Option ((Bool))) fun x12 =>
      bif x12 then
        (some (Sum.inl 9))
      else
        (some (Sum.inr ())) : Option (((Int) ⊕ (Unit)))) fun e => match e with
  | .inl x14 =>
    (some (0, 0, x14))
  | .inr (_) =>
    grd (okNz b_1) <|
    grd (okI .i64 ((Int.tdiv a_1 b_1))) <|
    Option.bind (
      bif (!((Int.tmod a_1 b_1) == 0)) then
        (some (!((decide ((Int.tmod a_1 b_1) < 0)) == (decide (b_1 < 0)))))
      else
        (some false) : Option ((Bool))) fun x16 =>
    Option.bind (
      bif x16 then
        grd (okI .i64 (((Int.tdiv a_1 b_1) - 1))) <|
        grd (okI .i64 (((Int.tmod a_1 b_1) + b_1))) <|
        (some (((Int.tdiv a_1 b_1) - 1), ((Int.tmod a_1 b_1) + b_1)))
      else
        (some ((Int.tdiv a_1 b_1), (Int.tmod a_1 b_1))) : Option ((Int × Int))) fun (q2, r2) =>
    (some (q2, r2, 0))) : Option (Int × Int × Int)) := rfl
theorem m_integer_Mod_eq (a_1 : Int) (b_1 : Int) : m_integer_Mod std a_1 b_1 =
((Option.bind (m_integer_Div std a_1 b_1) fun (_, n3, _) =>
  (some n3)) : Option (Int)) := rfl
theorem m_periodic_fold_L1_eq (l_1 : List (Int × Int)) (period_1 : Int) (x17 : Int) (l3 : List (Int × Int)) : m_periodic_fold_L1 std l_1 period_1 (x17, l3) =
((bif (decide (x17 < (((List.length l_1) : Nat) : Int))) then
    grd (okIdx x17 ((List.length l_1))) <|
    grd (okKin ((Int.toNat x17)) ((List.length l_1))) <|
    grd (okI .i64 (((List.getD l_1 (Int.toNat x17) (0, 0)).2 - (List.getD l_1 (Int.toNat x17) (0, 0)).1))) <|
    bif (decide (period_1 ≤ ((List.getD l_1 (Int.toNat x17) (0, 0)).2 - (List.getD l_1 (Int.toNat x17) (0, 0)).1))) then
      (some (Sum.inr (Sum.inl ())))
    else
      Option.bind (m_integer_Mod std ((List.getD l_1 (Int.toNat x17) (0, 0)).1) period_1) fun n6 =>
      grd (okI .i64 ((n6 + (List.getD l_1 (Int.toNat x17) (0, 0)).2))) <|
      grd (okI .i64 (((n6 + (List.getD l_1 (Int.toNat x17) (0, 0)).2) - (List.getD l_1 (Int.toNat x17) (0, 0)).1))) <|
      grd (okRoom ((List.length l3))) <|
      grd (okRoom ((List.length [(n6, (mi ((n6 + (List.getD l_1 (Int.toNat x17) (0, 0)).2) - (List.getD l_1 (Int.toNat x17) (0, 0)).1) period_1))]))) <|
      Option.bind (
        bif (decide (period_1 < ((n6 + (List.getD l_1 (Int.toNat x17) (0, 0)).2) - (List.getD l_1 (Int.toNat x17) (0, 0)).1))) then
          grd (okI .i64 ((((n6 + (List.getD l_1 (Int.toNat x17) (0, 0)).2) - (List.getD l_1 (Int.toNat x17) (0, 0)).1) - period_1))) <|
          grd (okRoom ((List.length (l3 ++ [(n6, (mi ((n6 + (List.getD l_1 (Int.toNat x17) (0, 0)).2) - (List.getD l_1 (Int.toNat x17) (0, 0)).1) period_1))])))) <|
          grd (okRoom ((List.length [(0, (((n6 + (List.getD l_1 (Int.toNat x17) (0, 0)).2) - (List.getD l_1 (Int.toNat x17) (0, 0)).1) - period_1))]))) <|
          (some ((l3 ++ [(n6, (mi ((n6 + (List.getD l_1 (Int.toNat x17) (0, 0)).2) - (List.getD l_1 (Int.toNat x17) (0, 0)).1) period_1))]) ++ [(0, (((n6 + (List.getD l_1 (Int.toNat x17) (0, 0)).2) - (List.getD l_1 (Int.toNat x17) (0, 0)).1) - period_1))]))
        else
          (some (l3 ++ [(n6, (mi ((n6 + (List.getD l_1 (Int.toNat x17) (0, 0)).2) - (List.getD l_1 (Int.toNat x17) (0, 0)).1) period_1))])) : Option ((List (Int × Int)))) fun l5 =>
      grd (okI .i64 ((x17 + 1))) <|
      (some (Sum.inl ((x17 + 1), l5)))
  else
    (some (Sum.inr (Sum.inr l3)))) : Option ((Int × List (Int × Int)) ⊕ ((Unit) ⊕ (List (Int × Int))))) := rfl
theorem m_periodic_fold_L2_eq (l7 : List (Int × Int)) (x21 : Int) (l10 : List (Int × Int)) : m_periodic_fold_L2 std l7 (x21, l10) =
((bif (decide (x21 < (((List.length l7) : Nat) : Int))) then
    grd (okIdx x21 ((List.length l7))) <|
    grd (okKin ((Int.toNat x21)) ((List.length l7))) <|
    Option.bind (
      bif (decide (0 < (((List.length l10) : Nat) : Int))) then
        grd (okI .i64 (((((List.length l10) : Nat) : Int) - 1))) <|
        grd (okIdx (((((List.length l10) : Nat) : Int) - 1)) ((List.length l10))) <|
        grd (okKin ((Int.toNat ((((List.length l10) : Nat) : Int) - 1))) ((List.length l10))) <|
        (some (decide ((List.getD l7 (Int.toNat x21) (0, 0)).1 ≤ (List.getD l10 (Int.toNat ((((List.length l10) : Nat) : Int) - 1)) (0, 0)).2)))
      else
        (some false) : Option ((Bool))) fun x23 =>
    Option.bind (
      bif x23 then
        grd (okI .i64 (((((List.length l10) : Nat) : Int) - 1))) <|
        grd (okIdx (((((List.length l10) : Nat) : Int) - 1)) ((List.length l10))) <|
        grd (okKin ((Int.toNat ((((List.length l10) : Nat) : Int) - 1))) ((List.length l10))) <|
        (some (List.set l10 (Int.toNat ((((List.length l10) : Nat) : Int) - 1)) ((List.getD l10 (Int.toNat ((((List.length l10) : Nat) : Int) - 1)) (0, 0)).1, (ma (List.getD l10 (Int.toNat ((((List.length l10) : Nat) : Int) - 1)) (0, 0)).2 (List.getD l7 (Int.toNat x21) (0, 0)).2))))
      else
        grd (okRoom ((List.length l10))) <|
        grd (okRoom ((List.length [((List.getD l7 (Int.toNat x21) (0, 0)).1, (List.getD l7 (Int.toNat x21) (0, 0)).2)]))) <|
        (some (l10 ++ [((List.getD l7 (Int.toNat x21) (0, 0)).1, (List.getD l7 (Int.toNat x21) (0, 0)).2)])) : Option ((List (Int × Int)))) fun l12 =>
    grd (okI .i64 ((x21 + 1))) <|
    (some (Sum.inl ((x21 + 1), l12)))
  else
    (some (Sum.inr l10))) : Option ((Int × List (Int × Int)) ⊕ (List (Int × Int)))) := rfl
theorem m_periodic_fold_eq (period_1 : Int) (l_1 : List (Int × Int)) : m_periodic_fold std period_1 l_1 =
((Option.bind (loop (m_periodic_fold_L1 std l_1 period_1) (0, ([] : List (Int × Int)))) fun e => match e with
  | .inl _ =>
    (some [(0, period_1)])
  | .inr (l6) =>
    Option.bind (m_sortSp std l6) fun l7 =>
    Option.bind (loop (m_periodic_fold_L2 std l7) (0, ([] : List (Int × Int)))) fun l13 =>
    (some l13)) : Option (List (Int × Int))) := rfl
theorem m_periodic_repeats_L1_eq (l_1 : List (Int × Int)) (period_1 : Int) (x27 : Int) (l21 : List Int) : m_periodic_repeats_L1 std l_1 period_1 (x27, l21) =
((bif (decide (x27 < (((List.length l_1) : Nat) : Int))) then
    grd (okIdx x27 ((List.length l_1))) <|
    grd (okKin ((Int.toNat x27)) ((List.length l_1))) <|
    Option.bind (
      bif (decide (0 < (List.getD l_1 (Int.toNat x27) (0, 0)).1)) then
        (some true)
      else
        grd (okI .i64 (((((List.length l_1) : Nat) : Int) - 1))) <|
        grd (okIdx (((((List.length l_1) : Nat) : Int) - 1)) ((List.length l_1))) <|
        grd (okKin ((Int.toNat ((((List.length l_1) : Nat) : Int) - 1))) ((List.length l_1))) <|
        (some (decide ((List.getD l_1 (Int.toNat ((((List.length l_1) : Nat) : Int) - 1)) (0, 0)).2 < period_1))) : Option ((Bool))) fun x29 =>
    Option.bind (
      bif x29 then
        grd (okRoom ((List.length l21))) <|
        grd (okRoom ((List.length [(List.getD l_1 (Int.toNat x27) (0, 0)).1]))) <|
        (some (l21 ++ [(List.getD l_1 (Int.toNat x27) (0, 0)).1]))
      else
        (some l21) : Option ((List Int))) fun l23 =>
    Option.bind (
      bif (decide ((List.getD l_1 (Int.toNat x27) (0, 0)).2 < period_1)) then
        grd (okRoom ((List.length l23))) <|
        grd (okRoom ((List.length [(List.getD l_1 (Int.toNat x27) (0, 0)).2]))) <|
        (some (l23 ++ [(List.getD l_1 (Int.toNat x27) (0, 0)).2]))
      else
        grd (okIdx 0 ((List.length l_1))) <|
        grd (okKin ((Int.toNat 0)) ((List.length l_1))) <|
        Option.bind (
          bif (decide (0 < (List.getD l_1 (Int.toNat 0) (0, 0)).1)) then
            grd (okRoom ((List.length l23))) <|
            grd (okRoom ((List.length [0]))) <|
            (some (l23 ++ [0]))
          else
            (some l23) : Option ((List Int))) fun l25 =>
        (some l25) : Option ((List Int))) fun l27 =>
    grd (okI .i64 ((x27 + 1))) <|
    (some (Sum.inl ((x27 + 1), l27)))
  else
    (some (Sum.inr l21))) : Option ((Int × List Int) ⊕ (List Int))) := rfl
theorem m_periodic_repeats_L2_eq (l29 : List Int) (period_1 : Int) (q_1 : Int) (x30 : Int) : m_periodic_repeats_L2 std l29 period_1 q_1 x30 =
((bif (decide (x30 < (((List.length l29) : Nat) : Int))) then
    grd (okIdx x30 ((List.length l29))) <|
    grd (okKin ((Int.toNat x30)) ((List.length l29))) <|
    grd (okI .i64 (((List.getD l29 (Int.toNat x30) 0) + q_1))) <|
    Option.bind (
      bif (decide (period_1 ≤ ((List.getD l29 (Int.toNat x30) 0) + q_1))) then
        grd (okI .i64 ((((List.getD l29 (Int.toNat x30) 0) + q_1) - period_1))) <|
        (some (((List.getD l29 (Int.toNat x30) 0) + q_1) - period_1))
      else
        (some ((List.getD l29 (Int.toNat x30) 0) + q_1)) : Option ((Int))) fun y2 =>
    grd (okI .i64 ((x30 + (Int.tdiv ((((List.length l29) : Nat) : Int) * q_1) period_1)))) <|
    grd (okNz ((((List.length l29) : Nat) : Int))) <|
    grd (okIdx ((Int.tmod (x30 + (Int.tdiv ((((List.length l29) : Nat) : Int) * q_1) period_1)) (((List.length l29) : Nat) : Int))) ((List.length l29))) <|
    grd (okKin ((Int.toNat (Int.tmod (x30 + (Int.tdiv ((((List.length l29) : Nat) : Int) * q_1) period_1)) (((List.length l29) : Nat) : Int)))) ((List.length l29))) <|
    bif (!((List.getD l29 (Int.toNat (Int.tmod (x30 + (Int.tdiv ((((List.length l29) : Nat) : Int) * q_1) period_1)) (((List.length l29) : Nat) : Int))) 0) == y2)) then
      (some (Sum.inr (Sum.inl ())))
    else
      grd (okI .i64 ((x30 + 1))) <|
      (some (Sum.inl (x30 + 1)))
  else
    (some (Sum.inr (Sum.inr ())))) : Option ((Int) ⊕ ((Unit) ⊕ (Unit)))) := rfl
theorem m_periodic_repeats_eq (period_1 : Int) (q_1 : Int) (l_1 : List (Int × Int)) : m_periodic_repeats std period_1 q_1 l_1 =
((Option.bind (loop (m_periodic_repeats_L1 std l_1 period_1) (0, ([] : List Int))) fun l28 =>
  Option.bind (m_sortI std l28) fun l29 =>
  bif ((((List.length l29) : Nat) : Int) == 0) then
    (some true)
  else
    grd (okI .i64 (((((List.length l29) : Nat) : Int) * q_1))) <|
    grd (okNz period_1) <|
    grd (okI .i64 ((Int.tdiv ((((List.length l29) : Nat) : Int) * q_1) period_1))) <|
    grd (okI .i64 (((Int.tdiv ((((List.length l29) : Nat) : Int) * q_1) period_1) * period_1))) <|
    bif (!(((Int.tdiv ((((List.length l29) : Nat) : Int) * q_1) period_1) * period_1) == ((((List.length l29) : Nat) : Int) * q_1))) then
      (some false)
    else
      grd (okNz 2) <|
      bif (!((Int.tmod (Int.tdiv ((((List.length l29) : Nat) : Int) * q_1) period_1) 2) == 0)) then
        (some false)
      else
        Option.bind (loop (m_periodic_repeats_L2 std l29 period_1 q_1) 0) fun e => match e with
        | .inl _ =>
          (some false)
        | .inr (_) =>
          (some true)) : Option (Bool)) := rfl
theorem m_periodic_least_L1_eq (l_1 : List (Int × Int)) (period_1 : Int) (best1 : Int) (q3 : Int) : m_periodic_least_L1 std l_1 period_1 (best1, q3) =
((grd (okNz q3) <|
  grd (okI .i64 ((Int.tdiv period_1 q3))) <|
  bif (decide (q3 ≤ (Int.tdiv period_1 q3))) then
    bif (!((Int.tmod period_1 q3) == 0)) then
      grd (okI .i64 ((q3 + 1))) <|
      (some (Sum.inl (best1, (q3 + 1))))
    else
      Option.bind (m_periodic_repeats std period_1 q3 l_1) fun b6 =>
      bif b6 then
        (some (Sum.inr q3))
      else
        Option.bind (m_periodic_repeats std period_1 ((Int.tdiv period_1 q3)) l_1) fun b7 =>
        Option.bind (
          bif b7 then
            (some (Int.tdiv period_1 q3))
          else
            (some best1) : Option ((Int))) fun best3 =>
        grd (okI .i64 ((q3 + 1))) <|
        (some (Sum.inl (best3, (q3 + 1))))
  else
    (some (Sum.inr best1))) : Option ((Int × Int) ⊕ (Int))) := rfl
theorem m_periodic_least_L2_eq (best5 : Int) (l_1 : List (Int × Int)) (x32 : Int) (l32 : List (Int × Int)) : m_periodic_least_L2 std best5 l_1 (x32, l32) =
((bif (decide (x32 < (((List.length l_1) : Nat) : Int))) then
    grd (okIdx x32 ((List.length l_1))) <|
    grd (okKin ((Int.toNat x32)) ((List.length l_1))) <|
    Option.bind (
      bif (decide ((List.getD l_1 (Int.toNat x32) (0, 0)).1 < best5)) then
        grd (okRoom ((List.length l32))) <|
        grd (okRoom ((List.length [((List.getD l_1 (Int.toNat x32) (0, 0)).1, (mi (List.getD l_1 (Int.toNat x32) (0, 0)).2 best5))]))) <|
        (some (l32 ++ [((List.getD l_1 (Int.toNat x32) (0, 0)).1, (mi (List.getD l_1 (Int.toNat x32) (0, 0)).2 best5))]))
      else
        (some l32) : Option ((List (Int × Int)))) fun l34 =>
    grd (okI .i64 ((x32 + 1))) <|
    (some (Sum.inl ((x32 + 1), l34)))
  else
    (some (Sum.inr l32))) : Option ((Int × List (Int × Int)) ⊕ (List (Int × Int)))) := rfl
theorem m_periodic_least_eq (period_1 : Int) (l_1 : List (Int × Int)) : m_periodic_least std period_1 l_1 =
((Option.bind (loop (m_periodic_least_L1 std l_1 period_1) (period_1, 1)) fun best5 =>
  Option.bind (loop (m_periodic_least_L2 std best5 l_1) (0, ([] : List (Int × Int)))) fun l35 =>
  (some (best5, l35))) : Option (Int × List (Int × Int))) := rfl
theorem m_periodic_limited_eq (period_1 : Int) (l_1 : List (Int × Int)) : m_periodic_limited std period_1 l_1 =
((Option.bind (m_periodic_least std period_1 l_1) fun (n7, l36) =>
  bif (decide (2000 < (((List.length l36) : Nat) : Int))) then
    (some (0, ([] : List (Int × Int)), 5))
  else
    (some (n7, l36, 0))) : Option (Int × List (Int × Int) × Int)) := rfl
theorem m_periodic_Of_eq (period_1 : Int) (l_1 : List (Int × Int)) : m_periodic_Of std period_1 l_1 =
((Option.bind (
    bif (decide (period_1 < 1)) then
      (some true)
    else
      bif (decide (12622780800 < period_1)) then
        (some true)
      else
        Option.bind (m_slices_ContainsFunc std l_1) fun b5 =>
        (some b5) : Option ((Bool))) fun x9 =>
  bif x9 then
    (some (0, ([] : List (Int × Int)), 1))
  else
    bif (decide (2000 < (((List.length l_1) : Nat) : Int))) then
      (some (0, ([] : List (Int × Int)), 5))
    else
      Option.bind (m_periodic_fold std period_1 l_1) fun l14 =>
      Option.bind (m_periodic_limited std period_1 l14) fun (n8, l37, n9) =>
      (some (n8, l37, n9))) : Option (Int × List (Int × Int) × Int)) := rfl
theorem m_law13_set_eq (period_1 : Int) (l_1 : List (Int × Int)) : m_law13_set std period_1 l_1 =
(((some period_1)) : Option (Int)) := rfl
theorem m_runs_Valid_L1_eq (l_1 : List (Int × Int)) (x33 : Int) : m_runs_Valid_L1 std l_1 x33 =
((bif (decide (x33 < (((List.length l_1) : Nat) : Int))) then
    grd (okIdx x33 ((List.length l_1))) <|
    grd (okKin ((Int.toNat x33)) ((List.length l_1))) <|
    Option.bind (
      Option.bind (m_interval_Valid std ((List.getD l_1 (Int.toNat x33) (0, 0)).1) ((List.getD l_1 (Int.toNat x33) (0, 0)).2)) fun b8 =>
      bif (!b8) then
        (some true)
      else
        bif (decide (0 < x33)) then
          grd (okI .i64 ((x33 - 1))) <|
          grd (okIdx ((x33 - 1)) ((List.length l_1))) <|
          grd (okKin ((Int.toNat (x33 - 1))) ((List.length l_1))) <|
          (some (decide ((List.getD l_1 (Int.toNat x33) (0, 0)).1 ≤ (List.getD l_1 (Int.toNat (x33 - 1)) (0, 0)).2)))
        else
          (some false) : Option ((Bool))) fun x36 =>
    bif x36 then
      (some (Sum.inr (Sum.inl ())))
    else
      grd (okI .i64 ((x33 + 1))) <|
      (some (Sum.inl (x33 + 1)))
  else
    (some (Sum.inr (Sum.inr ())))) : Option ((Int) ⊕ ((Unit) ⊕ (Unit)))) := rfl
theorem m_runs_Valid_eq (l_1 : List (Int × Int)) : m_runs_Valid std l_1 =
((bif (decide (2000 < (((List.length l_1) : Nat) : Int))) then
    (some false)
  else
    Option.bind (loop (m_runs_Valid_L1 std l_1) 0) fun e => match e with
    | .inl _ =>
      (some false)
    | .inr (_) =>
      (some true)) : Option (Bool)) := rfl
theorem m_periodic_inside_eq (period_1 : Int) (l_1 : List (Int × Int)) : m_periodic_inside std period_1 l_1 =
((Option.bind (
    Option.bind (m_runs_Valid std l_1) fun b9 =>
    bif b9 then
      bif ((((List.length l_1) : Nat) : Int) == 0) then
        (some true)
      else
        bif (decide (0 ≤ (List.getD l_1 (Int.toNat 0) (0, 0)).1)) then
          grd (okIdx 0 ((List.length l_1))) <|
          grd (okKin ((Int.toNat 0)) ((List.length l_1))) <|
          grd (okI .i64 (((((List.length l_1) : Nat) : Int) - 1))) <|
          grd (okIdx (((((List.length l_1) : Nat) : Int) - 1)) ((List.length l_1))) <|
          grd (okKin ((Int.toNat ((((List.length l_1) : Nat) : Int) - 1))) ((List.length l_1))) <|
          (some (decide ((List.getD l_1 (Int.toNat ((((List.length l_1) : Nat) : Int) - 1)) (0, 0)).2 ≤ period_1)))
        else
          grd (okIdx 0 ((List.length l_1))) <|
          grd (okKin ((Int.toNat 0)) ((List.length l_1))) <|
          (some false)
    else
      (some false) : Option ((Bool))) fun x40 =>
  (some x40)) : Option (Bool)) := rfl
theorem m_periodic_Valid_eq (p_1 : Int) (p_2 : List (Int × Int)) : m_periodic_Valid std p_1 p_2 =
((Option.bind (
    bif (decide (1 ≤ p_1)) then
      bif (decide (p_1 ≤ 12622780800)) then
        Option.bind (m_periodic_inside std p_1 p_2) fun b10 =>
        bif b10 then
          Option.bind (m_periodic_least std p_1 p_2) fun (n14, _) =>
          (some (n14 == p_1))
        else
          (some false)
      else
        (some false)
    else
      (some false) : Option ((Bool))) fun x44 =>
  (some x44)) : Option (Bool)) := rfl
theorem m_integer_size_eq (a_1 : Int) : m_integer_size std a_1 =
((bif (decide (a_1 < 0)) then
    grd (okI .u64 a_1) <|
    grd (okI .u64 ((0 - a_1))) <|
    (some (0 - a_1))
  else
    grd (okI .u64 a_1) <|
    (some a_1)) : Option (Int)) := rfl
theorem m_integer_signed_eq (m_1 : Int) (neg_1 : Bool) : m_integer_signed std m_1 neg_1 =
((Option.bind (
    bif neg_1 then
      (some (true, (decide (m_1 ≤ 9223372036854775808))))
    else
      (some (false, false)) : Option ((Bool × Bool))) fun (neg2, x52) =>
  Option.bind (
    bif x52 then
      grd (okI .u64 ((0 - m_1))) <|
      grd (okI .i64 ((0 - m_1))) <|
      (some (Sum.inl (0 - m_1)))
    else
      Option.bind (
        bif (!neg2) then
          (some (decide (m_1 ≤ 9223372036854775807)))
        else
          (some false) : Option ((Bool))) fun x54 =>
      bif x54 then
        grd (okI .i64 m_1) <|
        (some (Sum.inl m_1))
      else
        (some (Sum.inr ())) : Option (((Int) ⊕ (Unit)))) fun e => match e with
  | .inl x56 =>
    (some (x56, true))
  | .inr (_) =>
    (some (0, false))) : Option (Int × Bool)) := rfl
theorem m_integer_Gcd_L1_eq (x49 : Int) (y3 : Int) : m_integer_Gcd_L1 std (x49, y3) =
((bif (!(y3 == 0)) then
    grd (okNz y3) <|
    (some (Sum.inl (y3, (Int.tmod x49 y3))))
  else
    (some (Sum.inr x49))) : Option ((Int × Int) ⊕ (Int))) := rfl
theorem m_integer_Gcd_eq (a_1 : Int) (b_1 : Int) : m_integer_Gcd std a_1 b_1 =
((Option.bind (m_integer_size std a_1) fun n15 =>
  Option.bind (m_integer_size std b_1) fun n16 =>
  Option.bind (loop (m_integer_Gcd_L1 std) (n15, n16)) fun x50 =>
  Option.bind (m_integer_signed std x50 false) fun (n17, _) =>
  (some n17)) : Option (Int)) := rfl
theorem m_integer_Lcm_eq (a_1 : Int) (b_1 : Int) : m_integer_Lcm std a_1 b_1 =
((Option.bind (
    bif (decide (a_1 < 1)) then
      (some true)
    else
      (some (decide (b_1 < 1))) : Option ((Bool))) fun x48 =>
  bif x48 then
    (some (0, 2))
  else
    Option.bind (m_integer_Gcd std a_1 b_1) fun n18 =>
    grd (okNz n18) <|
    grd (okI .i64 ((Int.tdiv b_1 n18))) <|
    Option.bind (m_integer_Mul std a_1 ((Int.tdiv b_1 n18))) fun (n19, n20) =>
    (some (n19, n20))) : Option (Int × Int)) := rfl
theorem m_periodic_spread_L1_eq (at2 : Int) (p_2 : List (Int × Int)) (x66 : Int) (l45 : List (Int × Int)) : m_periodic_spread_L1 std at2 p_2 (x66, l45) =
((bif (decide (x66 < (((List.length p_2) : Nat) : Int))) then
    grd (okIdx x66 ((List.length p_2))) <|
    grd (okKin ((Int.toNat x66)) ((List.length p_2))) <|
    grd (okI .i64 (((List.getD p_2 (Int.toNat x66) (0, 0)).1 + at2))) <|
    grd (okI .i64 (((List.getD p_2 (Int.toNat x66) (0, 0)).2 + at2))) <|
    grd (okRoom ((List.length l45))) <|
    grd (okRoom ((List.length [(((List.getD p_2 (Int.toNat x66) (0, 0)).1 + at2), ((List.getD p_2 (Int.toNat x66) (0, 0)).2 + at2))]))) <|
    grd (okI .i64 ((x66 + 1))) <|
    (some (Sum.inl ((x66 + 1), (l45 ++ [(((List.getD p_2 (Int.toNat x66) (0, 0)).1 + at2), ((List.getD p_2 (Int.toNat x66) (0, 0)).2 + at2))]))))
  else
    (some (Sum.inr l45))) : Option ((Int × List (Int × Int)) ⊕ (List (Int × Int)))) := rfl
theorem m_periodic_spread_L2_eq (m_1 : Int) (p_1 : Int) (p_2 : List (Int × Int)) (at2 : Int) (l44 : List (Int × Int)) : m_periodic_spread_L2 std m_1 p_1 p_2 (at2, l44) =
((Option.bind (
    bif (decide (at2 < m_1)) then
      (some (decide (0 < (((List.length p_2) : Nat) : Int))))
    else
      (some false) : Option ((Bool))) fun x64 =>
  bif x64 then
    Option.bind (loop (m_periodic_spread_L1 std at2 p_2) (0, l44)) fun l46 =>
    grd (okI .i64 ((at2 + p_1))) <|
    (some (Sum.inl ((at2 + p_1), l46)))
  else
    (some (Sum.inr l44))) : Option ((Int × List (Int × Int)) ⊕ (List (Int × Int)))) := rfl
theorem m_periodic_spread_L3_eq (l48 : List (Int × Int)) (x70 : Int) (l51 : List (Int × Int)) : m_periodic_spread_L3 std l48 (x70, l51) =
((bif (decide (x70 < (((List.length l48) : Nat) : Int))) then
    grd (okIdx x70 ((List.length l48))) <|
    grd (okKin ((Int.toNat x70)) ((List.length l48))) <|
    Option.bind (
      bif (decide (0 < (((List.length l51) : Nat) : Int))) then
        grd (okI .i64 (((((List.length l51) : Nat) : Int) - 1))) <|
        grd (okIdx (((((List.length l51) : Nat) : Int) - 1)) ((List.length l51))) <|
        grd (okKin ((Int.toNat ((((List.length l51) : Nat) : Int) - 1))) ((List.length l51))) <|
        (some (decide ((List.getD l48 (Int.toNat x70) (0, 0)).1 ≤ (List.getD l51 (Int.toNat ((((List.length l51) : Nat) : Int) - 1)) (0, 0)).2)))
      else
        (some false) : Option ((Bool))) fun x72 =>
    Option.bind (
      bif x72 then
        grd (okI .i64 (((((List.length l51) : Nat) : Int) - 1))) <|
        grd (okIdx (((((List.length l51) : Nat) : Int) - 1)) ((List.length l51))) <|
        grd (okKin ((Int.toNat ((((List.length l51) : Nat) : Int) - 1))) ((List.length l51))) <|
        (some (List.set l51 (Int.toNat ((((List.length l51) : Nat) : Int) - 1)) ((List.getD l51 (Int.toNat ((((List.length l51) : Nat) : Int) - 1)) (0, 0)).1, (ma (List.getD l51 (Int.toNat ((((List.length l51) : Nat) : Int) - 1)) (0, 0)).2 (List.getD l48 (Int.toNat x70) (0, 0)).2))))
      else
        grd (okRoom ((List.length l51))) <|
        grd (okRoom ((List.length [((List.getD l48 (Int.toNat x70) (0, 0)).1, (List.getD l48 (Int.toNat x70) (0, 0)).2)]))) <|
        (some (l51 ++ [((List.getD l48 (Int.toNat x70) (0, 0)).1, (List.getD l48 (Int.toNat x70) (0, 0)).2)])) : Option ((List (Int × Int)))) fun l53 =>
    grd (okI .i64 ((x70 + 1))) <|
    (some (Sum.inl ((x70 + 1), l53)))
  else
    (some (Sum.inr l51))) : Option ((Int × List (Int × Int)) ⊕ (List (Int × Int)))) := rfl
theorem m_periodic_spread_eq (p_1 : Int) (m_1 : Int) (p_2 : List (Int × Int)) : m_periodic_spread std p_1 m_1 p_2 =
((Option.bind (
    bif (p_1 == 1) then
      bif ((((List.length p_2) : Nat) : Int) == 0) then
        (some (Sum.inl ([] : List (Int × Int))))
      else
        (some (Sum.inl [(0, m_1)]))
    else
      (some (Sum.inr ())) : Option (((List (Int × Int)) ⊕ (Unit)))) fun e => match e with
  | .inl l41 =>
    (some l41)
  | .inr (_) =>
    Option.bind (loop (m_periodic_spread_L2 std m_1 p_1 p_2) (0, ([] : List (Int × Int)))) fun l47 =>
    Option.bind (m_sortSp std l47) fun l48 =>
    Option.bind (loop (m_periodic_spread_L3 std l48) (0, ([] : List (Int × Int)))) fun l54 =>
    (some l54)) : Option (List (Int × Int))) := rfl
theorem m_periodic_combine_1_eq (n_1 : Int) (l_1 : List (Int × Int)) : m_periodic_combine_1 std n_1 l_1 =
((grd (okNz 2) <|
  grd (okI .i64 ((Int.tdiv n_1 2))) <|
  bif (decide ((((List.length l_1) : Nat) : Int) ≤ (Int.tdiv n_1 2))) then
    (some (0, false))
  else
    bif ((Int.tmod n_1 2) == 0) then
      grd (okIdx ((Int.tdiv n_1 2)) ((List.length l_1))) <|
      grd (okKin ((Int.toNat (Int.tdiv n_1 2))) ((List.length l_1))) <|
      (some ((List.getD l_1 (Int.toNat (Int.tdiv n_1 2)) (0, 0)).1, true))
    else
      grd (okIdx ((Int.tdiv n_1 2)) ((List.length l_1))) <|
      grd (okKin ((Int.toNat (Int.tdiv n_1 2))) ((List.length l_1))) <|
      (some ((List.getD l_1 (Int.toNat (Int.tdiv n_1 2)) (0, 0)).2, true))) : Option (Int × Bool)) := rfl
theorem m_periodic_Union_1_eq (a_1 : Bool) (b_1 : Bool) : m_periodic_Union_1 std a_1 b_1 =
((Option.bind (
    bif a_1 then
      (some true)
    else
      (some b_1) : Option ((Bool))) fun x79 =>
  (some x79)) : Option (Bool)) := rfl
theorem m_periodic_combine_L1_eq (a_1 : List (Int × Int)) (b_1 : List (Int × Int)) (i4 : Int) (k4 : Int) (l61 : List (Int × Int)) : m_periodic_combine_L1 std a_1 b_1 (i4, k4, l61) =
((Option.bind (m_periodic_combine_1 std i4 a_1) fun (n25, b18) =>
  Option.bind (m_periodic_combine_1 std k4 b_1) fun (n26, b19) =>
  Option.bind (
    bif (!b18) then
      (some (!b19))
    else
      (some false) : Option ((Bool))) fun x89 =>
  bif x89 then
    (some (Sum.inr l61))
  else
    Option.bind (
      bif (!b18) then
        (some (b19, true))
      else
        bif b19 then
          (some (true, (decide (n26 < n25))))
        else
          (some (false, false)) : Option ((Bool × Bool))) fun (is6, x92) =>
    Option.bind (
      bif x92 then
        (some n26)
      else
        (some n25) : Option ((Int))) fun at6 =>
    grd (okNz 2) <|
    Option.bind (m_periodic_Union_1 std (((Int.tmod i4 2) == 1)) (((Int.tmod k4 2) == 1))) fun b20 =>
    Option.bind (
      bif b18 then
        (some (n25 == at6))
      else
        (some false) : Option ((Bool))) fun x94 =>
    Option.bind (
      bif x94 then
        grd (okI .i64 ((i4 + 1))) <|
        (some (i4 + 1))
      else
        (some i4) : Option ((Int))) fun i6 =>
    Option.bind (
      bif is6 then
        (some (n26 == at6))
      else
        (some false) : Option ((Bool))) fun x96 =>
    Option.bind (
      bif x96 then
        grd (okI .i64 ((k4 + 1))) <|
        (some (k4 + 1))
      else
        (some k4) : Option ((Int))) fun k6 =>
    Option.bind (m_periodic_Union_1 std (((Int.tmod i6 2) == 1)) (((Int.tmod k6 2) == 1))) fun b21 =>
    Option.bind (
      bif (!b20) then
        (some b21)
      else
        (some false) : Option ((Bool))) fun x98 =>
    Option.bind (
      bif x98 then
        grd (okRoom ((List.length l61))) <|
        grd (okRoom ((List.length [(at6, 0)]))) <|
        (some (l61 ++ [(at6, 0)]))
      else
        Option.bind (
          bif b20 then
            (some (!b21))
          else
            (some false) : Option ((Bool))) fun x100 =>
        Option.bind (
          bif x100 then
            grd (okI .i64 (((((List.length l61) : Nat) : Int) - 1))) <|
            grd (okIdx (((((List.length l61) : Nat) : Int) - 1)) ((List.length l61))) <|
            grd (okKin ((Int.toNat ((((List.length l61) : Nat) : Int) - 1))) ((List.length l61))) <|
            (some (List.set l61 (Int.toNat ((((List.length l61) : Nat) : Int) - 1)) ((List.getD l61 (Int.toNat ((((List.length l61) : Nat) : Int) - 1)) (0, 0)).1, at6)))
          else
            (some l61) : Option ((List (Int × Int)))) fun l63 =>
        (some l63) : Option ((List (Int × Int)))) fun l65 =>
    (some (Sum.inl (i6, k6, l65)))) : Option ((Int × Int × List (Int × Int)) ⊕ (List (Int × Int)))) := rfl
theorem m_periodic_combine_eq (a_1 : List (Int × Int)) (b_1 : List (Int × Int)) : m_periodic_combine std a_1 b_1 =
((Option.bind (loop (m_periodic_combine_L1 std a_1 b_1) (0, 0, ([] : List (Int × Int)))) fun l66 =>
  (some l66)) : Option (List (Int × Int))) := rfl
theorem m_periodic_both_eq (a_1 : Int) (b_1 : Int) (a_2 : List (Int × Int)) (b_2 : List (Int × Int)) : m_periodic_both std a_1 b_1 a_2 b_2 =
((Option.bind (
    Option.bind (m_periodic_Valid std a_1 a_2) fun b11 =>
    bif (!b11) then
      (some true)
    else
      Option.bind (m_periodic_Valid std b_1 b_2) fun b12 =>
      (some (!b12)) : Option ((Bool))) fun x46 =>
  bif x46 then
    (some (0, ([] : List (Int × Int)), 1))
  else
    Option.bind (m_integer_Lcm std a_1 b_1) fun (n21, n22) =>
    Option.bind (
      bif (!(n22 == 0)) then
        (some true)
      else
        (some (decide (12622780800 < n21))) : Option ((Bool))) fun x58 =>
    bif x58 then
      (some (0, ([] : List (Int × Int)), 9))
    else
      grd (okNz a_1) <|
      grd (okI .i64 ((Int.tdiv n21 a_1))) <|
      grd (okI .i64 (((Int.tdiv n21 a_1) * (((List.length a_2) : Nat) : Int)))) <|
      grd (okNz b_1) <|
      grd (okI .i64 ((Int.tdiv n21 b_1))) <|
      grd (okI .i64 (((Int.tdiv n21 b_1) * (((List.length b_2) : Nat) : Int)))) <|
      grd (okI .i64 ((((Int.tdiv n21 a_1) * (((List.length a_2) : Nat) : Int)) + ((Int.tdiv n21 b_1) * (((List.length b_2) : Nat) : Int))))) <|
      bif (decide (2000 < (((Int.tdiv n21 a_1) * (((List.length a_2) : Nat) : Int)) + ((Int.tdiv n21 b_1) * (((List.length b_2) : Nat) : Int))))) then
        (some (0, ([] : List (Int × Int)), 5))
      else
        Option.bind (m_periodic_spread std a_1 n21 a_2) fun l55 =>
        Option.bind (m_periodic_spread std b_1 n21 b_2) fun l56 =>
        Option.bind (m_periodic_combine std l55 l56) fun l67 =>
        Option.bind (m_periodic_limited std n21 l67) fun (n27, l68, n28) =>
        (some (n27, l68, n28))) : Option (Int × List (Int × Int) × Int)) := rfl
theorem m_periodic_Union_eq (a_1 : Int) (b_1 : Int) (a_2 : List (Int × Int)) (b_2 : List (Int × Int)) : m_periodic_Union std a_1 b_1 a_2 b_2 =
((Option.bind (m_periodic_both std a_1 b_1 a_2 b_2) fun (n29, l69, n30) =>
  (some (n29, l69, n30))) : Option (Int × List (Int × Int) × Int)) := rfl
theorem m_ref13_Same_L1_eq (a_1 : List (Int × Int)) (b_1 : List (Int × Int)) (i7 : Int) : m_ref13_Same_L1 std a_1 b_1 i7 =
((bif (decide (i7 < (((List.length a_1) : Nat) : Int))) then
    grd (okIdx i7 ((List.length a_1))) <|
    grd (okKin ((Int.toNat i7)) ((List.length a_1))) <|
    grd (okIdx i7 ((List.length b_1))) <|
    grd (okKin ((Int.toNat i7)) ((List.length b_1))) <|
    bif (!(((List.getD a_1 (Int.toNat i7) (0, 0)).1 == (List.getD b_1 (Int.toNat i7) (0, 0)).1) && ((List.getD a_1 (Int.toNat i7) (0, 0)).2 == (List.getD b_1 (Int.toNat i7) (0, 0)).2))) then
      (some (Sum.inr (Sum.inl ())))
    else
      grd (okI .i64 ((i7 + 1))) <|
      (some (Sum.inl (i7 + 1)))
  else
    (some (Sum.inr (Sum.inr ())))) : Option ((Int) ⊕ ((Unit) ⊕ (Unit)))) := rfl
theorem m_ref13_Same_eq (a_1 : List (Int × Int)) (b_1 : List (Int × Int)) : m_ref13_Same std a_1 b_1 =
((bif (!((((List.length a_1) : Nat) : Int) == (((List.length b_1) : Nat) : Int))) then
    (some false)
  else
    Option.bind (loop (m_ref13_Same_L1 std a_1 b_1) 0) fun e => match e with
    | .inl _ =>
      (some false)
    | .inr (_) =>
      (some true)) : Option (Bool)) := rfl
theorem m_ref13_Equal_eq (a_1 : Int) (b_1 : Int) (a_2 : List (Int × Int)) (b_2 : List (Int × Int)) : m_ref13_Equal std a_1 b_1 a_2 b_2 =
((Option.bind (
    bif (a_1 == b_1) then
      Option.bind (m_ref13_Same std a_2 b_2) fun b22 =>
      (some b22)
    else
      (some false) : Option ((Bool))) fun x102 =>
  (some x102)) : Option (Bool)) := rfl
theorem m_law13_awake_eq : m_law13_awake std =
((Option.bind (m_periodic_Of std 14 ([(0, 2), (7, 9)])) fun (n10, l38, n11) =>
  Option.bind (m_law13_set std 2 ([(0, 1)])) fun n12 =>
  Option.bind (m_law13_set std 3 ([(0, 1)])) fun n13 =>
  Option.bind (m_periodic_Union std n12 n13 ([(0, 1)]) ([(0, 1)])) fun (n31, l70, n32) =>
  Option.bind (
    bif (n11 == 0) then
      Option.bind (m_law13_set std 7 ([(0, 2)])) fun n33 =>
      Option.bind (m_ref13_Equal std n10 n33 l38 ([(0, 2)])) fun b23 =>
      bif b23 then
        bif (n32 == 0) then
          Option.bind (m_law13_set std 6 ([(0, 1), (2, 5)])) fun n34 =>
          Option.bind (m_ref13_Equal std n31 n34 l70 ([(0, 1), (2, 5)])) fun b24 =>
          (some b24)
        else
          (some false)
      else
        (some false)
    else
      (some false) : Option ((Bool))) fun x106 =>
  (some x106)) : Option (Bool)) := rfl
theorem m_law13_long_eq (p_1 : Int) (p_2 : List (Int × Int)) : m_law13_long std p_1 p_2 =
(((some (decide (40 < (((List.length p_2) : Nat) : Int))))) : Option (Bool)) := rfl
theorem m_ref13_Span_eq (s_1 : Int) (s_2 : Int) : m_ref13_Span std s_1 s_2 =
((Option.bind (
    bif (decide ((-4398046511104) ≤ s_1)) then
      bif (decide (s_2 ≤ 4398046511104)) then
        (some (decide (s_1 < s_2)))
      else
        (some false)
    else
      (some false) : Option ((Bool))) fun x111 =>
  (some x111)) : Option (Bool)) := rfl
theorem m_ref13_Runs_L1_eq (l_1 : List (Int × Int)) (i8 : Int) : m_ref13_Runs_L1 std l_1 i8 =
((bif (decide (i8 < (((List.length l_1) : Nat) : Int))) then
    Option.bind (
      grd (okIdx i8 ((List.length l_1))) <|
      grd (okKin ((Int.toNat i8)) ((List.length l_1))) <|
      Option.bind (m_ref13_Span std ((List.getD l_1 (Int.toNat i8) (0, 0)).1) ((List.getD l_1 (Int.toNat i8) (0, 0)).2)) fun b29 =>
      bif (!b29) then
        (some true)
      else
        bif (decide (0 < i8)) then
          grd (okI .i64 ((i8 - 1))) <|
          grd (okIdx ((i8 - 1)) ((List.length l_1))) <|
          grd (okKin ((Int.toNat (i8 - 1))) ((List.length l_1))) <|
          (some (decide ((List.getD l_1 (Int.toNat i8) (0, 0)).1 ≤ (List.getD l_1 (Int.toNat (i8 - 1)) (0, 0)).2)))
        else
          (some false) : Option ((Bool))) fun x114 =>
    bif x114 then
      (some (Sum.inr (Sum.inl ())))
    else
      grd (okI .i64 ((i8 + 1))) <|
      (some (Sum.inl (i8 + 1)))
  else
    (some (Sum.inr (Sum.inr ())))) : Option ((Int) ⊕ ((Unit) ⊕ (Unit)))) := rfl
theorem m_ref13_Runs_eq (l_1 : List (Int × Int)) : m_ref13_Runs std l_1 =
((Option.bind (loop (m_ref13_Runs_L1 std l_1) 0) fun e => match e with
  | .inl _ =>
    (some false)
  | .inr (_) =>
    (some true)) : Option (Bool)) := rfl
theorem m_ref01_Div_eq (a_1 : Int) (b_1 : Int) : m_ref01_Div std a_1 b_1 =
((bif (b_1 == 0) then
    (some (0, 0, 10))
  else
    Option.bind (
      bif (a_1 == (-9223372036854775808)) then
        (some (b_1 == (-1)))
      else
        (some false) : Option ((Bool))) fun x121 =>
    bif x121 then
      (some (0, 0, 9))
    else
      grd (okNz b_1) <|
      grd (okI .i64 ((Int.tdiv a_1 b_1))) <|
      Option.bind (
        bif (!((Int.tmod a_1 b_1) == 0)) then
          (some (!((decide ((Int.tmod a_1 b_1) < 0)) == (decide (b_1 < 0)))))
        else
          (some false) : Option ((Bool))) fun x123 =>
      Option.bind (
        bif x123 then
          grd (okI .i64 (((Int.tdiv a_1 b_1) - 1))) <|
          grd (okI .i64 (((Int.tmod a_1 b_1) + b_1))) <|
          (some (((Int.tdiv a_1 b_1) - 1), ((Int.tmod a_1 b_1) + b_1)))
        else
          (some ((Int.tdiv a_1 b_1), (Int.tmod a_1 b_1))) : Option ((Int × Int))) fun (q6, r4) =>
      (some (q6, r4, 0))) : Option (Int × Int × Int)) := rfl
theorem m_ref01_Mod_eq (a_1 : Int) (b_1 : Int) : m_ref01_Mod std a_1 b_1 =
((Option.bind (m_ref01_Div std a_1 b_1) fun (_, n38, _) =>
  (some n38)) : Option (Int)) := rfl
theorem m_ref13_ends_L1_eq (a_1 : List (Int × Int)) (i12 : Int) (l84 : List Int) : m_ref13_ends_L1 std a_1 (i12, l84) =
((bif (decide (i12 < (((List.length a_1) : Nat) : Int))) then
    grd (okIdx i12 ((List.length a_1))) <|
    grd (okKin ((Int.toNat i12)) ((List.length a_1))) <|
    grd (okRoom ((List.length l84))) <|
    grd (okRoom ((List.length [(List.getD a_1 (Int.toNat i12) (0, 0)).1, (List.getD a_1 (Int.toNat i12) (0, 0)).2]))) <|
    grd (okI .i64 ((i12 + 1))) <|
    (some (Sum.inl ((i12 + 1), (l84 ++ [(List.getD a_1 (Int.toNat i12) (0, 0)).1, (List.getD a_1 (Int.toNat i12) (0, 0)).2]))))
  else
    (some (Sum.inr l84))) : Option ((Int × List Int) ⊕ (List Int))) := rfl
theorem m_ref13_ends_L2_eq (b_1 : List (Int × Int)) (i14 : Int) (l86 : List Int) : m_ref13_ends_L2 std b_1 (i14, l86) =
((bif (decide (i14 < (((List.length b_1) : Nat) : Int))) then
    grd (okIdx i14 ((List.length b_1))) <|
    grd (okKin ((Int.toNat i14)) ((List.length b_1))) <|
    grd (okRoom ((List.length l86))) <|
    grd (okRoom ((List.length [(List.getD b_1 (Int.toNat i14) (0, 0)).1, (List.getD b_1 (Int.toNat i14) (0, 0)).2]))) <|
    grd (okI .i64 ((i14 + 1))) <|
    (some (Sum.inl ((i14 + 1), (l86 ++ [(List.getD b_1 (Int.toNat i14) (0, 0)).1, (List.getD b_1 (Int.toNat i14) (0, 0)).2]))))
  else
    (some (Sum.inr l86))) : Option ((Int × List Int) ⊕ (List Int))) := rfl
theorem m_ref13_ends_L3_eq (l85 : List Int) (l87 : List Int) (i18 : Int) (k10 : Int) (l90 : List Int) : m_ref13_ends_L3 std l85 l87 (i18, k10, l90) =
((Option.bind (
    bif (decide (i18 < (((List.length l85) : Nat) : Int))) then
      (some true)
    else
      (some (decide (k10 < (((List.length l87) : Nat) : Int)))) : Option ((Bool))) fun x130 =>
  bif x130 then
    Option.bind (
      bif (k10 == (((List.length l87) : Nat) : Int)) then
        (some true)
      else
        bif (decide (i18 < (((List.length l85) : Nat) : Int))) then
          grd (okIdx i18 ((List.length l85))) <|
          grd (okKin ((Int.toNat i18)) ((List.length l85))) <|
          grd (okIdx k10 ((List.length l87))) <|
          grd (okKin ((Int.toNat k10)) ((List.length l87))) <|
          (some (decide ((List.getD l85 (Int.toNat i18) 0) ≤ (List.getD l87 (Int.toNat k10) 0))))
        else
          (some false) : Option ((Bool))) fun x133 =>
    Option.bind (
      bif x133 then
        grd (okIdx i18 ((List.length l85))) <|
        grd (okKin ((Int.toNat i18)) ((List.length l85))) <|
        grd (okRoom ((List.length l90))) <|
        grd (okRoom ((List.length [(List.getD l85 (Int.toNat i18) 0)]))) <|
        grd (okI .i64 ((i18 + 1))) <|
        (some ((i18 + 1), k10, (l90 ++ [(List.getD l85 (Int.toNat i18) 0)])))
      else
        grd (okIdx k10 ((List.length l87))) <|
        grd (okKin ((Int.toNat k10)) ((List.length l87))) <|
        grd (okRoom ((List.length l90))) <|
        grd (okRoom ((List.length [(List.getD l87 (Int.toNat k10) 0)]))) <|
        grd (okI .i64 ((k10 + 1))) <|
        (some (i18, (k10 + 1), (l90 ++ [(List.getD l87 (Int.toNat k10) 0)]))) : Option ((Int × Int × List Int))) fun (i20, k12, l92) =>
    (some (Sum.inl (i20, k12, l92)))
  else
    (some (Sum.inr l90))) : Option ((Int × Int × List Int) ⊕ (List Int))) := rfl
theorem m_ref13_ends_eq (a_1 : List (Int × Int)) (b_1 : List (Int × Int)) : m_ref13_ends std a_1 b_1 =
((Option.bind (loop (m_ref13_ends_L1 std a_1) (0, ([] : List Int))) fun l85 =>
  Option.bind (loop (m_ref13_ends_L2 std b_1) (0, ([] : List Int))) fun l87 =>
  Option.bind (loop (m_ref13_ends_L3 std l85 l87) (0, 0, ([] : List Int))) fun l93 =>
  (some l93)) : Option (List Int)) := rfl
theorem m_ref13_rule_eq (kind_1 : Int) (a_1 : Bool) (b_1 : Bool) : m_ref13_rule std kind_1 a_1 b_1 =
((bif (kind_1 == 0) then
    Option.bind (
      bif a_1 then
        (some true)
      else
        (some b_1) : Option ((Bool))) fun x141 =>
    (some x141)
  else
    bif (kind_1 == 1) then
      Option.bind (
        bif a_1 then
          (some b_1)
        else
          (some false) : Option ((Bool))) fun x143 =>
      (some x143)
    else
      Option.bind (
        bif a_1 then
          (some (!b_1))
        else
          (some false) : Option ((Bool))) fun x145 =>
      (some x145)) : Option (Bool)) := rfl
theorem m_ref13_Lists_L1_eq (a_1 : List (Int × Int)) (c2 : Int) (l94 : List Int) (i26 : Int) : m_ref13_Lists_L1 std a_1 c2 l94 i26 =
((Option.bind (
    bif (decide (i26 < (((List.length a_1) : Nat) : Int))) then
      grd (okIdx i26 ((List.length a_1))) <|
      grd (okKin ((Int.toNat i26)) ((List.length a_1))) <|
      (some (decide ((List.getD a_1 (Int.toNat i26) (0, 0)).2 ≤ (List.getD l94 (Int.toNat c2) 0))))
    else
      (some false) : Option ((Bool))) fun x153 =>
  bif x153 then
    grd (okI .i64 ((i26 + 1))) <|
    (some (Sum.inl (i26 + 1)))
  else
    (some (Sum.inr i26))) : Option ((Int) ⊕ (Int))) := rfl
theorem m_ref13_Lists_L2_eq (b_1 : List (Int × Int)) (c2 : Int) (l94 : List Int) (k17 : Int) : m_ref13_Lists_L2 std b_1 c2 l94 k17 =
((Option.bind (
    bif (decide (k17 < (((List.length b_1) : Nat) : Int))) then
      grd (okIdx k17 ((List.length b_1))) <|
      grd (okKin ((Int.toNat k17)) ((List.length b_1))) <|
      (some (decide ((List.getD b_1 (Int.toNat k17) (0, 0)).2 ≤ (List.getD l94 (Int.toNat c2) 0))))
    else
      (some false) : Option ((Bool))) fun x155 =>
  bif x155 then
    grd (okI .i64 ((k17 + 1))) <|
    (some (Sum.inl (k17 + 1)))
  else
    (some (Sum.inr k17))) : Option ((Int) ⊕ (Int))) := rfl
theorem m_ref13_Lists_L3_eq (a_1 : List (Int × Int)) (b_1 : List (Int × Int)) (kind_1 : Int) (l94 : List Int) (i25 : Int) (k16 : Int) (c2 : Int) (l97 : List (Int × Int)) : m_ref13_Lists_L3 std a_1 b_1 kind_1 l94 (i25, k16, c2, l97) =
((grd (okI .i64 ((c2 + 1))) <|
  bif (decide ((c2 + 1) < (((List.length l94) : Nat) : Int))) then
    grd (okIdx c2 ((List.length l94))) <|
    grd (okKin ((Int.toNat c2)) ((List.length l94))) <|
    grd (okIdx ((c2 + 1)) ((List.length l94))) <|
    grd (okKin ((Int.toNat (c2 + 1))) ((List.length l94))) <|
    bif ((List.getD l94 (Int.toNat c2) 0) == (List.getD l94 (Int.toNat (c2 + 1)) 0)) then
      (some (Sum.inl (i25, k16, (c2 + 1), l97)))
    else
      Option.bind (loop (m_ref13_Lists_L1 std a_1 c2 l94) i25) fun i27 =>
      Option.bind (loop (m_ref13_Lists_L2 std b_1 c2 l94) k16) fun k18 =>
      Option.bind (
        bif (decide (i27 < (((List.length a_1) : Nat) : Int))) then
          bif (decide (k18 < (((List.length b_1) : Nat) : Int))) then
            grd (okIdx i27 ((List.length a_1))) <|
            grd (okKin ((Int.toNat i27)) ((List.length a_1))) <|
            grd (okIdx k18 ((List.length b_1))) <|
            grd (okKin ((Int.toNat k18)) ((List.length b_1))) <|
            Option.bind (m_ref13_rule std kind_1 ((decide ((List.getD a_1 (Int.toNat i27) (0, 0)).1 ≤ (List.getD l94 (Int.toNat c2) 0)))) ((decide ((List.getD b_1 (Int.toNat k18) (0, 0)).1 ≤ (List.getD l94 (Int.toNat c2) 0))))) fun b35 =>
            (some (!b35))
          else
            grd (okIdx i27 ((List.length a_1))) <|
            grd (okKin ((Int.toNat i27)) ((List.length a_1))) <|
            Option.bind (m_ref13_rule std kind_1 ((decide ((List.getD a_1 (Int.toNat i27) (0, 0)).1 ≤ (List.getD l94 (Int.toNat c2) 0)))) false) fun b36 =>
            (some (!b36))
        else
          bif (decide (k18 < (((List.length b_1) : Nat) : Int))) then
            grd (okIdx k18 ((List.length b_1))) <|
            grd (okKin ((Int.toNat k18)) ((List.length b_1))) <|
            Option.bind (m_ref13_rule std kind_1 false ((decide ((List.getD b_1 (Int.toNat k18) (0, 0)).1 ≤ (List.getD l94 (Int.toNat c2) 0))))) fun b37 =>
            (some (!b37))
          else
            Option.bind (m_ref13_rule std kind_1 false false) fun b38 =>
            (some (!b38)) : Option ((Bool))) fun x159 =>
      bif x159 then
        (some (Sum.inl (i27, k18, (c2 + 1), l97)))
      else
        Option.bind (
          bif (decide (0 < (((List.length l97) : Nat) : Int))) then
            grd (okI .i64 (((((List.length l97) : Nat) : Int) - 1))) <|
            grd (okIdx (((((List.length l97) : Nat) : Int) - 1)) ((List.length l97))) <|
            grd (okKin ((Int.toNat ((((List.length l97) : Nat) : Int) - 1))) ((List.length l97))) <|
            (some ((List.getD l97 (Int.toNat ((((List.length l97) : Nat) : Int) - 1)) (0, 0)).2 == (List.getD l94 (Int.toNat c2) 0)))
          else
            (some false) : Option ((Bool))) fun x161 =>
        Option.bind (
          bif x161 then
            grd (okI .i64 (((((List.length l97) : Nat) : Int) - 1))) <|
            grd (okIdx (((((List.length l97) : Nat) : Int) - 1)) ((List.length l97))) <|
            grd (okKin ((Int.toNat ((((List.length l97) : Nat) : Int) - 1))) ((List.length l97))) <|
            (some (List.set l97 (Int.toNat ((((List.length l97) : Nat) : Int) - 1)) ((List.getD l97 (Int.toNat ((((List.length l97) : Nat) : Int) - 1)) (0, 0)).1, (List.getD l94 (Int.toNat (c2 + 1)) 0))))
          else
            grd (okRoom ((List.length l97))) <|
            grd (okRoom ((List.length [((List.getD l94 (Int.toNat c2) 0), (List.getD l94 (Int.toNat (c2 + 1)) 0))]))) <|
            (some (l97 ++ [((List.getD l94 (Int.toNat c2) 0), (List.getD l94 (Int.toNat (c2 + 1)) 0))])) : Option ((List (Int × Int)))) fun l99 =>
        (some (Sum.inl (i27, k18, (c2 + 1), l99)))
  else
    (some (Sum.inr l97))) : Option ((Int × Int × Int × List (Int × Int)) ⊕ (List (Int × Int)))) := rfl
theorem m_ref13_Lists_eq (kind_1 : Int) (a_1 : List (Int × Int)) (b_1 : List (Int × Int)) : m_ref13_Lists std kind_1 a_1 b_1 =
((Option.bind (m_ref13_ends std a_1 b_1) fun l94 =>
  Option.bind (loop (m_ref13_Lists_L3 std a_1 b_1 kind_1 l94) (0, 0, 0, ([] : List (Int × Int)))) fun l100 =>
  (some l100)) : Option (List (Int × Int))) := rfl
theorem m_ref13_rotated_L1_eq (l_1 : List (Int × Int)) (n40 : Int) (period_1 : Int) (i10 : Int) (l76 : List (Int × Int)) (l77 : List (Int × Int)) : m_ref13_rotated_L1 std l_1 n40 period_1 (i10, l76, l77) =
((bif (decide (i10 < (((List.length l_1) : Nat) : Int))) then
    grd (okIdx i10 ((List.length l_1))) <|
    grd (okKin ((Int.toNat i10)) ((List.length l_1))) <|
    grd (okI .i64 (((List.getD l_1 (Int.toNat i10) (0, 0)).1 + n40))) <|
    grd (okI .i64 (((List.getD l_1 (Int.toNat i10) (0, 0)).2 + n40))) <|
    Option.bind (
      bif (decide (((List.getD l_1 (Int.toNat i10) (0, 0)).1 + n40) < period_1)) then
        grd (okRoom ((List.length l77))) <|
        grd (okRoom ((List.length [(((List.getD l_1 (Int.toNat i10) (0, 0)).1 + n40), (mi ((List.getD l_1 (Int.toNat i10) (0, 0)).2 + n40) period_1))]))) <|
        (some (l77 ++ [(((List.getD l_1 (Int.toNat i10) (0, 0)).1 + n40), (mi ((List.getD l_1 (Int.toNat i10) (0, 0)).2 + n40) period_1))]))
      else
        (some l77) : Option ((List (Int × Int)))) fun l79 =>
    Option.bind (
      bif (decide (period_1 < ((List.getD l_1 (Int.toNat i10) (0, 0)).2 + n40))) then
        grd (okI .i64 (((ma ((List.getD l_1 (Int.toNat i10) (0, 0)).1 + n40) period_1) - period_1))) <|
        grd (okI .i64 ((((List.getD l_1 (Int.toNat i10) (0, 0)).2 + n40) - period_1))) <|
        grd (okRoom ((List.length l76))) <|
        grd (okRoom ((List.length [(((ma ((List.getD l_1 (Int.toNat i10) (0, 0)).1 + n40) period_1) - period_1), (((List.getD l_1 (Int.toNat i10) (0, 0)).2 + n40) - period_1))]))) <|
        (some (l76 ++ [(((ma ((List.getD l_1 (Int.toNat i10) (0, 0)).1 + n40) period_1) - period_1), (((List.getD l_1 (Int.toNat i10) (0, 0)).2 + n40) - period_1))]))
      else
        (some l76) : Option ((List (Int × Int)))) fun l81 =>
    grd (okI .i64 ((i10 + 1))) <|
    (some (Sum.inl ((i10 + 1), l81, l79)))
  else
    (some (Sum.inr (l76, l77)))) : Option ((Int × List (Int × Int) × List (Int × Int)) ⊕ (List (Int × Int) × List (Int × Int)))) := rfl
theorem m_ref13_rotated_eq (period_1 : Int) (n_1 : Int) (l_1 : List (Int × Int)) : m_ref13_rotated std period_1 n_1 l_1 =
((Option.bind (m_ref01_Mod std n_1 period_1) fun n40 =>
  bif (n40 == 0) then
    (some (Sum.inl ()))
  else
    Option.bind (loop (m_ref13_rotated_L1 std l_1 n40 period_1) (0, ([] : List (Int × Int)), ([] : List (Int × Int)))) fun (l82, l83) =>
    Option.bind (m_ref13_Lists std 0 l82 l83) fun l101 =>
    (some (Sum.inr l101))) : Option (((Unit) ⊕ (List (Int × Int))))) := rfl
theorem m_ref13_Same_2_L1_eq (a_1 : List (Int × Int)) (i28 : Int) : m_ref13_Same_2_L1 std a_1 i28 =
((bif (decide (i28 < (((List.length a_1) : Nat) : Int))) then
    grd (okIdx i28 ((List.length a_1))) <|
    grd (okKin ((Int.toNat i28)) ((List.length a_1))) <|
    bif (!(((List.getD a_1 (Int.toNat i28) (0, 0)).1 == (List.getD a_1 (Int.toNat i28) (0, 0)).1) && ((List.getD a_1 (Int.toNat i28) (0, 0)).2 == (List.getD a_1 (Int.toNat i28) (0, 0)).2))) then
      (some (Sum.inr (Sum.inl ())))
    else
      grd (okI .i64 ((i28 + 1))) <|
      (some (Sum.inl (i28 + 1)))
  else
    (some (Sum.inr (Sum.inr ())))) : Option ((Int) ⊕ ((Unit) ⊕ (Unit)))) := rfl
theorem m_ref13_Same_2_eq (a_1 : List (Int × Int)) : m_ref13_Same_2 std a_1 =
((bif (!((((List.length a_1) : Nat) : Int) == (((List.length a_1) : Nat) : Int))) then
    (some false)
  else
    Option.bind (loop (m_ref13_Same_2_L1 std a_1) 0) fun e => match e with
    | .inl _ =>
      (some false)
    | .inr (_) =>
      (some true)) : Option (Bool)) := rfl
theorem m_ref13_cut_L1_eq (l_1 : List (Int × Int)) (period_1 : Int) (i30 : Int) (l105 : List (Int × Int)) : m_ref13_cut_L1 std l_1 period_1 (i30, l105) =
((bif (decide (i30 < (((List.length l_1) : Nat) : Int))) then
    grd (okIdx i30 ((List.length l_1))) <|
    grd (okKin ((Int.toNat i30)) ((List.length l_1))) <|
    Option.bind (
      bif (decide ((List.getD l_1 (Int.toNat i30) (0, 0)).1 < period_1)) then
        grd (okRoom ((List.length l105))) <|
        grd (okRoom ((List.length [((List.getD l_1 (Int.toNat i30) (0, 0)).1, (mi (List.getD l_1 (Int.toNat i30) (0, 0)).2 period_1))]))) <|
        (some (l105 ++ [((List.getD l_1 (Int.toNat i30) (0, 0)).1, (mi (List.getD l_1 (Int.toNat i30) (0, 0)).2 period_1))]))
      else
        (some l105) : Option ((List (Int × Int)))) fun l107 =>
    grd (okI .i64 ((i30 + 1))) <|
    (some (Sum.inl ((i30 + 1), l107)))
  else
    (some (Sum.inr l105))) : Option ((Int × List (Int × Int)) ⊕ (List (Int × Int)))) := rfl
theorem m_ref13_cut_eq (period_1 : Int) (l_1 : List (Int × Int)) : m_ref13_cut std period_1 l_1 =
((Option.bind (loop (m_ref13_cut_L1 std l_1 period_1) (0, ([] : List (Int × Int)))) fun l108 =>
  (some (period_1, l108))) : Option (Int × List (Int × Int))) := rfl
theorem m_ref13_Least_L1_eq (l_1 : List (Int × Int)) (period_1 : Int) (q4 : Int) : m_ref13_Least_L1 std l_1 period_1 q4 =
((grd (okI .i64 ((q4 * q4))) <|
  bif (decide ((q4 * q4) ≤ period_1)) then
    Option.bind (
      bif ((Int.tmod period_1 q4) == 0) then
        grd (okNz q4) <|
        Option.bind (m_ref13_rotated std period_1 q4 l_1) fun e => match e with
        | .inl _ =>
          Option.bind (m_ref13_Same_2 std l_1) fun b39 =>
          (some b39)
        | .inr (l102) =>
          Option.bind (m_ref13_Same std l102 l_1) fun b40 =>
          (some b40)
      else
        grd (okNz q4) <|
        (some false) : Option ((Bool))) fun x164 =>
    bif x164 then
      Option.bind (m_ref13_cut std q4 l_1) fun (n41, l109) =>
      (some (Sum.inr (Sum.inl (n41, l109))))
    else
      grd (okI .i64 ((q4 + 1))) <|
      (some (Sum.inl (q4 + 1)))
  else
    (some (Sum.inr (Sum.inr ())))) : Option ((Int) ⊕ ((Int × List (Int × Int)) ⊕ (Unit)))) := rfl
theorem m_ref13_Least_L2_eq (l_1 : List (Int × Int)) (period_1 : Int) (best6 : Int) (q7 : Int) : m_ref13_Least_L2 std l_1 period_1 (best6, q7) =
((grd (okI .i64 ((q7 * q7))) <|
  bif (decide ((q7 * q7) ≤ period_1)) then
    Option.bind (
      bif ((Int.tmod period_1 q7) == 0) then
        grd (okNz q7) <|
        grd (okI .i64 ((Int.tdiv period_1 q7))) <|
        Option.bind (m_ref13_rotated std period_1 ((Int.tdiv period_1 q7)) l_1) fun e => match e with
        | .inl _ =>
          Option.bind (m_ref13_Same_2 std l_1) fun b41 =>
          (some b41)
        | .inr (l111) =>
          Option.bind (m_ref13_Same std l111 l_1) fun b42 =>
          (some b42)
      else
        grd (okNz q7) <|
        (some false) : Option ((Bool))) fun x168 =>
    Option.bind (
      bif x168 then
        grd (okI .i64 ((Int.tdiv period_1 q7))) <|
        (some (Int.tdiv period_1 q7))
      else
        (some best6) : Option ((Int))) fun best8 =>
    grd (okI .i64 ((q7 + 1))) <|
    (some (Sum.inl (best8, (q7 + 1))))
  else
    (some (Sum.inr best6))) : Option ((Int × Int) ⊕ (Int))) := rfl
theorem m_ref13_Least_eq (period_1 : Int) (l_1 : List (Int × Int)) : m_ref13_Least std period_1 l_1 =
((Option.bind (loop (m_ref13_Least_L1 std l_1 period_1) 1) fun e => match e with
  | .inl (x165, l110) =>
    (some (x165, l110))
  | .inr (_) =>
    Option.bind (loop (m_ref13_Least_L2 std l_1 period_1) (period_1, 1)) fun best9 =>
    Option.bind (m_ref13_cut std best9 l_1) fun (n42, l112) =>
    (some (n42, l112))) : Option (Int × List (Int × Int))) := rfl
theorem m_ref13_Valid_eq (p_1 : Int) (p_2 : List (Int × Int)) : m_ref13_Valid std p_1 p_2 =
((Option.bind (
    bif (decide (p_1 < 1)) then
      (some true)
    else
      bif (decide (12622780800 < p_1)) then
        (some true)
      else
        bif (decide (2000 < (((List.length p_2) : Nat) : Int))) then
          (some true)
        else
          Option.bind (m_ref13_Runs std p_2) fun b30 =>
          (some (!b30)) : Option ((Bool))) fun x116 =>
  bif x116 then
    (some false)
  else
    Option.bind (
      bif (decide (0 < (((List.length p_2) : Nat) : Int))) then
        bif (decide ((List.getD p_2 (Int.toNat 0) (0, 0)).1 < 0)) then
          grd (okIdx 0 ((List.length p_2))) <|
          grd (okKin ((Int.toNat 0)) ((List.length p_2))) <|
          (some true)
        else
          grd (okIdx 0 ((List.length p_2))) <|
          grd (okKin ((Int.toNat 0)) ((List.length p_2))) <|
          grd (okI .i64 (((((List.length p_2) : Nat) : Int) - 1))) <|
          grd (okIdx (((((List.length p_2) : Nat) : Int) - 1)) ((List.length p_2))) <|
          grd (okKin ((Int.toNat ((((List.length p_2) : Nat) : Int) - 1))) ((List.length p_2))) <|
          (some (decide (p_1 < (List.getD p_2 (Int.toNat ((((List.length p_2) : Nat) : Int) - 1)) (0, 0)).2)))
      else
        (some false) : Option ((Bool))) fun x119 =>
    bif x119 then
      (some false)
    else
      Option.bind (m_ref13_Least std p_1 p_2) fun (n43, _) =>
      (some (n43 == p_1))) : Option (Bool)) := rfl
theorem m_ref01_Gcd_L1_eq (a1 : Int) (b45 : Int) : m_ref01_Gcd_L1 std (a1, b45) =
((bif (!(b45 == 0)) then
    bif (b45 == (-1)) then
      (some (Sum.inr (Sum.inl ())))
    else
      grd (okNz b45) <|
      (some (Sum.inl (b45, (Int.tmod a1 b45))))
  else
    (some (Sum.inr (Sum.inr a1)))) : Option ((Int × Int) ⊕ ((Unit) ⊕ (Int)))) := rfl
theorem m_ref01_Gcd_eq (a_1 : Int) (b_1 : Int) : m_ref01_Gcd std a_1 b_1 =
((Option.bind (loop (m_ref01_Gcd_L1 std) (a_1, b_1)) fun e => match e with
  | .inl _ =>
    (some 1)
  | .inr (a2) =>
    bif (a2 == (-9223372036854775808)) then
      (some 0)
    else
      Option.bind (
        bif (decide (a2 < 0)) then
          grd (okI .i64 ((0 - a2))) <|
          (some (0 - a2))
        else
          (some a2) : Option ((Int))) fun a4 =>
      (some a4)) : Option (Int)) := rfl
theorem m_ref01_Lcm_eq (a_1 : Int) (b_1 : Int) : m_ref01_Lcm std a_1 b_1 =
((Option.bind (
    bif (decide (a_1 < 1)) then
      (some true)
    else
      (some (decide (b_1 < 1))) : Option ((Bool))) fun x172 =>
  bif x172 then
    (some (0, 2))
  else
    Option.bind (m_ref01_Gcd std a_1 b_1) fun n44 =>
    grd (okNz n44) <|
    grd (okI .i64 ((Int.tdiv a_1 n44))) <|
    Option.bind (m_ref01_Mul std ((Int.tdiv a_1 n44)) b_1) fun (n45, n46) =>
    (some (n45, n46))) : Option (Int × Int)) := rfl
theorem m_ref13_Pair_eq (a_1 : Int) (b_1 : Int) (a_2 : List (Int × Int)) (b_2 : List (Int × Int)) : m_ref13_Pair std a_1 b_1 a_2 b_2 =
((Option.bind (m_ref01_Lcm std a_1 b_1) fun (n47, n48) =>
  Option.bind (
    bif (!(n48 == 0)) then
      (some true)
    else
      (some (decide (12622780800 < n47))) : Option ((Bool))) fun x174 =>
  bif x174 then
    (some (0, 9))
  else
    grd (okNz a_1) <|
    grd (okI .i64 ((Int.tdiv n47 a_1))) <|
    grd (okI .i64 (((Int.tdiv n47 a_1) * (((List.length a_2) : Nat) : Int)))) <|
    grd (okNz b_1) <|
    grd (okI .i64 ((Int.tdiv n47 b_1))) <|
    grd (okI .i64 (((Int.tdiv n47 b_1) * (((List.length b_2) : Nat) : Int)))) <|
    grd (okI .i64 ((((Int.tdiv n47 a_1) * (((List.length a_2) : Nat) : Int)) + ((Int.tdiv n47 b_1) * (((List.length b_2) : Nat) : Int))))) <|
    bif (decide (2000 < (((Int.tdiv n47 a_1) * (((List.length a_2) : Nat) : Int)) + ((Int.tdiv n47 b_1) * (((List.length b_2) : Nat) : Int))))) then
      (some (0, 5))
    else
      (some (n47, 0))) : Option (Int × Int)) := rfl
theorem m_ref13_Spread_L1_eq (at8 : Int) (p_2 : List (Int × Int)) (i34 : Int) (l123 : List (Int × Int)) : m_ref13_Spread_L1 std at8 p_2 (i34, l123) =
((bif (decide (i34 < (((List.length p_2) : Nat) : Int))) then
    grd (okIdx i34 ((List.length p_2))) <|
    grd (okKin ((Int.toNat i34)) ((List.length p_2))) <|
    grd (okI .i64 (((List.getD p_2 (Int.toNat i34) (0, 0)).1 + at8))) <|
    grd (okI .i64 (((List.getD p_2 (Int.toNat i34) (0, 0)).2 + at8))) <|
    Option.bind (
      bif (decide (0 < (((List.length l123) : Nat) : Int))) then
        grd (okI .i64 (((((List.length l123) : Nat) : Int) - 1))) <|
        grd (okIdx (((((List.length l123) : Nat) : Int) - 1)) ((List.length l123))) <|
        grd (okKin ((Int.toNat ((((List.length l123) : Nat) : Int) - 1))) ((List.length l123))) <|
        (some ((List.getD l123 (Int.toNat ((((List.length l123) : Nat) : Int) - 1)) (0, 0)).2 == ((List.getD p_2 (Int.toNat i34) (0, 0)).1 + at8)))
      else
        (some false) : Option ((Bool))) fun x182 =>
    Option.bind (
      bif x182 then
        grd (okI .i64 (((((List.length l123) : Nat) : Int) - 1))) <|
        grd (okIdx (((((List.length l123) : Nat) : Int) - 1)) ((List.length l123))) <|
        grd (okKin ((Int.toNat ((((List.length l123) : Nat) : Int) - 1))) ((List.length l123))) <|
        (some (List.set l123 (Int.toNat ((((List.length l123) : Nat) : Int) - 1)) ((List.getD l123 (Int.toNat ((((List.length l123) : Nat) : Int) - 1)) (0, 0)).1, ((List.getD p_2 (Int.toNat i34) (0, 0)).2 + at8))))
      else
        grd (okRoom ((List.length l123))) <|
        grd (okRoom ((List.length [(((List.getD p_2 (Int.toNat i34) (0, 0)).1 + at8), ((List.getD p_2 (Int.toNat i34) (0, 0)).2 + at8))]))) <|
        (some (l123 ++ [(((List.getD p_2 (Int.toNat i34) (0, 0)).1 + at8), ((List.getD p_2 (Int.toNat i34) (0, 0)).2 + at8))])) : Option ((List (Int × Int)))) fun l125 =>
    grd (okI .i64 ((i34 + 1))) <|
    (some (Sum.inl ((i34 + 1), l125)))
  else
    (some (Sum.inr l123))) : Option ((Int × List (Int × Int)) ⊕ (List (Int × Int)))) := rfl
theorem m_ref13_Spread_L2_eq (m_1 : Int) (p_1 : Int) (p_2 : List (Int × Int)) (at8 : Int) (l120 : List (Int × Int)) : m_ref13_Spread_L2 std m_1 p_1 p_2 (at8, l120) =
((bif (decide (at8 < m_1)) then
    Option.bind (loop (m_ref13_Spread_L1 std at8 p_2) (0, l120)) fun l126 =>
    grd (okI .i64 ((at8 + p_1))) <|
    (some (Sum.inl ((at8 + p_1), l126)))
  else
    (some (Sum.inr l120))) : Option ((Int × List (Int × Int)) ⊕ (List (Int × Int)))) := rfl
theorem m_ref13_Spread_eq (p_1 : Int) (m_1 : Int) (p_2 : List (Int × Int)) : m_ref13_Spread std p_1 m_1 p_2 =
((bif ((((List.length p_2) : Nat) : Int) == 0) then
    (some ([] : List (Int × Int)))
  else
    bif (p_1 == 1) then
      (some [(0, m_1)])
    else
      Option.bind (loop (m_ref13_Spread_L2 std m_1 p_1 p_2) (0, ([] : List (Int × Int)))) fun l127 =>
      (some l127)) : Option (List (Int × Int))) := rfl
theorem m_ref13_limited_eq (p_1 : Int) (p_2 : List (Int × Int)) : m_ref13_limited std p_1 p_2 =
((bif (decide (2000 < (((List.length p_2) : Nat) : Int))) then
    (some (Sum.inl (0, 5)))
  else
    (some (Sum.inr (p_1, 0)))) : Option (((Int × Int) ⊕ (Int × Int)))) := rfl
theorem m_ref13_Combine_eq (a_1 : Int) (b_1 : Int) (kind_1 : Int) (a_2 : List (Int × Int)) (b_2 : List (Int × Int)) : m_ref13_Combine std a_1 b_1 kind_1 a_2 b_2 =
((Option.bind (
    Option.bind (m_ref13_Valid std a_1 a_2) fun b43 =>
    bif (!b43) then
      (some true)
    else
      Option.bind (m_ref13_Valid std b_1 b_2) fun b44 =>
      (some (!b44)) : Option ((Bool))) fun x170 =>
  bif x170 then
    (some (0, ([] : List (Int × Int)), 1))
  else
    Option.bind (m_ref13_Pair std a_1 b_1 a_2 b_2) fun (n49, n50) =>
    bif (!(n50 == 0)) then
      (some (0, ([] : List (Int × Int)), n50))
    else
      Option.bind (
        Option.bind (m_ref13_Spread std a_1 n49 a_2) fun l128 =>
        Option.bind (m_ref13_Spread std b_1 n49 b_2) fun l129 =>
        Option.bind (m_ref13_Lists std kind_1 l128 l129) fun l130 =>
        Option.bind (m_ref13_Least std n49 l130) fun (n51, l131) =>
        Option.bind (m_ref13_limited std n51 l131) fun e => match e with
        | .inl (n52, n53) =>
          (some (Sum.inl (n53, n52)))
        | .inr ((n54, n55)) =>
          (some (Sum.inr (n55, n54, l131))) : Option (((Int × Int) ⊕ (Int × Int × List (Int × Int))))) fun e => match e with
      | .inl (x185, x186) =>
        (some (x186, ([] : List (Int × Int)), x185))
      | .inr ((x187, x188, l132)) =>
        (some (x188, l132, x187))) : Option (Int × List (Int × Int) × Int)) := rfl
theorem m_slices_Equal_L1_eq (s1_1 : List (Int × Int)) (s2_1 : List (Int × Int)) (x189 : Int) : m_slices_Equal_L1 std s1_1 s2_1 x189 =
((bif (decide (x189 < (((List.length s1_1) : Nat) : Int))) then
    grd (okIdx x189 ((List.length s1_1))) <|
    grd (okKin ((Int.toNat x189)) ((List.length s1_1))) <|
    grd (okIdx x189 ((List.length s2_1))) <|
    grd (okKin ((Int.toNat x189)) ((List.length s2_1))) <|
    bif (!(((List.getD s1_1 (Int.toNat x189) (0, 0)).1 == (List.getD s2_1 (Int.toNat x189) (0, 0)).1) && ((List.getD s1_1 (Int.toNat x189) (0, 0)).2 == (List.getD s2_1 (Int.toNat x189) (0, 0)).2))) then
      (some (Sum.inr (Sum.inl ())))
    else
      grd (okI .i64 ((x189 + 1))) <|
      (some (Sum.inl (x189 + 1)))
  else
    (some (Sum.inr (Sum.inr ())))) : Option ((Int) ⊕ ((Unit) ⊕ (Unit)))) := rfl
theorem m_slices_Equal_eq (s1_1 : List (Int × Int)) (s2_1 : List (Int × Int)) : m_slices_Equal std s1_1 s2_1 =
((bif (!((((List.length s1_1) : Nat) : Int) == (((List.length s2_1) : Nat) : Int))) then
    (some false)
  else
    Option.bind (loop (m_slices_Equal_L1 std s1_1 s2_1) 0) fun e => match e with
    | .inl _ =>
      (some false)
    | .inr (_) =>
      (some true)) : Option (Bool)) := rfl
theorem m_law13_PeriodicCombines_1_eq (p_1 : Int) (e_1 : Int) (q_1 : Int) (f_1 : Int) (p_2 : List (Int × Int)) (q_2 : List (Int × Int)) : m_law13_PeriodicCombines_1 std p_1 e_1 q_1 f_1 p_2 q_2 =
((Option.bind (
    bif (e_1 == f_1) then
      bif (p_1 == q_1) then
        Option.bind (m_slices_Equal std p_2 q_2) fun b46 =>
        (some b46)
      else
        (some false)
    else
      (some false) : Option ((Bool))) fun x192 =>
  (some x192)) : Option (Bool)) := rfl
theorem m_periodic_Meet_1_eq (a_1 : Bool) (b_1 : Bool) : m_periodic_Meet_1 std a_1 b_1 =
((Option.bind (
    bif a_1 then
      (some b_1)
    else
      (some false) : Option ((Bool))) fun x203 =>
  (some x203)) : Option (Bool)) := rfl
theorem m_periodic_combine_2_L1_eq (a_1 : List (Int × Int)) (b_1 : List (Int × Int)) (i38 : Int) (k22 : Int) (l140 : List (Int × Int)) : m_periodic_combine_2_L1 std a_1 b_1 (i38, k22, l140) =
((Option.bind (m_periodic_combine_1 std i38 a_1) fun (n62, b54) =>
  Option.bind (m_periodic_combine_1 std k22 b_1) fun (n63, b55) =>
  Option.bind (
    bif (!b54) then
      (some (!b55))
    else
      (some false) : Option ((Bool))) fun x213 =>
  bif x213 then
    (some (Sum.inr l140))
  else
    Option.bind (
      bif (!b54) then
        (some (b55, true))
      else
        bif b55 then
          (some (true, (decide (n63 < n62))))
        else
          (some (false, false)) : Option ((Bool × Bool))) fun (is12, x216) =>
    Option.bind (
      bif x216 then
        (some n63)
      else
        (some n62) : Option ((Int))) fun at12 =>
    grd (okNz 2) <|
    Option.bind (m_periodic_Meet_1 std (((Int.tmod i38 2) == 1)) (((Int.tmod k22 2) == 1))) fun b56 =>
    Option.bind (
      bif b54 then
        (some (n62 == at12))
      else
        (some false) : Option ((Bool))) fun x218 =>
    Option.bind (
      bif x218 then
        grd (okI .i64 ((i38 + 1))) <|
        (some (i38 + 1))
      else
        (some i38) : Option ((Int))) fun i40 =>
    Option.bind (
      bif is12 then
        (some (n63 == at12))
      else
        (some false) : Option ((Bool))) fun x220 =>
    Option.bind (
      bif x220 then
        grd (okI .i64 ((k22 + 1))) <|
        (some (k22 + 1))
      else
        (some k22) : Option ((Int))) fun k24 =>
    Option.bind (m_periodic_Meet_1 std (((Int.tmod i40 2) == 1)) (((Int.tmod k24 2) == 1))) fun b57 =>
    Option.bind (
      bif (!b56) then
        (some b57)
      else
        (some false) : Option ((Bool))) fun x222 =>
    Option.bind (
      bif x222 then
        grd (okRoom ((List.length l140))) <|
        grd (okRoom ((List.length [(at12, 0)]))) <|
        (some (l140 ++ [(at12, 0)]))
      else
        Option.bind (
          bif b56 then
            (some (!b57))
          else
            (some false) : Option ((Bool))) fun x224 =>
        Option.bind (
          bif x224 then
            grd (okI .i64 (((((List.length l140) : Nat) : Int) - 1))) <|
            grd (okIdx (((((List.length l140) : Nat) : Int) - 1)) ((List.length l140))) <|
            grd (okKin ((Int.toNat ((((List.length l140) : Nat) : Int) - 1))) ((List.length l140))) <|
            (some (List.set l140 (Int.toNat ((((List.length l140) : Nat) : Int) - 1)) ((List.getD l140 (Int.toNat ((((List.length l140) : Nat) : Int) - 1)) (0, 0)).1, at12)))
          else
            (some l140) : Option ((List (Int × Int)))) fun l142 =>
        (some l142) : Option ((List (Int × Int)))) fun l144 =>
    (some (Sum.inl (i40, k24, l144)))) : Option ((Int × Int × List (Int × Int)) ⊕ (List (Int × Int)))) := rfl
theorem m_periodic_combine_2_eq (a_1 : List (Int × Int)) (b_1 : List (Int × Int)) : m_periodic_combine_2 std a_1 b_1 =
((Option.bind (loop (m_periodic_combine_2_L1 std a_1 b_1) (0, 0, ([] : List (Int × Int)))) fun l145 =>
  (some l145)) : Option (List (Int × Int))) := rfl
theorem m_periodic_both_2_eq (a_1 : Int) (b_1 : Int) (a_2 : List (Int × Int)) (b_2 : List (Int × Int)) : m_periodic_both_2 std a_1 b_1 a_2 b_2 =
((Option.bind (
    Option.bind (m_periodic_Valid std a_1 a_2) fun b48 =>
    bif (!b48) then
      (some true)
    else
      Option.bind (m_periodic_Valid std b_1 b_2) fun b49 =>
      (some (!b49)) : Option ((Bool))) fun x194 =>
  bif x194 then
    (some (0, ([] : List (Int × Int)), 1))
  else
    Option.bind (m_integer_Lcm std a_1 b_1) fun (n58, n59) =>
    Option.bind (
      bif (!(n59 == 0)) then
        (some true)
      else
        (some (decide (12622780800 < n58))) : Option ((Bool))) fun x196 =>
    bif x196 then
      (some (0, ([] : List (Int × Int)), 9))
    else
      grd (okNz a_1) <|
      grd (okI .i64 ((Int.tdiv n58 a_1))) <|
      grd (okI .i64 (((Int.tdiv n58 a_1) * (((List.length a_2) : Nat) : Int)))) <|
      grd (okNz b_1) <|
      grd (okI .i64 ((Int.tdiv n58 b_1))) <|
      grd (okI .i64 (((Int.tdiv n58 b_1) * (((List.length b_2) : Nat) : Int)))) <|
      grd (okI .i64 ((((Int.tdiv n58 a_1) * (((List.length a_2) : Nat) : Int)) + ((Int.tdiv n58 b_1) * (((List.length b_2) : Nat) : Int))))) <|
      bif (decide (2000 < (((Int.tdiv n58 a_1) * (((List.length a_2) : Nat) : Int)) + ((Int.tdiv n58 b_1) * (((List.length b_2) : Nat) : Int))))) then
        (some (0, ([] : List (Int × Int)), 5))
      else
        Option.bind (m_periodic_spread std a_1 n58 a_2) fun l134 =>
        Option.bind (m_periodic_spread std b_1 n58 b_2) fun l135 =>
        Option.bind (m_periodic_combine_2 std l134 l135) fun l146 =>
        Option.bind (m_periodic_limited std n58 l146) fun (n64, l147, n65) =>
        (some (n64, l147, n65))) : Option (Int × List (Int × Int) × Int)) := rfl
theorem m_periodic_Meet_eq (a_1 : Int) (b_1 : Int) (a_2 : List (Int × Int)) (b_2 : List (Int × Int)) : m_periodic_Meet std a_1 b_1 a_2 b_2 =
((Option.bind (m_periodic_both_2 std a_1 b_1 a_2 b_2) fun (n66, l148, n67) =>
  (some (n66, l148, n67))) : Option (Int × List (Int × Int) × Int)) := rfl
theorem m_periodic_Minus_1_eq (a_1 : Bool) (b_1 : Bool) : m_periodic_Minus_1 std a_1 b_1 =
((Option.bind (
    bif a_1 then
      (some (!b_1))
    else
      (some false) : Option ((Bool))) fun x235 =>
  (some x235)) : Option (Bool)) := rfl
theorem m_periodic_combine_3_L1_eq (a_1 : List (Int × Int)) (b_1 : List (Int × Int)) (i44 : Int) (k28 : Int) (l157 : List (Int × Int)) : m_periodic_combine_3_L1 std a_1 b_1 (i44, k28, l157) =
((Option.bind (m_periodic_combine_1 std i44 a_1) fun (n76, b65) =>
  Option.bind (m_periodic_combine_1 std k28 b_1) fun (n77, b66) =>
  Option.bind (
    bif (!b65) then
      (some (!b66))
    else
      (some false) : Option ((Bool))) fun x245 =>
  bif x245 then
    (some (Sum.inr l157))
  else
    Option.bind (
      bif (!b65) then
        (some (b66, true))
      else
        bif b66 then
          (some (true, (decide (n77 < n76))))
        else
          (some (false, false)) : Option ((Bool × Bool))) fun (is18, x248) =>
    Option.bind (
      bif x248 then
        (some n77)
      else
        (some n76) : Option ((Int))) fun at16 =>
    grd (okNz 2) <|
    Option.bind (m_periodic_Minus_1 std (((Int.tmod i44 2) == 1)) (((Int.tmod k28 2) == 1))) fun b67 =>
    Option.bind (
      bif b65 then
        (some (n76 == at16))
      else
        (some false) : Option ((Bool))) fun x250 =>
    Option.bind (
      bif x250 then
        grd (okI .i64 ((i44 + 1))) <|
        (some (i44 + 1))
      else
        (some i44) : Option ((Int))) fun i46 =>
    Option.bind (
      bif is18 then
        (some (n77 == at16))
      else
        (some false) : Option ((Bool))) fun x252 =>
    Option.bind (
      bif x252 then
        grd (okI .i64 ((k28 + 1))) <|
        (some (k28 + 1))
      else
        (some k28) : Option ((Int))) fun k30 =>
    Option.bind (m_periodic_Minus_1 std (((Int.tmod i46 2) == 1)) (((Int.tmod k30 2) == 1))) fun b68 =>
    Option.bind (
      bif (!b67) then
        (some b68)
      else
        (some false) : Option ((Bool))) fun x254 =>
    Option.bind (
      bif x254 then
        grd (okRoom ((List.length l157))) <|
        grd (okRoom ((List.length [(at16, 0)]))) <|
        (some (l157 ++ [(at16, 0)]))
      else
        Option.bind (
          bif b67 then
            (some (!b68))
          else
            (some false) : Option ((Bool))) fun x256 =>
        Option.bind (
          bif x256 then
            grd (okI .i64 (((((List.length l157) : Nat) : Int) - 1))) <|
            grd (okIdx (((((List.length l157) : Nat) : Int) - 1)) ((List.length l157))) <|
            grd (okKin ((Int.toNat ((((List.length l157) : Nat) : Int) - 1))) ((List.length l157))) <|
            (some (List.set l157 (Int.toNat ((((List.length l157) : Nat) : Int) - 1)) ((List.getD l157 (Int.toNat ((((List.length l157) : Nat) : Int) - 1)) (0, 0)).1, at16)))
          else
            (some l157) : Option ((List (Int × Int)))) fun l159 =>
        (some l159) : Option ((List (Int × Int)))) fun l161 =>
    (some (Sum.inl (i46, k30, l161)))) : Option ((Int × Int × List (Int × Int)) ⊕ (List (Int × Int)))) := rfl
theorem m_periodic_combine_3_eq (a_1 : List (Int × Int)) (b_1 : List (Int × Int)) : m_periodic_combine_3 std a_1 b_1 =
((Option.bind (loop (m_periodic_combine_3_L1 std a_1 b_1) (0, 0, ([] : List (Int × Int)))) fun l162 =>
  (some l162)) : Option (List (Int × Int))) := rfl
theorem m_periodic_both_3_eq (a_1 : Int) (b_1 : Int) (a_2 : List (Int × Int)) (b_2 : List (Int × Int)) : m_periodic_both_3 std a_1 b_1 a_2 b_2 =
((Option.bind (
    Option.bind (m_periodic_Valid std a_1 a_2) fun b59 =>
    bif (!b59) then
      (some true)
    else
      Option.bind (m_periodic_Valid std b_1 b_2) fun b60 =>
      (some (!b60)) : Option ((Bool))) fun x226 =>
  bif x226 then
    (some (0, ([] : List (Int × Int)), 1))
  else
    Option.bind (m_integer_Lcm std a_1 b_1) fun (n72, n73) =>
    Option.bind (
      bif (!(n73 == 0)) then
        (some true)
      else
        (some (decide (12622780800 < n72))) : Option ((Bool))) fun x228 =>
    bif x228 then
      (some (0, ([] : List (Int × Int)), 9))
    else
      grd (okNz a_1) <|
      grd (okI .i64 ((Int.tdiv n72 a_1))) <|
      grd (okI .i64 (((Int.tdiv n72 a_1) * (((List.length a_2) : Nat) : Int)))) <|
      grd (okNz b_1) <|
      grd (okI .i64 ((Int.tdiv n72 b_1))) <|
      grd (okI .i64 (((Int.tdiv n72 b_1) * (((List.length b_2) : Nat) : Int)))) <|
      grd (okI .i64 ((((Int.tdiv n72 a_1) * (((List.length a_2) : Nat) : Int)) + ((Int.tdiv n72 b_1) * (((List.length b_2) : Nat) : Int))))) <|
      bif (decide (2000 < (((Int.tdiv n72 a_1) * (((List.length a_2) : Nat) : Int)) + ((Int.tdiv n72 b_1) * (((List.length b_2) : Nat) : Int))))) then
        (some (0, ([] : List (Int × Int)), 5))
      else
        Option.bind (m_periodic_spread std a_1 n72 a_2) fun l151 =>
        Option.bind (m_periodic_spread std b_1 n72 b_2) fun l152 =>
        Option.bind (m_periodic_combine_3 std l151 l152) fun l163 =>
        Option.bind (m_periodic_limited std n72 l163) fun (n78, l164, n79) =>
        (some (n78, l164, n79))) : Option (Int × List (Int × Int) × Int)) := rfl
theorem m_periodic_Minus_eq (a_1 : Int) (b_1 : Int) (a_2 : List (Int × Int)) (b_2 : List (Int × Int)) : m_periodic_Minus std a_1 b_1 a_2 b_2 =
((Option.bind (m_periodic_both_3 std a_1 b_1 a_2 b_2) fun (n80, l165, n81) =>
  (some (n80, l165, n81))) : Option (Int × List (Int × Int) × Int)) := rfl
theorem m_periodic_Not_1_eq (a_1 : Bool) (b_1 : Bool) : m_periodic_Not_1 std a_1 b_1 =
((Option.bind (
    bif a_1 then
      (some (!b_1))
    else
      (some false) : Option ((Bool))) fun x263 =>
  (some x263)) : Option (Bool)) := rfl
theorem m_periodic_combine_4_L1_eq (a_1 : List (Int × Int)) (b_1 : List (Int × Int)) (i50 : Int) (k34 : Int) (l172 : List (Int × Int)) : m_periodic_combine_4_L1 std a_1 b_1 (i50, k34, l172) =
((Option.bind (m_periodic_combine_1 std i50 a_1) fun (n88, b75) =>
  Option.bind (m_periodic_combine_1 std k34 b_1) fun (n89, b76) =>
  Option.bind (
    bif (!b75) then
      (some (!b76))
    else
      (some false) : Option ((Bool))) fun x273 =>
  bif x273 then
    (some (Sum.inr l172))
  else
    Option.bind (
      bif (!b75) then
        (some (b76, true))
      else
        bif b76 then
          (some (true, (decide (n89 < n88))))
        else
          (some (false, false)) : Option ((Bool × Bool))) fun (is24, x276) =>
    Option.bind (
      bif x276 then
        (some n89)
      else
        (some n88) : Option ((Int))) fun at20 =>
    grd (okNz 2) <|
    Option.bind (m_periodic_Not_1 std (((Int.tmod i50 2) == 1)) (((Int.tmod k34 2) == 1))) fun b77 =>
    Option.bind (
      bif b75 then
        (some (n88 == at20))
      else
        (some false) : Option ((Bool))) fun x278 =>
    Option.bind (
      bif x278 then
        grd (okI .i64 ((i50 + 1))) <|
        (some (i50 + 1))
      else
        (some i50) : Option ((Int))) fun i52 =>
    Option.bind (
      bif is24 then
        (some (n89 == at20))
      else
        (some false) : Option ((Bool))) fun x280 =>
    Option.bind (
      bif x280 then
        grd (okI .i64 ((k34 + 1))) <|
        (some (k34 + 1))
      else
        (some k34) : Option ((Int))) fun k36 =>
    Option.bind (m_periodic_Not_1 std (((Int.tmod i52 2) == 1)) (((Int.tmod k36 2) == 1))) fun b78 =>
    Option.bind (
      bif (!b77) then
        (some b78)
      else
        (some false) : Option ((Bool))) fun x282 =>
    Option.bind (
      bif x282 then
        grd (okRoom ((List.length l172))) <|
        grd (okRoom ((List.length [(at20, 0)]))) <|
        (some (l172 ++ [(at20, 0)]))
      else
        Option.bind (
          bif b77 then
            (some (!b78))
          else
            (some false) : Option ((Bool))) fun x284 =>
        Option.bind (
          bif x284 then
            grd (okI .i64 (((((List.length l172) : Nat) : Int) - 1))) <|
            grd (okIdx (((((List.length l172) : Nat) : Int) - 1)) ((List.length l172))) <|
            grd (okKin ((Int.toNat ((((List.length l172) : Nat) : Int) - 1))) ((List.length l172))) <|
            (some (List.set l172 (Int.toNat ((((List.length l172) : Nat) : Int) - 1)) ((List.getD l172 (Int.toNat ((((List.length l172) : Nat) : Int) - 1)) (0, 0)).1, at20)))
          else
            (some l172) : Option ((List (Int × Int)))) fun l174 =>
        (some l174) : Option ((List (Int × Int)))) fun l176 =>
    (some (Sum.inl (i52, k36, l176)))) : Option ((Int × Int × List (Int × Int)) ⊕ (List (Int × Int)))) := rfl
theorem m_periodic_combine_4_eq (a_1 : List (Int × Int)) (b_1 : List (Int × Int)) : m_periodic_combine_4 std a_1 b_1 =
((Option.bind (loop (m_periodic_combine_4_L1 std a_1 b_1) (0, 0, ([] : List (Int × Int)))) fun l177 =>
  (some l177)) : Option (List (Int × Int))) := rfl
theorem m_periodic_Not_eq (p_1 : Int) (p_2 : List (Int × Int)) : m_periodic_Not std p_1 p_2 =
((Option.bind (m_periodic_Valid std p_1 p_2) fun b70 =>
  bif (!b70) then
    (some (0, ([] : List (Int × Int)), 1))
  else
    Option.bind (m_periodic_combine_4 std ([(0, p_1)]) p_2) fun l178 =>
    Option.bind (m_periodic_limited std p_1 l178) fun (n90, l179, n91) =>
    (some (n90, l179, n91))) : Option (Int × List (Int × Int) × Int)) := rfl
theorem m_ref13_Not_eq (p_1 : Int) (p_2 : List (Int × Int)) : m_ref13_Not std p_1 p_2 =
((Option.bind (m_ref13_Valid std p_1 p_2) fun b79 =>
  bif (!b79) then
    (some (0, ([] : List (Int × Int)), 1))
  else
    Option.bind (
      Option.bind (m_ref13_Lists std 2 ([(0, p_1)]) p_2) fun l181 =>
      Option.bind (m_ref13_Least std p_1 l181) fun (n94, l182) =>
      Option.bind (m_ref13_limited std n94 l182) fun e => match e with
      | .inl (n95, n96) =>
        (some (Sum.inl (n96, n95)))
      | .inr ((n97, n98)) =>
        (some (Sum.inr (n98, n97, l182))) : Option (((Int × Int) ⊕ (Int × Int × List (Int × Int))))) fun e => match e with
    | .inl (x287, x288) =>
      (some (x288, ([] : List (Int × Int)), x287))
    | .inr ((x289, x290, l183)) =>
      (some (x290, l183, x289))) : Option (Int × List (Int × Int) × Int)) := rfl
theorem m_periodic_Move_L1_eq (n101 : Int) (p_2 : List (Int × Int)) (x294 : Int) (l185 : List (Int × Int)) : m_periodic_Move_L1 std n101 p_2 (x294, l185) =
((bif (decide (x294 < (((List.length p_2) : Nat) : Int))) then
    grd (okIdx x294 ((List.length p_2))) <|
    grd (okKin ((Int.toNat x294)) ((List.length p_2))) <|
    grd (okI .i64 (((List.getD p_2 (Int.toNat x294) (0, 0)).1 + n101))) <|
    grd (okI .i64 (((List.getD p_2 (Int.toNat x294) (0, 0)).2 + n101))) <|
    grd (okRoom ((List.length l185))) <|
    grd (okRoom ((List.length [(((List.getD p_2 (Int.toNat x294) (0, 0)).1 + n101), ((List.getD p_2 (Int.toNat x294) (0, 0)).2 + n101))]))) <|
    grd (okI .i64 ((x294 + 1))) <|
    (some (Sum.inl ((x294 + 1), (l185 ++ [(((List.getD p_2 (Int.toNat x294) (0, 0)).1 + n101), ((List.getD p_2 (Int.toNat x294) (0, 0)).2 + n101))]))))
  else
    (some (Sum.inr l185))) : Option ((Int × List (Int × Int)) ⊕ (List (Int × Int)))) := rfl
theorem m_periodic_Move_eq (p_1 : Int) (n_1 : Int) (p_2 : List (Int × Int)) : m_periodic_Move std p_1 n_1 p_2 =
((Option.bind (m_periodic_Valid std p_1 p_2) fun b80 =>
  bif (!b80) then
    (some (0, ([] : List (Int × Int)), 1))
  else
    Option.bind (
      bif (decide (n_1 < (-4398046511104))) then
        (some true)
      else
        (some (decide (4398046511104 < n_1))) : Option ((Bool))) fun x292 =>
    bif x292 then
      (some (0, ([] : List (Int × Int)), 2))
    else
      Option.bind (m_integer_Mod std n_1 p_1) fun n101 =>
      Option.bind (loop (m_periodic_Move_L1 std n101 p_2) (0, ([] : List (Int × Int)))) fun l186 =>
      Option.bind (m_periodic_fold std p_1 l186) fun l187 =>
      Option.bind (m_periodic_limited std p_1 l187) fun (n102, l188, n103) =>
      (some (n102, l188, n103))) : Option (Int × List (Int × Int) × Int)) := rfl
theorem m_ref13_Move_eq (p_1 : Int) (n_1 : Int) (p_2 : List (Int × Int)) : m_ref13_Move std p_1 n_1 p_2 =
((Option.bind (m_ref13_Valid std p_1 p_2) fun b81 =>
  bif (!b81) then
    (some (Sum.inl (0, ([] : List (Int × Int)), 1)))
  else
    Option.bind (
      bif (decide (n_1 < (-4398046511104))) then
        (some true)
      else
        (some (decide (4398046511104 < n_1))) : Option ((Bool))) fun x296 =>
    bif x296 then
      (some (Sum.inl (0, ([] : List (Int × Int)), 2)))
    else
      Option.bind (
        Option.bind (m_ref13_rotated std p_1 n_1 p_2) fun e => match e with
        | .inl _ =>
          Option.bind (m_ref13_limited std p_1 p_2) fun e => match e with
          | .inl (n106, n107) =>
            (some (Sum.inl (n107, n106)))
          | .inr ((n108, n109)) =>
            (some (Sum.inr (Sum.inl (n109, n108))))
        | .inr (l190) =>
          Option.bind (m_ref13_limited std p_1 l190) fun e => match e with
          | .inl (n110, n111) =>
            (some (Sum.inl (n111, n110)))
          | .inr ((n112, n113)) =>
            (some (Sum.inr (Sum.inr (n113, n112, l190)))) : Option (((Int × Int) ⊕ ((Int × Int) ⊕ (Int × Int × List (Int × Int)))))) fun e => match e with
      | .inl (x305, x306) =>
        (some (Sum.inl (x306, ([] : List (Int × Int)), x305)))
      | .inr (.inl (x307, x308)) =>
        (some (Sum.inr (x308, x307)))
      | .inr (.inr ((x309, x310, l191))) =>
        (some (Sum.inl (x310, l191, x309)))) : Option (((Int × List (Int × Int) × Int) ⊕ (Int × Int)))) := rfl
theorem m_law13_PeriodicCombines_eq (a_1 : Int) (b_1 : Int) (n_1 : Int) (a_2 : List (Int × Int)) (b_2 : List (Int × Int)) : m_law13_PeriodicCombines std a_1 b_1 n_1 a_2 b_2 =
((Option.bind (
    Option.bind (m_law13_awake std) fun b25 =>
    bif (!b25) then
      (some true)
    else
      Option.bind (m_law13_long std a_1 a_2) fun b26 =>
      bif b26 then
        (some true)
      else
        Option.bind (m_law13_long std b_1 b_2) fun b27 =>
        (some b27) : Option ((Bool))) fun x108 =>
  bif x108 then
    Option.bind (m_law13_awake std) fun b28 =>
    (some b28)
  else
    Option.bind (m_periodic_Union std a_1 b_1 a_2 b_2) fun (n35, l71, n36) =>
    Option.bind (m_ref13_Combine std a_1 b_1 0 a_2 b_2) fun (n56, l133, n57) =>
    Option.bind (m_law13_PeriodicCombines_1 std n35 n36 n56 n57 l71 l133) fun b47 =>
    bif (!b47) then
      (some false)
    else
      grd (okI .i64 ((0 + 1))) <|
      Option.bind (m_periodic_Meet std a_1 b_1 a_2 b_2) fun (n68, l149, n69) =>
      Option.bind (m_ref13_Combine std a_1 b_1 1 a_2 b_2) fun (n70, l150, n71) =>
      Option.bind (m_law13_PeriodicCombines_1 std n68 n69 n70 n71 l149 l150) fun b58 =>
      bif (!b58) then
        (some false)
      else
        grd (okI .i64 ((1 + 1))) <|
        Option.bind (m_periodic_Minus std a_1 b_1 a_2 b_2) fun (n82, l166, n83) =>
        Option.bind (m_ref13_Combine std a_1 b_1 2 a_2 b_2) fun (n84, l167, n85) =>
        Option.bind (m_law13_PeriodicCombines_1 std n82 n83 n84 n85 l166 l167) fun b69 =>
        bif (!b69) then
          (some false)
        else
          grd (okI .i64 ((2 + 1))) <|
          Option.bind (m_periodic_Not std a_1 a_2) fun (n92, l180, n93) =>
          Option.bind (m_ref13_Not std a_1 a_2) fun (n99, l184, n100) =>
          Option.bind (m_periodic_Move std a_1 n_1 a_2) fun (n104, l189, n105) =>
          Option.bind (
            Option.bind (m_ref13_Move std a_1 n_1 a_2) fun e => match e with
            | .inl (n114, l192, n115) =>
              (some (Sum.inl (n115, n114, l192)))
            | .inr ((n116, n117)) =>
              (some (Sum.inr (n117, n116))) : Option (((Int × Int × List (Int × Int)) ⊕ (Int × Int)))) fun e => match e with
          | .inl (h2, x312, l193) =>
            Option.bind (
              Option.bind (m_law13_PeriodicCombines_1 std n92 n93 n99 n100 l180 l184) fun b82 =>
              bif b82 then
                Option.bind (m_law13_PeriodicCombines_1 std n104 n105 x312 h2 l189 l193) fun b83 =>
                (some b83)
              else
                (some false) : Option ((Bool))) fun x315 =>
            (some x315)
          | .inr ((h3, x313)) =>
            Option.bind (
              Option.bind (m_law13_PeriodicCombines_1 std n92 n93 n99 n100 l180 l184) fun b84 =>
              bif b84 then
                Option.bind (m_law13_PeriodicCombines_1 std n104 n105 x313 h3 l189 a_2) fun b85 =>
                (some b85)
              else
                (some false) : Option ((Bool))) fun x317 =>
            (some x317)) : Option (Bool)) := rfl
theorem m_law13_line_eq (x_1 : Int) : m_law13_line std x_1 =
((Option.bind (
    bif (decide ((-4398046511104) ≤ x_1)) then
      (some (decide (x_1 ≤ 4398046511104)))
    else
      (some false) : Option ((Bool))) fun x324 =>
  (some x324)) : Option (Bool)) := rfl
theorem m_runs_Equal_eq (a_1 : List (Int × Int)) (b_1 : List (Int × Int)) : m_runs_Equal std a_1 b_1 =
((Option.bind (
    Option.bind (m_runs_Valid std a_1) fun b100 =>
    bif b100 then
      Option.bind (m_runs_Valid std b_1) fun b101 =>
      bif b101 then
        Option.bind (m_slices_Equal std a_1 b_1) fun b102 =>
        (some b102)
      else
        (some false)
    else
      (some false) : Option ((Bool))) fun x338 =>
  (some x338)) : Option (Bool)) := rfl
theorem m_periodic_Equal_eq (a_1 : Int) (b_1 : Int) (a_2 : List (Int × Int)) (b_2 : List (Int × Int)) : m_periodic_Equal std a_1 b_1 a_2 b_2 =
((Option.bind (
    Option.bind (m_periodic_Valid std a_1 a_2) fun b98 =>
    bif b98 then
      Option.bind (m_periodic_Valid std b_1 b_2) fun b99 =>
      bif b99 then
        bif (a_1 == b_1) then
          Option.bind (m_runs_Equal std a_2 b_2) fun b103 =>
          (some b103)
        else
          (some false)
      else
        (some false)
    else
      (some false) : Option ((Bool))) fun x342 =>
  (some x342)) : Option (Bool)) := rfl
theorem m_law13_PeriodicRepeats_L1_eq (i54 : Int) (k_1 : Int) (p_1 : Int) (p_2 : List (Int × Int)) (shifts_1 : List Int) (x333 : Int) (l197 : List (Int × Int)) : m_law13_PeriodicRepeats_L1 std i54 k_1 p_1 p_2 shifts_1 (x333, l197) =
((bif (decide (x333 < (((List.length p_2) : Nat) : Int))) then
    grd (okIdx x333 ((List.length p_2))) <|
    grd (okKin ((Int.toNat x333)) ((List.length p_2))) <|
    grd (okI .i64 ((i54 * p_1))) <|
    Option.bind (
      bif (decide (x333 < (((List.length shifts_1) : Nat) : Int))) then
        grd (okIdx x333 ((List.length shifts_1))) <|
        grd (okKin ((Int.toNat x333)) ((List.length shifts_1))) <|
        grd (okI .i64 ((List.getD shifts_1 (Int.toNat x333) 0))) <|
        grd (okI .i64 (((List.getD shifts_1 (Int.toNat x333) 0) * (1 + (Int.tmod k_1 6))))) <|
        grd (okI .i64 ((((List.getD shifts_1 (Int.toNat x333) 0) * (1 + (Int.tmod k_1 6))) * p_1))) <|
        grd (okI .i64 (((i54 * p_1) + (((List.getD shifts_1 (Int.toNat x333) 0) * (1 + (Int.tmod k_1 6))) * p_1)))) <|
        (some ((i54 * p_1) + (((List.getD shifts_1 (Int.toNat x333) 0) * (1 + (Int.tmod k_1 6))) * p_1)))
      else
        (some (i54 * p_1)) : Option ((Int))) fun at28 =>
    Option.bind (
      grd (okI .i64 ((at28 + (List.getD p_2 (Int.toNat x333) (0, 0)).1))) <|
      Option.bind (m_law13_line std ((at28 + (List.getD p_2 (Int.toNat x333) (0, 0)).1))) fun b96 =>
      bif (!b96) then
        (some true)
      else
        grd (okI .i64 ((at28 + (List.getD p_2 (Int.toNat x333) (0, 0)).2))) <|
        Option.bind (m_law13_line std ((at28 + (List.getD p_2 (Int.toNat x333) (0, 0)).2))) fun b97 =>
        (some (!b97)) : Option ((Bool))) fun x335 =>
    bif x335 then
      (some (Sum.inr (Sum.inl ())))
    else
      grd (okI .i64 ((at28 + (List.getD p_2 (Int.toNat x333) (0, 0)).2))) <|
      grd (okRoom ((List.length l197))) <|
      grd (okRoom ((List.length [((at28 + (List.getD p_2 (Int.toNat x333) (0, 0)).1), (at28 + (List.getD p_2 (Int.toNat x333) (0, 0)).2))]))) <|
      grd (okI .i64 ((x333 + 1))) <|
      (some (Sum.inl ((x333 + 1), (l197 ++ [((at28 + (List.getD p_2 (Int.toNat x333) (0, 0)).1), (at28 + (List.getD p_2 (Int.toNat x333) (0, 0)).2))]))))
  else
    (some (Sum.inr (Sum.inr l197)))) : Option ((Int × List (Int × Int)) ⊕ ((Unit) ⊕ (List (Int × Int))))) := rfl
theorem m_law13_PeriodicRepeats_L2_eq (k_1 : Int) (p_1 : Int) (p_2 : List (Int × Int)) (shifts_1 : List Int) (i54 : Int) (l196 : List (Int × Int)) : m_law13_PeriodicRepeats_L2 std k_1 p_1 p_2 shifts_1 (i54, l196) =
((bif (decide (0 ≤ i54)) then
    Option.bind (loop (m_law13_PeriodicRepeats_L1 std i54 k_1 p_1 p_2 shifts_1) (0, l196)) fun e => match e with
    | .inl _ =>
      (some (Sum.inr (Sum.inl ())))
    | .inr (l198) =>
      grd (okI .i64 ((i54 - 1))) <|
      (some (Sum.inl ((i54 - 1), l198)))
  else
    (some (Sum.inr (Sum.inr l196)))) : Option ((Int × List (Int × Int)) ⊕ ((Unit) ⊕ (List (Int × Int))))) := rfl
theorem m_law13_PeriodicRepeats_eq (p_1 : Int) (k_1 : Int) (p_2 : List (Int × Int)) (shifts_1 : List Int) : m_law13_PeriodicRepeats std p_1 k_1 p_2 shifts_1 =
((Option.bind (
    Option.bind (m_law13_awake std) fun b86 =>
    bif (!b86) then
      (some true)
    else
      Option.bind (m_law13_long std p_1 p_2) fun b87 =>
      bif b87 then
        (some true)
      else
        Option.bind (m_periodic_Valid std p_1 p_2) fun b88 =>
        bif (!b88) then
          (some true)
        else
          (some (decide (4294967296 < p_1))) : Option ((Bool))) fun x319 =>
  bif x319 then
    Option.bind (m_law13_awake std) fun b89 =>
    (some b89)
  else
    grd (okI .i64 k_1) <|
    grd (okNz 6) <|
    grd (okI .i64 ((1 + (Int.tmod k_1 6)))) <|
    Option.bind (
      bif (decide (12622780800 < ((1 + (Int.tmod k_1 6)) * p_1))) then
        grd (okI .i64 (((1 + (Int.tmod k_1 6)) * p_1))) <|
        (some true)
      else
        grd (okI .i64 (((1 + (Int.tmod k_1 6)) * p_1))) <|
        grd (okI .i64 (((1 + (Int.tmod k_1 6)) * (((List.length p_2) : Nat) : Int)))) <|
        (some (decide (2000 < ((1 + (Int.tmod k_1 6)) * (((List.length p_2) : Nat) : Int))))) : Option ((Bool))) fun x321 =>
    bif x321 then
      (some true)
    else
      grd (okI .i64 (((1 + (Int.tmod k_1 6)) - 1))) <|
      Option.bind (loop (m_law13_PeriodicRepeats_L2 std k_1 p_1 p_2 shifts_1) (((1 + (Int.tmod k_1 6)) - 1), ([] : List (Int × Int)))) fun e => match e with
      | .inl _ =>
        (some true)
      | .inr (l199) =>
        Option.bind (m_periodic_Of std (((1 + (Int.tmod k_1 6)) * p_1)) l199) fun (n118, l200, n119) =>
        Option.bind (
          bif (n119 == 0) then
            Option.bind (m_periodic_Equal std p_1 n118 p_2 l200) fun b104 =>
            (some b104)
          else
            (some false) : Option ((Bool))) fun x344 =>
        (some x344)) : Option (Bool)) := rfl
theorem m_civil_inside_eq (day_1 : Int) : m_civil_inside std day_1 =
((Option.bind (
    bif (decide ((-719162) ≤ day_1)) then
      (some (decide (day_1 < 2932897)))
    else
      (some false) : Option ((Bool))) fun x348 =>
  (some x348)) : Option (Bool)) := rfl
theorem m_civil_Weekday_eq (day_1 : Int) : m_civil_Weekday std day_1 =
((Option.bind (m_civil_inside std day_1) fun b105 =>
  bif (!b105) then
    (some 0)
  else
    grd (okI .i64 ((day_1 + 3))) <|
    Option.bind (m_integer_Mod std ((day_1 + 3)) 7) fun n120 =>
    grd (okI .i64 ((n120 + 1))) <|
    (some (n120 + 1))) : Option (Int)) := rfl
theorem m_granule_ascending_L1_eq (l_1 : List (Int × Int)) (x351 : Int) : m_granule_ascending_L1 std l_1 x351 =
((bif (decide (x351 < (((List.length l_1) : Nat) : Int))) then
    grd (okIdx x351 ((List.length l_1))) <|
    grd (okKin ((Int.toNat x351)) ((List.length l_1))) <|
    Option.bind (
      Option.bind (m_interval_Valid std ((List.getD l_1 (Int.toNat x351) (0, 0)).1) ((List.getD l_1 (Int.toNat x351) (0, 0)).2)) fun b106 =>
      bif (!b106) then
        (some true)
      else
        bif (decide (0 < x351)) then
          grd (okI .i64 ((x351 - 1))) <|
          grd (okIdx ((x351 - 1)) ((List.length l_1))) <|
          grd (okKin ((Int.toNat (x351 - 1))) ((List.length l_1))) <|
          (some (decide ((List.getD l_1 (Int.toNat x351) (0, 0)).1 < (List.getD l_1 (Int.toNat (x351 - 1)) (0, 0)).2)))
        else
          (some false) : Option ((Bool))) fun x354 =>
    bif x354 then
      (some (Sum.inr (Sum.inl ())))
    else
      grd (okI .i64 ((x351 + 1))) <|
      (some (Sum.inl (x351 + 1)))
  else
    (some (Sum.inr (Sum.inr ())))) : Option ((Int) ⊕ ((Unit) ⊕ (Unit)))) := rfl
theorem m_granule_ascending_eq (l_1 : List (Int × Int)) : m_granule_ascending std l_1 =
((Option.bind (loop (m_granule_ascending_L1 std l_1) 0) fun e => match e with
  | .inl _ =>
    (some false)
  | .inr (_) =>
    (some (decide (0 < (((List.length l_1) : Nat) : Int))))) : Option (Bool)) := rfl
theorem m_granule_line_eq (x_1 : Int) : m_granule_line std x_1 =
((Option.bind (
    bif (decide ((-4398046511104) ≤ x_1)) then
      (some (decide (x_1 ≤ 4398046511104)))
    else
      (some false) : Option ((Bool))) fun x358 =>
  (some x358)) : Option (Bool)) := rfl
theorem m_granule_half_eq (x_1 : Int) : m_granule_half std x_1 =
((Option.bind (
    bif (decide ((-2199023255552) ≤ x_1)) then
      (some (decide (x_1 ≤ 2199023255552)))
    else
      (some false) : Option ((Bool))) fun x360 =>
  (some x360)) : Option (Bool)) := rfl
theorem m_granule_least_L1_eq (l_1 : List (Int × Int)) (m1 : Int) (period_1 : Int) (same1 : Bool) (i55 : Int) : m_granule_least_L1 std l_1 m1 period_1 (same1, i55) =
((Option.bind (
    bif (decide ((i55 + m1) < (((List.length l_1) : Nat) : Int))) then
      grd (okI .i64 ((i55 + m1))) <|
      (some same1)
    else
      grd (okI .i64 ((i55 + m1))) <|
      (some false) : Option ((Bool))) fun x369 =>
  bif x369 then
    grd (okIdx ((i55 + m1)) ((List.length l_1))) <|
    grd (okKin ((Int.toNat (i55 + m1))) ((List.length l_1))) <|
    grd (okIdx i55 ((List.length l_1))) <|
    grd (okKin ((Int.toNat i55)) ((List.length l_1))) <|
    grd (okI .i64 (((List.getD l_1 (Int.toNat i55) (0, 0)).1 + (Int.tdiv period_1 (Int.tdiv (((List.length l_1) : Nat) : Int) m1))))) <|
    grd (okI .i64 (((List.getD l_1 (Int.toNat i55) (0, 0)).2 + (Int.tdiv period_1 (Int.tdiv (((List.length l_1) : Nat) : Int) m1))))) <|
    grd (okI .i64 ((i55 + 1))) <|
    (some (Sum.inl ((((List.getD l_1 (Int.toNat (i55 + m1)) (0, 0)).1 == ((List.getD l_1 (Int.toNat i55) (0, 0)).1 + (Int.tdiv period_1 (Int.tdiv (((List.length l_1) : Nat) : Int) m1)))) && ((List.getD l_1 (Int.toNat (i55 + m1)) (0, 0)).2 == ((List.getD l_1 (Int.toNat i55) (0, 0)).2 + (Int.tdiv period_1 (Int.tdiv (((List.length l_1) : Nat) : Int) m1))))), (i55 + 1))))
  else
    (some (Sum.inr same1))) : Option ((Bool × Int) ⊕ (Bool))) := rfl
theorem m_granule_least_L2_eq (l_1 : List (Int × Int)) (period_1 : Int) (m1 : Int) : m_granule_least_L2 std l_1 period_1 m1 =
((bif (decide (m1 < (((List.length l_1) : Nat) : Int))) then
    Option.bind (
      bif (!((Int.tmod (((List.length l_1) : Nat) : Int) m1) == 0)) then
        grd (okNz m1) <|
        (some true)
      else
        grd (okNz m1) <|
        grd (okI .i64 ((Int.tdiv (((List.length l_1) : Nat) : Int) m1))) <|
        grd (okNz ((Int.tdiv (((List.length l_1) : Nat) : Int) m1))) <|
        (some (!((Int.tmod period_1 (Int.tdiv (((List.length l_1) : Nat) : Int) m1)) == 0))) : Option ((Bool))) fun x367 =>
    bif x367 then
      grd (okI .i64 ((m1 + 1))) <|
      (some (Sum.inl (m1 + 1)))
    else
      grd (okI .i64 ((Int.tdiv (((List.length l_1) : Nat) : Int) m1))) <|
      grd (okNz ((Int.tdiv (((List.length l_1) : Nat) : Int) m1))) <|
      grd (okI .i64 ((Int.tdiv period_1 (Int.tdiv (((List.length l_1) : Nat) : Int) m1)))) <|
      Option.bind (loop (m_granule_least_L1 std l_1 m1 period_1) (true, 0)) fun same2 =>
      bif same2 then
        (some (Sum.inr (Sum.inl m1)))
      else
        grd (okI .i64 ((m1 + 1))) <|
        (some (Sum.inl (m1 + 1)))
  else
    (some (Sum.inr (Sum.inr ())))) : Option ((Int) ⊕ ((Int) ⊕ (Unit)))) := rfl
theorem m_granule_least_eq (period_1 : Int) (l_1 : List (Int × Int)) : m_granule_least std period_1 l_1 =
((Option.bind (loop (m_granule_least_L2 std l_1 period_1) 1) fun e => match e with
  | .inl x370 =>
    (some x370)
  | .inr (_) =>
    (some (((List.length l_1) : Nat) : Int))) : Option (Int)) := rfl
theorem m_granule_Of_L1_eq (l_1 : List (Int × Int)) (x365 : Int) (l203 : List (Int × Int)) : m_granule_Of_L1 std l_1 (x365, l203) =
((bif (decide (x365 < (((List.length l_1) : Nat) : Int))) then
    grd (okIdx x365 ((List.length l_1))) <|
    grd (okKin ((Int.toNat x365)) ((List.length l_1))) <|
    grd (okI .i64 (((List.getD l_1 (Int.toNat x365) (0, 0)).1 - (List.getD l_1 (Int.toNat 0) (0, 0)).1))) <|
    grd (okI .i64 (((List.getD l_1 (Int.toNat x365) (0, 0)).2 - (List.getD l_1 (Int.toNat 0) (0, 0)).1))) <|
    grd (okRoom ((List.length l203))) <|
    grd (okRoom ((List.length [(((List.getD l_1 (Int.toNat x365) (0, 0)).1 - (List.getD l_1 (Int.toNat 0) (0, 0)).1), ((List.getD l_1 (Int.toNat x365) (0, 0)).2 - (List.getD l_1 (Int.toNat 0) (0, 0)).1))]))) <|
    grd (okI .i64 ((x365 + 1))) <|
    (some (Sum.inl ((x365 + 1), (l203 ++ [(((List.getD l_1 (Int.toNat x365) (0, 0)).1 - (List.getD l_1 (Int.toNat 0) (0, 0)).1), ((List.getD l_1 (Int.toNat x365) (0, 0)).2 - (List.getD l_1 (Int.toNat 0) (0, 0)).1))]))))
  else
    (some (Sum.inr l203))) : Option ((Int × List (Int × Int)) ⊕ (List (Int × Int)))) := rfl
theorem m_granule_Of_eq (origin_1 : Int) (period_1 : Int) (l_1 : List (Int × Int)) : m_granule_Of std origin_1 period_1 l_1 =
((Option.bind (
    bif (decide (period_1 < 1)) then
      (some true)
    else
      bif (decide (12622780800 < period_1)) then
        (some true)
      else
        Option.bind (m_granule_ascending std l_1) fun b107 =>
        bif (!b107) then
          (some true)
        else
          grd (okI .i64 (((((List.length l_1) : Nat) : Int) - 1))) <|
          grd (okIdx (((((List.length l_1) : Nat) : Int) - 1)) ((List.length l_1))) <|
          grd (okKin ((Int.toNat ((((List.length l_1) : Nat) : Int) - 1))) ((List.length l_1))) <|
          grd (okIdx 0 ((List.length l_1))) <|
          grd (okKin ((Int.toNat 0)) ((List.length l_1))) <|
          grd (okI .i64 (((List.getD l_1 (Int.toNat ((((List.length l_1) : Nat) : Int) - 1)) (0, 0)).2 - (List.getD l_1 (Int.toNat 0) (0, 0)).1))) <|
          (some (decide (period_1 < ((List.getD l_1 (Int.toNat ((((List.length l_1) : Nat) : Int) - 1)) (0, 0)).2 - (List.getD l_1 (Int.toNat 0) (0, 0)).1)))) : Option ((Bool))) fun x356 =>
  bif x356 then
    (some (0, 0, ([] : List (Int × Int)), 1))
  else
    bif (decide (5000 < (((List.length l_1) : Nat) : Int))) then
      (some (0, 0, ([] : List (Int × Int)), 5))
    else
      grd (okIdx 0 ((List.length l_1))) <|
      grd (okKin ((Int.toNat 0)) ((List.length l_1))) <|
      Option.bind (
        Option.bind (m_granule_line std origin_1) fun b108 =>
        bif (!b108) then
          (some true)
        else
          grd (okI .i64 ((origin_1 + (List.getD l_1 (Int.toNat 0) (0, 0)).1))) <|
          Option.bind (m_granule_half std ((origin_1 + (List.getD l_1 (Int.toNat 0) (0, 0)).1))) fun b109 =>
          (some (!b109)) : Option ((Bool))) fun x362 =>
      bif x362 then
        (some (0, 0, ([] : List (Int × Int)), 2))
      else
        grd (okI .i64 ((origin_1 + (List.getD l_1 (Int.toNat 0) (0, 0)).1))) <|
        Option.bind (loop (m_granule_Of_L1 std l_1) (0, ([] : List (Int × Int)))) fun l204 =>
        Option.bind (m_granule_least std period_1 l204) fun n123 =>
        grd (okNz n123) <|
        grd (okI .i64 ((Int.tdiv (((List.length l204) : Nat) : Int) n123))) <|
        grd (okNz ((Int.tdiv (((List.length l204) : Nat) : Int) n123))) <|
        grd (okI .i64 ((Int.tdiv period_1 (Int.tdiv (((List.length l204) : Nat) : Int) n123)))) <|
        grd (okRng n123 ((List.length l204))) <|
        grd (okRng n123 ((Int.toNat n123))) <|
        (some ((origin_1 + (List.getD l_1 (Int.toNat 0) (0, 0)).1), (Int.tdiv period_1 (Int.tdiv (((List.length l204) : Nat) : Int) n123)), (List.take ((Int.toNat n123) - 0) (List.drop 0 l204)), 0))) : Option (Int × Int × List (Int × Int) × Int)) := rfl
theorem m_granule_row_L1_eq (lengths_1 : List Int) (from2 : Int) (x350 : Int) (l201 : List (Int × Int)) : m_granule_row_L1 std lengths_1 (from2, x350, l201) =
((bif (decide (x350 < (((List.length lengths_1) : Nat) : Int))) then
    grd (okIdx x350 ((List.length lengths_1))) <|
    grd (okKin ((Int.toNat x350)) ((List.length lengths_1))) <|
    grd (okI .i64 ((from2 + (List.getD lengths_1 (Int.toNat x350) 0)))) <|
    grd (okRoom ((List.length l201))) <|
    grd (okRoom ((List.length [(from2, (from2 + (List.getD lengths_1 (Int.toNat x350) 0)))]))) <|
    grd (okI .i64 ((x350 + 1))) <|
    (some (Sum.inl ((from2 + (List.getD lengths_1 (Int.toNat x350) 0)), (x350 + 1), (l201 ++ [(from2, (from2 + (List.getD lengths_1 (Int.toNat x350) 0)))]))))
  else
    (some (Sum.inr (from2, l201)))) : Option ((Int × Int × List (Int × Int)) ⊕ (Int × List (Int × Int)))) := rfl
theorem m_granule_row_eq (origin_1 : Int) (lengths_1 : List Int) : m_granule_row std origin_1 lengths_1 =
((Option.bind (loop (m_granule_row_L1 std lengths_1) (0, 0, ([] : List (Int × Int)))) fun (from3, l202) =>
  Option.bind (m_granule_Of std origin_1 from3 l202) fun (n124, n125, l205, _) =>
  (some (n124, n125, l205))) : Option (Int × Int × List (Int × Int))) := rfl
theorem m_granule_Weeks_eq (first_1 : Int) : m_granule_Weeks std first_1 =
((Option.bind (
    bif (decide (first_1 < 1)) then
      (some true)
    else
      (some (decide (7 < first_1))) : Option ((Bool))) fun x346 =>
  bif x346 then
    (some (0, 0, ([] : List (Int × Int)), 2))
  else
    Option.bind (m_civil_Weekday std 0) fun n121 =>
    grd (okI .i64 ((n121 - first_1))) <|
    Option.bind (m_integer_Mod std ((n121 - first_1)) 7) fun n122 =>
    grd (okI .i64 ((0 - n122))) <|
    Option.bind (m_granule_row std ((0 - n122)) ([7])) fun (n127, n128, l206) =>
    (some (n127, n128, l206, 0))) : Option (Int × Int × List (Int × Int) × Int)) := rfl
theorem m_granule_Valid_eq (c_1 : Int) (c_2 : Int) (c_3 : List (Int × Int)) : m_granule_Valid std c_1 c_2 c_3 =
((Option.bind (
    bif (decide ((((List.length c_3) : Nat) : Int) < 1)) then
      (some true)
    else
      bif (decide (5000 < (((List.length c_3) : Nat) : Int))) then
        (some true)
      else
        bif (decide (c_2 < 1)) then
          (some true)
        else
          bif (decide (12622780800 < c_2)) then
            (some true)
          else
            Option.bind (m_granule_half std c_1) fun b110 =>
            bif (!b110) then
              (some true)
            else
              Option.bind (m_granule_ascending std c_3) fun b111 =>
              bif (!b111) then
                (some true)
              else
                bif (!((List.getD c_3 (Int.toNat 0) (0, 0)).1 == 0)) then
                  grd (okIdx 0 ((List.length c_3))) <|
                  grd (okKin ((Int.toNat 0)) ((List.length c_3))) <|
                  (some true)
                else
                  grd (okIdx 0 ((List.length c_3))) <|
                  grd (okKin ((Int.toNat 0)) ((List.length c_3))) <|
                  grd (okI .i64 (((((List.length c_3) : Nat) : Int) - 1))) <|
                  grd (okIdx (((((List.length c_3) : Nat) : Int) - 1)) ((List.length c_3))) <|
                  grd (okKin ((Int.toNat ((((List.length c_3) : Nat) : Int) - 1))) ((List.length c_3))) <|
                  (some (decide (c_2 < (List.getD c_3 (Int.toNat ((((List.length c_3) : Nat) : Int) - 1)) (0, 0)).2))) : Option ((Bool))) fun x372 =>
  bif x372 then
    (some false)
  else
    Option.bind (m_granule_least std c_2 c_3) fun n132 =>
    (some (n132 == (((List.length c_3) : Nat) : Int)))) : Option (Bool)) := rfl
theorem m_integer_Floor_eq (a_1 : Int) (b_1 : Int) : m_integer_Floor std a_1 b_1 =
((Option.bind (m_integer_Div std a_1 b_1) fun (n133, _, _) =>
  (some n133)) : Option (Int)) := rfl
theorem m_granule_at_eq (c_1 : Int) (c_2 : Int) (k_1 : Int) (c_3 : List (Int × Int)) : m_granule_at std c_1 c_2 k_1 c_3 =
((Option.bind (m_integer_Floor std k_1 ((((List.length c_3) : Nat) : Int))) fun n137 =>
  grd (okI .i64 ((c_2 * n137))) <|
  grd (okI .i64 ((c_1 + (c_2 * n137)))) <|
  grd (okI .i64 (((((List.length c_3) : Nat) : Int) * n137))) <|
  grd (okI .i64 ((k_1 - ((((List.length c_3) : Nat) : Int) * n137)))) <|
  grd (okIdx ((k_1 - ((((List.length c_3) : Nat) : Int) * n137))) ((List.length c_3))) <|
  grd (okKin ((Int.toNat (k_1 - ((((List.length c_3) : Nat) : Int) * n137)))) ((List.length c_3))) <|
  grd (okI .i64 (((List.getD c_3 (Int.toNat (k_1 - ((((List.length c_3) : Nat) : Int) * n137))) (0, 0)).1 + (c_1 + (c_2 * n137))))) <|
  grd (okI .i64 (((List.getD c_3 (Int.toNat (k_1 - ((((List.length c_3) : Nat) : Int) * n137))) (0, 0)).2 + (c_1 + (c_2 * n137))))) <|
  (some (((List.getD c_3 (Int.toNat (k_1 - ((((List.length c_3) : Nat) : Int) * n137))) (0, 0)).1 + (c_1 + (c_2 * n137))), ((List.getD c_3 (Int.toNat (k_1 - ((((List.length c_3) : Nat) : Int) * n137))) (0, 0)).2 + (c_1 + (c_2 * n137)))))) : Option (Int × Int)) := rfl
theorem m_granule_Span_eq (c_1 : Int) (c_2 : Int) (k_1 : Int) (c_3 : List (Int × Int)) : m_granule_Span std c_1 c_2 k_1 c_3 =
((Option.bind (m_granule_Valid std c_1 c_2 c_3) fun b112 =>
  bif (!b112) then
    (some (0, 0, 1))
  else
    Option.bind (m_integer_Floor std k_1 ((((List.length c_3) : Nat) : Int))) fun n136 =>
    Option.bind (
      bif (decide ((Int.tdiv 8796093022208 c_2) < n136)) then
        grd (okNz c_2) <|
        grd (okI .i64 ((Int.tdiv 8796093022208 c_2))) <|
        (some true)
      else
        grd (okNz c_2) <|
        grd (okI .i64 ((Int.tdiv 8796093022208 c_2))) <|
        grd (okI .i64 ((Int.tdiv (-8796093022208) c_2))) <|
        grd (okI .i64 (((Int.tdiv (-8796093022208) c_2) - 1))) <|
        (some (decide (n136 < ((Int.tdiv (-8796093022208) c_2) - 1)))) : Option ((Bool))) fun x374 =>
    bif x374 then
      (some (0, 0, 2))
    else
      Option.bind (m_granule_at std c_1 c_2 k_1 c_3) fun (n138, n139) =>
      Option.bind (
        Option.bind (m_granule_line std n138) fun b113 =>
        bif (!b113) then
          (some true)
        else
          Option.bind (m_granule_line std n139) fun b114 =>
          (some (!b114)) : Option ((Bool))) fun x376 =>
      bif x376 then
        (some (0, 0, 2))
      else
        (some (n138, n139, 0))) : Option (Int × Int × Int)) := rfl
theorem m_granule_months_L1_eq (x380 : Int) (x382 : Int) (l211 : List Int) : m_granule_months_L1 std x380 (x382, l211) =
((bif (decide (x382 < 12)) then
    grd (okI .i64 ((1970 + x380))) <|
    grd (okI .i64 ((x382 + 1))) <|
    Option.bind (m_civil_Length std ((1970 + x380)) ((x382 + 1))) fun n146 =>
    grd (okRoom ((List.length l211))) <|
    grd (okRoom ((List.length [n146]))) <|
    (some (Sum.inl ((x382 + 1), (l211 ++ [n146]))))
  else
    (some (Sum.inr l211))) : Option ((Int × List Int) ⊕ (List Int))) := rfl
theorem m_granule_months_L2_eq (x380 : Int) (l210 : List Int) : m_granule_months_L2 std (x380, l210) =
((bif (decide (x380 < 400)) then
    Option.bind (loop (m_granule_months_L1 std x380) (0, l210)) fun l212 =>
    grd (okI .i64 ((x380 + 1))) <|
    (some (Sum.inl ((x380 + 1), l212)))
  else
    (some (Sum.inr l210))) : Option ((Int × List Int) ⊕ (List Int))) := rfl
theorem m_granule_months_eq : m_granule_months std =
((Option.bind (loop (m_granule_months_L2 std) (0, ([] : List Int))) fun l213 =>
  (some l213)) : Option (List Int)) := rfl
theorem m_granule_Months_eq : m_granule_Months std =
((Option.bind (m_granule_months std) fun l214 =>
  Option.bind (m_granule_row std 0 l214) fun (n147, n148, l215) =>
  (some (n147, n148, l215))) : Option (Int × Int × List (Int × Int))) := rfl
theorem m_law15_awake_eq : m_law15_awake std =
((Option.bind (m_granule_Weeks std 1) fun (n129, n130, l207, n131) =>
  Option.bind (m_granule_Span std n129 n130 0 l207) fun (n140, n141, n142) =>
  Option.bind (m_granule_Months std) fun (n149, n150, l216) =>
  Option.bind (m_granule_Span std n149 n150 1 l216) fun (n151, n152, n153) =>
  Option.bind (
    bif (n131 == 0) then
      bif (n142 == 0) then
        bif (n153 == 0) then
          bif ((n140 == (-3)) && (n141 == 4)) then
            (some ((n151 == 31) && (n152 == 59)))
          else
            (some false)
        else
          (some false)
      else
        (some false)
    else
      (some false) : Option ((Bool))) fun x387 =>
  (some x387)) : Option (Bool)) := rfl
theorem m_granule_Points_L1_eq (c_2 : Int) (c_3 : List (Int × Int)) (n154 : Int) (x389 : Int) (l221 : List (Int × Int)) : m_granule_Points_L1 std c_2 c_3 n154 (x389, l221) =
((bif (decide (x389 < (((List.length c_3) : Nat) : Int))) then
    grd (okIdx x389 ((List.length c_3))) <|
    grd (okKin ((Int.toNat x389)) ((List.length c_3))) <|
    grd (okI .i64 (((List.getD c_3 (Int.toNat x389) (0, 0)).1 + n154))) <|
    grd (okI .i64 (((List.getD c_3 (Int.toNat x389) (0, 0)).2 + n154))) <|
    Option.bind (
      bif (decide (((List.getD c_3 (Int.toNat x389) (0, 0)).2 + n154) ≤ c_2)) then
        grd (okRoom ((List.length l221))) <|
        grd (okRoom ((List.length [(((List.getD c_3 (Int.toNat x389) (0, 0)).1 + n154), ((List.getD c_3 (Int.toNat x389) (0, 0)).2 + n154))]))) <|
        (some (l221 ++ [(((List.getD c_3 (Int.toNat x389) (0, 0)).1 + n154), ((List.getD c_3 (Int.toNat x389) (0, 0)).2 + n154))]))
      else
        Option.bind (
          bif (decide (c_2 ≤ ((List.getD c_3 (Int.toNat x389) (0, 0)).1 + n154))) then
            grd (okI .i64 ((((List.getD c_3 (Int.toNat x389) (0, 0)).1 + n154) - c_2))) <|
            grd (okI .i64 ((((List.getD c_3 (Int.toNat x389) (0, 0)).2 + n154) - c_2))) <|
            grd (okRoom ((List.length l221))) <|
            grd (okRoom ((List.length [((((List.getD c_3 (Int.toNat x389) (0, 0)).1 + n154) - c_2), (((List.getD c_3 (Int.toNat x389) (0, 0)).2 + n154) - c_2))]))) <|
            (some (l221 ++ [((((List.getD c_3 (Int.toNat x389) (0, 0)).1 + n154) - c_2), (((List.getD c_3 (Int.toNat x389) (0, 0)).2 + n154) - c_2))]))
          else
            grd (okI .i64 ((((List.getD c_3 (Int.toNat x389) (0, 0)).2 + n154) - c_2))) <|
            grd (okRoom ((List.length l221))) <|
            grd (okRoom ((List.length [(((List.getD c_3 (Int.toNat x389) (0, 0)).1 + n154), c_2), (0, (((List.getD c_3 (Int.toNat x389) (0, 0)).2 + n154) - c_2))]))) <|
            (some (l221 ++ [(((List.getD c_3 (Int.toNat x389) (0, 0)).1 + n154), c_2), (0, (((List.getD c_3 (Int.toNat x389) (0, 0)).2 + n154) - c_2))])) : Option ((List (Int × Int)))) fun l223 =>
        (some l223) : Option ((List (Int × Int)))) fun l225 =>
    grd (okI .i64 ((x389 + 1))) <|
    (some (Sum.inl ((x389 + 1), l225)))
  else
    (some (Sum.inr l221))) : Option ((Int × List (Int × Int)) ⊕ (List (Int × Int)))) := rfl
theorem m_granule_Points_eq (c_1 : Int) (c_2 : Int) (c_3 : List (Int × Int)) : m_granule_Points std c_1 c_2 c_3 =
((Option.bind (m_granule_Valid std c_1 c_2 c_3) fun b116 =>
  bif (!b116) then
    (some (0, ([] : List (Int × Int)), 1))
  else
    Option.bind (m_integer_Mod std c_1 c_2) fun n154 =>
    Option.bind (loop (m_granule_Points_L1 std c_2 c_3 n154) (0, ([] : List (Int × Int)))) fun l226 =>
    Option.bind (m_periodic_Of std c_2 l226) fun (n155, l227, n156) =>
    (some (n155, l227, n156))) : Option (Int × List (Int × Int) × Int)) := rfl
theorem m_granule_Near_1_eq (i_1 : Int) (x_1 : Int) (x_2 : Int) (x_3 : Int) (x_4 : List (Int × Int)) : m_granule_Near_1 std i_1 x_1 x_2 x_3 x_4 =
((grd (okIdx i_1 ((List.length x_4))) <|
  grd (okKin ((Int.toNat i_1)) ((List.length x_4))) <|
  (some (decide (x_3 < (List.getD x_4 (Int.toNat i_1) (0, 0)).1)))) : Option (Bool)) := rfl
theorem m_sort_Search_L1_eq (c_1 : Int) (c_2 : Int) (c_3 : Int) (c_4 : List (Int × Int)) (i56 : Int) (j1 : Int) : m_sort_Search_L1 std c_1 c_2 c_3 c_4 (i56, j1) =
((bif (decide (i56 < j1)) then
    grd (okI .i64 ((i56 + j1))) <|
    grd (okI .u64 ((i56 + j1))) <|
    grd (okIdx 1 65) <|
    grd (okI .i64 (((i56 + j1) / 2 ^ (Int.toNat 1)))) <|
    Option.bind (m_granule_Near_1 std (((i56 + j1) / 2 ^ (Int.toNat 1))) c_1 c_2 c_3 c_4) fun b122 =>
    Option.bind (
      bif (!b122) then
        grd (okI .i64 ((((i56 + j1) / 2 ^ (Int.toNat 1)) + 1))) <|
        (some ((((i56 + j1) / 2 ^ (Int.toNat 1)) + 1), j1))
      else
        (some (i56, ((i56 + j1) / 2 ^ (Int.toNat 1)))) : Option ((Int × Int))) fun (i58, j3) =>
    (some (Sum.inl (i58, j3)))
  else
    (some (Sum.inr i56))) : Option ((Int × Int) ⊕ (Int))) := rfl
theorem m_sort_Search_eq (n_1 : Int) (c_1 : Int) (c_2 : Int) (c_3 : Int) (c_4 : List (Int × Int)) : m_sort_Search std n_1 c_1 c_2 c_3 c_4 =
((Option.bind (loop (m_sort_Search_L1 std c_1 c_2 c_3 c_4) (0, n_1)) fun i59 =>
  (some i59)) : Option (Int)) := rfl
theorem m_granule_Near_eq (c_1 : Int) (c_2 : Int) (x_1 : Int) (c_3 : List (Int × Int)) : m_granule_Near std c_1 c_2 x_1 c_3 =
((Option.bind (
    Option.bind (m_granule_Valid std c_1 c_2 c_3) fun b120 =>
    bif (!b120) then
      (some true)
    else
      Option.bind (m_granule_line std x_1) fun b121 =>
      (some (!b121)) : Option ((Bool))) fun x393 =>
  bif x393 then
    (some 0)
  else
    grd (okI .i64 ((x_1 - c_1))) <|
    Option.bind (m_integer_Floor std ((x_1 - c_1)) c_2) fun n159 =>
    grd (okI .i64 ((c_2 * n159))) <|
    grd (okI .i64 (((x_1 - c_1) - (c_2 * n159)))) <|
    Option.bind (m_sort_Search std ((((List.length c_3) : Nat) : Int)) c_1 c_2 (((x_1 - c_1) - (c_2 * n159))) c_3) fun n160 =>
    grd (okI .i64 (((((List.length c_3) : Nat) : Int) * n159))) <|
    grd (okI .i64 ((((((List.length c_3) : Nat) : Int) * n159) + n160))) <|
    grd (okI .i64 (((((((List.length c_3) : Nat) : Int) * n159) + n160) - 1))) <|
    (some ((((((List.length c_3) : Nat) : Int) * n159) + n160) - 1))) : Option (Int)) := rfl
theorem m_granule_Find_eq (c_1 : Int) (c_2 : Int) (x_1 : Int) (c_3 : List (Int × Int)) : m_granule_Find std c_1 c_2 x_1 c_3 =
((Option.bind (
    Option.bind (m_granule_Valid std c_1 c_2 c_3) fun b118 =>
    bif (!b118) then
      (some true)
    else
      Option.bind (m_granule_line std x_1) fun b119 =>
      (some (!b119)) : Option ((Bool))) fun x391 =>
  bif x391 then
    (some (0, false))
  else
    Option.bind (m_granule_Near std c_1 c_2 x_1 c_3) fun n161 =>
    Option.bind (m_granule_at std c_1 c_2 n161 c_3) fun (_, n163) =>
    bif (decide (n163 ≤ x_1)) then
      (some (0, false))
    else
      (some (n161, true))) : Option (Int × Bool)) := rfl
theorem m_ref10_Line_eq (x_1 : Int) : m_ref10_Line std x_1 =
((Option.bind (
    bif (decide ((-4398046511104) ≤ x_1)) then
      (some (decide (x_1 ≤ 4398046511104)))
    else
      (some false) : Option ((Bool))) fun x395 =>
  (some x395)) : Option (Bool)) := rfl
theorem m_periodic_has_1_eq (s_1 : Int) (s_2 : Int) (r_1 : Int) : m_periodic_has_1 std s_1 s_2 r_1 =
((bif (decide (s_2 ≤ r_1)) then
    (some (-1))
  else
    (some 1)) : Option (Int)) := rfl
theorem m_slices_BinarySearchFunc_L1_eq (target_1 : Int) (x_1 : List (Int × Int)) (i60 : Int) (j4 : Int) : m_slices_BinarySearchFunc_L1 std target_1 x_1 (i60, j4) =
((bif (decide (i60 < j4)) then
    grd (okI .i64 ((i60 + j4))) <|
    grd (okI .u64 ((i60 + j4))) <|
    grd (okIdx 1 65) <|
    grd (okI .i64 (((i60 + j4) / 2 ^ (Int.toNat 1)))) <|
    grd (okIdx (((i60 + j4) / 2 ^ (Int.toNat 1))) ((List.length x_1))) <|
    grd (okKin ((Int.toNat ((i60 + j4) / 2 ^ (Int.toNat 1)))) ((List.length x_1))) <|
    Option.bind (m_periodic_has_1 std ((List.getD x_1 (Int.toNat ((i60 + j4) / 2 ^ (Int.toNat 1))) (0, 0)).1) ((List.getD x_1 (Int.toNat ((i60 + j4) / 2 ^ (Int.toNat 1))) (0, 0)).2) target_1) fun n166 =>
    Option.bind (
      bif (decide (n166 < 0)) then
        grd (okI .i64 ((((i60 + j4) / 2 ^ (Int.toNat 1)) + 1))) <|
        (some ((((i60 + j4) / 2 ^ (Int.toNat 1)) + 1), j4))
      else
        (some (i60, ((i60 + j4) / 2 ^ (Int.toNat 1)))) : Option ((Int × Int))) fun (i62, j6) =>
    (some (Sum.inl (i62, j6)))
  else
    (some (Sum.inr i60))) : Option ((Int × Int) ⊕ (Int))) := rfl
theorem m_slices_BinarySearchFunc_eq (target_1 : Int) (x_1 : List (Int × Int)) : m_slices_BinarySearchFunc std target_1 x_1 =
((Option.bind (loop (m_slices_BinarySearchFunc_L1 std target_1 x_1) (0, (((List.length x_1) : Nat) : Int))) fun i63 =>
  Option.bind (
    bif (decide (i63 < (((List.length x_1) : Nat) : Int))) then
      grd (okIdx i63 ((List.length x_1))) <|
      grd (okKin ((Int.toNat i63)) ((List.length x_1))) <|
      Option.bind (m_periodic_has_1 std ((List.getD x_1 (Int.toNat i63) (0, 0)).1) ((List.getD x_1 (Int.toNat i63) (0, 0)).2) target_1) fun n167 =>
      (some (n167 == 0))
    else
      (some false) : Option ((Bool))) fun x397 =>
  (some (i63, x397))) : Option (Int × Bool)) := rfl
theorem m_periodic_has_eq (p_1 : Int) (x_1 : Int) (p_2 : List (Int × Int)) : m_periodic_has std p_1 x_1 p_2 =
((Option.bind (m_integer_Mod std x_1 p_1) fun n165 =>
  Option.bind (m_slices_BinarySearchFunc std n165 p_2) fun (n168, _) =>
  Option.bind (
    bif (decide (n168 < (((List.length p_2) : Nat) : Int))) then
      grd (okIdx n168 ((List.length p_2))) <|
      grd (okKin ((Int.toNat n168)) ((List.length p_2))) <|
      (some (decide ((List.getD p_2 (Int.toNat n168) (0, 0)).1 ≤ n165)))
    else
      (some false) : Option ((Bool))) fun x399 =>
  (some x399)) : Option (Bool)) := rfl
theorem m_periodic_Has_eq (p_1 : Int) (x_1 : Int) (p_2 : List (Int × Int)) : m_periodic_Has std p_1 x_1 p_2 =
((Option.bind (
    Option.bind (m_periodic_Valid std p_1 p_2) fun b125 =>
    bif b125 then
      Option.bind (m_periodic_has std p_1 x_1 p_2) fun b127 =>
      (some b127)
    else
      (some false) : Option ((Bool))) fun x401 =>
  (some x401)) : Option (Bool)) := rfl
theorem m_granule_Gapless_L1_eq (c_2 : Int) (c_3 : List (Int × Int)) (x404 : Int) : m_granule_Gapless_L1 std c_2 c_3 x404 =
((bif (decide (x404 < (((List.length c_3) : Nat) : Int))) then
    grd (okIdx x404 ((List.length c_3))) <|
    grd (okKin ((Int.toNat x404)) ((List.length c_3))) <|
    grd (okI .i64 ((x404 + 1))) <|
    Option.bind (
      bif (decide ((x404 + 1) < (((List.length c_3) : Nat) : Int))) then
        grd (okIdx ((x404 + 1)) ((List.length c_3))) <|
        grd (okKin ((Int.toNat (x404 + 1))) ((List.length c_3))) <|
        (some (List.getD c_3 (Int.toNat (x404 + 1)) (0, 0)).1)
      else
        (some c_2) : Option ((Int))) fun next2 =>
    bif (!((List.getD c_3 (Int.toNat x404) (0, 0)).2 == next2)) then
      (some (Sum.inr (Sum.inl ())))
    else
      (some (Sum.inl (x404 + 1)))
  else
    (some (Sum.inr (Sum.inr ())))) : Option ((Int) ⊕ ((Unit) ⊕ (Unit)))) := rfl
theorem m_granule_Gapless_eq (c_1 : Int) (c_2 : Int) (c_3 : List (Int × Int)) : m_granule_Gapless std c_1 c_2 c_3 =
((Option.bind (m_granule_Valid std c_1 c_2 c_3) fun b129 =>
  bif (!b129) then
    (some false)
  else
    Option.bind (loop (m_granule_Gapless_L1 std c_2 c_3) 0) fun e => match e with
    | .inl _ =>
      (some false)
    | .inr (_) =>
      (some true)) : Option (Bool)) := rfl
theorem m_law15_GranulePoints_eq (c_1 : Int) (c_2 : Int) (x_1 : Int) (c_3 : List (Int × Int)) : m_law15_GranulePoints std c_1 c_2 x_1 c_3 =
((Option.bind (m_law15_awake std) fun b115 =>
  bif (!b115) then
    (some false)
  else
    bif (decide (300 < (((List.length c_3) : Nat) : Int))) then
      (some true)
    else
      Option.bind (m_granule_Points std c_1 c_2 c_3) fun (n157, l228, n158) =>
      Option.bind (m_granule_Valid std c_1 c_2 c_3) fun b117 =>
      bif (!b117) then
        (some (n158 == 1))
      else
        bif (!(n158 == 0)) then
          (some (n158 == 5))
        else
          Option.bind (m_granule_Find std c_1 c_2 x_1 c_3) fun (_, b123) =>
          Option.bind (
            Option.bind (m_ref10_Line std x_1) fun b124 =>
            bif b124 then
              Option.bind (m_periodic_Has std n157 x_1 l228) fun b128 =>
              (some (!(b123 == b128)))
            else
              (some false) : Option ((Bool))) fun x403 =>
          bif x403 then
            (some false)
          else
            Option.bind (m_periodic_Of std 1 ([(0, 1)])) fun (n169, l229, n170) =>
            Option.bind (
              bif (n170 == 0) then
                Option.bind (m_granule_Gapless std c_1 c_2 c_3) fun b130 =>
                Option.bind (m_periodic_Equal std n157 n169 l228 l229) fun b131 =>
                (some (b130 == b131))
              else
                (some false) : Option ((Bool))) fun x406 =>
            (some x406)) : Option (Bool)) := rfl
end Go.Proofs.Ytlpbdikmhngmfaa
