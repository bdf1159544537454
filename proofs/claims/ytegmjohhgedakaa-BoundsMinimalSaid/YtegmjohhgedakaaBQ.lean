/-
  Equations of models (printed by lift.py).
-/
import Derived.Test.YtegmjohhgedakaaBM
namespace Go.Proofs.Ytegmjohhgedakaa
open Go.RowKit
set_option maxRecDepth 100000

theorem m_bounds_right_eq (n_1 : Int) (b_1 : Int) (b_2 : Int) (b_3 : Int) : m_bounds_right std n_1 b_1 b_2 b_3 =
((Option.bind (
    bif (decide (0 ≤ b_1)) then
      bif (decide (b_1 < n_1)) then
        bif (decide (0 ≤ b_2)) then
          bif (decide (b_2 < n_1)) then
            bif (decide ((-1073741824) ≤ b_3)) then
              (some (decide (b_3 ≤ 1073741824)))
            else
              (some false)
          else
            (some false)
        else
          (some false)
      else
        (some false)
    else
      (some false) : Option ((Bool))) fun x7 =>
  (some x7)) : Option (Bool)) := rfl
theorem m_bounds_Valid_1_eq (b_1 : Int) (b_2 : Int) (b_3 : Int) (x_1 : Int) : m_bounds_Valid_1 std b_1 b_2 b_3 x_1 =
((Option.bind (m_bounds_right std x_1 b_1 b_2 b_3) fun b1 =>
  (some (!b1))) : Option (Bool)) := rfl
theorem m_slices_IndexFunc_L1_eq (c_1 : Int) (s_1 : List (Int × Int × Int)) (x1 : Int) : m_slices_IndexFunc_L1 std c_1 s_1 x1 =
((bif (decide (x1 < (((List.length s_1) : Nat) : Int))) then
    grd (okIdx x1 ((List.length s_1))) <|
    grd (okKin ((Int.toNat x1)) ((List.length s_1))) <|
    Option.bind (m_bounds_Valid_1 std ((List.getD s_1 (Int.toNat x1) (0, 0, 0)).1) ((List.getD s_1 (Int.toNat x1) (0, 0, 0)).2.1) ((List.getD s_1 (Int.toNat x1) (0, 0, 0)).2.2) c_1) fun b2 =>
    bif b2 then
      (some (Sum.inr (Sum.inl x1)))
    else
      grd (okI .i64 ((x1 + 1))) <|
      (some (Sum.inl (x1 + 1)))
  else
    (some (Sum.inr (Sum.inr ())))) : Option ((Int) ⊕ ((Int) ⊕ (Unit)))) := rfl
theorem m_slices_IndexFunc_eq (s_1 : List (Int × Int × Int)) (c_1 : Int) : m_slices_IndexFunc std s_1 c_1 =
((Option.bind (loop (m_slices_IndexFunc_L1 std c_1 s_1) 0) fun e => match e with
  | .inl x8 =>
    (some x8)
  | .inr (_) =>
    (some (-1))) : Option (Int)) := rfl
theorem m_slices_ContainsFunc_eq (s_1 : List (Int × Int × Int)) (c_1 : Int) : m_slices_ContainsFunc std s_1 c_1 =
((Option.bind (m_slices_IndexFunc std s_1 c_1) fun n1 =>
  (some (decide (0 ≤ n1)))) : Option (Bool)) := rfl
theorem m_bounds_Valid_eq (n_1 : Int) (l_1 : List (Int × Int × Int)) : m_bounds_Valid std n_1 l_1 =
((Option.bind (
    bif (decide (1 ≤ n_1)) then
      bif (decide (n_1 ≤ 24)) then
        bif (decide ((((List.length l_1) : Nat) : Int) ≤ 200)) then
          Option.bind (m_slices_ContainsFunc std l_1 n_1) fun b3 =>
          (some (!b3))
        else
          (some false)
      else
        (some false)
    else
      (some false) : Option ((Bool))) fun x12 =>
  (some x12)) : Option (Bool)) := rfl
theorem m_integer_Add_eq (a_1 : Int) (b_1 : Int) : m_integer_Add std a_1 b_1 =
((grd (okI .i64 ((a_1 + b_1))) <|
  Option.bind (
    bif ((decide (0 ≤ a_1)) == (decide (0 ≤ b_1))) then
      (some (!((decide (0 ≤ (a_1 + b_1))) == (decide (0 ≤ a_1)))))
    else
      (some false) : Option ((Bool))) fun x25 =>
  bif x25 then
    (some (0, 9))
  else
    (some ((a_1 + b_1), 0))) : Option (Int × Int)) := rfl
theorem m_bounds_plus_eq (a_1 : Int) (b_1 : Int) : m_bounds_plus std a_1 b_1 =
((Option.bind (
    bif (a_1 == 4398046511104) then
      (some true)
    else
      (some (b_1 == 4398046511104)) : Option ((Bool))) fun x23 =>
  bif x23 then
    (some 4398046511104)
  else
    Option.bind (m_integer_Add std a_1 b_1) fun (n2, _) =>
    (some n2)) : Option (Int)) := rfl
theorem m_slices_Min_L1_eq (x_1 : List Int) (m11 : Int) (i1 : Int) : m_slices_Min_L1 std x_1 (m11, i1) =
((bif (decide (i1 < (((List.length x_1) : Nat) : Int))) then
    grd (okIdx i1 ((List.length x_1))) <|
    grd (okKin ((Int.toNat i1)) ((List.length x_1))) <|
    grd (okI .i64 ((i1 + 1))) <|
    (some (Sum.inl ((mi m11 (List.getD x_1 (Int.toNat i1) 0)), (i1 + 1))))
  else
    (some (Sum.inr m11))) : Option ((Int × Int) ⊕ (Int))) := rfl
theorem m_slices_Min_eq (x_1 : List Int) : m_slices_Min std x_1 =
((bif (decide ((((List.length x_1) : Nat) : Int) < 1)) then
    none
  else
    grd (okIdx 0 ((List.length x_1))) <|
    grd (okKin ((Int.toNat 0)) ((List.length x_1))) <|
    Option.bind (loop (m_slices_Min_L1 std x_1) ((List.getD x_1 (Int.toNat 0) 0), 1)) fun m12 =>
    (some m12)) : Option (Int)) := rfl
theorem m_bounds_tight_1_eq (row_1 : List Int) : m_bounds_tight_1 std row_1 =
((Option.bind (m_slices_Min std row_1) fun n8 =>
  (some (decide (n8 < (-68719476736))))) : Option (Bool)) := rfl
theorem m_slices_IndexFunc_2_L1_eq (s_1 : List (List Int)) (x30 : Int) : m_slices_IndexFunc_2_L1 std s_1 x30 =
((bif (decide (x30 < (((List.length s_1) : Nat) : Int))) then
    grd (okIdx x30 ((List.length s_1))) <|
    grd (okKin ((Int.toNat x30)) ((List.length s_1))) <|
    Option.bind (m_bounds_tight_1 std ((List.getD s_1 (Int.toNat x30) []))) fun b5 =>
    bif b5 then
      (some (Sum.inr (Sum.inl x30)))
    else
      grd (okI .i64 ((x30 + 1))) <|
      (some (Sum.inl (x30 + 1)))
  else
    (some (Sum.inr (Sum.inr ())))) : Option ((Int) ⊕ ((Int) ⊕ (Unit)))) := rfl
theorem m_slices_IndexFunc_2_eq (s_1 : List (List Int)) : m_slices_IndexFunc_2 std s_1 =
((Option.bind (loop (m_slices_IndexFunc_2_L1 std s_1) 0) fun e => match e with
  | .inl x31 =>
    (some x31)
  | .inr (_) =>
    (some (-1))) : Option (Int)) := rfl
theorem m_slices_ContainsFunc_2_eq (s_1 : List (List Int)) : m_slices_ContainsFunc_2 std s_1 =
((Option.bind (m_slices_IndexFunc_2 std s_1) fun n9 =>
  (some (decide (0 ≤ n9)))) : Option (Bool)) := rfl
theorem m_bounds_tight_L1_eq (n_1 : Int) (x16 : Int) (m1 : List (List Int)) : m_bounds_tight_L1 std n_1 (x16, m1) =
((bif (decide (x16 < (((List.length (List.replicate (Int.toNat n_1) ([] : List Int))) : Nat) : Int))) then
    Option.bind (m_rep_i1 std n_1 ([4398046511104])) fun l2 =>
    grd (okIdx x16 ((List.length m1))) <|
    grd (okKin ((Int.toNat x16)) ((List.length m1))) <|
    grd (okIdx x16 ((List.length (List.set m1 (Int.toNat x16) l2)))) <|
    grd (okKin ((Int.toNat x16)) ((List.length (List.set m1 (Int.toNat x16) l2)))) <|
    grd (okIdx x16 ((List.length (List.getD (List.set m1 (Int.toNat x16) l2) (Int.toNat x16) [])))) <|
    grd (okKin ((Int.toNat x16)) ((List.length (List.getD (List.set m1 (Int.toNat x16) l2) (Int.toNat x16) [])))) <|
    grd (okI .i64 ((x16 + 1))) <|
    (some (Sum.inl ((x16 + 1), (List.set (List.set m1 (Int.toNat x16) l2) (Int.toNat x16) (List.set (List.getD (List.set m1 (Int.toNat x16) l2) (Int.toNat x16) []) (Int.toNat x16) 0)))))
  else
    (some (Sum.inr m1))) : Option ((Int × List (List Int)) ⊕ (List (List Int)))) := rfl
theorem m_bounds_tight_L2_eq (l_1 : List (Int × Int × Int)) (x18 : Int) (m3 : List (List Int)) : m_bounds_tight_L2 std l_1 (x18, m3) =
((bif (decide (x18 < (((List.length l_1) : Nat) : Int))) then
    grd (okIdx x18 ((List.length l_1))) <|
    grd (okKin ((Int.toNat x18)) ((List.length l_1))) <|
    grd (okIdx ((List.getD l_1 (Int.toNat x18) (0, 0, 0)).1) ((List.length m3))) <|
    grd (okKin ((Int.toNat (List.getD l_1 (Int.toNat x18) (0, 0, 0)).1)) ((List.length m3))) <|
    grd (okIdx ((List.getD l_1 (Int.toNat x18) (0, 0, 0)).2.1) ((List.length (List.getD m3 (Int.toNat (List.getD l_1 (Int.toNat x18) (0, 0, 0)).1) [])))) <|
    grd (okKin ((Int.toNat (List.getD l_1 (Int.toNat x18) (0, 0, 0)).2.1)) ((List.length (List.getD m3 (Int.toNat (List.getD l_1 (Int.toNat x18) (0, 0, 0)).1) [])))) <|
    grd (okI .i64 ((x18 + 1))) <|
    (some (Sum.inl ((x18 + 1), (List.set m3 (Int.toNat (List.getD l_1 (Int.toNat x18) (0, 0, 0)).1) (List.set (List.getD m3 (Int.toNat (List.getD l_1 (Int.toNat x18) (0, 0, 0)).1) []) (Int.toNat (List.getD l_1 (Int.toNat x18) (0, 0, 0)).2.1) (mi (List.getD (List.getD m3 (Int.toNat (List.getD l_1 (Int.toNat x18) (0, 0, 0)).1) []) (Int.toNat (List.getD l_1 (Int.toNat x18) (0, 0, 0)).2.1) 0) (List.getD l_1 (Int.toNat x18) (0, 0, 0)).2.2))))))
  else
    (some (Sum.inr m3))) : Option ((Int × List (List Int)) ⊕ (List (List Int)))) := rfl
theorem m_bounds_tight_L3_eq (n_1 : Int) (x32 : Int) (x36 : Int) (x38 : Int) (m17 : List (List Int)) : m_bounds_tight_L3 std n_1 x32 x36 (x38, m17) =
((bif (decide (x38 < n_1)) then
    grd (okIdx x36 ((List.length m17))) <|
    grd (okKin ((Int.toNat x36)) ((List.length m17))) <|
    grd (okIdx x38 ((List.length (List.getD m17 (Int.toNat x36) [])))) <|
    grd (okKin ((Int.toNat x38)) ((List.length (List.getD m17 (Int.toNat x36) [])))) <|
    grd (okIdx x32 ((List.length (List.getD m17 (Int.toNat x36) [])))) <|
    grd (okKin ((Int.toNat x32)) ((List.length (List.getD m17 (Int.toNat x36) [])))) <|
    grd (okIdx x32 ((List.length m17))) <|
    grd (okKin ((Int.toNat x32)) ((List.length m17))) <|
    grd (okIdx x38 ((List.length (List.getD m17 (Int.toNat x32) [])))) <|
    grd (okKin ((Int.toNat x38)) ((List.length (List.getD m17 (Int.toNat x32) [])))) <|
    Option.bind (m_bounds_plus std ((List.getD (List.getD m17 (Int.toNat x36) []) (Int.toNat x32) 0)) ((List.getD (List.getD m17 (Int.toNat x32) []) (Int.toNat x38) 0))) fun n13 =>
    grd (okI .i64 ((x38 + 1))) <|
    (some (Sum.inl ((x38 + 1), (List.set m17 (Int.toNat x36) (List.set (List.getD m17 (Int.toNat x36) []) (Int.toNat x38) (mi (List.getD (List.getD m17 (Int.toNat x36) []) (Int.toNat x38) 0) n13))))))
  else
    (some (Sum.inr m17))) : Option ((Int × List (List Int)) ⊕ (List (List Int)))) := rfl
theorem m_bounds_tight_L4_eq (n_1 : Int) (x32 : Int) (x36 : Int) (m16 : List (List Int)) : m_bounds_tight_L4 std n_1 x32 (x36, m16) =
((bif (decide (x36 < n_1)) then
    Option.bind (loop (m_bounds_tight_L3 std n_1 x32 x36) (0, m16)) fun m18 =>
    grd (okI .i64 ((x36 + 1))) <|
    (some (Sum.inl ((x36 + 1), m18)))
  else
    (some (Sum.inr m16))) : Option ((Int × List (List Int)) ⊕ (List (List Int)))) := rfl
theorem m_bounds_tight_L5_eq (n_1 : Int) (x32 : Int) (m13 : List (List Int)) : m_bounds_tight_L5 std n_1 (x32, m13) =
((bif (decide (x32 < n_1)) then
    Option.bind (loop (m_bounds_tight_L4 std n_1 x32) (0, m13)) fun m19 =>
    Option.bind (m_slices_ContainsFunc_2 std m19) fun b7 =>
    bif b7 then
      (some (Sum.inr (Sum.inl ())))
    else
      grd (okI .i64 ((x32 + 1))) <|
      (some (Sum.inl ((x32 + 1), m19)))
  else
    (some (Sum.inr (Sum.inr m13)))) : Option ((Int × List (List Int)) ⊕ ((Unit) ⊕ (List (List Int))))) := rfl
theorem m_bounds_tight_L6_eq (m20 : List (List Int)) (n_1 : Int) (x39 : Int) : m_bounds_tight_L6 std m20 n_1 x39 =
((bif (decide (x39 < n_1)) then
    grd (okIdx x39 ((List.length m20))) <|
    grd (okKin ((Int.toNat x39)) ((List.length m20))) <|
    grd (okIdx x39 ((List.length (List.getD m20 (Int.toNat x39) [])))) <|
    grd (okKin ((Int.toNat x39)) ((List.length (List.getD m20 (Int.toNat x39) [])))) <|
    bif (decide ((List.getD (List.getD m20 (Int.toNat x39) []) (Int.toNat x39) 0) < 0)) then
      (some (Sum.inr (Sum.inl ())))
    else
      grd (okI .i64 ((x39 + 1))) <|
      (some (Sum.inl (x39 + 1)))
  else
    (some (Sum.inr (Sum.inr ())))) : Option ((Int) ⊕ ((Unit) ⊕ (Unit)))) := rfl
theorem m_bounds_tight_eq (n_1 : Int) (l_1 : List (Int × Int × Int)) : m_bounds_tight std n_1 l_1 =
((grd (okRng n_1 ((Int.toNat n_1))) <|
  grd (okRoom ((Int.toNat n_1))) <|
  Option.bind (loop (m_bounds_tight_L1 std n_1) (0, (List.replicate (Int.toNat n_1) ([] : List Int)))) fun m2 =>
  Option.bind (loop (m_bounds_tight_L2 std l_1) (0, m2)) fun m4 =>
  Option.bind (loop (m_bounds_tight_L5 std n_1) (0, m4)) fun e => match e with
  | .inl _ =>
    (some (([] : List (List Int)), false))
  | .inr (m20) =>
    Option.bind (loop (m_bounds_tight_L6 std m20 n_1) 0) fun e => match e with
    | .inl _ =>
      (some (([] : List (List Int)), false))
    | .inr (_) =>
      (some (m20, true))) : Option (List (List Int) × Bool)) := rfl
theorem m_bounds_Between_eq (n_1 : Int) (i_1 : Int) (j_1 : Int) (l_1 : List (Int × Int × Int)) : m_bounds_Between std n_1 i_1 j_1 l_1 =
((Option.bind (m_bounds_Valid std n_1 l_1) fun b4 =>
  bif (!b4) then
    (some (0, 0, 1))
  else
    Option.bind (
      bif (decide (i_1 < 0)) then
        (some true)
      else
        bif (decide (n_1 ≤ i_1)) then
          (some true)
        else
          bif (decide (j_1 < 0)) then
            (some true)
          else
            (some (decide (n_1 ≤ j_1))) : Option ((Bool))) fun x14 =>
    bif x14 then
      (some (0, 0, 2))
    else
      Option.bind (m_bounds_tight std n_1 l_1) fun (l3, b8) =>
      bif (!b8) then
        (some (0, 0, 17))
      else
        grd (okIdx j_1 ((List.length l3))) <|
        grd (okKin ((Int.toNat j_1)) ((List.length l3))) <|
        grd (okIdx i_1 ((List.length (List.getD l3 (Int.toNat j_1) [])))) <|
        grd (okKin ((Int.toNat i_1)) ((List.length (List.getD l3 (Int.toNat j_1) [])))) <|
        grd (okI .i64 ((0 - (List.getD (List.getD l3 (Int.toNat j_1) []) (Int.toNat i_1) 0)))) <|
        grd (okIdx i_1 ((List.length l3))) <|
        grd (okKin ((Int.toNat i_1)) ((List.length l3))) <|
        grd (okIdx j_1 ((List.length (List.getD l3 (Int.toNat i_1) [])))) <|
        grd (okKin ((Int.toNat j_1)) ((List.length (List.getD l3 (Int.toNat i_1) [])))) <|
        (some ((0 - (List.getD (List.getD l3 (Int.toNat j_1) []) (Int.toNat i_1) 0)), (List.getD (List.getD l3 (Int.toNat i_1) []) (Int.toNat j_1) 0), 0))) : Option (Int × Int × Int)) := rfl
theorem m_bounds_Tight_eq (n_1 : Int) (l_1 : List (Int × Int × Int)) : m_bounds_Tight std n_1 l_1 =
((Option.bind (m_bounds_Valid std n_1 l_1) fun b9 =>
  bif (!b9) then
    (some (([] : List (List Int)), 1))
  else
    Option.bind (m_bounds_tight std n_1 l_1) fun (l4, b10) =>
    bif (!b10) then
      (some (([] : List (List Int)), 17))
    else
      (some (l4, 0))) : Option (List (List Int) × Int)) := rfl
theorem m_bounds_Earliest_L1_eq (l5 : List (List Int)) (n_1 : Int) (x41 : Int) (l6 : List Int) : m_bounds_Earliest_L1 std l5 n_1 (x41, l6) =
((bif (decide (x41 < n_1)) then
    grd (okIdx x41 ((List.length l5))) <|
    grd (okKin ((Int.toNat x41)) ((List.length l5))) <|
    grd (okIdx 0 ((List.length (List.getD l5 (Int.toNat x41) [])))) <|
    grd (okKin ((Int.toNat 0)) ((List.length (List.getD l5 (Int.toNat x41) [])))) <|
    bif ((List.getD (List.getD l5 (Int.toNat x41) []) (Int.toNat 0) 0) == 4398046511104) then
      (some (Sum.inr (Sum.inl ())))
    else
      grd (okI .i64 ((0 - (List.getD (List.getD l5 (Int.toNat x41) []) (Int.toNat 0) 0)))) <|
      grd (okIdx x41 ((List.length l6))) <|
      grd (okKin ((Int.toNat x41)) ((List.length l6))) <|
      grd (okI .i64 ((x41 + 1))) <|
      (some (Sum.inl ((x41 + 1), (List.set l6 (Int.toNat x41) (0 - (List.getD (List.getD l5 (Int.toNat x41) []) (Int.toNat 0) 0))))))
  else
    (some (Sum.inr (Sum.inr l6)))) : Option ((Int × List Int) ⊕ ((Unit) ⊕ (List Int)))) := rfl
theorem m_bounds_Earliest_eq (n_1 : Int) (l_1 : List (Int × Int × Int)) : m_bounds_Earliest std n_1 l_1 =
((Option.bind (m_bounds_Tight std n_1 l_1) fun (l5, n17) =>
  bif (!(n17 == 0)) then
    (some (([] : List Int), n17))
  else
    grd (okRng n_1 ((Int.toNat n_1))) <|
    grd (okRoom ((Int.toNat n_1))) <|
    Option.bind (loop (m_bounds_Earliest_L1 std l5 n_1) (0, (List.replicate (Int.toNat n_1) 0))) fun e => match e with
    | .inl _ =>
      (some (([] : List Int), 18))
    | .inr (l7) =>
      (some (l7, 0))) : Option (List Int × Int)) := rfl
theorem m_bounds_cycle_L1_eq (l_1 : List (Int × Int × Int)) (last13 : Int) (x47 : Int) (l28 : List Int) (l29 : List Int) : m_bounds_cycle_L1 std l_1 (last13, x47, l28, l29) =
((bif (decide (x47 < (((List.length l_1) : Nat) : Int))) then
    grd (okIdx x47 ((List.length l_1))) <|
    grd (okKin ((Int.toNat x47)) ((List.length l_1))) <|
    grd (okIdx ((List.getD l_1 (Int.toNat x47) (0, 0, 0)).1) ((List.length l28))) <|
    grd (okKin ((Int.toNat (List.getD l_1 (Int.toNat x47) (0, 0, 0)).1)) ((List.length l28))) <|
    grd (okI .i64 (((List.getD l28 (Int.toNat (List.getD l_1 (Int.toNat x47) (0, 0, 0)).1) 0) + (List.getD l_1 (Int.toNat x47) (0, 0, 0)).2.2))) <|
    grd (okIdx ((List.getD l_1 (Int.toNat x47) (0, 0, 0)).2.1) ((List.length l28))) <|
    grd (okKin ((Int.toNat (List.getD l_1 (Int.toNat x47) (0, 0, 0)).2.1)) ((List.length l28))) <|
    Option.bind (
      bif (decide (((List.getD l28 (Int.toNat (List.getD l_1 (Int.toNat x47) (0, 0, 0)).1) 0) + (List.getD l_1 (Int.toNat x47) (0, 0, 0)).2.2) < (List.getD l28 (Int.toNat (List.getD l_1 (Int.toNat x47) (0, 0, 0)).2.1) 0))) then
        grd (okIdx ((List.getD l_1 (Int.toNat x47) (0, 0, 0)).2.1) ((List.length l29))) <|
        grd (okKin ((Int.toNat (List.getD l_1 (Int.toNat x47) (0, 0, 0)).2.1)) ((List.length l29))) <|
        (some ((List.getD l_1 (Int.toNat x47) (0, 0, 0)).2.1, (List.set l28 (Int.toNat (List.getD l_1 (Int.toNat x47) (0, 0, 0)).2.1) ((List.getD l28 (Int.toNat (List.getD l_1 (Int.toNat x47) (0, 0, 0)).1) 0) + (List.getD l_1 (Int.toNat x47) (0, 0, 0)).2.2)), (List.set l29 (Int.toNat (List.getD l_1 (Int.toNat x47) (0, 0, 0)).2.1) x47)))
      else
        (some (last13, l28, l29)) : Option ((Int × List Int × List Int))) fun (last15, l32, l33) =>
    grd (okI .i64 ((x47 + 1))) <|
    (some (Sum.inl (last15, (x47 + 1), l32, l33)))
  else
    (some (Sum.inr (last13, l28, l29)))) : Option ((Int × Int × List Int × List Int) ⊕ (Int × List Int × List Int))) := rfl
theorem m_bounds_cycle_L2_eq (l_1 : List (Int × Int × Int)) (n_1 : Int) (last9 : Int) (x45 : Int) (l22 : List Int) (l23 : List Int) : m_bounds_cycle_L2 std l_1 n_1 (last9, x45, l22, l23) =
((bif (decide (x45 < n_1)) then
    Option.bind (loop (m_bounds_cycle_L1 std l_1) ((-1), 0, l22, l23)) fun (last16, l34, l35) =>
    bif (decide (last16 < 0)) then
      (some (Sum.inr (last16, l35)))
    else
      grd (okI .i64 ((x45 + 1))) <|
      (some (Sum.inl (last16, (x45 + 1), l34, l35)))
  else
    (some (Sum.inr (last9, l23)))) : Option ((Int × Int × List Int × List Int) ⊕ (Int × List Int))) := rfl
theorem m_bounds_cycle_L3_eq (l37 : List Int) (l_1 : List (Int × Int × Int)) (n_1 : Int) (last19 : Int) (x48 : Int) : m_bounds_cycle_L3 std l37 l_1 n_1 (last19, x48) =
((bif (decide (x48 < n_1)) then
    grd (okIdx last19 ((List.length l37))) <|
    grd (okKin ((Int.toNat last19)) ((List.length l37))) <|
    grd (okIdx ((List.getD l37 (Int.toNat last19) 0)) ((List.length l_1))) <|
    grd (okKin ((Int.toNat (List.getD l37 (Int.toNat last19) 0))) ((List.length l_1))) <|
    grd (okI .i64 ((x48 + 1))) <|
    (some (Sum.inl ((List.getD l_1 (Int.toNat (List.getD l37 (Int.toNat last19) 0)) (0, 0, 0)).1, (x48 + 1))))
  else
    (some (Sum.inr last19))) : Option ((Int × Int) ⊕ (Int))) := rfl
theorem m_bounds_cycle_L4_eq (l37 : List Int) (l_1 : List (Int × Int × Int)) (last20 : Int) (v3 : Int) (l38 : List Int) : m_bounds_cycle_L4 std l37 l_1 last20 (v3, l38) =
((grd (okIdx v3 ((List.length l37))) <|
  grd (okKin ((Int.toNat v3)) ((List.length l37))) <|
  grd (okRoom ((List.length l38))) <|
  grd (okRoom ((List.length [(List.getD l37 (Int.toNat v3) 0)]))) <|
  grd (okIdx ((List.getD l37 (Int.toNat v3) 0)) ((List.length l_1))) <|
  grd (okKin ((Int.toNat (List.getD l37 (Int.toNat v3) 0))) ((List.length l_1))) <|
  bif ((List.getD l_1 (Int.toNat (List.getD l37 (Int.toNat v3) 0)) (0, 0, 0)).1 == last20) then
    (some (Sum.inr (l38 ++ [(List.getD l37 (Int.toNat v3) 0)])))
  else
    (some (Sum.inl ((List.getD l_1 (Int.toNat (List.getD l37 (Int.toNat v3) 0)) (0, 0, 0)).1, (l38 ++ [(List.getD l37 (Int.toNat v3) 0)]))))) : Option ((Int × List Int) ⊕ (List Int))) := rfl
theorem m_bounds_cycle_L5_eq (i3 : Int) (j2 : Int) (l40 : List Int) : m_bounds_cycle_L5 std (i3, j2, l40) =
((bif (decide (i3 < j2)) then
    grd (okIdx j2 ((List.length l40))) <|
    grd (okKin ((Int.toNat j2)) ((List.length l40))) <|
    grd (okIdx i3 ((List.length l40))) <|
    grd (okKin ((Int.toNat i3)) ((List.length l40))) <|
    grd (okIdx j2 ((List.length (List.set l40 (Int.toNat i3) (List.getD l40 (Int.toNat j2) 0))))) <|
    grd (okKin ((Int.toNat j2)) ((List.length (List.set l40 (Int.toNat i3) (List.getD l40 (Int.toNat j2) 0))))) <|
    grd (okI .i64 ((i3 + 1))) <|
    grd (okI .i64 ((j2 - 1))) <|
    (some (Sum.inl ((i3 + 1), (j2 - 1), (List.set (List.set l40 (Int.toNat i3) (List.getD l40 (Int.toNat j2) 0)) (Int.toNat j2) (List.getD l40 (Int.toNat i3) 0)))))
  else
    (some (Sum.inr l40))) : Option ((Int × Int × List Int) ⊕ (List Int))) := rfl
theorem m_bounds_cycle_eq (n_1 : Int) (l_1 : List (Int × Int × Int)) : m_bounds_cycle std n_1 l_1 =
((grd (okRng n_1 ((Int.toNat n_1))) <|
  grd (okRoom ((Int.toNat n_1))) <|
  Option.bind (m_rep_i1 std n_1 ([(-1)])) fun l9 =>
  Option.bind (loop (m_bounds_cycle_L2 std l_1 n_1) ((-1), 0, (List.replicate (Int.toNat n_1) 0), l9)) fun (last18, l37) =>
  bif (decide (last18 < 0)) then
    (some (Sum.inl ()))
  else
    Option.bind (loop (m_bounds_cycle_L3 std l37 l_1 n_1) (last18, 0)) fun last20 =>
    Option.bind (loop (m_bounds_cycle_L4 std l37 l_1 last20) (last20, ([] : List Int))) fun l39 =>
    grd (okI .i64 (((((List.length l39) : Nat) : Int) - 1))) <|
    Option.bind (loop (m_bounds_cycle_L5 std) (0, ((((List.length l39) : Nat) : Int) - 1), l39)) fun l41 =>
    (some (Sum.inr l41))) : Option (((Unit) ⊕ (List Int)))) := rfl
theorem m_bounds_Cycle_eq (n_1 : Int) (l_1 : List (Int × Int × Int)) : m_bounds_Cycle std n_1 l_1 =
((Option.bind (m_bounds_Valid std n_1 l_1) fun b11 =>
  bif (!b11) then
    (some (([] : List Int), 1))
  else
    Option.bind (
      Option.bind (m_bounds_cycle std n_1 l_1) fun e => match e with
      | .inl _ =>
        (some (Sum.inl ()))
      | .inr (l42) =>
        (some (Sum.inr l42)) : Option (((Unit) ⊕ (List Int)))) fun e => match e with
    | .inl _ =>
      (some (([] : List Int), 7))
    | .inr (l43) =>
      grd (okNz ((((List.length l43) : Nat) : Int))) <|
      (some (l43, 0))) : Option (List Int × Int)) := rfl
theorem m_slices_Equal_L1_eq (s1_1 : List Int) (s2_1 : List Int) (x49 : Int) : m_slices_Equal_L1 std s1_1 s2_1 x49 =
((bif (decide (x49 < (((List.length s1_1) : Nat) : Int))) then
    grd (okIdx x49 ((List.length s1_1))) <|
    grd (okKin ((Int.toNat x49)) ((List.length s1_1))) <|
    grd (okIdx x49 ((List.length s2_1))) <|
    grd (okKin ((Int.toNat x49)) ((List.length s2_1))) <|
    bif (!((List.getD s1_1 (Int.toNat x49) 0) == (List.getD s2_1 (Int.toNat x49) 0))) then
      (some (Sum.inr (Sum.inl ())))
    else
      grd (okI .i64 ((x49 + 1))) <|
      (some (Sum.inl (x49 + 1)))
  else
    (some (Sum.inr (Sum.inr ())))) : Option ((Int) ⊕ ((Unit) ⊕ (Unit)))) := rfl
theorem m_slices_Equal_eq (s1_1 : List Int) (s2_1 : List Int) : m_slices_Equal std s1_1 s2_1 =
((bif (!((((List.length s1_1) : Nat) : Int) == (((List.length s2_1) : Nat) : Int))) then
    (some false)
  else
    Option.bind (loop (m_slices_Equal_L1 std s1_1 s2_1) 0) fun e => match e with
    | .inl _ =>
      (some false)
    | .inr (_) =>
      (some true)) : Option (Bool)) := rfl
theorem m_law45_awake_eq : m_law45_awake std =
((Option.bind (m_bounds_Between std 2 0 1 ([(0, 1, 5), (1, 0, (-2))])) fun (n14, n15, n16) =>
  Option.bind (m_bounds_Earliest std 2 ([(0, 1, 5), (1, 0, (-2))])) fun (l8, n18) =>
  grd (okRoom ((List.length [(0, 1, 5), (1, 0, (-2))]))) <|
  grd (okRoom ((List.length [(1, 0, (-7))]))) <|
  Option.bind (m_bounds_Cycle std 2 (([(0, 1, 5), (1, 0, (-2))] ++ [(1, 0, (-7))]))) fun (l44, n19) =>
  Option.bind (
    bif (n14 == 2) then
      bif (n15 == 5) then
        bif (n16 == 0) then
          Option.bind (m_slices_Equal std l8 ([0, 2])) fun b12 =>
          bif b12 then
            bif (n18 == 0) then
              bif ((((List.length l44) : Nat) : Int) == 2) then
                (some (n19 == 0))
              else
                (some false)
            else
              (some false)
          else
            (some false)
        else
          (some false)
      else
        (some false)
    else
      (some false) : Option ((Bool))) fun x56 =>
  (some x56)) : Option (Bool)) := rfl
theorem m_law45_long_eq (l_1 : List (Int × Int × Int)) : m_law45_long std l_1 =
(((some (decide (300 < (((List.length l_1) : Nat) : Int))))) : Option (Bool)) := rfl
theorem m_bounds_Consistent_eq (n_1 : Int) (l_1 : List (Int × Int × Int)) : m_bounds_Consistent std n_1 l_1 =
((Option.bind (m_bounds_Valid std n_1 l_1) fun b16 =>
  bif (!b16) then
    (some (false, 1))
  else
    Option.bind (m_bounds_tight std n_1 l_1) fun (_, b17) =>
    (some (b17, 0))) : Option (Bool × Int)) := rfl
theorem m_ref45_Valid_L1_eq (l_1 : List (Int × Int × Int)) (n_1 : Int) (i4 : Int) : m_ref45_Valid_L1 std l_1 n_1 i4 =
((bif (decide (i4 < (((List.length l_1) : Nat) : Int))) then
    grd (okIdx i4 ((List.length l_1))) <|
    grd (okKin ((Int.toNat i4)) ((List.length l_1))) <|
    Option.bind (
      bif (decide ((List.getD l_1 (Int.toNat i4) (0, 0, 0)).1 < 0)) then
        (some true)
      else
        bif (decide (n_1 ≤ (List.getD l_1 (Int.toNat i4) (0, 0, 0)).1)) then
          (some true)
        else
          bif (decide ((List.getD l_1 (Int.toNat i4) (0, 0, 0)).2.1 < 0)) then
            (some true)
          else
            bif (decide (n_1 ≤ (List.getD l_1 (Int.toNat i4) (0, 0, 0)).2.1)) then
              (some true)
            else
              bif (decide ((List.getD l_1 (Int.toNat i4) (0, 0, 0)).2.2 < (-1073741824))) then
                (some true)
              else
                (some (decide (1073741824 < (List.getD l_1 (Int.toNat i4) (0, 0, 0)).2.2))) : Option ((Bool))) fun x62 =>
    bif x62 then
      (some (Sum.inr (Sum.inl ())))
    else
      grd (okI .i64 ((i4 + 1))) <|
      (some (Sum.inl (i4 + 1)))
  else
    (some (Sum.inr (Sum.inr ())))) : Option ((Int) ⊕ ((Unit) ⊕ (Unit)))) := rfl
theorem m_ref45_Valid_eq (n_1 : Int) (l_1 : List (Int × Int × Int)) : m_ref45_Valid std n_1 l_1 =
((Option.bind (
    bif (decide (n_1 < 1)) then
      (some true)
    else
      bif (decide (24 < n_1)) then
        (some true)
      else
        (some (decide (200 < (((List.length l_1) : Nat) : Int)))) : Option ((Bool))) fun x60 =>
  bif x60 then
    (some false)
  else
    Option.bind (loop (m_ref45_Valid_L1 std l_1 n_1) 0) fun e => match e with
    | .inl _ =>
      (some false)
    | .inr (_) =>
      (some true)) : Option (Bool)) := rfl
theorem m_ref45_Tight_L1_eq (n_1 : Int) (j6 : Int) (l49 : List Int) : m_ref45_Tight_L1 std n_1 (j6, l49) =
((bif (decide (j6 < n_1)) then
    grd (okIdx j6 ((List.length l49))) <|
    grd (okKin ((Int.toNat j6)) ((List.length l49))) <|
    grd (okI .i64 ((j6 + 1))) <|
    (some (Sum.inl ((j6 + 1), (List.set l49 (Int.toNat j6) 4398046511104))))
  else
    (some (Sum.inr l49))) : Option ((Int × List Int) ⊕ (List Int))) := rfl
theorem m_ref45_Tight_L2_eq (n_1 : Int) (i6 : Int) (m21 : List (List Int)) : m_ref45_Tight_L2 std n_1 (i6, m21) =
((bif (decide (i6 < n_1)) then
    grd (okRng n_1 ((Int.toNat n_1))) <|
    grd (okRoom ((Int.toNat n_1))) <|
    Option.bind (loop (m_ref45_Tight_L1 std n_1) (0, (List.replicate (Int.toNat n_1) 0))) fun l50 =>
    grd (okIdx i6 ((List.length l50))) <|
    grd (okKin ((Int.toNat i6)) ((List.length l50))) <|
    grd (okRoom ((List.length m21))) <|
    grd (okI .i64 ((i6 + 1))) <|
    (some (Sum.inl ((i6 + 1), (m21 ++ [(List.set l50 (Int.toNat i6) 0)]))))
  else
    (some (Sum.inr m21))) : Option ((Int × List (List Int)) ⊕ (List (List Int)))) := rfl
theorem m_ref45_Tight_L3_eq (l_1 : List (Int × Int × Int)) (i8 : Int) (m23 : List (List Int)) : m_ref45_Tight_L3 std l_1 (i8, m23) =
((bif (decide (i8 < (((List.length l_1) : Nat) : Int))) then
    grd (okIdx i8 ((List.length l_1))) <|
    grd (okKin ((Int.toNat i8)) ((List.length l_1))) <|
    grd (okIdx ((List.getD l_1 (Int.toNat i8) (0, 0, 0)).1) ((List.length m23))) <|
    grd (okKin ((Int.toNat (List.getD l_1 (Int.toNat i8) (0, 0, 0)).1)) ((List.length m23))) <|
    grd (okIdx ((List.getD l_1 (Int.toNat i8) (0, 0, 0)).2.1) ((List.length (List.getD m23 (Int.toNat (List.getD l_1 (Int.toNat i8) (0, 0, 0)).1) [])))) <|
    grd (okKin ((Int.toNat (List.getD l_1 (Int.toNat i8) (0, 0, 0)).2.1)) ((List.length (List.getD m23 (Int.toNat (List.getD l_1 (Int.toNat i8) (0, 0, 0)).1) [])))) <|
    grd (okI .i64 ((i8 + 1))) <|
    (some (Sum.inl ((i8 + 1), (List.set m23 (Int.toNat (List.getD l_1 (Int.toNat i8) (0, 0, 0)).1) (List.set (List.getD m23 (Int.toNat (List.getD l_1 (Int.toNat i8) (0, 0, 0)).1) []) (Int.toNat (List.getD l_1 (Int.toNat i8) (0, 0, 0)).2.1) (mi (List.getD (List.getD m23 (Int.toNat (List.getD l_1 (Int.toNat i8) (0, 0, 0)).1) []) (Int.toNat (List.getD l_1 (Int.toNat i8) (0, 0, 0)).2.1) 0) (List.getD l_1 (Int.toNat i8) (0, 0, 0)).2.2))))))
  else
    (some (Sum.inr m23))) : Option ((Int × List (List Int)) ⊕ (List (List Int)))) := rfl
theorem m_ref45_Tight_L4_eq (i12 : Int) (k2 : Int) (n_1 : Int) (j14 : Int) (m49 : List (List Int)) : m_ref45_Tight_L4 std i12 k2 n_1 (j14, m49) =
((bif (decide (j14 < n_1)) then
    Option.bind (
      bif (!((List.getD (List.getD m49 (Int.toNat i12) []) (Int.toNat k2) 0) == 4398046511104)) then
        grd (okIdx i12 ((List.length m49))) <|
        grd (okKin ((Int.toNat i12)) ((List.length m49))) <|
        grd (okIdx k2 ((List.length (List.getD m49 (Int.toNat i12) [])))) <|
        grd (okKin ((Int.toNat k2)) ((List.length (List.getD m49 (Int.toNat i12) [])))) <|
        grd (okIdx k2 ((List.length m49))) <|
        grd (okKin ((Int.toNat k2)) ((List.length m49))) <|
        grd (okIdx j14 ((List.length (List.getD m49 (Int.toNat k2) [])))) <|
        grd (okKin ((Int.toNat j14)) ((List.length (List.getD m49 (Int.toNat k2) [])))) <|
        (some (!((List.getD (List.getD m49 (Int.toNat k2) []) (Int.toNat j14) 0) == 4398046511104)))
      else
        grd (okIdx i12 ((List.length m49))) <|
        grd (okKin ((Int.toNat i12)) ((List.length m49))) <|
        grd (okIdx k2 ((List.length (List.getD m49 (Int.toNat i12) [])))) <|
        grd (okKin ((Int.toNat k2)) ((List.length (List.getD m49 (Int.toNat i12) [])))) <|
        (some false) : Option ((Bool))) fun x83 =>
    Option.bind (
      bif x83 then
        grd (okIdx j14 ((List.length (List.getD m49 (Int.toNat i12) [])))) <|
        grd (okKin ((Int.toNat j14)) ((List.length (List.getD m49 (Int.toNat i12) [])))) <|
        grd (okIdx k2 ((List.length m49))) <|
        grd (okKin ((Int.toNat k2)) ((List.length m49))) <|
        grd (okIdx j14 ((List.length (List.getD m49 (Int.toNat k2) [])))) <|
        grd (okKin ((Int.toNat j14)) ((List.length (List.getD m49 (Int.toNat k2) [])))) <|
        grd (okI .i64 (((List.getD (List.getD m49 (Int.toNat i12) []) (Int.toNat k2) 0) + (List.getD (List.getD m49 (Int.toNat k2) []) (Int.toNat j14) 0)))) <|
        (some (List.set m49 (Int.toNat i12) (List.set (List.getD m49 (Int.toNat i12) []) (Int.toNat j14) (mi (List.getD (List.getD m49 (Int.toNat i12) []) (Int.toNat j14) 0) ((List.getD (List.getD m49 (Int.toNat i12) []) (Int.toNat k2) 0) + (List.getD (List.getD m49 (Int.toNat k2) []) (Int.toNat j14) 0))))))
      else
        (some m49) : Option ((List (List Int)))) fun m51 =>
    grd (okI .i64 ((j14 + 1))) <|
    (some (Sum.inl ((j14 + 1), m51)))
  else
    (some (Sum.inr m49))) : Option ((Int × List (List Int)) ⊕ (List (List Int)))) := rfl
theorem m_ref45_Tight_L5_eq (k2 : Int) (n_1 : Int) (i12 : Int) (m46 : List (List Int)) : m_ref45_Tight_L5 std k2 n_1 (i12, m46) =
((bif (decide (i12 < n_1)) then
    Option.bind (loop (m_ref45_Tight_L4 std i12 k2 n_1) (0, m46)) fun m52 =>
    grd (okIdx i12 ((List.length m52))) <|
    grd (okKin ((Int.toNat i12)) ((List.length m52))) <|
    grd (okIdx i12 ((List.length (List.getD m52 (Int.toNat i12) [])))) <|
    grd (okKin ((Int.toNat i12)) ((List.length (List.getD m52 (Int.toNat i12) [])))) <|
    bif (decide ((List.getD (List.getD m52 (Int.toNat i12) []) (Int.toNat i12) 0) < 0)) then
      (some (Sum.inr (Sum.inl ())))
    else
      grd (okI .i64 ((i12 + 1))) <|
      (some (Sum.inl ((i12 + 1), m52)))
  else
    (some (Sum.inr (Sum.inr m46)))) : Option ((Int × List (List Int)) ⊕ ((Unit) ⊕ (List (List Int))))) := rfl
theorem m_ref45_Tight_L6_eq (n_1 : Int) (k2 : Int) (m39 : List (List Int)) : m_ref45_Tight_L6 std n_1 (k2, m39) =
((bif (decide (k2 < n_1)) then
    Option.bind (loop (m_ref45_Tight_L5 std k2 n_1) (0, m39)) fun e => match e with
    | .inl _ =>
      (some (Sum.inr (Sum.inl ())))
    | .inr (m53) =>
      grd (okI .i64 ((k2 + 1))) <|
      (some (Sum.inl ((k2 + 1), m53)))
  else
    (some (Sum.inr (Sum.inr m39)))) : Option ((Int × List (List Int)) ⊕ ((Unit) ⊕ (List (List Int))))) := rfl
theorem m_ref45_Tight_eq (n_1 : Int) (l_1 : List (Int × Int × Int)) : m_ref45_Tight std n_1 l_1 =
((Option.bind (loop (m_ref45_Tight_L2 std n_1) (0, ([] : List (List Int)))) fun m22 =>
  Option.bind (loop (m_ref45_Tight_L3 std l_1) (0, m22)) fun m24 =>
  Option.bind (loop (m_ref45_Tight_L6 std n_1) (0, m24)) fun e => match e with
  | .inl _ =>
    (some (([] : List (List Int)), false))
  | .inr (m54) =>
    (some (m54, true))) : Option (List (List Int) × Bool)) := rfl
theorem m_ref45_Same_L1_eq (a_1 : List (List Int)) (b_1 : List (List Int)) (i13 : Int) (j15 : Int) : m_ref45_Same_L1 std a_1 b_1 i13 j15 =
((bif (decide (j15 < (((List.length (List.getD a_1 (Int.toNat i13) [])) : Nat) : Int))) then
    grd (okIdx j15 ((List.length (List.getD a_1 (Int.toNat i13) [])))) <|
    grd (okKin ((Int.toNat j15)) ((List.length (List.getD a_1 (Int.toNat i13) [])))) <|
    grd (okIdx j15 ((List.length (List.getD b_1 (Int.toNat i13) [])))) <|
    grd (okKin ((Int.toNat j15)) ((List.length (List.getD b_1 (Int.toNat i13) [])))) <|
    bif (!((List.getD (List.getD a_1 (Int.toNat i13) []) (Int.toNat j15) 0) == (List.getD (List.getD b_1 (Int.toNat i13) []) (Int.toNat j15) 0))) then
      (some (Sum.inr (Sum.inl ())))
    else
      grd (okI .i64 ((j15 + 1))) <|
      (some (Sum.inl (j15 + 1)))
  else
    (some (Sum.inr (Sum.inr ())))) : Option ((Int) ⊕ ((Unit) ⊕ (Unit)))) := rfl
theorem m_ref45_Same_L2_eq (a_1 : List (List Int)) (b_1 : List (List Int)) (i13 : Int) : m_ref45_Same_L2 std a_1 b_1 i13 =
((bif (decide (i13 < (((List.length a_1) : Nat) : Int))) then
    grd (okIdx i13 ((List.length a_1))) <|
    grd (okKin ((Int.toNat i13)) ((List.length a_1))) <|
    grd (okIdx i13 ((List.length b_1))) <|
    grd (okKin ((Int.toNat i13)) ((List.length b_1))) <|
    bif (!((((List.length (List.getD a_1 (Int.toNat i13) [])) : Nat) : Int) == (((List.length (List.getD b_1 (Int.toNat i13) [])) : Nat) : Int))) then
      (some (Sum.inr (Sum.inl ())))
    else
      Option.bind (loop (m_ref45_Same_L1 std a_1 b_1 i13) 0) fun e => match e with
      | .inl _ =>
        (some (Sum.inr (Sum.inl ())))
      | .inr (_) =>
        grd (okI .i64 ((i13 + 1))) <|
        (some (Sum.inl (i13 + 1)))
  else
    (some (Sum.inr (Sum.inr ())))) : Option ((Int) ⊕ ((Unit) ⊕ (Unit)))) := rfl
theorem m_ref45_Same_eq (a_1 : List (List Int)) (b_1 : List (List Int)) : m_ref45_Same std a_1 b_1 =
((bif (!((((List.length a_1) : Nat) : Int) == (((List.length b_1) : Nat) : Int))) then
    (some false)
  else
    Option.bind (loop (m_ref45_Same_L2 std a_1 b_1) 0) fun e => match e with
    | .inl _ =>
      (some false)
    | .inr (_) =>
      (some true)) : Option (Bool)) := rfl
theorem m_ref45_Closed_L1_eq (i14 : Int) (m_1 : List (List Int)) (j16 : Int) : m_ref45_Closed_L1 std i14 m_1 j16 =
((bif (decide (j16 < (((List.length m_1) : Nat) : Int))) then
    Option.bind (
      bif (!((List.getD (List.getD m_1 (Int.toNat i14) []) (Int.toNat j16) 0) == 4398046511104)) then
        bif (decide ((List.getD (List.getD m_1 (Int.toNat i14) []) (Int.toNat j16) 0) < (-68719476736))) then
          grd (okIdx j16 ((List.length (List.getD m_1 (Int.toNat i14) [])))) <|
          grd (okKin ((Int.toNat j16)) ((List.length (List.getD m_1 (Int.toNat i14) [])))) <|
          (some true)
        else
          grd (okIdx j16 ((List.length (List.getD m_1 (Int.toNat i14) [])))) <|
          grd (okKin ((Int.toNat j16)) ((List.length (List.getD m_1 (Int.toNat i14) [])))) <|
          (some (decide (68719476736 < (List.getD (List.getD m_1 (Int.toNat i14) []) (Int.toNat j16) 0))))
      else
        grd (okIdx j16 ((List.length (List.getD m_1 (Int.toNat i14) [])))) <|
        grd (okKin ((Int.toNat j16)) ((List.length (List.getD m_1 (Int.toNat i14) [])))) <|
        (some false) : Option ((Bool))) fun x92 =>
    bif x92 then
      (some (Sum.inr (Sum.inl ())))
    else
      grd (okI .i64 ((j16 + 1))) <|
      (some (Sum.inl (j16 + 1)))
  else
    (some (Sum.inr (Sum.inr ())))) : Option ((Int) ⊕ ((Unit) ⊕ (Unit)))) := rfl
theorem m_ref45_Closed_L2_eq (m_1 : List (List Int)) (i14 : Int) : m_ref45_Closed_L2 std m_1 i14 =
((bif (decide (i14 < (((List.length m_1) : Nat) : Int))) then
    grd (okIdx i14 ((List.length m_1))) <|
    grd (okKin ((Int.toNat i14)) ((List.length m_1))) <|
    bif (!((((List.length (List.getD m_1 (Int.toNat i14) [])) : Nat) : Int) == (((List.length m_1) : Nat) : Int))) then
      (some (Sum.inr (Sum.inl ())))
    else
      Option.bind (loop (m_ref45_Closed_L1 std i14 m_1) 0) fun e => match e with
      | .inl _ =>
        (some (Sum.inr (Sum.inl ())))
      | .inr (_) =>
        grd (okIdx i14 ((List.length (List.getD m_1 (Int.toNat i14) [])))) <|
        grd (okKin ((Int.toNat i14)) ((List.length (List.getD m_1 (Int.toNat i14) [])))) <|
        bif (!((List.getD (List.getD m_1 (Int.toNat i14) []) (Int.toNat i14) 0) == 0)) then
          (some (Sum.inr (Sum.inl ())))
        else
          grd (okI .i64 ((i14 + 1))) <|
          (some (Sum.inl (i14 + 1)))
  else
    (some (Sum.inr (Sum.inr ())))) : Option ((Int) ⊕ ((Unit) ⊕ (Unit)))) := rfl
theorem m_ref45_Closed_L3_eq (i15 : Int) (j17 : Int) (m_1 : List (List Int)) (k3 : Int) : m_ref45_Closed_L3 std i15 j17 m_1 k3 =
((bif (decide (k3 < (((List.length m_1) : Nat) : Int))) then
    Option.bind (
      bif (!((List.getD (List.getD m_1 (Int.toNat i15) []) (Int.toNat j17) 0) == 4398046511104)) then
        bif (!((List.getD (List.getD m_1 (Int.toNat j17) []) (Int.toNat k3) 0) == 4398046511104)) then
          grd (okIdx i15 ((List.length m_1))) <|
          grd (okKin ((Int.toNat i15)) ((List.length m_1))) <|
          grd (okIdx j17 ((List.length (List.getD m_1 (Int.toNat i15) [])))) <|
          grd (okKin ((Int.toNat j17)) ((List.length (List.getD m_1 (Int.toNat i15) [])))) <|
          grd (okIdx j17 ((List.length m_1))) <|
          grd (okKin ((Int.toNat j17)) ((List.length m_1))) <|
          grd (okIdx k3 ((List.length (List.getD m_1 (Int.toNat j17) [])))) <|
          grd (okKin ((Int.toNat k3)) ((List.length (List.getD m_1 (Int.toNat j17) [])))) <|
          grd (okIdx k3 ((List.length (List.getD m_1 (Int.toNat i15) [])))) <|
          grd (okKin ((Int.toNat k3)) ((List.length (List.getD m_1 (Int.toNat i15) [])))) <|
          grd (okI .i64 (((List.getD (List.getD m_1 (Int.toNat i15) []) (Int.toNat j17) 0) + (List.getD (List.getD m_1 (Int.toNat j17) []) (Int.toNat k3) 0)))) <|
          (some (decide (((List.getD (List.getD m_1 (Int.toNat i15) []) (Int.toNat j17) 0) + (List.getD (List.getD m_1 (Int.toNat j17) []) (Int.toNat k3) 0)) < (List.getD (List.getD m_1 (Int.toNat i15) []) (Int.toNat k3) 0))))
        else
          grd (okIdx i15 ((List.length m_1))) <|
          grd (okKin ((Int.toNat i15)) ((List.length m_1))) <|
          grd (okIdx j17 ((List.length (List.getD m_1 (Int.toNat i15) [])))) <|
          grd (okKin ((Int.toNat j17)) ((List.length (List.getD m_1 (Int.toNat i15) [])))) <|
          grd (okIdx j17 ((List.length m_1))) <|
          grd (okKin ((Int.toNat j17)) ((List.length m_1))) <|
          grd (okIdx k3 ((List.length (List.getD m_1 (Int.toNat j17) [])))) <|
          grd (okKin ((Int.toNat k3)) ((List.length (List.getD m_1 (Int.toNat j17) [])))) <|
          (some false)
      else
        grd (okIdx i15 ((List.length m_1))) <|
        grd (okKin ((Int.toNat i15)) ((List.length m_1))) <|
        grd (okIdx j17 ((List.length (List.getD m_1 (Int.toNat i15) [])))) <|
        grd (okKin ((Int.toNat j17)) ((List.length (List.getD m_1 (Int.toNat i15) [])))) <|
        (some false) : Option ((Bool))) fun x95 =>
    bif x95 then
      (some (Sum.inr (Sum.inl ())))
    else
      grd (okI .i64 ((k3 + 1))) <|
      (some (Sum.inl (k3 + 1)))
  else
    (some (Sum.inr (Sum.inr ())))) : Option ((Int) ⊕ ((Unit) ⊕ (Unit)))) := rfl
theorem m_ref45_Closed_L4_eq (i15 : Int) (m_1 : List (List Int)) (j17 : Int) : m_ref45_Closed_L4 std i15 m_1 j17 =
((bif (decide (j17 < (((List.length m_1) : Nat) : Int))) then
    Option.bind (loop (m_ref45_Closed_L3 std i15 j17 m_1) 0) fun e => match e with
    | .inl _ =>
      (some (Sum.inr (Sum.inl ())))
    | .inr (_) =>
      grd (okI .i64 ((j17 + 1))) <|
      (some (Sum.inl (j17 + 1)))
  else
    (some (Sum.inr (Sum.inr ())))) : Option ((Int) ⊕ ((Unit) ⊕ (Unit)))) := rfl
theorem m_ref45_Closed_L5_eq (m_1 : List (List Int)) (i15 : Int) : m_ref45_Closed_L5 std m_1 i15 =
((bif (decide (i15 < (((List.length m_1) : Nat) : Int))) then
    Option.bind (loop (m_ref45_Closed_L4 std i15 m_1) 0) fun e => match e with
    | .inl _ =>
      (some (Sum.inr (Sum.inl ())))
    | .inr (_) =>
      grd (okI .i64 ((i15 + 1))) <|
      (some (Sum.inl (i15 + 1)))
  else
    (some (Sum.inr (Sum.inr ())))) : Option ((Int) ⊕ ((Unit) ⊕ (Unit)))) := rfl
theorem m_ref45_Closed_eq (m_1 : List (List Int)) : m_ref45_Closed std m_1 =
((Option.bind (
    bif (decide ((((List.length m_1) : Nat) : Int) < 1)) then
      (some true)
    else
      (some (decide (24 < (((List.length m_1) : Nat) : Int)))) : Option ((Bool))) fun x89 =>
  bif x89 then
    (some false)
  else
    Option.bind (loop (m_ref45_Closed_L2 std m_1) 0) fun e => match e with
    | .inl _ =>
      (some false)
    | .inr (_) =>
      Option.bind (loop (m_ref45_Closed_L5 std m_1) 0) fun e => match e with
      | .inl _ =>
        (some false)
      | .inr (_) =>
        (some true)) : Option (Bool)) := rfl
theorem m_law45_BoundsTight_eq (n_1 : Int) (l_1 : List (Int × Int × Int)) : m_law45_BoundsTight std n_1 l_1 =
((Option.bind (
    Option.bind (m_law45_awake std) fun b13 =>
    bif (!b13) then
      (some true)
    else
      Option.bind (m_law45_long std l_1) fun b14 =>
      (some b14) : Option ((Bool))) fun x58 =>
  bif x58 then
    Option.bind (m_law45_awake std) fun b15 =>
    (some b15)
  else
    Option.bind (m_bounds_Tight std n_1 l_1) fun (l45, n20) =>
    Option.bind (m_bounds_Consistent std n_1 l_1) fun (b18, n21) =>
    Option.bind (m_ref45_Valid std n_1 l_1) fun b19 =>
    bif (!b19) then
      Option.bind (
        Option.bind (m_bounds_Valid std n_1 l_1) fun b20 =>
        bif (!b20) then
          bif (n20 == 1) then
            bif (n21 == 1) then
              bif (!b18) then
                (some ((((List.length l45) : Nat) : Int) == 0))
              else
                (some false)
            else
              (some false)
          else
            (some false)
        else
          (some false) : Option ((Bool))) fun x67 =>
      (some x67)
    else
      Option.bind (m_ref45_Tight std n_1 l_1) fun (l51, b21) =>
      Option.bind (
        Option.bind (m_bounds_Valid std n_1 l_1) fun b22 =>
        bif (!b22) then
          (some true)
        else
          bif (!(n21 == 0)) then
            (some true)
          else
            (some (!(b18 == b21))) : Option ((Bool))) fun x85 =>
      bif x85 then
        (some false)
      else
        bif (!b21) then
          Option.bind (
            bif (n20 == 17) then
              (some ((((List.length l45) : Nat) : Int) == 0))
            else
              (some false) : Option ((Bool))) fun x87 =>
          (some x87)
        else
          Option.bind (
            bif (n20 == 0) then
              Option.bind (m_ref45_Same std l45 l51) fun b23 =>
              bif b23 then
                Option.bind (m_ref45_Closed std l45) fun b24 =>
                (some b24)
              else
                (some false)
            else
              (some false) : Option ((Bool))) fun x98 =>
          (some x98)) : Option (Bool)) := rfl
theorem m_ref45_Consistent_eq (n_1 : Int) (l_1 : List (Int × Int × Int)) : m_ref45_Consistent std n_1 l_1 =
((Option.bind (m_ref45_Tight std n_1 l_1) fun (_, b29) =>
  (some b29)) : Option (Bool)) := rfl
theorem m_law45_BoundsCycles_L1_eq (l52 : List Int) (l_1 : List (Int × Int × Int)) (sum2 : Int) (x108 : Int) (l54 : List Bool) : m_law45_BoundsCycles_L1 std l52 l_1 (sum2, x108, l54) =
((bif (decide (x108 < (((List.length l52) : Nat) : Int))) then
    grd (okIdx x108 ((List.length l52))) <|
    grd (okKin ((Int.toNat x108)) ((List.length l52))) <|
    grd (okI .i64 ((x108 + 1))) <|
    grd (okNz ((((List.length l52) : Nat) : Int))) <|
    grd (okIdx ((Int.tmod (x108 + 1) (((List.length l52) : Nat) : Int))) ((List.length l52))) <|
    grd (okKin ((Int.toNat (Int.tmod (x108 + 1) (((List.length l52) : Nat) : Int)))) ((List.length l52))) <|
    Option.bind (
      bif (decide ((List.getD l52 (Int.toNat x108) 0) < 0)) then
        (some true)
      else
        bif (decide ((((List.length l_1) : Nat) : Int) ≤ (List.getD l52 (Int.toNat x108) 0))) then
          (some true)
        else
          bif (decide ((List.getD l52 (Int.toNat (Int.tmod (x108 + 1) (((List.length l52) : Nat) : Int))) 0) < 0)) then
            (some true)
          else
            bif (decide ((((List.length l_1) : Nat) : Int) ≤ (List.getD l52 (Int.toNat (Int.tmod (x108 + 1) (((List.length l52) : Nat) : Int))) 0))) then
              (some true)
            else
              bif (!((List.getD l_1 (Int.toNat (List.getD l52 (Int.toNat x108) 0)) (0, 0, 0)).2.1 == (List.getD l_1 (Int.toNat (List.getD l52 (Int.toNat (Int.tmod (x108 + 1) (((List.length l52) : Nat) : Int))) 0)) (0, 0, 0)).1)) then
                grd (okIdx ((List.getD l52 (Int.toNat x108) 0)) ((List.length l_1))) <|
                grd (okKin ((Int.toNat (List.getD l52 (Int.toNat x108) 0))) ((List.length l_1))) <|
                grd (okIdx ((List.getD l52 (Int.toNat (Int.tmod (x108 + 1) (((List.length l52) : Nat) : Int))) 0)) ((List.length l_1))) <|
                grd (okKin ((Int.toNat (List.getD l52 (Int.toNat (Int.tmod (x108 + 1) (((List.length l52) : Nat) : Int))) 0))) ((List.length l_1))) <|
                (some true)
              else
                grd (okIdx ((List.getD l52 (Int.toNat x108) 0)) ((List.length l_1))) <|
                grd (okKin ((Int.toNat (List.getD l52 (Int.toNat x108) 0))) ((List.length l_1))) <|
                grd (okIdx ((List.getD l52 (Int.toNat (Int.tmod (x108 + 1) (((List.length l52) : Nat) : Int))) 0)) ((List.length l_1))) <|
                grd (okKin ((Int.toNat (List.getD l52 (Int.toNat (Int.tmod (x108 + 1) (((List.length l52) : Nat) : Int))) 0))) ((List.length l_1))) <|
                grd (okIdx ((List.getD l_1 (Int.toNat (List.getD l52 (Int.toNat x108) 0)) (0, 0, 0)).1) ((List.length l54))) <|
                grd (okKin ((Int.toNat (List.getD l_1 (Int.toNat (List.getD l52 (Int.toNat x108) 0)) (0, 0, 0)).1)) ((List.length l54))) <|
                (some (List.getD l54 (Int.toNat (List.getD l_1 (Int.toNat (List.getD l52 (Int.toNat x108) 0)) (0, 0, 0)).1) false)) : Option ((Bool))) fun x110 =>
    bif x110 then
      (some (Sum.inr (Sum.inl ())))
    else
      grd (okIdx ((List.getD l52 (Int.toNat x108) 0)) ((List.length l_1))) <|
      grd (okKin ((Int.toNat (List.getD l52 (Int.toNat x108) 0))) ((List.length l_1))) <|
      grd (okIdx ((List.getD l_1 (Int.toNat (List.getD l52 (Int.toNat x108) 0)) (0, 0, 0)).1) ((List.length l54))) <|
      grd (okKin ((Int.toNat (List.getD l_1 (Int.toNat (List.getD l52 (Int.toNat x108) 0)) (0, 0, 0)).1)) ((List.length l54))) <|
      grd (okI .i64 ((sum2 + (List.getD l_1 (Int.toNat (List.getD l52 (Int.toNat x108) 0)) (0, 0, 0)).2.2))) <|
      (some (Sum.inl ((sum2 + (List.getD l_1 (Int.toNat (List.getD l52 (Int.toNat x108) 0)) (0, 0, 0)).2.2), (x108 + 1), (List.set l54 (Int.toNat (List.getD l_1 (Int.toNat (List.getD l52 (Int.toNat x108) 0)) (0, 0, 0)).1) true))))
  else
    (some (Sum.inr (Sum.inr sum2)))) : Option ((Int × Int × List Bool) ⊕ ((Unit) ⊕ (Int)))) := rfl
theorem m_law45_BoundsCycles_eq (n_1 : Int) (l_1 : List (Int × Int × Int)) : m_law45_BoundsCycles std n_1 l_1 =
((Option.bind (
    Option.bind (m_law45_awake std) fun b25 =>
    bif (!b25) then
      (some true)
    else
      Option.bind (m_law45_long std l_1) fun b26 =>
      bif b26 then
        (some true)
      else
        Option.bind (m_ref45_Valid std n_1 l_1) fun b27 =>
        (some (!b27)) : Option ((Bool))) fun x100 =>
  bif x100 then
    Option.bind (m_law45_awake std) fun b28 =>
    (some b28)
  else
    Option.bind (m_bounds_Cycle std n_1 l_1) fun (l52, n22) =>
    Option.bind (m_ref45_Consistent std n_1 l_1) fun b30 =>
    bif b30 then
      Option.bind (
        bif (n22 == 7) then
          (some ((((List.length l52) : Nat) : Int) == 0))
        else
          (some false) : Option ((Bool))) fun x102 =>
      (some x102)
    else
      Option.bind (
        bif (!(n22 == 0)) then
          (some true)
        else
          bif ((((List.length l52) : Nat) : Int) == 0) then
            (some true)
          else
            (some (decide (n_1 < (((List.length l52) : Nat) : Int)))) : Option ((Bool))) fun x104 =>
      bif x104 then
        (some false)
      else
        grd (okRng n_1 ((Int.toNat n_1))) <|
        grd (okRoom ((Int.toNat n_1))) <|
        Option.bind (loop (m_law45_BoundsCycles_L1 std l52 l_1) (0, 0, (List.replicate (Int.toNat n_1) false))) fun e => match e with
        | .inl _ =>
          (some false)
        | .inr (sum3) =>
          (some (decide (sum3 < 0)))) : Option (Bool)) := rfl
theorem m_law45_BoundsBetween_eq (n_1 : Int) (i_1 : Int) (j_1 : Int) (l_1 : List (Int × Int × Int)) : m_law45_BoundsBetween std n_1 i_1 j_1 l_1 =
((Option.bind (
    Option.bind (m_law45_awake std) fun b31 =>
    bif (!b31) then
      (some true)
    else
      Option.bind (m_law45_long std l_1) fun b32 =>
      (some b32) : Option ((Bool))) fun x112 =>
  bif x112 then
    Option.bind (m_law45_awake std) fun b33 =>
    (some b33)
  else
    Option.bind (m_bounds_Between std n_1 i_1 j_1 l_1) fun (n23, n24, n25) =>
    Option.bind (m_ref45_Valid std n_1 l_1) fun b34 =>
    bif (!b34) then
      Option.bind (
        bif (n25 == 1) then
          bif (n23 == 0) then
            (some (n24 == 0))
          else
            (some false)
        else
          (some false) : Option ((Bool))) fun x115 =>
      (some x115)
    else
      Option.bind (m_ref45_Tight std n_1 l_1) fun (l55, b35) =>
      Option.bind (
        bif (decide (i_1 < 0)) then
          (some true)
        else
          bif (decide (n_1 ≤ i_1)) then
            (some true)
          else
            bif (decide (j_1 < 0)) then
              (some true)
            else
              (some (decide (n_1 ≤ j_1))) : Option ((Bool))) fun x117 =>
      Option.bind (
        bif x117 then
          Option.bind (
            bif (n25 == 2) then
              bif (n23 == 0) then
                (some (n24 == 0))
              else
                (some false)
            else
              (some false) : Option ((Bool))) fun x120 =>
          (some (Sum.inl x120))
        else
          bif (!b35) then
            Option.bind (
              bif (n25 == 17) then
                bif (n23 == 0) then
                  (some (n24 == 0))
                else
                  (some false)
              else
                (some false) : Option ((Bool))) fun x123 =>
            (some (Sum.inl x123))
          else
            (some (Sum.inr ())) : Option (((Bool) ⊕ (Unit)))) fun e => match e with
      | .inl x125 =>
        (some x125)
      | .inr (_) =>
        Option.bind (
          bif (n25 == 0) then
            bif (n23 == (0 - (List.getD (List.getD l55 (Int.toNat j_1) []) (Int.toNat i_1) 0))) then
              grd (okIdx j_1 ((List.length l55))) <|
              grd (okKin ((Int.toNat j_1)) ((List.length l55))) <|
              grd (okIdx i_1 ((List.length (List.getD l55 (Int.toNat j_1) [])))) <|
              grd (okKin ((Int.toNat i_1)) ((List.length (List.getD l55 (Int.toNat j_1) [])))) <|
              grd (okI .i64 ((0 - (List.getD (List.getD l55 (Int.toNat j_1) []) (Int.toNat i_1) 0)))) <|
              grd (okIdx i_1 ((List.length l55))) <|
              grd (okKin ((Int.toNat i_1)) ((List.length l55))) <|
              grd (okIdx j_1 ((List.length (List.getD l55 (Int.toNat i_1) [])))) <|
              grd (okKin ((Int.toNat j_1)) ((List.length (List.getD l55 (Int.toNat i_1) [])))) <|
              (some (n24 == (List.getD (List.getD l55 (Int.toNat i_1) []) (Int.toNat j_1) 0)))
            else
              grd (okIdx j_1 ((List.length l55))) <|
              grd (okKin ((Int.toNat j_1)) ((List.length l55))) <|
              grd (okIdx i_1 ((List.length (List.getD l55 (Int.toNat j_1) [])))) <|
              grd (okKin ((Int.toNat i_1)) ((List.length (List.getD l55 (Int.toNat j_1) [])))) <|
              grd (okI .i64 ((0 - (List.getD (List.getD l55 (Int.toNat j_1) []) (Int.toNat i_1) 0)))) <|
              (some false)
          else
            (some false) : Option ((Bool))) fun x128 =>
        (some x128)) : Option (Bool)) := rfl
theorem m_bounds_Latest_L1_eq (end_1 : Int) (n_1 : Int) (x134 : Int) (l58 : List (Int × Int × Int)) : m_bounds_Latest_L1 std end_1 n_1 (x134, l58) =
((bif (decide (x134 < n_1)) then
    grd (okRoom ((List.length l58))) <|
    grd (okRoom ((List.length [(0, x134, end_1)]))) <|
    grd (okI .i64 ((x134 + 1))) <|
    (some (Sum.inl ((x134 + 1), (l58 ++ [(0, x134, end_1)]))))
  else
    (some (Sum.inr l58))) : Option ((Int × List (Int × Int × Int)) ⊕ (List (Int × Int × Int)))) := rfl
theorem m_bounds_Latest_eq (n_1 : Int) (end_1 : Int) (l_1 : List (Int × Int × Int)) : m_bounds_Latest std n_1 end_1 l_1 =
((Option.bind (m_bounds_Valid std n_1 l_1) fun b38 =>
  bif (!b38) then
    (some (([] : List Int), 1))
  else
    Option.bind (
      bif (decide (end_1 < 0)) then
        (some true)
      else
        (some (decide (1073741824 < end_1))) : Option ((Bool))) fun x132 =>
    bif x132 then
      (some (([] : List Int), 2))
    else
      Option.bind (m_clone_i3 std l_1) fun l57 =>
      Option.bind (loop (m_bounds_Latest_L1 std end_1 n_1) (0, l57)) fun l59 =>
      Option.bind (m_bounds_tight std n_1 l59) fun (l60, b39) =>
      bif (!b39) then
        (some (([] : List Int), 17))
      else
        grd (okIdx 0 ((List.length l60))) <|
        grd (okKin ((Int.toNat 0)) ((List.length l60))) <|
        Option.bind (m_clone_i1 std ((List.getD l60 (Int.toNat 0) []))) fun l61 =>
        (some (l61, 0))) : Option (List Int × Int)) := rfl
theorem m_law45_BoundsSchedules_1_eq (row_1 : List Int) : m_law45_BoundsSchedules_1 std row_1 =
((grd (okIdx 0 ((List.length row_1))) <|
  grd (okKin ((Int.toNat 0)) ((List.length row_1))) <|
  (some ((List.getD row_1 (Int.toNat 0) 0) == 4398046511104))) : Option (Bool)) := rfl
theorem m_slices_IndexFunc_3_L1_eq (s_1 : List (List Int)) (x141 : Int) : m_slices_IndexFunc_3_L1 std s_1 x141 =
((bif (decide (x141 < (((List.length s_1) : Nat) : Int))) then
    grd (okIdx x141 ((List.length s_1))) <|
    grd (okKin ((Int.toNat x141)) ((List.length s_1))) <|
    Option.bind (m_law45_BoundsSchedules_1 std ((List.getD s_1 (Int.toNat x141) []))) fun b42 =>
    bif b42 then
      (some (Sum.inr (Sum.inl x141)))
    else
      grd (okI .i64 ((x141 + 1))) <|
      (some (Sum.inl (x141 + 1)))
  else
    (some (Sum.inr (Sum.inr ())))) : Option ((Int) ⊕ ((Int) ⊕ (Unit)))) := rfl
theorem m_slices_IndexFunc_3_eq (s_1 : List (List Int)) : m_slices_IndexFunc_3 std s_1 =
((Option.bind (loop (m_slices_IndexFunc_3_L1 std s_1) 0) fun e => match e with
  | .inl x142 =>
    (some x142)
  | .inr (_) =>
    (some (-1))) : Option (Int)) := rfl
theorem m_slices_ContainsFunc_3_eq (s_1 : List (List Int)) : m_slices_ContainsFunc_3 std s_1 =
((Option.bind (m_slices_IndexFunc_3 std s_1) fun n28 =>
  (some (decide (0 ≤ n28)))) : Option (Bool)) := rfl
theorem m_ref45_Holds_L1_eq (at_1 : List Int) (i16 : Int) : m_ref45_Holds_L1 std at_1 i16 =
((bif (decide (i16 < (((List.length at_1) : Nat) : Int))) then
    Option.bind (
      bif (decide ((List.getD at_1 (Int.toNat i16) 0) < (-4398046511104))) then
        grd (okIdx i16 ((List.length at_1))) <|
        grd (okKin ((Int.toNat i16)) ((List.length at_1))) <|
        (some true)
      else
        grd (okIdx i16 ((List.length at_1))) <|
        grd (okKin ((Int.toNat i16)) ((List.length at_1))) <|
        (some (decide (4398046511104 < (List.getD at_1 (Int.toNat i16) 0)))) : Option ((Bool))) fun x146 =>
    bif x146 then
      (some (Sum.inr (Sum.inl ())))
    else
      grd (okI .i64 ((i16 + 1))) <|
      (some (Sum.inl (i16 + 1)))
  else
    (some (Sum.inr (Sum.inr ())))) : Option ((Int) ⊕ ((Unit) ⊕ (Unit)))) := rfl
theorem m_ref45_Holds_L2_eq (at_1 : List Int) (l_1 : List (Int × Int × Int)) (i17 : Int) : m_ref45_Holds_L2 std at_1 l_1 i17 =
((bif (decide (i17 < (((List.length l_1) : Nat) : Int))) then
    grd (okIdx i17 ((List.length l_1))) <|
    grd (okKin ((Int.toNat i17)) ((List.length l_1))) <|
    grd (okIdx ((List.getD l_1 (Int.toNat i17) (0, 0, 0)).2.1) ((List.length at_1))) <|
    grd (okKin ((Int.toNat (List.getD l_1 (Int.toNat i17) (0, 0, 0)).2.1)) ((List.length at_1))) <|
    grd (okIdx ((List.getD l_1 (Int.toNat i17) (0, 0, 0)).1) ((List.length at_1))) <|
    grd (okKin ((Int.toNat (List.getD l_1 (Int.toNat i17) (0, 0, 0)).1)) ((List.length at_1))) <|
    grd (okI .i64 (((List.getD at_1 (Int.toNat (List.getD l_1 (Int.toNat i17) (0, 0, 0)).2.1) 0) - (List.getD at_1 (Int.toNat (List.getD l_1 (Int.toNat i17) (0, 0, 0)).1) 0)))) <|
    bif (decide ((List.getD l_1 (Int.toNat i17) (0, 0, 0)).2.2 < ((List.getD at_1 (Int.toNat (List.getD l_1 (Int.toNat i17) (0, 0, 0)).2.1) 0) - (List.getD at_1 (Int.toNat (List.getD l_1 (Int.toNat i17) (0, 0, 0)).1) 0)))) then
      (some (Sum.inr (Sum.inl ())))
    else
      grd (okI .i64 ((i17 + 1))) <|
      (some (Sum.inl (i17 + 1)))
  else
    (some (Sum.inr (Sum.inr ())))) : Option ((Int) ⊕ ((Unit) ⊕ (Unit)))) := rfl
theorem m_ref45_Holds_eq (l_1 : List (Int × Int × Int)) (at_1 : List Int) : m_ref45_Holds std l_1 at_1 =
((Option.bind (m_ref45_Valid std ((((List.length at_1) : Nat) : Int)) l_1) fun b44 =>
  bif (!b44) then
    (some false)
  else
    Option.bind (loop (m_ref45_Holds_L1 std at_1) 0) fun e => match e with
    | .inl _ =>
      (some false)
    | .inr (_) =>
      Option.bind (loop (m_ref45_Holds_L2 std at_1 l_1) 0) fun e => match e with
      | .inl _ =>
        (some false)
      | .inr (_) =>
        (some true)) : Option (Bool)) := rfl
theorem m_ref45_Ended_L1_eq (end_1 : Int) (n_1 : Int) (i19 : Int) (l64 : List (Int × Int × Int)) : m_ref45_Ended_L1 std end_1 n_1 (i19, l64) =
((bif (decide (i19 < n_1)) then
    grd (okRoom ((List.length l64))) <|
    grd (okRoom ((List.length [(0, i19, end_1)]))) <|
    grd (okI .i64 ((i19 + 1))) <|
    (some (Sum.inl ((i19 + 1), (l64 ++ [(0, i19, end_1)]))))
  else
    (some (Sum.inr l64))) : Option ((Int × List (Int × Int × Int)) ⊕ (List (Int × Int × Int)))) := rfl
theorem m_ref45_Ended_eq (n_1 : Int) (end_1 : Int) (l_1 : List (Int × Int × Int)) : m_ref45_Ended std n_1 end_1 l_1 =
((grd (okRoom ((List.length ([] : List (Int × Int × Int))))) <|
  grd (okRoom ((List.length l_1))) <|
  Option.bind (loop (m_ref45_Ended_L1 std end_1 n_1) (0, (([] : List (Int × Int × Int)) ++ l_1))) fun l65 =>
  (some l65)) : Option (List (Int × Int × Int))) := rfl
theorem m_law45_BoundsSchedules_L1_eq (l56 : List Int) (l63 : List (List Int)) (x149 : Int) : m_law45_BoundsSchedules_L1 std l56 l63 x149 =
((bif (decide (x149 < (((List.length l56) : Nat) : Int))) then
    grd (okIdx x149 ((List.length l56))) <|
    grd (okKin ((Int.toNat x149)) ((List.length l56))) <|
    grd (okIdx x149 ((List.length l63))) <|
    grd (okKin ((Int.toNat x149)) ((List.length l63))) <|
    grd (okIdx 0 ((List.length (List.getD l63 (Int.toNat x149) [])))) <|
    grd (okKin ((Int.toNat 0)) ((List.length (List.getD l63 (Int.toNat x149) [])))) <|
    grd (okI .i64 ((0 - (List.getD (List.getD l63 (Int.toNat x149) []) (Int.toNat 0) 0)))) <|
    bif (!((List.getD l56 (Int.toNat x149) 0) == (0 - (List.getD (List.getD l63 (Int.toNat x149) []) (Int.toNat 0) 0)))) then
      (some (Sum.inr (Sum.inl ())))
    else
      grd (okI .i64 ((x149 + 1))) <|
      (some (Sum.inl (x149 + 1)))
  else
    (some (Sum.inr (Sum.inr ())))) : Option ((Int) ⊕ ((Unit) ⊕ (Unit)))) := rfl
theorem m_law45_BoundsSchedules_eq (n_1 : Int) (end_1 : Int) (l_1 : List (Int × Int × Int)) : m_law45_BoundsSchedules std n_1 end_1 l_1 =
((Option.bind (
    Option.bind (m_law45_awake std) fun b36 =>
    bif (!b36) then
      (some true)
    else
      (some (decide (170 < (((List.length l_1) : Nat) : Int)))) : Option ((Bool))) fun x130 =>
  bif x130 then
    Option.bind (m_law45_awake std) fun b37 =>
    (some b37)
  else
    Option.bind (m_bounds_Earliest std n_1 l_1) fun (l56, n26) =>
    Option.bind (m_bounds_Latest std n_1 end_1 l_1) fun (l62, n27) =>
    Option.bind (m_ref45_Valid std n_1 l_1) fun b40 =>
    bif (!b40) then
      Option.bind (
        bif (n26 == 1) then
          bif (n27 == 1) then
            bif ((((List.length l56) : Nat) : Int) == 0) then
              (some ((((List.length l62) : Nat) : Int) == 0))
            else
              (some false)
          else
            (some false)
        else
          (some false) : Option ((Bool))) fun x138 =>
      (some x138)
    else
      Option.bind (m_ref45_Tight std n_1 l_1) fun (l63, b41) =>
      Option.bind (
        bif (!b41) then
          Option.bind (
            bif (!(n26 == 17)) then
              (some true)
            else
              (some (!((((List.length l56) : Nat) : Int) == 0))) : Option ((Bool))) fun x140 =>
          bif x140 then
            (some (Sum.inl ()))
          else
            (some (Sum.inr ()))
        else
          Option.bind (m_slices_ContainsFunc_3 std l63) fun b43 =>
          Option.bind (
            bif b43 then
              Option.bind (
                bif (!(n26 == 18)) then
                  (some true)
                else
                  (some (!((((List.length l56) : Nat) : Int) == 0))) : Option ((Bool))) fun x144 =>
              bif x144 then
                (some (Sum.inl ()))
              else
                (some (Sum.inr ()))
            else
              Option.bind (
                bif (!(n26 == 0)) then
                  (some true)
                else
                  bif (!((((List.length l56) : Nat) : Int) == n_1)) then
                    (some true)
                  else
                    Option.bind (m_ref45_Holds std l_1 l56) fun b45 =>
                    (some (!b45)) : Option ((Bool))) fun x148 =>
              bif x148 then
                (some (Sum.inl ()))
              else
                Option.bind (loop (m_law45_BoundsSchedules_L1 std l56 l63) 0) fun e => match e with
                | .inl _ =>
                  (some (Sum.inl ()))
                | .inr (_) =>
                  (some (Sum.inr ())) : Option (((Unit) ⊕ (Unit)))) fun e => match e with
          | .inl _ =>
            (some (Sum.inl ()))
          | .inr (_) =>
            (some (Sum.inr ())) : Option (((Unit) ⊕ (Unit)))) fun e => match e with
      | .inl _ =>
        (some false)
      | .inr (_) =>
        Option.bind (
          bif (decide (end_1 < 0)) then
            (some true)
          else
            (some (decide (1073741824 < end_1))) : Option ((Bool))) fun x151 =>
        bif x151 then
          Option.bind (
            bif (n27 == 2) then
              (some ((((List.length l62) : Nat) : Int) == 0))
            else
              (some false) : Option ((Bool))) fun x153 =>
          (some x153)
        else
          Option.bind (m_ref45_Ended std n_1 end_1 l_1) fun l66 =>
          Option.bind (m_ref45_Tight std n_1 l66) fun (l67, b46) =>
          bif (!b46) then
            Option.bind (
              bif (n27 == 17) then
                (some ((((List.length l62) : Nat) : Int) == 0))
              else
                (some false) : Option ((Bool))) fun x155 =>
            (some x155)
          else
            Option.bind (
              bif (n27 == 0) then
                Option.bind (m_ref45_Holds std l_1 l62) fun b47 =>
                bif b47 then
                  grd (okIdx 0 ((List.length l67))) <|
                  grd (okKin ((Int.toNat 0)) ((List.length l67))) <|
                  Option.bind (m_slices_Equal std l62 ((List.getD l67 (Int.toNat 0) []))) fun b48 =>
                  (some b48)
                else
                  (some false)
              else
                (some false) : Option ((Bool))) fun x158 =>
            (some x158)) : Option (Bool)) := rfl
theorem m_law45_BoundsTriangle_1_eq (row_1 : List Int) (x_1 : Int) : m_law45_BoundsTriangle_1 std row_1 x_1 =
(((some (!((((List.length row_1) : Nat) : Int) == x_1)))) : Option (Bool)) := rfl
theorem m_slices_IndexFunc_4_L1_eq (c_1 : Int) (s_1 : List (List Int)) (x161 : Int) : m_slices_IndexFunc_4_L1 std c_1 s_1 x161 =
((bif (decide (x161 < (((List.length s_1) : Nat) : Int))) then
    grd (okIdx x161 ((List.length s_1))) <|
    grd (okKin ((Int.toNat x161)) ((List.length s_1))) <|
    Option.bind (m_law45_BoundsTriangle_1 std ((List.getD s_1 (Int.toNat x161) [])) c_1) fun b51 =>
    bif b51 then
      (some (Sum.inr (Sum.inl x161)))
    else
      grd (okI .i64 ((x161 + 1))) <|
      (some (Sum.inl (x161 + 1)))
  else
    (some (Sum.inr (Sum.inr ())))) : Option ((Int) ⊕ ((Int) ⊕ (Unit)))) := rfl
theorem m_slices_IndexFunc_4_eq (s_1 : List (List Int)) (c_1 : Int) : m_slices_IndexFunc_4 std s_1 c_1 =
((Option.bind (loop (m_slices_IndexFunc_4_L1 std c_1 s_1) 0) fun e => match e with
  | .inl x162 =>
    (some x162)
  | .inr (_) =>
    (some (-1))) : Option (Int)) := rfl
theorem m_slices_ContainsFunc_4_eq (s_1 : List (List Int)) (c_1 : Int) : m_slices_ContainsFunc_4 std s_1 c_1 =
((Option.bind (m_slices_IndexFunc_4 std s_1 c_1) fun n30 =>
  (some (decide (0 ≤ n30)))) : Option (Bool)) := rfl
theorem m_law45_BoundsTriangle_L1_eq (l68 : List (List Int)) (l_1 : List (Int × Int × Int)) (x165 : Int) : m_law45_BoundsTriangle_L1 std l68 l_1 x165 =
((bif (decide (x165 < (((List.length l_1) : Nat) : Int))) then
    grd (okIdx x165 ((List.length l_1))) <|
    grd (okKin ((Int.toNat x165)) ((List.length l_1))) <|
    grd (okIdx ((List.getD l_1 (Int.toNat x165) (0, 0, 0)).1) ((List.length l68))) <|
    grd (okKin ((Int.toNat (List.getD l_1 (Int.toNat x165) (0, 0, 0)).1)) ((List.length l68))) <|
    grd (okIdx ((List.getD l_1 (Int.toNat x165) (0, 0, 0)).2.1) ((List.length (List.getD l68 (Int.toNat (List.getD l_1 (Int.toNat x165) (0, 0, 0)).1) [])))) <|
    grd (okKin ((Int.toNat (List.getD l_1 (Int.toNat x165) (0, 0, 0)).2.1)) ((List.length (List.getD l68 (Int.toNat (List.getD l_1 (Int.toNat x165) (0, 0, 0)).1) [])))) <|
    bif (decide ((List.getD l_1 (Int.toNat x165) (0, 0, 0)).2.2 < (List.getD (List.getD l68 (Int.toNat (List.getD l_1 (Int.toNat x165) (0, 0, 0)).1) []) (Int.toNat (List.getD l_1 (Int.toNat x165) (0, 0, 0)).2.1) 0))) then
      (some (Sum.inr (Sum.inl ())))
    else
      grd (okI .i64 ((x165 + 1))) <|
      (some (Sum.inl (x165 + 1)))
  else
    (some (Sum.inr (Sum.inr ())))) : Option ((Int) ⊕ ((Unit) ⊕ (Unit)))) := rfl
theorem m_law45_BoundsTriangle_L2_eq (i_1 : Int) (j_1 : Int) (l68 : List (List Int)) (n_1 : Int) (x166 : Int) : m_law45_BoundsTriangle_L2 std i_1 j_1 l68 n_1 x166 =
((bif (decide (x166 < n_1)) then
    Option.bind (
      bif (!((List.getD (List.getD l68 (Int.toNat (Int.tmod i_1 n_1)) []) (Int.toNat x166) 0) == 4398046511104)) then
        bif (!((List.getD (List.getD l68 (Int.toNat x166) []) (Int.toNat (Int.tmod j_1 n_1)) 0) == 4398046511104)) then
          grd (okIdx ((Int.tmod i_1 n_1)) ((List.length l68))) <|
          grd (okKin ((Int.toNat (Int.tmod i_1 n_1))) ((List.length l68))) <|
          grd (okIdx x166 ((List.length (List.getD l68 (Int.toNat (Int.tmod i_1 n_1)) [])))) <|
          grd (okKin ((Int.toNat x166)) ((List.length (List.getD l68 (Int.toNat (Int.tmod i_1 n_1)) [])))) <|
          grd (okIdx x166 ((List.length l68))) <|
          grd (okKin ((Int.toNat x166)) ((List.length l68))) <|
          grd (okIdx ((Int.tmod j_1 n_1)) ((List.length (List.getD l68 (Int.toNat x166) [])))) <|
          grd (okKin ((Int.toNat (Int.tmod j_1 n_1))) ((List.length (List.getD l68 (Int.toNat x166) [])))) <|
          grd (okIdx ((Int.tmod j_1 n_1)) ((List.length (List.getD l68 (Int.toNat (Int.tmod i_1 n_1)) [])))) <|
          grd (okKin ((Int.toNat (Int.tmod j_1 n_1))) ((List.length (List.getD l68 (Int.toNat (Int.tmod i_1 n_1)) [])))) <|
          grd (okI .i64 (((List.getD (List.getD l68 (Int.toNat (Int.tmod i_1 n_1)) []) (Int.toNat x166) 0) + (List.getD (List.getD l68 (Int.toNat x166) []) (Int.toNat (Int.tmod j_1 n_1)) 0)))) <|
          (some (decide (((List.getD (List.getD l68 (Int.toNat (Int.tmod i_1 n_1)) []) (Int.toNat x166) 0) + (List.getD (List.getD l68 (Int.toNat x166) []) (Int.toNat (Int.tmod j_1 n_1)) 0)) < (List.getD (List.getD l68 (Int.toNat (Int.tmod i_1 n_1)) []) (Int.toNat (Int.tmod j_1 n_1)) 0))))
        else
          grd (okIdx ((Int.tmod i_1 n_1)) ((List.length l68))) <|
          grd (okKin ((Int.toNat (Int.tmod i_1 n_1))) ((List.length l68))) <|
          grd (okIdx x166 ((List.length (List.getD l68 (Int.toNat (Int.tmod i_1 n_1)) [])))) <|
          grd (okKin ((Int.toNat x166)) ((List.length (List.getD l68 (Int.toNat (Int.tmod i_1 n_1)) [])))) <|
          grd (okIdx x166 ((List.length l68))) <|
          grd (okKin ((Int.toNat x166)) ((List.length l68))) <|
          grd (okIdx ((Int.tmod j_1 n_1)) ((List.length (List.getD l68 (Int.toNat x166) [])))) <|
          grd (okKin ((Int.toNat (Int.tmod j_1 n_1))) ((List.length (List.getD l68 (Int.toNat x166) [])))) <|
          (some false)
      else
        grd (okIdx ((Int.tmod i_1 n_1)) ((List.length l68))) <|
        grd (okKin ((Int.toNat (Int.tmod i_1 n_1))) ((List.length l68))) <|
        grd (okIdx x166 ((List.length (List.getD l68 (Int.toNat (Int.tmod i_1 n_1)) [])))) <|
        grd (okKin ((Int.toNat x166)) ((List.length (List.getD l68 (Int.toNat (Int.tmod i_1 n_1)) [])))) <|
        (some false) : Option ((Bool))) fun x169 =>
    bif x169 then
      (some (Sum.inr (Sum.inl ())))
    else
      grd (okI .i64 ((x166 + 1))) <|
      (some (Sum.inl (x166 + 1)))
  else
    (some (Sum.inr (Sum.inr ())))) : Option ((Int) ⊕ ((Unit) ⊕ (Unit)))) := rfl
theorem m_law45_BoundsTriangle_eq (n_1 : Int) (i_1 : Int) (j_1 : Int) (l_1 : List (Int × Int × Int)) : m_law45_BoundsTriangle std n_1 i_1 j_1 l_1 =
((Option.bind (
    Option.bind (m_law45_awake std) fun b49 =>
    bif (!b49) then
      (some true)
    else
      (some (decide (190 < (((List.length l_1) : Nat) : Int)))) : Option ((Bool))) fun x160 =>
  bif x160 then
    Option.bind (m_law45_awake std) fun b50 =>
    (some b50)
  else
    Option.bind (m_bounds_Tight std n_1 l_1) fun (l68, n29) =>
    bif (!(n29 == 0)) then
      (some ((((List.length l68) : Nat) : Int) == 0))
    else
      Option.bind (
        bif (!((((List.length l68) : Nat) : Int) == n_1)) then
          (some true)
        else
          Option.bind (m_slices_ContainsFunc_4 std l68 n_1) fun b52 =>
          bif b52 then
            (some true)
          else
            Option.bind (m_ref45_Valid std n_1 l_1) fun b53 =>
            (some (!b53)) : Option ((Bool))) fun x164 =>
      bif x164 then
        (some false)
      else
        Option.bind (loop (m_law45_BoundsTriangle_L1 std l68 l_1) 0) fun e => match e with
        | .inl _ =>
          (some false)
        | .inr (_) =>
          grd (okI .i64 i_1) <|
          grd (okNz n_1) <|
          grd (okI .i64 j_1) <|
          Option.bind (loop (m_law45_BoundsTriangle_L2 std i_1 j_1 l68 n_1) 0) fun e => match e with
          | .inl _ =>
            (some false)
          | .inr (_) =>
            Option.bind (
              bif (decide ((List.getD (List.getD l68 (Int.toNat (Int.tmod i_1 n_1)) []) (Int.toNat (Int.tmod j_1 n_1)) 0) < (-1073741824))) then
                grd (okIdx ((Int.tmod i_1 n_1)) ((List.length l68))) <|
                grd (okKin ((Int.toNat (Int.tmod i_1 n_1))) ((List.length l68))) <|
                grd (okIdx ((Int.tmod j_1 n_1)) ((List.length (List.getD l68 (Int.toNat (Int.tmod i_1 n_1)) [])))) <|
                grd (okKin ((Int.toNat (Int.tmod j_1 n_1))) ((List.length (List.getD l68 (Int.toNat (Int.tmod i_1 n_1)) [])))) <|
                (some true)
              else
                grd (okIdx ((Int.tmod i_1 n_1)) ((List.length l68))) <|
                grd (okKin ((Int.toNat (Int.tmod i_1 n_1))) ((List.length l68))) <|
                grd (okIdx ((Int.tmod j_1 n_1)) ((List.length (List.getD l68 (Int.toNat (Int.tmod i_1 n_1)) [])))) <|
                grd (okKin ((Int.toNat (Int.tmod j_1 n_1))) ((List.length (List.getD l68 (Int.toNat (Int.tmod i_1 n_1)) [])))) <|
                (some (decide (1073741824 < (List.getD (List.getD l68 (Int.toNat (Int.tmod i_1 n_1)) []) (Int.toNat (Int.tmod j_1 n_1)) 0)))) : Option ((Bool))) fun x171 =>
            bif x171 then
              (some true)
            else
              Option.bind (m_clone_i3 std l_1) fun l69 =>
              grd (okRoom ((List.length l69))) <|
              grd (okRoom ((List.length [((Int.tmod i_1 n_1), (Int.tmod j_1 n_1), (List.getD (List.getD l68 (Int.toNat (Int.tmod i_1 n_1)) []) (Int.toNat (Int.tmod j_1 n_1)) 0))]))) <|
              Option.bind (m_bounds_Tight std n_1 ((l69 ++ [((Int.tmod i_1 n_1), (Int.tmod j_1 n_1), (List.getD (List.getD l68 (Int.toNat (Int.tmod i_1 n_1)) []) (Int.toNat (Int.tmod j_1 n_1)) 0))]))) fun (l70, n31) =>
              Option.bind (
                bif (n31 == 0) then
                  Option.bind (m_ref45_Same std l68 l70) fun b54 =>
                  (some b54)
                else
                  (some false) : Option ((Bool))) fun x173 =>
              (some x173)) : Option (Bool)) := rfl
theorem m_law45_BoundsAdds_1_eq (row_1 : List Int) : m_law45_BoundsAdds_1 std row_1 =
(((some (decide (40 < (((List.length row_1) : Nat) : Int))))) : Option (Bool)) := rfl
theorem m_slices_IndexFunc_5_L1_eq (s_1 : List (List Int)) (x174 : Int) : m_slices_IndexFunc_5_L1 std s_1 x174 =
((bif (decide (x174 < (((List.length s_1) : Nat) : Int))) then
    grd (okIdx x174 ((List.length s_1))) <|
    grd (okKin ((Int.toNat x174)) ((List.length s_1))) <|
    Option.bind (m_law45_BoundsAdds_1 std ((List.getD s_1 (Int.toNat x174) []))) fun b56 =>
    bif b56 then
      (some (Sum.inr (Sum.inl x174)))
    else
      grd (okI .i64 ((x174 + 1))) <|
      (some (Sum.inl (x174 + 1)))
  else
    (some (Sum.inr (Sum.inr ())))) : Option ((Int) ⊕ ((Int) ⊕ (Unit)))) := rfl
theorem m_slices_IndexFunc_5_eq (s_1 : List (List Int)) : m_slices_IndexFunc_5 std s_1 =
((Option.bind (loop (m_slices_IndexFunc_5_L1 std s_1) 0) fun e => match e with
  | .inl x175 =>
    (some x175)
  | .inr (_) =>
    (some (-1))) : Option (Int)) := rfl
theorem m_slices_ContainsFunc_5_eq (s_1 : List (List Int)) : m_slices_ContainsFunc_5 std s_1 =
((Option.bind (m_slices_IndexFunc_5 std s_1) fun n32 =>
  (some (decide (0 ≤ n32)))) : Option (Bool)) := rfl
theorem m_bounds_closed_1_eq (x_1 : Int) : m_bounds_closed_1 std x_1 =
((Option.bind (
    bif (!(x_1 == 4398046511104)) then
      bif (decide (x_1 < (-68719476736))) then
        (some true)
      else
        (some (decide (68719476736 < x_1)))
    else
      (some false) : Option ((Bool))) fun x184 =>
  (some x184)) : Option (Bool)) := rfl
theorem m_slices_IndexFunc_6_L1_eq (s_1 : List Int) (x181 : Int) : m_slices_IndexFunc_6_L1 std s_1 x181 =
((bif (decide (x181 < (((List.length s_1) : Nat) : Int))) then
    grd (okIdx x181 ((List.length s_1))) <|
    grd (okKin ((Int.toNat x181)) ((List.length s_1))) <|
    Option.bind (m_bounds_closed_1 std ((List.getD s_1 (Int.toNat x181) 0))) fun b59 =>
    bif b59 then
      (some (Sum.inr (Sum.inl x181)))
    else
      grd (okI .i64 ((x181 + 1))) <|
      (some (Sum.inl (x181 + 1)))
  else
    (some (Sum.inr (Sum.inr ())))) : Option ((Int) ⊕ ((Int) ⊕ (Unit)))) := rfl
theorem m_slices_IndexFunc_6_eq (s_1 : List Int) : m_slices_IndexFunc_6 std s_1 =
((Option.bind (loop (m_slices_IndexFunc_6_L1 std s_1) 0) fun e => match e with
  | .inl x185 =>
    (some x185)
  | .inr (_) =>
    (some (-1))) : Option (Int)) := rfl
theorem m_slices_ContainsFunc_6_eq (s_1 : List Int) : m_slices_ContainsFunc_6 std s_1 =
((Option.bind (m_slices_IndexFunc_6 std s_1) fun n33 =>
  (some (decide (0 ≤ n33)))) : Option (Bool)) := rfl
theorem m_bounds_closed_L1_eq (m_1 : List (List Int)) (x180 : Int) : m_bounds_closed_L1 std m_1 x180 =
((bif (decide (x180 < (((List.length m_1) : Nat) : Int))) then
    grd (okIdx x180 ((List.length m_1))) <|
    grd (okKin ((Int.toNat x180)) ((List.length m_1))) <|
    Option.bind (
      bif (!((((List.length (List.getD m_1 (Int.toNat x180) [])) : Nat) : Int) == (((List.length m_1) : Nat) : Int))) then
        (some true)
      else
        bif (!((List.getD (List.getD m_1 (Int.toNat x180) []) (Int.toNat x180) 0) == 0)) then
          grd (okIdx x180 ((List.length (List.getD m_1 (Int.toNat x180) [])))) <|
          grd (okKin ((Int.toNat x180)) ((List.length (List.getD m_1 (Int.toNat x180) [])))) <|
          (some true)
        else
          grd (okIdx x180 ((List.length (List.getD m_1 (Int.toNat x180) [])))) <|
          grd (okKin ((Int.toNat x180)) ((List.length (List.getD m_1 (Int.toNat x180) [])))) <|
          Option.bind (m_slices_ContainsFunc_6 std ((List.getD m_1 (Int.toNat x180) []))) fun b60 =>
          (some b60) : Option ((Bool))) fun x187 =>
    bif x187 then
      (some (Sum.inr (Sum.inl ())))
    else
      grd (okI .i64 ((x180 + 1))) <|
      (some (Sum.inl (x180 + 1)))
  else
    (some (Sum.inr (Sum.inr ())))) : Option ((Int) ⊕ ((Unit) ⊕ (Unit)))) := rfl
theorem m_bounds_closed_L2_eq (m_1 : List (List Int)) (x188 : Int) (x189 : Int) (x190 : Int) : m_bounds_closed_L2 std m_1 x188 x189 x190 =
((bif (decide (x190 < (((List.length m_1) : Nat) : Int))) then
    grd (okIdx x188 ((List.length m_1))) <|
    grd (okKin ((Int.toNat x188)) ((List.length m_1))) <|
    grd (okIdx x190 ((List.length (List.getD m_1 (Int.toNat x188) [])))) <|
    grd (okKin ((Int.toNat x190)) ((List.length (List.getD m_1 (Int.toNat x188) [])))) <|
    grd (okIdx x189 ((List.length (List.getD m_1 (Int.toNat x188) [])))) <|
    grd (okKin ((Int.toNat x189)) ((List.length (List.getD m_1 (Int.toNat x188) [])))) <|
    grd (okIdx x189 ((List.length m_1))) <|
    grd (okKin ((Int.toNat x189)) ((List.length m_1))) <|
    grd (okIdx x190 ((List.length (List.getD m_1 (Int.toNat x189) [])))) <|
    grd (okKin ((Int.toNat x190)) ((List.length (List.getD m_1 (Int.toNat x189) [])))) <|
    Option.bind (m_bounds_plus std ((List.getD (List.getD m_1 (Int.toNat x188) []) (Int.toNat x189) 0)) ((List.getD (List.getD m_1 (Int.toNat x189) []) (Int.toNat x190) 0))) fun n34 =>
    bif (decide (n34 < (List.getD (List.getD m_1 (Int.toNat x188) []) (Int.toNat x190) 0))) then
      (some (Sum.inr (Sum.inl ())))
    else
      grd (okI .i64 ((x190 + 1))) <|
      (some (Sum.inl (x190 + 1)))
  else
    (some (Sum.inr (Sum.inr ())))) : Option ((Int) ⊕ ((Unit) ⊕ (Unit)))) := rfl
theorem m_bounds_closed_L3_eq (m_1 : List (List Int)) (x188 : Int) (x189 : Int) : m_bounds_closed_L3 std m_1 x188 x189 =
((bif (decide (x189 < (((List.length m_1) : Nat) : Int))) then
    Option.bind (loop (m_bounds_closed_L2 std m_1 x188 x189) 0) fun e => match e with
    | .inl _ =>
      (some (Sum.inr (Sum.inl ())))
    | .inr (_) =>
      grd (okI .i64 ((x189 + 1))) <|
      (some (Sum.inl (x189 + 1)))
  else
    (some (Sum.inr (Sum.inr ())))) : Option ((Int) ⊕ ((Unit) ⊕ (Unit)))) := rfl
theorem m_bounds_closed_L4_eq (m_1 : List (List Int)) (x188 : Int) : m_bounds_closed_L4 std m_1 x188 =
((bif (decide (x188 < (((List.length m_1) : Nat) : Int))) then
    Option.bind (loop (m_bounds_closed_L3 std m_1 x188) 0) fun e => match e with
    | .inl _ =>
      (some (Sum.inr (Sum.inl ())))
    | .inr (_) =>
      grd (okI .i64 ((x188 + 1))) <|
      (some (Sum.inl (x188 + 1)))
  else
    (some (Sum.inr (Sum.inr ())))) : Option ((Int) ⊕ ((Unit) ⊕ (Unit)))) := rfl
theorem m_bounds_closed_eq (m_1 : List (List Int)) : m_bounds_closed std m_1 =
((Option.bind (
    bif (decide ((((List.length m_1) : Nat) : Int) < 1)) then
      (some true)
    else
      (some (decide (24 < (((List.length m_1) : Nat) : Int)))) : Option ((Bool))) fun x179 =>
  bif x179 then
    (some false)
  else
    Option.bind (loop (m_bounds_closed_L1 std m_1) 0) fun e => match e with
    | .inl _ =>
      (some false)
    | .inr (_) =>
      Option.bind (loop (m_bounds_closed_L4 std m_1) 0) fun e => match e with
      | .inl _ =>
        (some false)
      | .inr (_) =>
        (some true)) : Option (Bool)) := rfl
theorem m_bounds_Add_L1_eq (b_1 : Int) (b_2 : Int) (b_3 : Int) (m_1 : List (List Int)) (x196 : Int) (x198 : Int) (m58 : List (List Int)) : m_bounds_Add_L1 std b_1 b_2 b_3 m_1 x196 (x198, m58) =
((bif (decide (x198 < (((List.length (List.getD m_1 (Int.toNat x196) [])) : Nat) : Int))) then
    grd (okIdx x196 ((List.length m58))) <|
    grd (okKin ((Int.toNat x196)) ((List.length m58))) <|
    grd (okIdx x198 ((List.length (List.getD m_1 (Int.toNat x196) [])))) <|
    grd (okKin ((Int.toNat x198)) ((List.length (List.getD m_1 (Int.toNat x196) [])))) <|
    grd (okIdx b_1 ((List.length (List.getD m_1 (Int.toNat x196) [])))) <|
    grd (okKin ((Int.toNat b_1)) ((List.length (List.getD m_1 (Int.toNat x196) [])))) <|
    grd (okIdx x198 ((List.length (List.getD m_1 (Int.toNat b_2) [])))) <|
    grd (okKin ((Int.toNat x198)) ((List.length (List.getD m_1 (Int.toNat b_2) [])))) <|
    Option.bind (m_bounds_plus std ((List.getD (List.getD m_1 (Int.toNat x196) []) (Int.toNat b_1) 0)) b_3) fun n42 =>
    Option.bind (m_bounds_plus std n42 ((List.getD (List.getD m_1 (Int.toNat b_2) []) (Int.toNat x198) 0))) fun n43 =>
    grd (okIdx x198 ((List.length (List.getD m58 (Int.toNat x196) [])))) <|
    grd (okKin ((Int.toNat x198)) ((List.length (List.getD m58 (Int.toNat x196) [])))) <|
    grd (okI .i64 ((x198 + 1))) <|
    (some (Sum.inl ((x198 + 1), (List.set m58 (Int.toNat x196) (List.set (List.getD m58 (Int.toNat x196) []) (Int.toNat x198) (mi (List.getD (List.getD m_1 (Int.toNat x196) []) (Int.toNat x198) 0) n43))))))
  else
    (some (Sum.inr m58))) : Option ((Int × List (List Int)) ⊕ (List (List Int)))) := rfl
theorem m_bounds_Add_L2_eq (b_1 : Int) (b_2 : Int) (b_3 : Int) (m_1 : List (List Int)) (x196 : Int) (m57 : List (List Int)) : m_bounds_Add_L2 std b_1 b_2 b_3 m_1 (x196, m57) =
((bif (decide (x196 < (((List.length m_1) : Nat) : Int))) then
    grd (okIdx x196 ((List.length m_1))) <|
    grd (okKin ((Int.toNat x196)) ((List.length m_1))) <|
    Option.bind (m_clone_i1 std ((List.getD m_1 (Int.toNat x196) []))) fun l72 =>
    grd (okIdx x196 ((List.length m57))) <|
    grd (okKin ((Int.toNat x196)) ((List.length m57))) <|
    Option.bind (loop (m_bounds_Add_L1 std b_1 b_2 b_3 m_1 x196) (0, (List.set m57 (Int.toNat x196) l72))) fun m59 =>
    grd (okI .i64 ((x196 + 1))) <|
    (some (Sum.inl ((x196 + 1), m59)))
  else
    (some (Sum.inr m57))) : Option ((Int × List (List Int)) ⊕ (List (List Int)))) := rfl
theorem m_bounds_Add_eq (b_1 : Int) (b_2 : Int) (b_3 : Int) (m_1 : List (List Int)) : m_bounds_Add std b_1 b_2 b_3 m_1 =
((Option.bind (
    Option.bind (m_bounds_closed std m_1) fun b61 =>
    bif (!b61) then
      (some true)
    else
      Option.bind (m_bounds_right std ((((List.length m_1) : Nat) : Int)) b_1 b_2 b_3) fun b62 =>
      (some (!b62)) : Option ((Bool))) fun x192 =>
  bif x192 then
    (some (([] : List (List Int)), 1))
  else
    grd (okIdx b_2 ((List.length m_1))) <|
    grd (okKin ((Int.toNat b_2)) ((List.length m_1))) <|
    grd (okIdx b_1 ((List.length (List.getD m_1 (Int.toNat b_2) [])))) <|
    grd (okKin ((Int.toNat b_1)) ((List.length (List.getD m_1 (Int.toNat b_2) [])))) <|
    Option.bind (m_bounds_plus std ((List.getD (List.getD m_1 (Int.toNat b_2) []) (Int.toNat b_1) 0)) b_3) fun n35 =>
    bif (decide (n35 < 0)) then
      (some (([] : List (List Int)), 17))
    else
      grd (okRng ((((List.length m_1) : Nat) : Int)) ((Int.toNat (((List.length m_1) : Nat) : Int)))) <|
      grd (okRoom ((Int.toNat (((List.length m_1) : Nat) : Int)))) <|
      Option.bind (loop (m_bounds_Add_L2 std b_1 b_2 b_3 m_1) (0, (List.replicate (Int.toNat (((List.length m_1) : Nat) : Int)) ([] : List Int)))) fun m60 =>
      (some (m60, 0))) : Option (List (List Int) × Int)) := rfl
theorem m_law45_BoundsAdds_eq (n_1 : Int) (b_1 : Int) (b_2 : Int) (b_3 : Int) (l_1 : List (Int × Int × Int)) (m_1 : List (List Int)) : m_law45_BoundsAdds std n_1 b_1 b_2 b_3 l_1 m_1 =
((Option.bind (
    Option.bind (m_law45_awake std) fun b55 =>
    bif (!b55) then
      (some true)
    else
      bif (decide (190 < (((List.length l_1) : Nat) : Int))) then
        (some true)
      else
        bif (decide (40 < (((List.length m_1) : Nat) : Int))) then
          (some true)
        else
          Option.bind (m_slices_ContainsFunc_5 std m_1) fun b57 =>
          (some b57) : Option ((Bool))) fun x177 =>
  bif x177 then
    Option.bind (m_law45_awake std) fun b58 =>
    (some b58)
  else
    Option.bind (m_bounds_Add std b_1 b_2 b_3 m_1) fun (l73, n44) =>
    Option.bind (
      Option.bind (m_ref45_Closed std m_1) fun b63 =>
      bif (!b63) then
        bif (!(n44 == 1)) then
          (some true)
        else
          (some (!((((List.length l73) : Nat) : Int) == 0)))
      else
        Option.bind (m_ref45_Valid std ((((List.length m_1) : Nat) : Int)) ([(b_1, b_2, b_3)])) fun b64 =>
        bif (!b64) then
          bif (!(n44 == 1)) then
            (some true)
          else
            (some (!((((List.length l73) : Nat) : Int) == 0)))
        else
          (some false) : Option ((Bool))) fun x203 =>
    bif x203 then
      (some false)
    else
      Option.bind (
        Option.bind (m_ref45_Valid std n_1 l_1) fun b65 =>
        bif (!b65) then
          (some true)
        else
          Option.bind (m_ref45_Valid std n_1 ([(b_1, b_2, b_3)])) fun b66 =>
          (some (!b66)) : Option ((Bool))) fun x205 =>
      bif x205 then
        (some true)
      else
        Option.bind (m_ref45_Tight std n_1 l_1) fun (l74, b67) =>
        bif (!b67) then
          (some true)
        else
          Option.bind (m_bounds_Add std b_1 b_2 b_3 l74) fun (l75, n45) =>
          Option.bind (m_clone_i3 std l_1) fun l76 =>
          grd (okRoom ((List.length l76))) <|
          grd (okRoom ((List.length [(b_1, b_2, b_3)]))) <|
          Option.bind (m_ref45_Tight std n_1 ((l76 ++ [(b_1, b_2, b_3)]))) fun (l77, b68) =>
          bif (!b68) then
            Option.bind (
              bif (n45 == 17) then
                (some ((((List.length l75) : Nat) : Int) == 0))
              else
                (some false) : Option ((Bool))) fun x207 =>
            (some x207)
          else
            Option.bind (
              bif (n45 == 0) then
                Option.bind (m_ref45_Same std l75 l77) fun b69 =>
                (some b69)
              else
                (some false) : Option ((Bool))) fun x209 =>
            (some x209)) : Option (Bool)) := rfl
theorem m_bounds_Holds_1_eq (t_1 : Int) : m_bounds_Holds_1 std t_1 =
((Option.bind (
    bif (decide (t_1 < (-4398046511104))) then
      (some true)
    else
      (some (decide (4398046511104 < t_1))) : Option ((Bool))) fun x214 =>
  (some x214)) : Option (Bool)) := rfl
theorem m_slices_IndexFunc_7_L1_eq (s_1 : List Int) (x212 : Int) : m_slices_IndexFunc_7_L1 std s_1 x212 =
((bif (decide (x212 < (((List.length s_1) : Nat) : Int))) then
    grd (okIdx x212 ((List.length s_1))) <|
    grd (okKin ((Int.toNat x212)) ((List.length s_1))) <|
    Option.bind (m_bounds_Holds_1 std ((List.getD s_1 (Int.toNat x212) 0))) fun b73 =>
    bif b73 then
      (some (Sum.inr (Sum.inl x212)))
    else
      grd (okI .i64 ((x212 + 1))) <|
      (some (Sum.inl (x212 + 1)))
  else
    (some (Sum.inr (Sum.inr ())))) : Option ((Int) ⊕ ((Int) ⊕ (Unit)))) := rfl
theorem m_slices_IndexFunc_7_eq (s_1 : List Int) : m_slices_IndexFunc_7 std s_1 =
((Option.bind (loop (m_slices_IndexFunc_7_L1 std s_1) 0) fun e => match e with
  | .inl x215 =>
    (some x215)
  | .inr (_) =>
    (some (-1))) : Option (Int)) := rfl
theorem m_slices_ContainsFunc_7_eq (s_1 : List Int) : m_slices_ContainsFunc_7 std s_1 =
((Option.bind (m_slices_IndexFunc_7 std s_1) fun n46 =>
  (some (decide (0 ≤ n46)))) : Option (Bool)) := rfl
theorem m_bounds_Holds_2_eq (b_1 : Int) (b_2 : Int) (b_3 : Int) (x_1 : List Int) : m_bounds_Holds_2 std b_1 b_2 b_3 x_1 =
((grd (okIdx b_2 ((List.length x_1))) <|
  grd (okKin ((Int.toNat b_2)) ((List.length x_1))) <|
  grd (okIdx b_1 ((List.length x_1))) <|
  grd (okKin ((Int.toNat b_1)) ((List.length x_1))) <|
  grd (okI .i64 (((List.getD x_1 (Int.toNat b_2) 0) - (List.getD x_1 (Int.toNat b_1) 0)))) <|
  (some (decide (b_3 < ((List.getD x_1 (Int.toNat b_2) 0) - (List.getD x_1 (Int.toNat b_1) 0)))))) : Option (Bool)) := rfl
theorem m_slices_IndexFunc_8_L1_eq (c_1 : List Int) (s_1 : List (Int × Int × Int)) (x218 : Int) : m_slices_IndexFunc_8_L1 std c_1 s_1 x218 =
((bif (decide (x218 < (((List.length s_1) : Nat) : Int))) then
    grd (okIdx x218 ((List.length s_1))) <|
    grd (okKin ((Int.toNat x218)) ((List.length s_1))) <|
    Option.bind (m_bounds_Holds_2 std ((List.getD s_1 (Int.toNat x218) (0, 0, 0)).1) ((List.getD s_1 (Int.toNat x218) (0, 0, 0)).2.1) ((List.getD s_1 (Int.toNat x218) (0, 0, 0)).2.2) c_1) fun b75 =>
    bif b75 then
      (some (Sum.inr (Sum.inl x218)))
    else
      grd (okI .i64 ((x218 + 1))) <|
      (some (Sum.inl (x218 + 1)))
  else
    (some (Sum.inr (Sum.inr ())))) : Option ((Int) ⊕ ((Int) ⊕ (Unit)))) := rfl
theorem m_slices_IndexFunc_8_eq (s_1 : List (Int × Int × Int)) (c_1 : List Int) : m_slices_IndexFunc_8 std s_1 c_1 =
((Option.bind (loop (m_slices_IndexFunc_8_L1 std c_1 s_1) 0) fun e => match e with
  | .inl x219 =>
    (some x219)
  | .inr (_) =>
    (some (-1))) : Option (Int)) := rfl
theorem m_slices_ContainsFunc_8_eq (s_1 : List (Int × Int × Int)) (c_1 : List Int) : m_slices_ContainsFunc_8 std s_1 c_1 =
((Option.bind (m_slices_IndexFunc_8 std s_1 c_1) fun n47 =>
  (some (decide (0 ≤ n47)))) : Option (Bool)) := rfl
theorem m_bounds_Holds_eq (l_1 : List (Int × Int × Int)) (at_1 : List Int) : m_bounds_Holds std l_1 at_1 =
((Option.bind (
    Option.bind (m_bounds_Valid std ((((List.length at_1) : Nat) : Int)) l_1) fun b72 =>
    bif (!b72) then
      (some true)
    else
      Option.bind (m_slices_ContainsFunc_7 std at_1) fun b74 =>
      (some b74) : Option ((Bool))) fun x217 =>
  bif x217 then
    (some false)
  else
    Option.bind (m_slices_ContainsFunc_8 std l_1 at_1) fun b76 =>
    (some (!b76))) : Option (Bool)) := rfl
theorem m_slices_Max_L1_eq (x_1 : List Int) (m61 : Int) (i20 : Int) : m_slices_Max_L1 std x_1 (m61, i20) =
((bif (decide (i20 < (((List.length x_1) : Nat) : Int))) then
    grd (okIdx i20 ((List.length x_1))) <|
    grd (okKin ((Int.toNat i20)) ((List.length x_1))) <|
    grd (okI .i64 ((i20 + 1))) <|
    (some (Sum.inl ((ma m61 (List.getD x_1 (Int.toNat i20) 0)), (i20 + 1))))
  else
    (some (Sum.inr m61))) : Option ((Int × Int) ⊕ (Int))) := rfl
theorem m_slices_Max_eq (x_1 : List Int) : m_slices_Max std x_1 =
((bif (decide ((((List.length x_1) : Nat) : Int) < 1)) then
    none
  else
    grd (okIdx 0 ((List.length x_1))) <|
    grd (okKin ((Int.toNat 0)) ((List.length x_1))) <|
    Option.bind (loop (m_slices_Max_L1 std x_1) ((List.getD x_1 (Int.toNat 0) 0), 1)) fun m62 =>
    (some m62)) : Option (Int)) := rfl
theorem m_law45_BoundsKeeps_L1_eq (at_1 : List Int) (l78 : List Int) (x227 : Int) : m_law45_BoundsKeeps_L1 std at_1 l78 x227 =
((bif (decide (x227 < (((List.length l78) : Nat) : Int))) then
    grd (okIdx x227 ((List.length l78))) <|
    grd (okKin ((Int.toNat x227)) ((List.length l78))) <|
    Option.bind (
      bif (decide ((((List.length at_1) : Nat) : Int) ≤ x227)) then
        (some true)
      else
        grd (okIdx x227 ((List.length at_1))) <|
        grd (okKin ((Int.toNat x227)) ((List.length at_1))) <|
        (some (decide ((List.getD at_1 (Int.toNat x227) 0) < (List.getD l78 (Int.toNat x227) 0)))) : Option ((Bool))) fun x229 =>
    bif x229 then
      (some (Sum.inr (Sum.inl ())))
    else
      grd (okI .i64 ((x227 + 1))) <|
      (some (Sum.inl (x227 + 1)))
  else
    (some (Sum.inr (Sum.inr ())))) : Option ((Int) ⊕ ((Unit) ⊕ (Unit)))) := rfl
theorem m_law45_BoundsKeeps_L2_eq (at_1 : List Int) (l79 : List Int) (x234 : Int) : m_law45_BoundsKeeps_L2 std at_1 l79 x234 =
((bif (decide (x234 < (((List.length l79) : Nat) : Int))) then
    grd (okIdx x234 ((List.length l79))) <|
    grd (okKin ((Int.toNat x234)) ((List.length l79))) <|
    grd (okIdx x234 ((List.length at_1))) <|
    grd (okKin ((Int.toNat x234)) ((List.length at_1))) <|
    bif (decide ((List.getD l79 (Int.toNat x234) 0) < (List.getD at_1 (Int.toNat x234) 0))) then
      (some (Sum.inr (Sum.inl ())))
    else
      grd (okI .i64 ((x234 + 1))) <|
      (some (Sum.inl (x234 + 1)))
  else
    (some (Sum.inr (Sum.inr ())))) : Option ((Int) ⊕ ((Unit) ⊕ (Unit)))) := rfl
theorem m_law45_BoundsKeeps_eq (i_1 : Int) (j_1 : Int) (l_1 : List (Int × Int × Int)) (at_1 : List Int) : m_law45_BoundsKeeps std i_1 j_1 l_1 at_1 =
((Option.bind (
    Option.bind (m_law45_awake std) fun b70 =>
    bif (!b70) then
      (some true)
    else
      bif (decide (170 < (((List.length l_1) : Nat) : Int))) then
        (some true)
      else
        (some (decide (40 < (((List.length at_1) : Nat) : Int)))) : Option ((Bool))) fun x211 =>
  bif x211 then
    Option.bind (m_law45_awake std) fun b71 =>
    (some b71)
  else
    Option.bind (m_bounds_Holds std l_1 at_1) fun b77 =>
    Option.bind (m_ref45_Holds std l_1 at_1) fun b78 =>
    bif (!(b77 == b78)) then
      (some false)
    else
      Option.bind (m_bounds_Holds std l_1 at_1) fun b79 =>
      bif (!b79) then
        (some true)
      else
        Option.bind (m_bounds_Consistent std ((((List.length at_1) : Nat) : Int)) l_1) fun (b80, n48) =>
        grd (okI .i64 i_1) <|
        grd (okNz ((((List.length at_1) : Nat) : Int))) <|
        grd (okI .i64 j_1) <|
        Option.bind (m_bounds_Between std ((((List.length at_1) : Nat) : Int)) ((Int.tmod i_1 (((List.length at_1) : Nat) : Int))) ((Int.tmod j_1 (((List.length at_1) : Nat) : Int))) l_1) fun (n49, n50, n51) =>
        Option.bind (
          bif (!b80) then
            (some true)
          else
            bif (!(n48 == 0)) then
              (some true)
            else
              (some (!(n51 == 0))) : Option ((Bool))) fun x221 =>
        bif x221 then
          (some false)
        else
          grd (okIdx ((Int.tmod j_1 (((List.length at_1) : Nat) : Int))) ((List.length at_1))) <|
          grd (okKin ((Int.toNat (Int.tmod j_1 (((List.length at_1) : Nat) : Int)))) ((List.length at_1))) <|
          grd (okIdx ((Int.tmod i_1 (((List.length at_1) : Nat) : Int))) ((List.length at_1))) <|
          grd (okKin ((Int.toNat (Int.tmod i_1 (((List.length at_1) : Nat) : Int)))) ((List.length at_1))) <|
          grd (okI .i64 (((List.getD at_1 (Int.toNat (Int.tmod j_1 (((List.length at_1) : Nat) : Int))) 0) - (List.getD at_1 (Int.toNat (Int.tmod i_1 (((List.length at_1) : Nat) : Int))) 0)))) <|
          Option.bind (
            bif (!(n49 == (-4398046511104))) then
              bif (decide (((List.getD at_1 (Int.toNat (Int.tmod j_1 (((List.length at_1) : Nat) : Int))) 0) - (List.getD at_1 (Int.toNat (Int.tmod i_1 (((List.length at_1) : Nat) : Int))) 0)) < n49)) then
                (some true)
              else
                bif (!(n50 == 4398046511104)) then
                  (some (decide (n50 < ((List.getD at_1 (Int.toNat (Int.tmod j_1 (((List.length at_1) : Nat) : Int))) 0) - (List.getD at_1 (Int.toNat (Int.tmod i_1 (((List.length at_1) : Nat) : Int))) 0)))))
                else
                  (some false)
            else
              bif (!(n50 == 4398046511104)) then
                (some (decide (n50 < ((List.getD at_1 (Int.toNat (Int.tmod j_1 (((List.length at_1) : Nat) : Int))) 0) - (List.getD at_1 (Int.toNat (Int.tmod i_1 (((List.length at_1) : Nat) : Int))) 0)))))
              else
                (some false) : Option ((Bool))) fun x226 =>
          bif x226 then
            (some false)
          else
            grd (okIdx 0 ((List.length at_1))) <|
            grd (okKin ((Int.toNat 0)) ((List.length at_1))) <|
            bif (!((List.getD at_1 (Int.toNat 0) 0) == 0)) then
              (some true)
            else
              Option.bind (m_bounds_Earliest std ((((List.length at_1) : Nat) : Int)) l_1) fun (l78, n52) =>
              Option.bind (
                bif (n52 == 0) then
                  Option.bind (loop (m_law45_BoundsKeeps_L1 std at_1 l78) 0) fun e => match e with
                  | .inl _ =>
                    (some (Sum.inl ()))
                  | .inr (_) =>
                    (some (Sum.inr ()))
                else
                  (some (Sum.inr ())) : Option (((Unit) ⊕ (Unit)))) fun e => match e with
              | .inl _ =>
                (some false)
              | .inr (_) =>
                Option.bind (m_slices_Max std at_1) fun n53 =>
                Option.bind (m_bounds_Latest std ((((List.length at_1) : Nat) : Int)) n53 l_1) fun (l79, n54) =>
                Option.bind (
                  bif (decide (n53 < 0)) then
                    (some true)
                  else
                    (some (decide (1073741824 < n53))) : Option ((Bool))) fun x231 =>
                bif x231 then
                  (some true)
                else
                  Option.bind (
                    bif (!(n54 == 0)) then
                      (some true)
                    else
                      (some (!((((List.length l79) : Nat) : Int) == (((List.length at_1) : Nat) : Int)))) : Option ((Bool))) fun x233 =>
                  bif x233 then
                    (some false)
                  else
                    Option.bind (loop (m_law45_BoundsKeeps_L2 std at_1 l79) 0) fun e => match e with
                    | .inl _ =>
                      (some false)
                    | .inr (_) =>
                      (some true)) : Option (Bool)) := rfl
end Go.Proofs.Ytegmjohhgedakaa
