/-
  Models of functions (printed by lift.py).
-/
import Derived.Test.YtkdffpncpikdmaaGreatManR
namespace Go.Proofs.YtkdffpncpikdmaaGreat
open Go.RowKit
set_option maxRecDepth 100000

def m_law35_rect (O : Ops) (a_1 : Int) (b_1 : Int) (c_1 : Int) (d_1 : Int) : Option (Int × Int × Int × Int) :=
  (some (a_1, b_1, c_1, d_1))
def m_rectangle_isSpan (O : Ops) (s_1 : Int) (s_2 : Int) : Option (Bool) :=
  Option.bind (
    bif (O .le (-62135596800) s_1) then
      bif (O .lt s_1 s_2) then
        (some (O .le s_2 253402300800))
      else
        (some false)
    else
      (some false) : Option ((Bool))) fun x4 =>
  (some x4)
def m_rectangle_Valid (O : Ops) (r_1 : Int) (r_2 : Int) (r_3 : Int) (r_4 : Int) : Option (Bool) :=
  Option.bind (
    Option.bind (m_rectangle_isSpan O r_1 r_2) fun b1 =>
    bif b1 then
      Option.bind (m_rectangle_isSpan O r_3 r_4) fun b2 =>
      (some b2)
    else
      (some false) : Option ((Bool))) fun x6 =>
  (some x6)
def m_rectangle_check_1 (O : Ops) (r_1 : Int) (r_2 : Int) (r_3 : Int) (r_4 : Int) : Option (Bool) :=
  Option.bind (m_rectangle_Valid O r_1 r_2 r_3 r_4) fun b3 =>
  (some (O .not b3))
def m_slices_IndexFunc_L1 (O : Ops) (s_1 : List (Int × Int × Int × Int)) : (Int) → Option ((Int) ⊕ ((Int) ⊕ (Unit))) := fun x1 =>
  bif (O .lt x1 (O .ofNat (O .len .i4 s_1))) then
    grd (okIdx x1 ((O .len .i4 s_1))) <|
    grd (okKin ((O .toNat x1)) ((O .len .i4 s_1))) <|
    Option.bind (m_rectangle_check_1 O (((O .get .i4 s_1 (O .toNat x1))).1) (((O .get .i4 s_1 (O .toNat x1))).2.1) (((O .get .i4 s_1 (O .toNat x1))).2.2.1) (((O .get .i4 s_1 (O .toNat x1))).2.2.2)) fun b4 =>
    bif b4 then
      (some (Sum.inr (Sum.inl x1)))
    else
      grd (okI .i64 ((O .add x1 1))) <|
      (some (Sum.inl (O .add x1 1)))
  else
    (some (Sum.inr (Sum.inr ())))
def m_slices_IndexFunc (O : Ops) (s_1 : List (Int × Int × Int × Int)) : Option (Int) :=
  Option.bind (loop (m_slices_IndexFunc_L1 O s_1) 0) fun e => match e with
  | .inl x7 =>
    (some x7)
  | .inr (_) =>
    (some (-1))
def m_slices_ContainsFunc (O : Ops) (s_1 : List (Int × Int × Int × Int)) : Option (Bool) :=
  Option.bind (m_slices_IndexFunc O s_1) fun n9 =>
  (some (O .le 0 n9))
def m_rectangle_check (O : Ops) (lists_1 : List (Int × Int × Int × Int)) (lists_2 : List (Int × Int × Int × Int)) : Option (Int) :=
  Option.bind (m_slices_ContainsFunc O lists_1) fun b5 =>
  bif b5 then
    (some 1)
  else
    grd (okI .i64 ((O .add 0 1))) <|
    Option.bind (m_slices_ContainsFunc O lists_2) fun b6 =>
    bif b6 then
      (some 1)
    else
      grd (okI .i64 ((O .add 1 1))) <|
      bif (O .lt 500 (O .ofNat (O .len .i4 lists_1))) then
        (some 5)
      else
        bif (O .lt 500 (O .ofNat (O .len .i4 lists_2))) then
          (some 5)
        else
          (some 0)
def m_slices_Concat (O : Ops) (slices_1 : List (Int × Int × Int × Int)) (slices_2 : List (Int × Int × Int × Int)) : Option (List (Int × Int × Int × Int)) :=
  grd (okI .i64 ((O .add 0 (O .ofNat (O .len .i4 slices_1))))) <|
  bif (O .lt (O .add 0 (O .ofNat (O .len .i4 slices_1))) 0) then
    none
  else
    grd (okI .i64 ((O .add 0 1))) <|
    grd (okI .i64 ((O .add (O .add 0 (O .ofNat (O .len .i4 slices_1))) (O .ofNat (O .len .i4 slices_2))))) <|
    bif (O .lt (O .add (O .add 0 (O .ofNat (O .len .i4 slices_1))) (O .ofNat (O .len .i4 slices_2))) 0) then
      none
    else
      grd (okI .i64 ((O .add 1 1))) <|
      Option.bind (m_grow_i4 O ((O .add (O .add 0 (O .ofNat (O .len .i4 slices_1))) (O .ofNat (O .len .i4 slices_2))))) fun l1 =>
      grd (okRoom ((O .len .i4 l1))) <|
      grd (okRoom ((O .len .i4 slices_1))) <|
      grd (okRoom ((O .len .i4 (O .app .i4 l1 slices_1)))) <|
      grd (okRoom ((O .len .i4 slices_2))) <|
      (some (O .app .i4 (O .app .i4 l1 slices_1) slices_2))
def m_interval_line (O : Ops) (x_1 : Int) : Option (Bool) :=
  Option.bind (
    bif (O .le (-4398046511104) x_1) then
      (some (O .le x_1 4398046511104))
    else
      (some false) : Option ((Bool))) fun x18 =>
  (some x18)
def m_interval_Valid (O : Ops) (s_1 : Int) (s_2 : Int) : Option (Bool) :=
  Option.bind (
    Option.bind (m_interval_line O s_1) fun b7 =>
    bif b7 then
      Option.bind (m_interval_line O s_2) fun b8 =>
      bif b8 then
        (some (O .lt s_1 s_2))
      else
        (some false)
    else
      (some false) : Option ((Bool))) fun x21 =>
  (some x21)
def m_runs_Of_1 (O : Ops) (s_1 : Int) (s_2 : Int) : Option (Bool) :=
  Option.bind (m_interval_Valid O s_1 s_2) fun b9 =>
  (some (O .not b9))
def m_slices_IndexFunc_2_L1 (O : Ops) (s_1 : List (Int × Int)) : (Int) → Option ((Int) ⊕ ((Int) ⊕ (Unit))) := fun x16 =>
  bif (O .lt x16 (O .ofNat (O .len .i2 s_1))) then
    grd (okIdx x16 ((O .len .i2 s_1))) <|
    grd (okKin ((O .toNat x16)) ((O .len .i2 s_1))) <|
    Option.bind (m_runs_Of_1 O (((O .get .i2 s_1 (O .toNat x16))).1) (((O .get .i2 s_1 (O .toNat x16))).2)) fun b10 =>
    bif b10 then
      (some (Sum.inr (Sum.inl x16)))
    else
      grd (okI .i64 ((O .add x16 1))) <|
      (some (Sum.inl (O .add x16 1)))
  else
    (some (Sum.inr (Sum.inr ())))
def m_slices_IndexFunc_2 (O : Ops) (s_1 : List (Int × Int)) : Option (Int) :=
  Option.bind (loop (m_slices_IndexFunc_2_L1 O s_1) 0) fun e => match e with
  | .inl x22 =>
    (some x22)
  | .inr (_) =>
    (some (-1))
def m_slices_ContainsFunc_2 (O : Ops) (s_1 : List (Int × Int)) : Option (Bool) :=
  Option.bind (m_slices_IndexFunc_2 O s_1) fun n11 =>
  (some (O .le 0 n11))
def m_runs_done (O : Ops) (l_1 : List (Int × Int)) : Option (((List (Int × Int) × Int) ⊕ (Int))) :=
  bif (O .lt 2000 (O .ofNat (O .len .i2 l_1))) then
    (some (Sum.inl (([] : List (Int × Int)), 5)))
  else
    (some (Sum.inr 0))
def m_runs_Of_L1 (O : Ops) (l14 : List (Int × Int)) : (Int × List (Int × Int)) → Option ((Int × List (Int × Int)) ⊕ (List (Int × Int))) := fun (x26, l17) =>
  bif (O .lt x26 (O .ofNat (O .len .i2 l14))) then
    grd (okIdx x26 ((O .len .i2 l14))) <|
    grd (okKin ((O .toNat x26)) ((O .len .i2 l14))) <|
    Option.bind (
      bif (O .lt 0 (O .ofNat (O .len .i2 l17))) then
        grd (okI .i64 ((O .sub (O .ofNat (O .len .i2 l17)) 1))) <|
        grd (okIdx ((O .sub (O .ofNat (O .len .i2 l17)) 1)) ((O .len .i2 l17))) <|
        grd (okKin ((O .toNat (O .sub (O .ofNat (O .len .i2 l17)) 1))) ((O .len .i2 l17))) <|
        (some (O .le ((O .get .i2 l14 (O .toNat x26))).1 ((O .get .i2 l17 (O .toNat (O .sub (O .ofNat (O .len .i2 l17)) 1)))).2))
      else
        (some false) : Option ((Bool))) fun x28 =>
    Option.bind (
      bif x28 then
        grd (okI .i64 ((O .sub (O .ofNat (O .len .i2 l17)) 1))) <|
        grd (okIdx ((O .sub (O .ofNat (O .len .i2 l17)) 1)) ((O .len .i2 l17))) <|
        grd (okKin ((O .toNat (O .sub (O .ofNat (O .len .i2 l17)) 1))) ((O .len .i2 l17))) <|
        (some (O .put .i2 l17 (O .toNat (O .sub (O .ofNat (O .len .i2 l17)) 1)) (((O .get .i2 l17 (O .toNat (O .sub (O .ofNat (O .len .i2 l17)) 1)))).1, (O .max ((O .get .i2 l17 (O .toNat (O .sub (O .ofNat (O .len .i2 l17)) 1)))).2 ((O .get .i2 l14 (O .toNat x26))).2))))
      else
        grd (okRoom ((O .len .i2 l17))) <|
        grd (okRoom ((O .len .i2 [(((O .get .i2 l14 (O .toNat x26))).1, ((O .get .i2 l14 (O .toNat x26))).2)]))) <|
        (some (O .app .i2 l17 [(((O .get .i2 l14 (O .toNat x26))).1, ((O .get .i2 l14 (O .toNat x26))).2)])) : Option ((List (Int × Int)))) fun l19 =>
    grd (okI .i64 ((O .add x26 1))) <|
    (some (Sum.inl ((O .add x26 1), l19)))
  else
    (some (Sum.inr l17))
def m_runs_Of (O : Ops) (l_1 : List (Int × Int)) : Option (List (Int × Int) × Int) :=
  Option.bind (m_slices_ContainsFunc_2 O l_1) fun b11 =>
  bif b11 then
    (some (([] : List (Int × Int)), 1))
  else
    Option.bind (m_clone_i2 O l_1) fun l13 =>
    Option.bind (m_sortSp O l13) fun l14 =>
    Option.bind (loop (m_runs_Of_L1 O l14) (0, ([] : List (Int × Int)))) fun l20 =>
    Option.bind (
      Option.bind (m_runs_done O l20) fun e => match e with
      | .inl (l21, n12) =>
        (some (n12, l21))
      | .inr (n13) =>
        (some (n13, l20)) : Option ((Int × List (Int × Int)))) fun (x30, l23) =>
    (some (l23, x30))
def m_rectangle_times_L1 (O : Ops) (l_1 : List (Int × Int × Int × Int)) (tx_1 : Int) : (Int × List (Int × Int)) → Option ((Int × List (Int × Int)) ⊕ (List (Int × Int))) := fun (x13, l9) =>
  bif (O .lt x13 (O .ofNat (O .len .i4 l_1))) then
    grd (okIdx x13 ((O .len .i4 l_1))) <|
    grd (okKin ((O .toNat x13)) ((O .len .i4 l_1))) <|
    Option.bind (
      bif (O .le ((O .get .i4 l_1 (O .toNat x13))).2.2.1 tx_1) then
        (some (O .lt tx_1 ((O .get .i4 l_1 (O .toNat x13))).2.2.2))
      else
        (some false) : Option ((Bool))) fun x15 =>
    Option.bind (
      bif x15 then
        grd (okRoom ((O .len .i2 l9))) <|
        grd (okRoom ((O .len .i2 [(((O .get .i4 l_1 (O .toNat x13))).1, ((O .get .i4 l_1 (O .toNat x13))).2.1)]))) <|
        (some (O .app .i2 l9 [(((O .get .i4 l_1 (O .toNat x13))).1, ((O .get .i4 l_1 (O .toNat x13))).2.1)]))
      else
        (some l9) : Option ((List (Int × Int)))) fun l11 =>
    grd (okI .i64 ((O .add x13 1))) <|
    (some (Sum.inl ((O .add x13 1), l11)))
  else
    (some (Sum.inr l9))
def m_rectangle_times (O : Ops) (tx_1 : Int) (l_1 : List (Int × Int × Int × Int)) : Option (List (Int × Int)) :=
  Option.bind (loop (m_rectangle_times_L1 O l_1 tx_1) (0, ([] : List (Int × Int)))) fun l12 =>
  Option.bind (m_runs_Of O l12) fun (l24, _) =>
  (some l24)
def m_runs_Valid_L1 (O : Ops) (l_1 : List (Int × Int)) : (Int) → Option ((Int) ⊕ ((Unit) ⊕ (Unit))) := fun x31 =>
  bif (O .lt x31 (O .ofNat (O .len .i2 l_1))) then
    grd (okIdx x31 ((O .len .i2 l_1))) <|
    grd (okKin ((O .toNat x31)) ((O .len .i2 l_1))) <|
    Option.bind (
      Option.bind (m_interval_Valid O (((O .get .i2 l_1 (O .toNat x31))).1) (((O .get .i2 l_1 (O .toNat x31))).2)) fun b12 =>
      bif (O .not b12) then
        (some true)
      else
        bif (O .lt 0 x31) then
          grd (okI .i64 ((O .sub x31 1))) <|
          grd (okIdx ((O .sub x31 1)) ((O .len .i2 l_1))) <|
          grd (okKin ((O .toNat (O .sub x31 1))) ((O .len .i2 l_1))) <|
          (some (O .le ((O .get .i2 l_1 (O .toNat x31))).1 ((O .get .i2 l_1 (O .toNat (O .sub x31 1)))).2))
        else
          (some false) : Option ((Bool))) fun x34 =>
    bif x34 then
      (some (Sum.inr (Sum.inl ())))
    else
      grd (okI .i64 ((O .add x31 1))) <|
      (some (Sum.inl (O .add x31 1)))
  else
    (some (Sum.inr (Sum.inr ())))
def m_runs_Valid (O : Ops) (l_1 : List (Int × Int)) : Option (Bool) :=
  bif (O .lt 2000 (O .ofNat (O .len .i2 l_1))) then
    (some false)
  else
    Option.bind (loop (m_runs_Valid_L1 O l_1) 0) fun e => match e with
    | .inl _ =>
      (some false)
    | .inr (_) =>
      (some true)
def m_runs_combine_1 (O : Ops) (n_1 : Int) (l_1 : List (Int × Int)) : Option (Int) :=
  grd (okI .i64 ((O .mul 2 (O .ofNat (O .len .i2 l_1))))) <|
  bif (O .eq n_1 (O .mul 2 (O .ofNat (O .len .i2 l_1)))) then
    (some 8796093022208)
  else
    grd (okNz 2) <|
    bif (O .eq (O .rem n_1 2) 0) then
      grd (okI .i64 ((O .quo n_1 2))) <|
      grd (okIdx ((O .quo n_1 2)) ((O .len .i2 l_1))) <|
      grd (okKin ((O .toNat (O .quo n_1 2))) ((O .len .i2 l_1))) <|
      (some ((O .get .i2 l_1 (O .toNat (O .quo n_1 2)))).1)
    else
      grd (okI .i64 ((O .quo n_1 2))) <|
      grd (okIdx ((O .quo n_1 2)) ((O .len .i2 l_1))) <|
      grd (okKin ((O .toNat (O .quo n_1 2))) ((O .len .i2 l_1))) <|
      (some ((O .get .i2 l_1 (O .toNat (O .quo n_1 2)))).2)
def m_runs_Union_1 (O : Ops) (a_1 : Bool) (b_1 : Bool) : Option (Bool) :=
  Option.bind (
    bif a_1 then
      (some true)
    else
      (some b_1) : Option ((Bool))) fun x40 =>
  (some x40)
def m_runs_combine_L1 (O : Ops) (a_1 : List (Int × Int)) (b_1 : List (Int × Int)) : (Int × Int × Bool × Int × List (Int × Int)) → Option ((Int × Int × Bool × Int × List (Int × Int)) ⊕ (List (Int × Int))) := fun (i5, k4, inside2, from2, l29) =>
  Option.bind (
    bif (O .lt i5 (O .mul 2 (O .ofNat (O .len .i2 a_1)))) then
      grd (okI .i64 ((O .mul 2 (O .ofNat (O .len .i2 a_1))))) <|
      (some true)
    else
      grd (okI .i64 ((O .mul 2 (O .ofNat (O .len .i2 a_1))))) <|
      grd (okI .i64 ((O .mul 2 (O .ofNat (O .len .i2 b_1))))) <|
      (some (O .lt k4 (O .mul 2 (O .ofNat (O .len .i2 b_1))))) : Option ((Bool))) fun x42 =>
  bif x42 then
    Option.bind (m_runs_combine_1 O i5 a_1) fun n19 =>
    Option.bind (m_runs_combine_1 O k4 b_1) fun n20 =>
    Option.bind (m_runs_combine_1 O i5 a_1) fun n21 =>
    Option.bind (
      bif (O .eq n21 (O .min n19 n20)) then
        grd (okI .i64 ((O .add i5 1))) <|
        (some (O .add i5 1))
      else
        (some i5) : Option ((Int))) fun i7 =>
    Option.bind (m_runs_combine_1 O k4 b_1) fun n22 =>
    Option.bind (
      bif (O .eq n22 (O .min n19 n20)) then
        grd (okI .i64 ((O .add k4 1))) <|
        (some (O .add k4 1))
      else
        (some k4) : Option ((Int))) fun k6 =>
    grd (okNz 2) <|
    Option.bind (m_runs_Union_1 O ((O .eq (O .rem i7 2) 1)) ((O .eq (O .rem k6 2) 1))) fun b16 =>
    bif (O .beq b16 inside2) then
      (some (Sum.inl (i7, k6, inside2, from2, l29)))
    else
      Option.bind (
        bif inside2 then
          grd (okRoom ((O .len .i2 l29))) <|
          grd (okRoom ((O .len .i2 [(from2, (O .min n19 n20))]))) <|
          (some (O .app .i2 l29 [(from2, (O .min n19 n20))]))
        else
          (some l29) : Option ((List (Int × Int)))) fun l31 =>
      (some (Sum.inl (i7, k6, b16, (O .min n19 n20), l31)))
  else
    (some (Sum.inr l29))
def m_runs_combine (O : Ops) (a_1 : List (Int × Int)) (b_1 : List (Int × Int)) : Option (List (Int × Int) × Int) :=
  Option.bind (
    Option.bind (m_runs_Valid O a_1) fun b13 =>
    bif (O .not b13) then
      (some true)
    else
      Option.bind (m_runs_Valid O b_1) fun b14 =>
      (some (O .not b14)) : Option ((Bool))) fun x36 =>
  bif x36 then
    (some (([] : List (Int × Int)), 1))
  else
    Option.bind (loop (m_runs_combine_L1 O a_1 b_1) (0, 0, false, 0, ([] : List (Int × Int)))) fun l32 =>
    Option.bind (
      Option.bind (m_runs_done O l32) fun e => match e with
      | .inl (l33, n23) =>
        (some (n23, l33))
      | .inr (n24) =>
        (some (n24, l32)) : Option ((Int × List (Int × Int)))) fun (x44, l35) =>
    (some (l35, x44))
def m_runs_Union (O : Ops) (a_1 : List (Int × Int)) (b_1 : List (Int × Int)) : Option (List (Int × Int) × Int) :=
  Option.bind (m_runs_combine O a_1 b_1) fun (l36, n25) =>
  (some (l36, n25))
def m_slices_Equal_L1 (O : Ops) (s1_1 : List (Int × Int)) (s2_1 : List (Int × Int)) : (Int) → Option ((Int) ⊕ ((Unit) ⊕ (Unit))) := fun x45 =>
  bif (O .lt x45 (O .ofNat (O .len .i2 s1_1))) then
    grd (okIdx x45 ((O .len .i2 s1_1))) <|
    grd (okKin ((O .toNat x45)) ((O .len .i2 s1_1))) <|
    grd (okIdx x45 ((O .len .i2 s2_1))) <|
    grd (okKin ((O .toNat x45)) ((O .len .i2 s2_1))) <|
    bif (O .not (O .and (O .eq ((O .get .i2 s1_1 (O .toNat x45))).1 ((O .get .i2 s2_1 (O .toNat x45))).1) (O .eq ((O .get .i2 s1_1 (O .toNat x45))).2 ((O .get .i2 s2_1 (O .toNat x45))).2))) then
      (some (Sum.inr (Sum.inl ())))
    else
      grd (okI .i64 ((O .add x45 1))) <|
      (some (Sum.inl (O .add x45 1)))
  else
    (some (Sum.inr (Sum.inr ())))
def m_slices_Equal (O : Ops) (s1_1 : List (Int × Int)) (s2_1 : List (Int × Int)) : Option (Bool) :=
  bif (O .not (O .eq (O .ofNat (O .len .i2 s1_1)) (O .ofNat (O .len .i2 s2_1)))) then
    (some false)
  else
    Option.bind (loop (m_slices_Equal_L1 O s1_1 s2_1) 0) fun e => match e with
    | .inl _ =>
      (some false)
    | .inr (_) =>
      (some true)
def m_rectangle_combine_L1 (O : Ops) (l2 : List (Int × Int × Int × Int)) : (Int × List Int) → Option ((Int × List Int) ⊕ (List Int)) := fun (x9, l3) =>
  bif (O .lt x9 (O .ofNat (O .len .i4 l2))) then
    grd (okIdx x9 ((O .len .i4 l2))) <|
    grd (okKin ((O .toNat x9)) ((O .len .i4 l2))) <|
    grd (okRoom ((O .len .i1 l3))) <|
    grd (okRoom ((O .len .i1 [((O .get .i4 l2 (O .toNat x9))).2.2.1, ((O .get .i4 l2 (O .toNat x9))).2.2.2]))) <|
    grd (okI .i64 ((O .add x9 1))) <|
    (some (Sum.inl ((O .add x9 1), (O .app .i1 l3 [((O .get .i4 l2 (O .toNat x9))).2.2.1, ((O .get .i4 l2 (O .toNat x9))).2.2.2]))))
  else
    (some (Sum.inr l3))
def m_rectangle_combine_L2 (O : Ops) (i8 : Int) (l6 : List Int) : (Int × List (Int × Int × Int × Int)) → Option ((Int × List (Int × Int × Int × Int)) ⊕ (List (Int × Int × Int × Int))) := fun (k10, l47) =>
  bif (O .lt k10 (O .ofNat (O .len .i4 l47))) then
    grd (okIdx ((O .add i8 1)) ((O .len .i1 l6))) <|
    grd (okKin ((O .toNat (O .add i8 1))) ((O .len .i1 l6))) <|
    grd (okIdx k10 ((O .len .i4 l47))) <|
    grd (okKin ((O .toNat k10)) ((O .len .i4 l47))) <|
    grd (okI .i64 ((O .add k10 1))) <|
    (some (Sum.inl ((O .add k10 1), (O .put .i4 l47 (O .toNat k10) (((O .get .i4 l47 (O .toNat k10))).1, ((O .get .i4 l47 (O .toNat k10))).2.1, ((O .get .i4 l47 (O .toNat k10))).2.2.1, (O .get .i1 l6 (O .toNat (O .add i8 1))))))))
  else
    (some (Sum.inr l47))
def m_rectangle_combine_L3 (O : Ops) (i8 : Int) (l46 : List (Int × Int)) (l6 : List Int) : (Int × List (Int × Int × Int × Int)) → Option ((Int × List (Int × Int × Int × Int)) ⊕ (List (Int × Int × Int × Int))) := fun (x49, l49) =>
  bif (O .lt x49 (O .ofNat (O .len .i2 l46))) then
    grd (okIdx x49 ((O .len .i2 l46))) <|
    grd (okKin ((O .toNat x49)) ((O .len .i2 l46))) <|
    grd (okRng ((O .ofNat (O .len .i4 l49))) ((O .len .i4 l49))) <|
    grd (okRng ((O .ofNat (O .len .i4 l49))) ((O .toNat (O .ofNat (O .len .i4 l49))))) <|
    grd (okIdx ((O .add i8 1)) ((O .len .i1 l6))) <|
    grd (okKin ((O .toNat (O .add i8 1))) ((O .len .i1 l6))) <|
    grd (okRoom ((O .len .i4 (O .cut .i4 l49 0 (O .toNat (O .ofNat (O .len .i4 l49))))))) <|
    grd (okRoom ((O .len .i4 [(((O .get .i2 l46 (O .toNat x49))).1, ((O .get .i2 l46 (O .toNat x49))).2, (O .get .i1 l6 (O .toNat i8)), (O .get .i1 l6 (O .toNat (O .add i8 1))))]))) <|
    grd (okKin 0 ((O .len .i4 [(((O .get .i2 l46 (O .toNat x49))).1, ((O .get .i2 l46 (O .toNat x49))).2, (O .get .i1 l6 (O .toNat i8)), (O .get .i1 l6 (O .toNat (O .add i8 1))))]))) <|
    grd (okI .i64 ((O .add x49 1))) <|
    (some (Sum.inl ((O .add x49 1), (O .app .i4 (O .cut .i4 l49 0 (O .toNat (O .ofNat (O .len .i4 l49)))) [(((O .get .i2 l46 (O .toNat x49))).1, ((O .get .i2 l46 (O .toNat x49))).2, (O .get .i1 l6 (O .toNat i8)), (O .get .i1 l6 (O .toNat (O .add i8 1))))]))))
  else
    (some (Sum.inr l49))
def m_rectangle_combine_L4 (O : Ops) (a_1 : List (Int × Int × Int × Int)) (b_1 : List (Int × Int × Int × Int)) (l6 : List Int) : (Int × Int × List (Int × Int × Int × Int) × List (Int × Int)) → Option ((Int × Int × List (Int × Int × Int × Int) × List (Int × Int)) ⊕ ((Int) ⊕ (List (Int × Int × Int × Int)))) := fun (start2, i8, l42, l43) =>
  grd (okI .i64 ((O .add i8 1))) <|
  bif (O .lt (O .add i8 1) (O .ofNat (O .len .i1 l6))) then
    grd (okIdx i8 ((O .len .i1 l6))) <|
    grd (okKin ((O .toNat i8)) ((O .len .i1 l6))) <|
    Option.bind (m_rectangle_times O ((O .get .i1 l6 (O .toNat i8))) a_1) fun l44 =>
    Option.bind (m_rectangle_times O ((O .get .i1 l6 (O .toNat i8))) b_1) fun l45 =>
    Option.bind (m_runs_Union O l44 l45) fun (l46, n27) =>
    bif (O .not (O .eq n27 0)) then
      (some (Sum.inr (Sum.inl n27)))
    else
      Option.bind (m_slices_Equal O l46 l43) fun b18 =>
      bif b18 then
        Option.bind (loop (m_rectangle_combine_L2 O i8 l6) (start2, l42)) fun l48 =>
        (some (Sum.inl (start2, (O .add i8 1), l48, l43)))
      else
        Option.bind (loop (m_rectangle_combine_L3 O i8 l46 l6) (0, l42)) fun l50 =>
        bif (O .lt 500 (O .ofNat (O .len .i4 l50))) then
          (some (Sum.inr (Sum.inl 5)))
        else
          (some (Sum.inl ((O .ofNat (O .len .i4 l42)), (O .add i8 1), l50, l46)))
  else
    (some (Sum.inr (Sum.inr l42)))
def m_rectangle_combine (O : Ops) (a_1 : List (Int × Int × Int × Int)) (b_1 : List (Int × Int × Int × Int)) : Option (List (Int × Int × Int × Int) × Int) :=
  Option.bind (m_rectangle_check O a_1 b_1) fun n10 =>
  bif (O .not (O .eq n10 0)) then
    (some (([] : List (Int × Int × Int × Int)), n10))
  else
    Option.bind (m_slices_Concat O a_1 b_1) fun l2 =>
    Option.bind (loop (m_rectangle_combine_L1 O l2) (0, ([] : List Int))) fun l4 =>
    Option.bind (m_sortI O l4) fun l5 =>
    Option.bind (m_compI O l5) fun l6 =>
    Option.bind (loop (m_rectangle_combine_L4 O a_1 b_1 l6) (0, 0, ([] : List (Int × Int × Int × Int)), ([] : List (Int × Int)))) fun e => match e with
    | .inl x51 =>
      (some (([] : List (Int × Int × Int × Int)), x51))
    | .inr (l51) =>
      (some (l51, 0))
def m_rectangle_Canonical (O : Ops) (l_1 : List (Int × Int × Int × Int)) : Option (List (Int × Int × Int × Int) × Int) :=
  Option.bind (m_rectangle_combine O l_1 (([] : List (Int × Int × Int × Int)))) fun (l52, n28) =>
  (some (l52, n28))
def m_slices_Equal_2_L1 (O : Ops) (s1_1 : List (Int × Int × Int × Int)) (s2_1 : List (Int × Int × Int × Int)) : (Int) → Option ((Int) ⊕ ((Unit) ⊕ (Unit))) := fun x52 =>
  bif (O .lt x52 (O .ofNat (O .len .i4 s1_1))) then
    grd (okIdx x52 ((O .len .i4 s1_1))) <|
    grd (okKin ((O .toNat x52)) ((O .len .i4 s1_1))) <|
    grd (okIdx x52 ((O .len .i4 s2_1))) <|
    grd (okKin ((O .toNat x52)) ((O .len .i4 s2_1))) <|
    bif (O .not (O .and (O .eq ((O .get .i4 s1_1 (O .toNat x52))).1 ((O .get .i4 s2_1 (O .toNat x52))).1) (O .and (O .eq ((O .get .i4 s1_1 (O .toNat x52))).2.1 ((O .get .i4 s2_1 (O .toNat x52))).2.1) (O .and (O .eq ((O .get .i4 s1_1 (O .toNat x52))).2.2.1 ((O .get .i4 s2_1 (O .toNat x52))).2.2.1) (O .eq ((O .get .i4 s1_1 (O .toNat x52))).2.2.2 ((O .get .i4 s2_1 (O .toNat x52))).2.2.2))))) then
      (some (Sum.inr (Sum.inl ())))
    else
      grd (okI .i64 ((O .add x52 1))) <|
      (some (Sum.inl (O .add x52 1)))
  else
    (some (Sum.inr (Sum.inr ())))
def m_slices_Equal_2 (O : Ops) (s1_1 : List (Int × Int × Int × Int)) (s2_1 : List (Int × Int × Int × Int)) : Option (Bool) :=
  bif (O .not (O .eq (O .ofNat (O .len .i4 s1_1)) (O .ofNat (O .len .i4 s2_1)))) then
    (some false)
  else
    Option.bind (loop (m_slices_Equal_2_L1 O s1_1 s2_1) 0) fun e => match e with
    | .inl _ =>
      (some false)
    | .inr (_) =>
      (some true)
def m_law35_awake (O : Ops) : Option (Bool) :=
  Option.bind (m_law35_rect O 5 15 5 10) fun (n1, n2, n3, n4) =>
  Option.bind (m_law35_rect O 0 10 0 10) fun (n5, n6, n7, n8) =>
  Option.bind (m_rectangle_Canonical O ([(n1, n2, n3, n4), (n5, n6, n7, n8)])) fun (l53, n29) =>
  Option.bind (
    bif (O .eq n29 0) then
      Option.bind (m_law35_rect O 0 10 0 5) fun (n30, n31, n32, n33) =>
      Option.bind (m_law35_rect O 0 15 5 10) fun (n34, n35, n36, n37) =>
      Option.bind (m_slices_Equal_2 O l53 ([(n30, n31, n32, n33), (n34, n35, n36, n37)])) fun b19 =>
      (some b19)
    else
      (some false) : Option ((Bool))) fun x54 =>
  (some x54)
def m_law35_few_1 (O : Ops) (l_1 : List (Int × Int × Int × Int)) : Option (Bool) :=
  (some (O .lt 30 (O .ofNat (O .len .i4 l_1))))
def m_slices_IndexFunc_3 (O : Ops) (s_1 : List (Int × Int × Int × Int)) : Option (Int) :=
  Option.bind (m_law35_few_1 O s_1) fun b21 =>
  bif b21 then
    (some 0)
  else
    grd (okI .i64 ((O .add 0 1))) <|
    (some (-1))
def m_slices_ContainsFunc_3 (O : Ops) (s_1 : List (Int × Int × Int × Int)) : Option (Bool) :=
  Option.bind (m_slices_IndexFunc_3 O s_1) fun n38 =>
  (some (O .le 0 n38))
def m_law35_few (O : Ops) (lists_1 : List (Int × Int × Int × Int)) : Option (Bool) :=
  Option.bind (m_slices_ContainsFunc_3 O lists_1) fun b22 =>
  (some (O .not b22))
def m_ref35_Span (O : Ops) (s_1 : Int) (s_2 : Int) : Option (Bool) :=
  Option.bind (
    bif (O .le (-62135596800) s_1) then
      bif (O .lt s_1 s_2) then
        (some (O .le s_2 253402300800))
      else
        (some false)
    else
      (some false) : Option ((Bool))) fun x57 =>
  (some x57)
def m_ref35_Valid (O : Ops) (r_1 : Int) (r_2 : Int) (r_3 : Int) (r_4 : Int) : Option (Bool) :=
  Option.bind (
    Option.bind (m_ref35_Span O r_1 r_2) fun b24 =>
    bif b24 then
      Option.bind (m_ref35_Span O r_3 r_4) fun b25 =>
      (some b25)
    else
      (some false) : Option ((Bool))) fun x59 =>
  (some x59)
def m_ref35_List_L1 (O : Ops) (l_1 : List (Int × Int × Int × Int)) : (Int) → Option ((Int) ⊕ ((Unit) ⊕ (Unit))) := fun i9 =>
  bif (O .lt i9 (O .ofNat (O .len .i4 l_1))) then
    grd (okIdx i9 ((O .len .i4 l_1))) <|
    grd (okKin ((O .toNat i9)) ((O .len .i4 l_1))) <|
    Option.bind (m_ref35_Valid O (((O .get .i4 l_1 (O .toNat i9))).1) (((O .get .i4 l_1 (O .toNat i9))).2.1) (((O .get .i4 l_1 (O .toNat i9))).2.2.1) (((O .get .i4 l_1 (O .toNat i9))).2.2.2)) fun b26 =>
    bif (O .not b26) then
      (some (Sum.inr (Sum.inl ())))
    else
      grd (okI .i64 ((O .add i9 1))) <|
      (some (Sum.inl (O .add i9 1)))
  else
    (some (Sum.inr (Sum.inr ())))
def m_ref35_List (O : Ops) (l_1 : List (Int × Int × Int × Int)) : Option (Bool) :=
  Option.bind (loop (m_ref35_List_L1 O l_1) 0) fun e => match e with
  | .inl _ =>
    (some false)
  | .inr (_) =>
    (some true)
def m_rectangle_check_2 (O : Ops) (lists_1 : List (Int × Int × Int × Int)) : Option (Int) :=
  Option.bind (m_slices_ContainsFunc O lists_1) fun b28 =>
  bif b28 then
    (some 1)
  else
    grd (okI .i64 ((O .add 0 1))) <|
    bif (O .lt 500 (O .ofNat (O .len .i4 lists_1))) then
      (some 5)
    else
      (some 0)
def m_rectangle_Has_1 (O : Ops) (r_1 : Int) (r_2 : Int) (r_3 : Int) (r_4 : Int) (x_1 : Int) (x_2 : Int) : Option (Bool) :=
  Option.bind (
    bif (O .le r_1 x_1) then
      bif (O .lt x_1 r_2) then
        bif (O .le r_3 x_2) then
          (some (O .lt x_2 r_4))
        else
          (some false)
      else
        (some false)
    else
      (some false) : Option ((Bool))) fun x64 =>
  (some x64)
def m_slices_IndexFunc_4_L1 (O : Ops) (c_1 : Int) (c_2 : Int) (s_1 : List (Int × Int × Int × Int)) : (Int) → Option ((Int) ⊕ ((Int) ⊕ (Unit))) := fun x60 =>
  bif (O .lt x60 (O .ofNat (O .len .i4 s_1))) then
    grd (okIdx x60 ((O .len .i4 s_1))) <|
    grd (okKin ((O .toNat x60)) ((O .len .i4 s_1))) <|
    Option.bind (m_rectangle_Has_1 O (((O .get .i4 s_1 (O .toNat x60))).1) (((O .get .i4 s_1 (O .toNat x60))).2.1) (((O .get .i4 s_1 (O .toNat x60))).2.2.1) (((O .get .i4 s_1 (O .toNat x60))).2.2.2) c_1 c_2) fun b29 =>
    bif b29 then
      (some (Sum.inr (Sum.inl x60)))
    else
      grd (okI .i64 ((O .add x60 1))) <|
      (some (Sum.inl (O .add x60 1)))
  else
    (some (Sum.inr (Sum.inr ())))
def m_slices_IndexFunc_4 (O : Ops) (s_1 : List (Int × Int × Int × Int)) (c_1 : Int) (c_2 : Int) : Option (Int) :=
  Option.bind (loop (m_slices_IndexFunc_4_L1 O c_1 c_2 s_1) 0) fun e => match e with
  | .inl x65 =>
    (some x65)
  | .inr (_) =>
    (some (-1))
def m_slices_ContainsFunc_4 (O : Ops) (s_1 : List (Int × Int × Int × Int)) (c_1 : Int) (c_2 : Int) : Option (Bool) :=
  Option.bind (m_slices_IndexFunc_4 O s_1 c_1 c_2) fun n40 =>
  (some (O .le 0 n40))
def m_rectangle_Has (O : Ops) (valid_1 : Int) (tx_1 : Int) (l_1 : List (Int × Int × Int × Int)) : Option (Bool) :=
  Option.bind (
    Option.bind (m_rectangle_check_2 O l_1) fun n39 =>
    bif (O .eq n39 0) then
      Option.bind (m_slices_ContainsFunc_4 O l_1 valid_1 tx_1) fun b30 =>
      (some b30)
    else
      (some false) : Option ((Bool))) fun x67 =>
  (some x67)
def m_rectangle_At (O : Ops) (tx_1 : Int) (l_1 : List (Int × Int × Int × Int)) : Option (List (Int × Int)) :=
  Option.bind (m_rectangle_check_2 O l_1) fun n41 =>
  bif (O .not (O .eq n41 0)) then
    (some ([] : List (Int × Int)))
  else
    Option.bind (m_rectangle_times O tx_1 l_1) fun l54 =>
    (some l54)
def m_rectangle_During_L1 (O : Ops) (l_1 : List (Int × Int × Int × Int)) : (Int × List (Int × Int × Int × Int)) → Option ((Int × List (Int × Int × Int × Int)) ⊕ (List (Int × Int × Int × Int))) := fun (x69, l56) =>
  bif (O .lt x69 (O .ofNat (O .len .i4 l_1))) then
    grd (okIdx x69 ((O .len .i4 l_1))) <|
    grd (okKin ((O .toNat x69)) ((O .len .i4 l_1))) <|
    grd (okRoom ((O .len .i4 l56))) <|
    grd (okRoom ((O .len .i4 [(((O .get .i4 l_1 (O .toNat x69))).2.2.1, ((O .get .i4 l_1 (O .toNat x69))).2.2.2, ((O .get .i4 l_1 (O .toNat x69))).1, ((O .get .i4 l_1 (O .toNat x69))).2.1)]))) <|
    grd (okI .i64 ((O .add x69 1))) <|
    (some (Sum.inl ((O .add x69 1), (O .app .i4 l56 [(((O .get .i4 l_1 (O .toNat x69))).2.2.1, ((O .get .i4 l_1 (O .toNat x69))).2.2.2, ((O .get .i4 l_1 (O .toNat x69))).1, ((O .get .i4 l_1 (O .toNat x69))).2.1)]))))
  else
    (some (Sum.inr l56))
def m_rectangle_During (O : Ops) (valid_1 : Int) (l_1 : List (Int × Int × Int × Int)) : Option (List (Int × Int)) :=
  Option.bind (m_rectangle_check_2 O l_1) fun n42 =>
  bif (O .not (O .eq n42 0)) then
    (some ([] : List (Int × Int)))
  else
    Option.bind (loop (m_rectangle_During_L1 O l_1) (0, ([] : List (Int × Int × Int × Int)))) fun l57 =>
    Option.bind (m_rectangle_times O valid_1 l57) fun l58 =>
    (some l58)
def m_runs_Measure_L1 (O : Ops) (a_1 : List (Int × Int)) : (Int × Int) → Option ((Int × Int) ⊕ (Int)) := fun (n44, x72) =>
  bif (O .lt x72 (O .ofNat (O .len .i2 a_1))) then
    grd (okIdx x72 ((O .len .i2 a_1))) <|
    grd (okKin ((O .toNat x72)) ((O .len .i2 a_1))) <|
    grd (okI .i64 ((O .sub ((O .get .i2 a_1 (O .toNat x72))).2 ((O .get .i2 a_1 (O .toNat x72))).1))) <|
    grd (okI .i64 ((O .add n44 (O .sub ((O .get .i2 a_1 (O .toNat x72))).2 ((O .get .i2 a_1 (O .toNat x72))).1)))) <|
    grd (okI .i64 ((O .add x72 1))) <|
    (some (Sum.inl ((O .add n44 (O .sub ((O .get .i2 a_1 (O .toNat x72))).2 ((O .get .i2 a_1 (O .toNat x72))).1)), (O .add x72 1))))
  else
    (some (Sum.inr n44))
def m_runs_Measure (O : Ops) (a_1 : List (Int × Int)) : Option (Int) :=
  Option.bind (m_runs_Valid O a_1) fun b32 =>
  bif (O .not b32) then
    (some 0)
  else
    Option.bind (loop (m_runs_Measure_L1 O a_1) (0, 0)) fun n45 =>
    (some n45)
def m_rectangle_Area_L1 (O : Ops) (l_1 : List (Int × Int × Int × Int)) : (Int × List Int) → Option ((Int × List Int) ⊕ (List Int)) := fun (x71, l60) =>
  bif (O .lt x71 (O .ofNat (O .len .i4 l_1))) then
    grd (okIdx x71 ((O .len .i4 l_1))) <|
    grd (okKin ((O .toNat x71)) ((O .len .i4 l_1))) <|
    grd (okRoom ((O .len .i1 l60))) <|
    grd (okRoom ((O .len .i1 [((O .get .i4 l_1 (O .toNat x71))).2.2.1, ((O .get .i4 l_1 (O .toNat x71))).2.2.2]))) <|
    grd (okI .i64 ((O .add x71 1))) <|
    (some (Sum.inl ((O .add x71 1), (O .app .i1 l60 [((O .get .i4 l_1 (O .toNat x71))).2.2.1, ((O .get .i4 l_1 (O .toNat x71))).2.2.2]))))
  else
    (some (Sum.inr l60))
def m_rectangle_Area_L2 (O : Ops) (l63 : List Int) (l_1 : List (Int × Int × Int × Int)) : (Int × Int) → Option ((Int × Int) ⊕ ((Unit) ⊕ (Int))) := fun (sum2, i11) =>
  grd (okI .i64 ((O .add i11 1))) <|
  bif (O .lt (O .add i11 1) (O .ofNat (O .len .i1 l63))) then
    grd (okIdx ((O .add i11 1)) ((O .len .i1 l63))) <|
    grd (okKin ((O .toNat (O .add i11 1))) ((O .len .i1 l63))) <|
    grd (okIdx i11 ((O .len .i1 l63))) <|
    grd (okKin ((O .toNat i11)) ((O .len .i1 l63))) <|
    grd (okI .i64 ((O .sub (O .get .i1 l63 (O .toNat (O .add i11 1))) (O .get .i1 l63 (O .toNat i11))))) <|
    grd (okI .u64 ((O .sub (O .get .i1 l63 (O .toNat (O .add i11 1))) (O .get .i1 l63 (O .toNat i11))))) <|
    Option.bind (m_rectangle_times O ((O .get .i1 l63 (O .toNat i11))) l_1) fun l65 =>
    Option.bind (m_runs_Measure O l65) fun n51 =>
    grd (okI .u64 n51) <|
    Option.bind (m_bits_Mul64 O ((O .sub (O .get .i1 l63 (O .toNat (O .add i11 1))) (O .get .i1 l63 (O .toNat i11)))) n51) fun (n52, n53) =>
    Option.bind (m_bits_Add64 O sum2 n53 0) fun (n54, n55) =>
    Option.bind (
      bif (O .not (O .eq n52 0)) then
        (some true)
      else
        bif (O .not (O .eq n55 0)) then
          (some true)
        else
          (some (O .lt 9223372036854775807 n54)) : Option ((Bool))) fun x76 =>
    bif x76 then
      (some (Sum.inr (Sum.inl ())))
    else
      (some (Sum.inl (n54, (O .add i11 1))))
  else
    (some (Sum.inr (Sum.inr sum2)))
def m_rectangle_Area (O : Ops) (l_1 : List (Int × Int × Int × Int)) : Option (Int) :=
  Option.bind (m_rectangle_check_2 O l_1) fun n43 =>
  bif (O .not (O .eq n43 0)) then
    (some (-1))
  else
    Option.bind (loop (m_rectangle_Area_L1 O l_1) (0, ([] : List Int))) fun l61 =>
    Option.bind (m_sortI O l61) fun l62 =>
    Option.bind (m_compI O l62) fun l63 =>
    Option.bind (loop (m_rectangle_Area_L2 O l63 l_1) (0, 0)) fun e => match e with
    | .inl _ =>
      (some (-1))
    | .inr (sum3) =>
      grd (okI .i64 sum3) <|
      (some sum3)
def m_ref35_Has_L1 (O : Ops) (l_1 : List (Int × Int × Int × Int)) (tx_1 : Int) (valid_1 : Int) : (Int) → Option ((Int) ⊕ ((Unit) ⊕ (Unit))) := fun i12 =>
  bif (O .lt i12 (O .ofNat (O .len .i4 l_1))) then
    Option.bind (
      bif (O .le ((O .get .i4 l_1 (O .toNat i12))).1 valid_1) then
        bif (O .lt valid_1 ((O .get .i4 l_1 (O .toNat i12))).2.1) then
          bif (O .le ((O .get .i4 l_1 (O .toNat i12))).2.2.1 tx_1) then
            grd (okIdx i12 ((O .len .i4 l_1))) <|
            grd (okKin ((O .toNat i12)) ((O .len .i4 l_1))) <|
            (some (O .lt tx_1 ((O .get .i4 l_1 (O .toNat i12))).2.2.2))
          else
            grd (okIdx i12 ((O .len .i4 l_1))) <|
            grd (okKin ((O .toNat i12)) ((O .len .i4 l_1))) <|
            (some false)
        else
          grd (okIdx i12 ((O .len .i4 l_1))) <|
          grd (okKin ((O .toNat i12)) ((O .len .i4 l_1))) <|
          (some false)
      else
        grd (okIdx i12 ((O .len .i4 l_1))) <|
        grd (okKin ((O .toNat i12)) ((O .len .i4 l_1))) <|
        (some false) : Option ((Bool))) fun x84 =>
    bif x84 then
      (some (Sum.inr (Sum.inl ())))
    else
      grd (okI .i64 ((O .add i12 1))) <|
      (some (Sum.inl (O .add i12 1)))
  else
    (some (Sum.inr (Sum.inr ())))
def m_ref35_Has (O : Ops) (valid_1 : Int) (tx_1 : Int) (l_1 : List (Int × Int × Int × Int)) : Option (Bool) :=
  Option.bind (loop (m_ref35_Has_L1 O l_1 tx_1 valid_1) 0) fun e => match e with
  | .inl _ =>
    (some true)
  | .inr (_) =>
    (some false)
def m_ref12_Number (O : Ops) (x_1 : Int) : Option (Bool) :=
  Option.bind (
    bif (O .le (-4398046511104) x_1) then
      (some (O .le x_1 4398046511104))
    else
      (some false) : Option ((Bool))) fun x90 =>
  (some x90)
def m_ref12_Span (O : Ops) (s_1 : Int) (s_2 : Int) : Option (Bool) :=
  Option.bind (
    Option.bind (m_ref12_Number O s_1) fun b35 =>
    bif b35 then
      Option.bind (m_ref12_Number O s_2) fun b36 =>
      bif b36 then
        (some (O .lt s_1 s_2))
      else
        (some false)
    else
      (some false) : Option ((Bool))) fun x93 =>
  (some x93)
def m_ref12_Spans_L1 (O : Ops) (l_1 : List (Int × Int)) : (Int) → Option ((Int) ⊕ ((Unit) ⊕ (Unit))) := fun i15 =>
  bif (O .lt i15 (O .ofNat (O .len .i2 l_1))) then
    grd (okIdx i15 ((O .len .i2 l_1))) <|
    grd (okKin ((O .toNat i15)) ((O .len .i2 l_1))) <|
    Option.bind (m_ref12_Span O (((O .get .i2 l_1 (O .toNat i15))).1) (((O .get .i2 l_1 (O .toNat i15))).2)) fun b37 =>
    bif (O .not b37) then
      (some (Sum.inr (Sum.inl ())))
    else
      grd (okI .i64 ((O .add i15 1))) <|
      (some (Sum.inl (O .add i15 1)))
  else
    (some (Sum.inr (Sum.inr ())))
def m_ref12_Spans (O : Ops) (l_1 : List (Int × Int)) : Option (Bool) :=
  Option.bind (loop (m_ref12_Spans_L1 O l_1) 0) fun e => match e with
  | .inl _ =>
    (some false)
  | .inr (_) =>
    (some true)
def m_ref12_Ends_L1 (O : Ops) (i23 : Int) (l77 : List Int) (l_1 : List (Int × Int)) : (Int) → Option ((Int) ⊕ (Int)) := fun i25 =>
  Option.bind (
    bif (O .lt 0 i25) then
      grd (okI .i64 ((O .sub i25 1))) <|
      grd (okIdx ((O .sub i25 1)) ((O .len .i1 l77))) <|
      grd (okKin ((O .toNat (O .sub i25 1))) ((O .len .i1 l77))) <|
      (some (O .le ((O .get .i2 l_1 (O .toNat i23))).1 (O .get .i1 l77 (O .toNat (O .sub i25 1)))))
    else
      (some false) : Option ((Bool))) fun x109 =>
  bif x109 then
    grd (okI .i64 ((O .sub i25 1))) <|
    (some (Sum.inl (O .sub i25 1)))
  else
    (some (Sum.inr i25))
def m_ref12_Ends_L2 (O : Ops) (i23 : Int) (l79 : List Int) (l_1 : List (Int × Int)) : (Int) → Option ((Int) ⊕ (Int)) := fun i28 =>
  Option.bind (
    bif (O .lt 0 i28) then
      grd (okI .i64 ((O .sub i28 1))) <|
      grd (okIdx ((O .sub i28 1)) ((O .len .i1 l79))) <|
      grd (okKin ((O .toNat (O .sub i28 1))) ((O .len .i1 l79))) <|
      (some (O .le ((O .get .i2 l_1 (O .toNat i23))).2 (O .get .i1 l79 (O .toNat (O .sub i28 1)))))
    else
      (some false) : Option ((Bool))) fun x115 =>
  bif x115 then
    grd (okI .i64 ((O .sub i28 1))) <|
    (some (Sum.inl (O .sub i28 1)))
  else
    (some (Sum.inr i28))
def m_ref12_Ends_L3 (O : Ops) (l_1 : List (Int × Int)) : (Int × List Int) → Option ((Int × List Int) ⊕ (List Int)) := fun (i23, l77) =>
  bif (O .lt i23 (O .ofNat (O .len .i2 l_1))) then
    Option.bind (
      grd (okIdx i23 ((O .len .i2 l_1))) <|
      grd (okKin ((O .toNat i23)) ((O .len .i2 l_1))) <|
      Option.bind (loop (m_ref12_Ends_L1 O i23 l77 l_1) (O .ofNat (O .len .i1 l77))) fun i26 =>
      Option.bind (
        bif (O .lt i26 (O .ofNat (O .len .i1 l77))) then
          grd (okIdx i26 ((O .len .i1 l77))) <|
          grd (okKin ((O .toNat i26)) ((O .len .i1 l77))) <|
          (some (O .eq (O .get .i1 l77 (O .toNat i26)) ((O .get .i2 l_1 (O .toNat i23))).1))
        else
          (some false) : Option ((Bool))) fun x111 =>
      bif x111 then
        (some l77)
      else
        grd (okRng i26 ((O .len .i1 l77))) <|
        grd (okRoom ((O .len .i1 []))) <|
        grd (okRoom ((O .len .i1 (O .cut .i1 l77 0 (O .toNat i26))))) <|
        grd (okRoom ((O .len .i1 (O .app .i1 [] (O .cut .i1 l77 0 (O .toNat i26)))))) <|
        grd (okRoom ((O .len .i1 [((O .get .i2 l_1 (O .toNat i23))).1]))) <|
        grd (okRoom ((O .len .i1 (O .app .i1 (O .app .i1 [] (O .cut .i1 l77 0 (O .toNat i26))) [((O .get .i2 l_1 (O .toNat i23))).1])))) <|
        grd (okRoom ((O .len .i1 (O .cut .i1 l77 (O .toNat i26) (O .len .i1 l77))))) <|
        (some (O .app .i1 (O .app .i1 (O .app .i1 [] (O .cut .i1 l77 0 (O .toNat i26))) [((O .get .i2 l_1 (O .toNat i23))).1]) (O .cut .i1 l77 (O .toNat i26) (O .len .i1 l77)))) : Option ((List Int))) fun l79 =>
    Option.bind (
      Option.bind (loop (m_ref12_Ends_L2 O i23 l79 l_1) (O .ofNat (O .len .i1 l79))) fun i29 =>
      Option.bind (
        bif (O .lt i29 (O .ofNat (O .len .i1 l79))) then
          grd (okIdx i29 ((O .len .i1 l79))) <|
          grd (okKin ((O .toNat i29)) ((O .len .i1 l79))) <|
          (some (O .eq (O .get .i1 l79 (O .toNat i29)) ((O .get .i2 l_1 (O .toNat i23))).2))
        else
          (some false) : Option ((Bool))) fun x117 =>
      bif x117 then
        (some l79)
      else
        grd (okRng i29 ((O .len .i1 l79))) <|
        grd (okRoom ((O .len .i1 []))) <|
        grd (okRoom ((O .len .i1 (O .cut .i1 l79 0 (O .toNat i29))))) <|
        grd (okRoom ((O .len .i1 (O .app .i1 [] (O .cut .i1 l79 0 (O .toNat i29)))))) <|
        grd (okRoom ((O .len .i1 [((O .get .i2 l_1 (O .toNat i23))).2]))) <|
        grd (okRoom ((O .len .i1 (O .app .i1 (O .app .i1 [] (O .cut .i1 l79 0 (O .toNat i29))) [((O .get .i2 l_1 (O .toNat i23))).2])))) <|
        grd (okRoom ((O .len .i1 (O .cut .i1 l79 (O .toNat i29) (O .len .i1 l79))))) <|
        (some (O .app .i1 (O .app .i1 (O .app .i1 [] (O .cut .i1 l79 0 (O .toNat i29))) [((O .get .i2 l_1 (O .toNat i23))).2]) (O .cut .i1 l79 (O .toNat i29) (O .len .i1 l79)))) : Option ((List Int))) fun l81 =>
    grd (okI .i64 ((O .add i23 1))) <|
    (some (Sum.inl ((O .add i23 1), l81)))
  else
    (some (Sum.inr l77))
def m_ref12_Ends (O : Ops) (l_1 : List (Int × Int)) : Option (List Int) :=
  Option.bind (loop (m_ref12_Ends_L3 O l_1) (0, ([] : List Int))) fun l82 =>
  (some l82)
def m_ref12_In_L1 (O : Ops) (l_1 : List (Int × Int)) (x_1 : Int) : (Int) → Option ((Int) ⊕ ((Unit) ⊕ (Unit))) := fun i31 =>
  bif (O .lt i31 (O .ofNat (O .len .i2 l_1))) then
    Option.bind (
      bif (O .le ((O .get .i2 l_1 (O .toNat i31))).1 x_1) then
        grd (okIdx i31 ((O .len .i2 l_1))) <|
        grd (okKin ((O .toNat i31)) ((O .len .i2 l_1))) <|
        (some (O .lt x_1 ((O .get .i2 l_1 (O .toNat i31))).2))
      else
        grd (okIdx i31 ((O .len .i2 l_1))) <|
        grd (okKin ((O .toNat i31)) ((O .len .i2 l_1))) <|
        (some false) : Option ((Bool))) fun x119 =>
    bif x119 then
      (some (Sum.inr (Sum.inl ())))
    else
      grd (okI .i64 ((O .add i31 1))) <|
      (some (Sum.inl (O .add i31 1)))
  else
    (some (Sum.inr (Sum.inr ())))
def m_ref12_In (O : Ops) (x_1 : Int) (l_1 : List (Int × Int)) : Option (Bool) :=
  Option.bind (loop (m_ref12_In_L1 O l_1 x_1) 0) fun e => match e with
  | .inl _ =>
    (some true)
  | .inr (_) =>
    (some false)
def m_ref12_keep (O : Ops) (kind_1 : Int) (a_1 : Bool) (b_1 : Bool) : Option (Bool) :=
  Option.bind (
    bif (O .eq kind_1 1) then
      Option.bind (
        bif a_1 then
          (some true)
        else
          (some b_1) : Option ((Bool))) fun x121 =>
      (some (Sum.inl x121))
    else
      Option.bind (
        bif (O .eq kind_1 2) then
          Option.bind (
            bif a_1 then
              (some b_1)
            else
              (some false) : Option ((Bool))) fun x123 =>
          (some (Sum.inl x123))
        else
          bif (O .eq kind_1 3) then
            Option.bind (
              bif a_1 then
                (some (O .not b_1))
              else
                (some false) : Option ((Bool))) fun x125 =>
            (some (Sum.inl x125))
          else
            (some (Sum.inr ())) : Option (((Bool) ⊕ (Unit)))) fun e => match e with
      | .inl x127 =>
        (some (Sum.inl x127))
      | .inr (_) =>
        (some (Sum.inr ())) : Option (((Bool) ⊕ (Unit)))) fun e => match e with
  | .inl x129 =>
    (some x129)
  | .inr (_) =>
    (some (O .not (O .beq a_1 b_1)))
def m_ref12_Combine_L1 (O : Ops) (a_1 : List (Int × Int)) (b_1 : List (Int × Int)) (kind_1 : Int) (l83 : List Int) : (Int × List (Int × Int)) → Option ((Int × List (Int × Int)) ⊕ (List (Int × Int))) := fun (i32, l88) =>
  grd (okI .i64 ((O .add i32 1))) <|
  bif (O .lt (O .add i32 1) (O .ofNat (O .len .i1 l83))) then
    grd (okIdx i32 ((O .len .i1 l83))) <|
    grd (okKin ((O .toNat i32)) ((O .len .i1 l83))) <|
    Option.bind (m_ref12_In O ((O .get .i1 l83 (O .toNat i32))) a_1) fun b42 =>
    Option.bind (m_ref12_In O ((O .get .i1 l83 (O .toNat i32))) b_1) fun b43 =>
    Option.bind (m_ref12_keep O kind_1 b42 b43) fun b44 =>
    Option.bind (
      bif b44 then
        Option.bind (
          grd (okIdx ((O .add i32 1)) ((O .len .i1 l83))) <|
          grd (okKin ((O .toNat (O .add i32 1))) ((O .len .i1 l83))) <|
          Option.bind (
            bif (O .lt 0 (O .ofNat (O .len .i2 l88))) then
              grd (okI .i64 ((O .sub (O .ofNat (O .len .i2 l88)) 1))) <|
              grd (okIdx ((O .sub (O .ofNat (O .len .i2 l88)) 1)) ((O .len .i2 l88))) <|
              grd (okKin ((O .toNat (O .sub (O .ofNat (O .len .i2 l88)) 1))) ((O .len .i2 l88))) <|
              (some (O .eq ((O .get .i2 l88 (O .toNat (O .sub (O .ofNat (O .len .i2 l88)) 1)))).2 (O .get .i1 l83 (O .toNat i32))))
            else
              (some false) : Option ((Bool))) fun x133 =>
          bif x133 then
            grd (okI .i64 ((O .sub (O .ofNat (O .len .i2 l88)) 1))) <|
            grd (okIdx ((O .sub (O .ofNat (O .len .i2 l88)) 1)) ((O .len .i2 l88))) <|
            grd (okKin ((O .toNat (O .sub (O .ofNat (O .len .i2 l88)) 1))) ((O .len .i2 l88))) <|
            (some (O .put .i2 l88 (O .toNat (O .sub (O .ofNat (O .len .i2 l88)) 1)) (((O .get .i2 l88 (O .toNat (O .sub (O .ofNat (O .len .i2 l88)) 1)))).1, (O .get .i1 l83 (O .toNat (O .add i32 1))))))
          else
            grd (okRoom ((O .len .i2 l88))) <|
            grd (okRoom ((O .len .i2 [((O .get .i1 l83 (O .toNat i32)), (O .get .i1 l83 (O .toNat (O .add i32 1))))]))) <|
            (some (O .app .i2 l88 [((O .get .i1 l83 (O .toNat i32)), (O .get .i1 l83 (O .toNat (O .add i32 1))))])) : Option ((List (Int × Int)))) fun l90 =>
        (some l90)
      else
        (some l88) : Option ((List (Int × Int)))) fun l92 =>
    (some (Sum.inl ((O .add i32 1), l92)))
  else
    (some (Sum.inr l88))
def m_ref12_Combine (O : Ops) (kind_1 : Int) (a_1 : List (Int × Int)) (b_1 : List (Int × Int)) : Option (List (Int × Int)) :=
  grd (okRoom ((O .len .i2 []))) <|
  grd (okRoom ((O .len .i2 a_1))) <|
  grd (okRoom ((O .len .i2 (O .app .i2 [] a_1)))) <|
  grd (okRoom ((O .len .i2 b_1))) <|
  Option.bind (m_ref12_Ends O ((O .app .i2 (O .app .i2 [] a_1) b_1))) fun l83 =>
  Option.bind (loop (m_ref12_Combine_L1 O a_1 b_1 kind_1 l83) (0, ([] : List (Int × Int)))) fun l93 =>
  (some l93)
def m_ref12_full (O : Ops) (l_1 : List (Int × Int)) : Option (((List (Int × Int) × Int) ⊕ (Int))) :=
  bif (O .lt 2000 (O .ofNat (O .len .i2 l_1))) then
    (some (Sum.inl (([] : List (Int × Int)), 5)))
  else
    (some (Sum.inr 0))
def m_ref12_Of (O : Ops) (l_1 : List (Int × Int)) : Option (List (Int × Int) × Int) :=
  Option.bind (m_ref12_Spans O l_1) fun b38 =>
  bif (O .not b38) then
    (some (([] : List (Int × Int)), 1))
  else
    Option.bind (
      Option.bind (m_ref12_Combine O 1 l_1 (([] : List (Int × Int)))) fun l94 =>
      Option.bind (m_ref12_full O l94) fun e => match e with
      | .inl (l95, n57) =>
        (some (n57, l95))
      | .inr (n58) =>
        (some (n58, l94)) : Option ((Int × List (Int × Int)))) fun (x135, l97) =>
    (some (l97, x135))
def m_ref35_At_L1 (O : Ops) (l_1 : List (Int × Int × Int × Int)) (tx_1 : Int) : (Int × List (Int × Int)) → Option ((Int × List (Int × Int)) ⊕ (List (Int × Int))) := fun (i14, l69) =>
  bif (O .lt i14 (O .ofNat (O .len .i4 l_1))) then
    Option.bind (
      bif (O .le ((O .get .i4 l_1 (O .toNat i14))).2.2.1 tx_1) then
        grd (okIdx i14 ((O .len .i4 l_1))) <|
        grd (okKin ((O .toNat i14)) ((O .len .i4 l_1))) <|
        (some (O .lt tx_1 ((O .get .i4 l_1 (O .toNat i14))).2.2.2))
      else
        grd (okIdx i14 ((O .len .i4 l_1))) <|
        grd (okKin ((O .toNat i14)) ((O .len .i4 l_1))) <|
        (some false) : Option ((Bool))) fun x88 =>
    Option.bind (
      bif x88 then
        grd (okRoom ((O .len .i2 l69))) <|
        grd (okRoom ((O .len .i2 [(((O .get .i4 l_1 (O .toNat i14))).1, ((O .get .i4 l_1 (O .toNat i14))).2.1)]))) <|
        (some (O .app .i2 l69 [(((O .get .i4 l_1 (O .toNat i14))).1, ((O .get .i4 l_1 (O .toNat i14))).2.1)]))
      else
        (some l69) : Option ((List (Int × Int)))) fun l71 =>
    grd (okI .i64 ((O .add i14 1))) <|
    (some (Sum.inl ((O .add i14 1), l71)))
  else
    (some (Sum.inr l69))
def m_ref35_At (O : Ops) (tx_1 : Int) (l_1 : List (Int × Int × Int × Int)) : Option (List (Int × Int)) :=
  Option.bind (loop (m_ref35_At_L1 O l_1 tx_1) (0, ([] : List (Int × Int)))) fun l72 =>
  Option.bind (m_ref12_Of O l72) fun (l98, _) =>
  (some l98)
def m_ref35_During_L1 (O : Ops) (l_1 : List (Int × Int × Int × Int)) (valid_1 : Int) : (Int × List (Int × Int)) → Option ((Int × List (Int × Int)) ⊕ (List (Int × Int))) := fun (i34, l103) =>
  bif (O .lt i34 (O .ofNat (O .len .i4 l_1))) then
    Option.bind (
      bif (O .le ((O .get .i4 l_1 (O .toNat i34))).1 valid_1) then
        grd (okIdx i34 ((O .len .i4 l_1))) <|
        grd (okKin ((O .toNat i34)) ((O .len .i4 l_1))) <|
        (some (O .lt valid_1 ((O .get .i4 l_1 (O .toNat i34))).2.1))
      else
        grd (okIdx i34 ((O .len .i4 l_1))) <|
        grd (okKin ((O .toNat i34)) ((O .len .i4 l_1))) <|
        (some false) : Option ((Bool))) fun x139 =>
    Option.bind (
      bif x139 then
        grd (okRoom ((O .len .i2 l103))) <|
        grd (okRoom ((O .len .i2 [(((O .get .i4 l_1 (O .toNat i34))).2.2.1, ((O .get .i4 l_1 (O .toNat i34))).2.2.2)]))) <|
        (some (O .app .i2 l103 [(((O .get .i4 l_1 (O .toNat i34))).2.2.1, ((O .get .i4 l_1 (O .toNat i34))).2.2.2)]))
      else
        (some l103) : Option ((List (Int × Int)))) fun l105 =>
    grd (okI .i64 ((O .add i34 1))) <|
    (some (Sum.inl ((O .add i34 1), l105)))
  else
    (some (Sum.inr l103))
def m_ref35_During (O : Ops) (valid_1 : Int) (l_1 : List (Int × Int × Int × Int)) : Option (List (Int × Int)) :=
  Option.bind (loop (m_ref35_During_L1 O l_1 valid_1) (0, ([] : List (Int × Int)))) fun l106 =>
  Option.bind (m_ref12_Of O l106) fun (l107, _) =>
  (some l107)
def m_ref35_put_L1 (O : Ops) (l_1 : List Int) (x_1 : Int) : (Bool × Int × List Int) → Option ((Bool × Int × List Int) ⊕ (Bool × List Int)) := fun (done4, i37, l113) =>
  bif (O .lt i37 (O .ofNat (O .len .i1 l_1))) then
    Option.bind (
      bif (O .not done4) then
        grd (okIdx i37 ((O .len .i1 l_1))) <|
        grd (okKin ((O .toNat i37)) ((O .len .i1 l_1))) <|
        (some (O .le x_1 (O .get .i1 l_1 (O .toNat i37))))
      else
        (some false) : Option ((Bool))) fun x149 =>
    Option.bind (
      bif x149 then
        grd (okIdx i37 ((O .len .i1 l_1))) <|
        grd (okKin ((O .toNat i37)) ((O .len .i1 l_1))) <|
        Option.bind (
          bif (O .lt x_1 (O .get .i1 l_1 (O .toNat i37))) then
            grd (okRoom ((O .len .i1 l113))) <|
            grd (okRoom ((O .len .i1 [x_1]))) <|
            (some (O .app .i1 l113 [x_1]))
          else
            (some l113) : Option ((List Int))) fun l115 =>
        (some (true, l115))
      else
        (some (done4, l113)) : Option ((Bool × List Int))) fun (done6, l117) =>
    grd (okIdx i37 ((O .len .i1 l_1))) <|
    grd (okKin ((O .toNat i37)) ((O .len .i1 l_1))) <|
    grd (okRoom ((O .len .i1 l117))) <|
    grd (okRoom ((O .len .i1 [(O .get .i1 l_1 (O .toNat i37))]))) <|
    grd (okI .i64 ((O .add i37 1))) <|
    (some (Sum.inl (done6, (O .add i37 1), (O .app .i1 l117 [(O .get .i1 l_1 (O .toNat i37))]))))
  else
    (some (Sum.inr (done4, l113)))
def m_ref35_put (O : Ops) (x_1 : Int) (l_1 : List Int) : Option (List Int) :=
  Option.bind (loop (m_ref35_put_L1 O l_1 x_1) (false, 0, ([] : List Int))) fun (done7, l118) =>
  Option.bind (
    bif (O .not done7) then
      grd (okRoom ((O .len .i1 l118))) <|
      grd (okRoom ((O .len .i1 [x_1]))) <|
      (some (O .app .i1 l118 [x_1]))
    else
      (some l118) : Option ((List Int))) fun l120 =>
  (some l120)
def m_ref35_ends_L1 (O : Ops) (a_1 : List (Int × Int × Int × Int)) : (Int × List Int) → Option ((Int × List Int) ⊕ (List Int)) := fun (i38, l123) =>
  bif (O .lt i38 (O .ofNat (O .len .i4 a_1))) then
    grd (okIdx i38 ((O .len .i4 a_1))) <|
    grd (okKin ((O .toNat i38)) ((O .len .i4 a_1))) <|
    Option.bind (m_ref35_put O (((O .get .i4 a_1 (O .toNat i38))).2.2.1) l123) fun l124 =>
    Option.bind (m_ref35_put O (((O .get .i4 a_1 (O .toNat i38))).2.2.2) l124) fun l125 =>
    grd (okI .i64 ((O .add i38 1))) <|
    (some (Sum.inl ((O .add i38 1), l125)))
  else
    (some (Sum.inr l123))
def m_ref35_ends_L2 (O : Ops) (b_1 : List (Int × Int × Int × Int)) : (Int × List Int) → Option ((Int × List Int) ⊕ (List Int)) := fun (i40, l129) =>
  bif (O .lt i40 (O .ofNat (O .len .i4 b_1))) then
    grd (okIdx i40 ((O .len .i4 b_1))) <|
    grd (okKin ((O .toNat i40)) ((O .len .i4 b_1))) <|
    Option.bind (m_ref35_put O (((O .get .i4 b_1 (O .toNat i40))).2.2.1) l129) fun l130 =>
    Option.bind (m_ref35_put O (((O .get .i4 b_1 (O .toNat i40))).2.2.2) l130) fun l131 =>
    grd (okI .i64 ((O .add i40 1))) <|
    (some (Sum.inl ((O .add i40 1), l131)))
  else
    (some (Sum.inr l129))
def m_ref35_ends (O : Ops) (a_1 : List (Int × Int × Int × Int)) (b_1 : List (Int × Int × Int × Int)) : Option (List Int) :=
  Option.bind (loop (m_ref35_ends_L1 O a_1) (0, ([] : List Int))) fun l126 =>
  Option.bind (loop (m_ref35_ends_L2 O b_1) (0, l126)) fun l132 =>
  (some l132)
def m_ref35_has (O : Ops) (x_1 : Int) (l_1 : List (Int × Int)) : Option (Bool) :=
  Option.bind (m_ref12_In O x_1 l_1) fun b49 =>
  (some b49)
def m_ref35_mix_L1 (O : Ops) (a_1 : List (Int × Int)) : (Int × List Int) → Option ((Int × List Int) ⊕ (List Int)) := fun (i43, l138) =>
  bif (O .lt i43 (O .ofNat (O .len .i2 a_1))) then
    grd (okIdx i43 ((O .len .i2 a_1))) <|
    grd (okKin ((O .toNat i43)) ((O .len .i2 a_1))) <|
    Option.bind (m_ref35_put O (((O .get .i2 a_1 (O .toNat i43))).1) l138) fun l139 =>
    Option.bind (m_ref35_put O (((O .get .i2 a_1 (O .toNat i43))).2) l139) fun l140 =>
    grd (okI .i64 ((O .add i43 1))) <|
    (some (Sum.inl ((O .add i43 1), l140)))
  else
    (some (Sum.inr l138))
def m_ref35_mix_L2 (O : Ops) (b_1 : List (Int × Int)) : (Int × List Int) → Option ((Int × List Int) ⊕ (List Int)) := fun (i45, l144) =>
  bif (O .lt i45 (O .ofNat (O .len .i2 b_1))) then
    grd (okIdx i45 ((O .len .i2 b_1))) <|
    grd (okKin ((O .toNat i45)) ((O .len .i2 b_1))) <|
    Option.bind (m_ref35_put O (((O .get .i2 b_1 (O .toNat i45))).1) l144) fun l145 =>
    Option.bind (m_ref35_put O (((O .get .i2 b_1 (O .toNat i45))).2) l145) fun l146 =>
    grd (okI .i64 ((O .add i45 1))) <|
    (some (Sum.inl ((O .add i45 1), l146)))
  else
    (some (Sum.inr l144))
def m_ref35_mix_L3 (O : Ops) (a_1 : List (Int × Int)) (b_1 : List (Int × Int)) (kind_1 : Int) (l147 : List Int) : (Int × List (Int × Int)) → Option ((Int × List (Int × Int)) ⊕ (List (Int × Int))) := fun (i47, l152) =>
  grd (okI .i64 ((O .add i47 1))) <|
  bif (O .lt (O .add i47 1) (O .ofNat (O .len .i1 l147))) then
    grd (okIdx i47 ((O .len .i1 l147))) <|
    grd (okKin ((O .toNat i47)) ((O .len .i1 l147))) <|
    Option.bind (m_ref35_has O ((O .get .i1 l147 (O .toNat i47))) a_1) fun b52 =>
    Option.bind (m_ref35_has O ((O .get .i1 l147 (O .toNat i47))) b_1) fun b53 =>
    Option.bind (
      bif (O .eq kind_1 0) then
        bif b52 then
          (some true)
        else
          bif b53 then
            (some true)
          else
            bif (O .eq kind_1 1) then
              bif (O .eq kind_1 2) then
                (some false)
              else
                (some false)
            else
              bif (O .eq kind_1 2) then
                (some false)
              else
                (some false)
      else
        bif (O .eq kind_1 1) then
          bif b52 then
            bif b53 then
              (some true)
            else
              bif (O .eq kind_1 2) then
                (some (O .not false))
              else
                (some false)
          else
            bif (O .eq kind_1 2) then
              (some false)
            else
              (some false)
        else
          bif (O .eq kind_1 2) then
            bif b52 then
              (some (O .not b53))
            else
              (some false)
          else
            (some false) : Option ((Bool))) fun x177 =>
    Option.bind (
      bif x177 then
        Option.bind (
          bif (O .lt 0 (O .ofNat (O .len .i2 l152))) then
            grd (okI .i64 ((O .sub (O .ofNat (O .len .i2 l152)) 1))) <|
            grd (okIdx ((O .sub (O .ofNat (O .len .i2 l152)) 1)) ((O .len .i2 l152))) <|
            grd (okKin ((O .toNat (O .sub (O .ofNat (O .len .i2 l152)) 1))) ((O .len .i2 l152))) <|
            (some (O .eq ((O .get .i2 l152 (O .toNat (O .sub (O .ofNat (O .len .i2 l152)) 1)))).2 (O .get .i1 l147 (O .toNat i47))))
          else
            (some false) : Option ((Bool))) fun x179 =>
        Option.bind (
          bif x179 then
            grd (okI .i64 ((O .sub (O .ofNat (O .len .i2 l152)) 1))) <|
            grd (okIdx ((O .add i47 1)) ((O .len .i1 l147))) <|
            grd (okKin ((O .toNat (O .add i47 1))) ((O .len .i1 l147))) <|
            grd (okIdx ((O .sub (O .ofNat (O .len .i2 l152)) 1)) ((O .len .i2 l152))) <|
            grd (okKin ((O .toNat (O .sub (O .ofNat (O .len .i2 l152)) 1))) ((O .len .i2 l152))) <|
            (some (O .put .i2 l152 (O .toNat (O .sub (O .ofNat (O .len .i2 l152)) 1)) (((O .get .i2 l152 (O .toNat (O .sub (O .ofNat (O .len .i2 l152)) 1)))).1, (O .get .i1 l147 (O .toNat (O .add i47 1))))))
          else
            grd (okIdx ((O .add i47 1)) ((O .len .i1 l147))) <|
            grd (okKin ((O .toNat (O .add i47 1))) ((O .len .i1 l147))) <|
            grd (okRoom ((O .len .i2 l152))) <|
            grd (okRoom ((O .len .i2 [((O .get .i1 l147 (O .toNat i47)), (O .get .i1 l147 (O .toNat (O .add i47 1))))]))) <|
            (some (O .app .i2 l152 [((O .get .i1 l147 (O .toNat i47)), (O .get .i1 l147 (O .toNat (O .add i47 1))))])) : Option ((List (Int × Int)))) fun l154 =>
        (some l154)
      else
        (some l152) : Option ((List (Int × Int)))) fun l156 =>
    (some (Sum.inl ((O .add i47 1), l156)))
  else
    (some (Sum.inr l152))
def m_ref35_mix (O : Ops) (kind_1 : Int) (a_1 : List (Int × Int)) (b_1 : List (Int × Int)) : Option (List (Int × Int)) :=
  Option.bind (loop (m_ref35_mix_L1 O a_1) (0, ([] : List Int))) fun l141 =>
  Option.bind (loop (m_ref35_mix_L2 O b_1) (0, l141)) fun l147 =>
  Option.bind (loop (m_ref35_mix_L3 O a_1 b_1 kind_1 l147) (0, ([] : List (Int × Int)))) fun l157 =>
  (some l157)
def m_ref12_Same_L1 (O : Ops) (a_1 : List (Int × Int)) (b_1 : List (Int × Int)) : (Int) → Option ((Int) ⊕ ((Unit) ⊕ (Unit))) := fun i48 =>
  bif (O .lt i48 (O .ofNat (O .len .i2 a_1))) then
    Option.bind (
      bif (O .not (O .eq ((O .get .i2 a_1 (O .toNat i48))).1 ((O .get .i2 b_1 (O .toNat i48))).1)) then
        grd (okIdx i48 ((O .len .i2 a_1))) <|
        grd (okKin ((O .toNat i48)) ((O .len .i2 a_1))) <|
        grd (okIdx i48 ((O .len .i2 b_1))) <|
        grd (okKin ((O .toNat i48)) ((O .len .i2 b_1))) <|
        (some true)
      else
        grd (okIdx i48 ((O .len .i2 a_1))) <|
        grd (okKin ((O .toNat i48)) ((O .len .i2 a_1))) <|
        grd (okIdx i48 ((O .len .i2 b_1))) <|
        grd (okKin ((O .toNat i48)) ((O .len .i2 b_1))) <|
        (some (O .not (O .eq ((O .get .i2 a_1 (O .toNat i48))).2 ((O .get .i2 b_1 (O .toNat i48))).2))) : Option ((Bool))) fun x181 =>
    bif x181 then
      (some (Sum.inr (Sum.inl ())))
    else
      grd (okI .i64 ((O .add i48 1))) <|
      (some (Sum.inl (O .add i48 1)))
  else
    (some (Sum.inr (Sum.inr ())))
def m_ref12_Same (O : Ops) (a_1 : List (Int × Int)) (b_1 : List (Int × Int)) : Option (Bool) :=
  bif (O .not (O .eq (O .ofNat (O .len .i2 a_1)) (O .ofNat (O .len .i2 b_1)))) then
    (some false)
  else
    Option.bind (loop (m_ref12_Same_L1 O a_1 b_1) 0) fun e => match e with
    | .inl _ =>
      (some false)
    | .inr (_) =>
      (some true)
def m_ref35_Combine_L1 (O : Ops) (from4 : Int) (i49 : Int) (l133 : List Int) (l164 : List (Int × Int)) : (Int × List (Int × Int × Int × Int)) → Option ((Int × List (Int × Int × Int × Int)) ⊕ (List (Int × Int × Int × Int))) := fun (k14, l170) =>
  bif (O .lt k14 (O .ofNat (O .len .i2 l164))) then
    grd (okIdx k14 ((O .len .i2 l164))) <|
    grd (okKin ((O .toNat k14)) ((O .len .i2 l164))) <|
    grd (okIdx i49 ((O .len .i1 l133))) <|
    grd (okKin ((O .toNat i49)) ((O .len .i1 l133))) <|
    grd (okRoom ((O .len .i4 l170))) <|
    grd (okRoom ((O .len .i4 [(((O .get .i2 l164 (O .toNat k14))).1, ((O .get .i2 l164 (O .toNat k14))).2, from4, (O .get .i1 l133 (O .toNat i49)))]))) <|
    grd (okI .i64 ((O .add k14 1))) <|
    (some (Sum.inl ((O .add k14 1), (O .app .i4 l170 [(((O .get .i2 l164 (O .toNat k14))).1, ((O .get .i2 l164 (O .toNat k14))).2, from4, (O .get .i1 l133 (O .toNat i49)))]))))
  else
    (some (Sum.inr l170))
def m_ref35_Combine_L2 (O : Ops) (a_1 : List (Int × Int × Int × Int)) (b_1 : List (Int × Int × Int × Int)) (kind_1 : Int) (l133 : List Int) : (Int × Int × List (Int × Int × Int × Int) × List (Int × Int)) → Option ((Int × Int × List (Int × Int × Int × Int) × List (Int × Int)) ⊕ (List (Int × Int × Int × Int))) := fun (from4, i49, l163, l164) =>
  bif (O .lt i49 (O .ofNat (O .len .i1 l133))) then
    grd (okI .i64 ((O .add i49 1))) <|
    Option.bind (
      bif (O .lt (O .add i49 1) (O .ofNat (O .len .i1 l133))) then
        grd (okIdx i49 ((O .len .i1 l133))) <|
        grd (okKin ((O .toNat i49)) ((O .len .i1 l133))) <|
        Option.bind (m_ref35_At O ((O .get .i1 l133 (O .toNat i49))) a_1) fun l165 =>
        Option.bind (m_ref35_At O ((O .get .i1 l133 (O .toNat i49))) b_1) fun l166 =>
        Option.bind (m_ref35_mix O kind_1 l165 l166) fun l167 =>
        (some l167)
      else
        (some ([] : List (Int × Int))) : Option ((List (Int × Int)))) fun l169 =>
    Option.bind (m_ref12_Same O l169 l164) fun b55 =>
    bif b55 then
      (some (Sum.inl (from4, (O .add i49 1), l163, l164)))
    else
      Option.bind (loop (m_ref35_Combine_L1 O from4 i49 l133 l164) (0, l163)) fun l171 =>
      grd (okIdx i49 ((O .len .i1 l133))) <|
      grd (okKin ((O .toNat i49)) ((O .len .i1 l133))) <|
      (some (Sum.inl ((O .get .i1 l133 (O .toNat i49)), (O .add i49 1), l171, l169)))
  else
    (some (Sum.inr l163))
def m_ref35_Combine (O : Ops) (kind_1 : Int) (a_1 : List (Int × Int × Int × Int)) (b_1 : List (Int × Int × Int × Int)) : Option (List (Int × Int × Int × Int) × Int) :=
  Option.bind (
    Option.bind (m_ref35_List O a_1) fun b47 =>
    bif (O .not b47) then
      (some true)
    else
      Option.bind (m_ref35_List O b_1) fun b48 =>
      (some (O .not b48)) : Option ((Bool))) fun x143 =>
  bif x143 then
    (some (([] : List (Int × Int × Int × Int)), 1))
  else
    Option.bind (
      bif (O .lt 500 (O .ofNat (O .len .i4 a_1))) then
        (some true)
      else
        (some (O .lt 500 (O .ofNat (O .len .i4 b_1)))) : Option ((Bool))) fun x145 =>
    bif x145 then
      (some (([] : List (Int × Int × Int × Int)), 5))
    else
      Option.bind (m_ref35_ends O a_1 b_1) fun l133 =>
      Option.bind (loop (m_ref35_Combine_L2 O a_1 b_1 kind_1 l133) (0, 0, ([] : List (Int × Int × Int × Int)), ([] : List (Int × Int)))) fun l172 =>
      bif (O .lt 500 (O .ofNat (O .len .i4 l172))) then
        (some (([] : List (Int × Int × Int × Int)), 5))
      else
        (some (l172, 0))
def m_ref35_Area_L1 (O : Ops) (l174 : List (Int × Int × Int × Int)) : (Int × Int) → Option ((Int × Int) ⊕ ((Unit) ⊕ (Int))) := fun (sum5, i51) =>
  bif (O .lt i51 (O .ofNat (O .len .i4 l174))) then
    grd (okIdx i51 ((O .len .i4 l174))) <|
    grd (okKin ((O .toNat i51)) ((O .len .i4 l174))) <|
    grd (okI .i64 ((O .sub ((O .get .i4 l174 (O .toNat i51))).2.1 ((O .get .i4 l174 (O .toNat i51))).1))) <|
    grd (okI .i64 ((O .sub ((O .get .i4 l174 (O .toNat i51))).2.2.2 ((O .get .i4 l174 (O .toNat i51))).2.2.1))) <|
    Option.bind (m_ref01_Mul O ((O .sub ((O .get .i4 l174 (O .toNat i51))).2.1 ((O .get .i4 l174 (O .toNat i51))).1)) ((O .sub ((O .get .i4 l174 (O .toNat i51))).2.2.2 ((O .get .i4 l174 (O .toNat i51))).2.2.1))) fun (n68, n69) =>
    Option.bind (m_ref01_Add O sum5 n68) fun (n70, n71) =>
    Option.bind (
      bif (O .not (O .eq n69 0)) then
        (some true)
      else
        (some (O .not (O .eq n71 0))) : Option ((Bool))) fun x185 =>
    bif x185 then
      (some (Sum.inr (Sum.inl ())))
    else
      grd (okI .i64 ((O .add i51 1))) <|
      (some (Sum.inl (n70, (O .add i51 1))))
  else
    (some (Sum.inr (Sum.inr sum5)))
def m_ref35_Area (O : Ops) (l_1 : List (Int × Int × Int × Int)) : Option (Int) :=
  Option.bind (m_ref35_Combine O 0 l_1 (([] : List (Int × Int × Int × Int)))) fun (l174, _) =>
  Option.bind (loop (m_ref35_Area_L1 O l174) (0, 0)) fun e => match e with
  | .inl _ =>
    (some (-1))
  | .inr (sum6) =>
    (some sum6)
def m_law35_RectangleParts (O : Ops) (valid_1 : Int) (tx_1 : Int) (l_1 : List (Int × Int × Int × Int)) : Option (Bool) :=
  Option.bind (m_law35_awake O) fun b20 =>
  bif (O .not b20) then
    (some false)
  else
    Option.bind (m_law35_few O l_1) fun b23 =>
    bif (O .not b23) then
      (some true)
    else
      Option.bind (m_ref35_List O l_1) fun b27 =>
      bif (O .not b27) then
        Option.bind (
          Option.bind (m_rectangle_Has O valid_1 tx_1 l_1) fun b31 =>
          bif (O .not b31) then
            Option.bind (m_rectangle_At O tx_1 l_1) fun l55 =>
            bif (O .eq (O .ofNat (O .len .i2 l55)) 0) then
              Option.bind (m_rectangle_During O valid_1 l_1) fun l59 =>
              bif (O .eq (O .ofNat (O .len .i2 l59)) 0) then
                Option.bind (m_rectangle_Area O l_1) fun n56 =>
                (some (O .eq n56 (-1)))
              else
                (some false)
            else
              (some false)
          else
            (some false) : Option ((Bool))) fun x80 =>
        (some x80)
      else
        Option.bind (
          Option.bind (m_rectangle_Has O valid_1 tx_1 l_1) fun b33 =>
          Option.bind (m_ref35_Has O valid_1 tx_1 l_1) fun b34 =>
          bif (O .not (O .beq b33 b34)) then
            (some true)
          else
            Option.bind (m_rectangle_At O tx_1 l_1) fun l66 =>
            Option.bind (m_ref35_At O tx_1 l_1) fun l99 =>
            Option.bind (m_slices_Equal O l66 l99) fun b45 =>
            bif (O .not b45) then
              (some true)
            else
              Option.bind (m_rectangle_During O valid_1 l_1) fun l100 =>
              Option.bind (m_ref35_During O valid_1 l_1) fun l108 =>
              Option.bind (m_slices_Equal O l100 l108) fun b46 =>
              (some (O .not b46)) : Option ((Bool))) fun x141 =>
        bif x141 then
          (some false)
        else
          Option.bind (m_ref35_Combine O 0 l_1 (([] : List (Int × Int × Int × Int)))) fun (_, n61) =>
          Option.bind (
            bif (O .not (O .eq n61 0)) then
              (some true)
            else
              Option.bind (m_rectangle_Area O l_1) fun n62 =>
              Option.bind (m_ref35_Area O l_1) fun n72 =>
              (some (O .eq n62 n72)) : Option ((Bool))) fun x187 =>
          (some x187)
end Go.Proofs.YtkdffpncpikdmaaGreat
