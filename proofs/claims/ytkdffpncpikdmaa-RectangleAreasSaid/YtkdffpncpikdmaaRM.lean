/-
  Models of functions (printed by lift.py).
-/
import Derived.Test.YtkdffpncpikdmaaManR
namespace Go.Proofs.Ytkdffpncpikdmaa
open Go.RowKit
set_option maxRecDepth 100000

def m_law35_rect (O : Ops) (a_1 : Int) (b_1 : Int) (c_1 : Int) (d_1 : Int) : Option (Int × Int × Int × Int) :=
  (some (a_1, b_1, c_1, d_1))
def m_rectangle_isSpan (O : Ops) (s_1 : Int) (s_2 : Int) : Option (Bool) :=
  Option.bind (
    bif (O .le (-62135596800) s_1) then
      bif (O .lt s_1 s_2) then
        (some (O .le s_2 253402300800))
      else
        (some false)
    else
      (some false) : Option ((Bool))) fun x4 =>
  (some x4)
def m_rectangle_Valid (O : Ops) (r_1 : Int) (r_2 : Int) (r_3 : Int) (r_4 : Int) : Option (Bool) :=
  Option.bind (
    Option.bind (m_rectangle_isSpan O r_1 r_2) fun b1 =>
    bif b1 then
      Option.bind (m_rectangle_isSpan O r_3 r_4) fun b2 =>
      (some b2)
    else
      (some false) : Option ((Bool))) fun x6 =>
  (some x6)
def m_rectangle_check_1 (O : Ops) (r_1 : Int) (r_2 : Int) (r_3 : Int) (r_4 : Int) : Option (Bool) :=
  Option.bind (m_rectangle_Valid O r_1 r_2 r_3 r_4) fun b3 =>
  (some (O .not b3))
def m_slices_IndexFunc_L1 (O : Ops) (s_1 : List (Int × Int × Int × Int)) : (Int) → Option ((Int) ⊕ ((Int) ⊕ (Unit))) := fun x1 =>
  bif (O .lt x1 (O .ofNat (O .len .i4 s_1))) then
    grd (okIdx x1 ((O .len .i4 s_1))) <|
    grd (okKin ((O .toNat x1)) ((O .len .i4 s_1))) <|
    Option.bind (m_rectangle_check_1 O (((O .get .i4 s_1 (O .toNat x1))).1) (((O .get .i4 s_1 (O .toNat x1))).2.1) (((O .get .i4 s_1 (O .toNat x1))).2.2.1) (((O .get .i4 s_1 (O .toNat x1))).2.2.2)) fun b4 =>
    bif b4 then
      (some (Sum.inr (Sum.inl x1)))
    else
      grd (okI .i64 ((O .add x1 1))) <|
      (some (Sum.inl (O .add x1 1)))
  else
    (some (Sum.inr (Sum.inr ())))
def m_slices_IndexFunc (O : Ops) (s_1 : List (Int × Int × Int × Int)) : Option (Int) :=
  Option.bind (loop (m_slices_IndexFunc_L1 O s_1) 0) fun e => match e with
  | .inl x7 =>
    (some x7)
  | .inr (_) =>
    (some (-1))
def m_slices_ContainsFunc (O : Ops) (s_1 : List (Int × Int × Int × Int)) : Option (Bool) :=
  Option.bind (m_slices_IndexFunc O s_1) fun n9 =>
  (some (O .le 0 n9))
def m_rectangle_check (O : Ops) (lists_1 : List (Int × Int × Int × Int)) (lists_2 : List (Int × Int × Int × Int)) : Option (Int) :=
  Option.bind (m_slices_ContainsFunc O lists_1) fun b5 =>
  bif b5 then
    (some 1)
  else
    grd (okI .i64 ((O .add 0 1))) <|
    Option.bind (m_slices_ContainsFunc O lists_2) fun b6 =>
    bif b6 then
      (some 1)
    else
      grd (okI .i64 ((O .add 1 1))) <|
      bif (O .lt 500 (O .ofNat (O .len .i4 lists_1))) then
        (some 5)
      else
        bif (O .lt 500 (O .ofNat (O .len .i4 lists_2))) then
          (some 5)
        else
          (some 0)
def m_slices_Concat (O : Ops) (slices_1 : List (Int × Int × Int × Int)) (slices_2 : List (Int × Int × Int × Int)) : Option (List (Int × Int × Int × Int)) :=
  grd (okI .i64 ((O .add 0 (O .ofNat (O .len .i4 slices_1))))) <|
  bif (O .lt (O .add 0 (O .ofNat (O .len .i4 slices_1))) 0) then
    none
  else
    grd (okI .i64 ((O .add 0 1))) <|
    grd (okI .i64 ((O .add (O .add 0 (O .ofNat (O .len .i4 slices_1))) (O .ofNat (O .len .i4 slices_2))))) <|
    bif (O .lt (O .add (O .add 0 (O .ofNat (O .len .i4 slices_1))) (O .ofNat (O .len .i4 slices_2))) 0) then
      none
    else
      grd (okI .i64 ((O .add 1 1))) <|
      Option.bind (m_grow_i4 O ((O .add (O .add 0 (O .ofNat (O .len .i4 slices_1))) (O .ofNat (O .len .i4 slices_2))))) fun l1 =>
      grd (okRoom ((O .len .i4 l1))) <|
      grd (okRoom ((O .len .i4 slices_1))) <|
      grd (okRoom ((O .len .i4 (O .app .i4 l1 slices_1)))) <|
      grd (okRoom ((O .len .i4 slices_2))) <|
      (some (O .app .i4 (O .app .i4 l1 slices_1) slices_2))
def m_interval_line (O : Ops) (x_1 : Int) : Option (Bool) :=
  Option.bind (
    bif (O .le (-4398046511104) x_1) then
      (some (O .le x_1 4398046511104))
    else
      (some false) : Option ((Bool))) fun x18 =>
  (some x18)
def m_interval_Valid (O : Ops) (s_1 : Int) (s_2 : Int) : Option (Bool) :=
  Option.bind (
    Option.bind (m_interval_line O s_1) fun b7 =>
    bif b7 then
      Option.bind (m_interval_line O s_2) fun b8 =>
      bif b8 then
        (some (O .lt s_1 s_2))
      else
        (some false)
    else
      (some false) : Option ((Bool))) fun x21 =>
  (some x21)
def m_runs_Of_1 (O : Ops) (s_1 : Int) (s_2 : Int) : Option (Bool) :=
  Option.bind (m_interval_Valid O s_1 s_2) fun b9 =>
  (some (O .not b9))
def m_slices_IndexFunc_2_L1 (O : Ops) (s_1 : List (Int × Int)) : (Int) → Option ((Int) ⊕ ((Int) ⊕ (Unit))) := fun x16 =>
  bif (O .lt x16 (O .ofNat (O .len .i2 s_1))) then
    grd (okIdx x16 ((O .len .i2 s_1))) <|
    grd (okKin ((O .toNat x16)) ((O .len .i2 s_1))) <|
    Option.bind (m_runs_Of_1 O (((O .get .i2 s_1 (O .toNat x16))).1) (((O .get .i2 s_1 (O .toNat x16))).2)) fun b10 =>
    bif b10 then
      (some (Sum.inr (Sum.inl x16)))
    else
      grd (okI .i64 ((O .add x16 1))) <|
      (some (Sum.inl (O .add x16 1)))
  else
    (some (Sum.inr (Sum.inr ())))
def m_slices_IndexFunc_2 (O : Ops) (s_1 : List (Int × Int)) : Option (Int) :=
  Option.bind (loop (m_slices_IndexFunc_2_L1 O s_1) 0) fun e => match e with
  | .inl x22 =>
    (some x22)
  | .inr (_) =>
    (some (-1))
def m_slices_ContainsFunc_2 (O : Ops) (s_1 : List (Int × Int)) : Option (Bool) :=
  Option.bind (m_slices_IndexFunc_2 O s_1) fun n11 =>
  (some (O .le 0 n11))
def m_runs_done (O : Ops) (l_1 : List (Int × Int)) : Option (((List (Int × Int) × Int) ⊕ (Int))) :=
  bif (O .lt 2000 (O .ofNat (O .len .i2 l_1))) then
    (some (Sum.inl (([] : List (Int × Int)), 5)))
  else
    (some (Sum.inr 0))
def m_runs_Of_L1 (O : Ops) (l14 : List (Int × Int)) : (Int × List (Int × Int)) → Option ((Int × List (Int × Int)) ⊕ (List (Int × Int))) := fun (x26, l17) =>
  bif (O .lt x26 (O .ofNat (O .len .i2 l14))) then
    grd (okIdx x26 ((O .len .i2 l14))) <|
    grd (okKin ((O .toNat x26)) ((O .len .i2 l14))) <|
    Option.bind (
      bif (O .lt 0 (O .ofNat (O .len .i2 l17))) then
        grd (okI .i64 ((O .sub (O .ofNat (O .len .i2 l17)) 1))) <|
        grd (okIdx ((O .sub (O .ofNat (O .len .i2 l17)) 1)) ((O .len .i2 l17))) <|
        grd (okKin ((O .toNat (O .sub (O .ofNat (O .len .i2 l17)) 1))) ((O .len .i2 l17))) <|
        (some (O .le ((O .get .i2 l14 (O .toNat x26))).1 ((O .get .i2 l17 (O .toNat (O .sub (O .ofNat (O .len .i2 l17)) 1)))).2))
      else
        (some false) : Option ((Bool))) fun x28 =>
    Option.bind (
      bif x28 then
        grd (okI .i64 ((O .sub (O .ofNat (O .len .i2 l17)) 1))) <|
        grd (okIdx ((O .sub (O .ofNat (O .len .i2 l17)) 1)) ((O .len .i2 l17))) <|
        grd (okKin ((O .toNat (O .sub (O .ofNat (O .len .i2 l17)) 1))) ((O .len .i2 l17))) <|
        (some (O .put .i2 l17 (O .toNat (O .sub (O .ofNat (O .len .i2 l17)) 1)) (((O .get .i2 l17 (O .toNat (O .sub (O .ofNat (O .len .i2 l17)) 1)))).1, (O .max ((O .get .i2 l17 (O .toNat (O .sub (O .ofNat (O .len .i2 l17)) 1)))).2 ((O .get .i2 l14 (O .toNat x26))).2))))
      else
        grd (okRoom ((O .len .i2 l17))) <|
        grd (okRoom ((O .len .i2 [(((O .get .i2 l14 (O .toNat x26))).1, ((O .get .i2 l14 (O .toNat x26))).2)]))) <|
        (some (O .app .i2 l17 [(((O .get .i2 l14 (O .toNat x26))).1, ((O .get .i2 l14 (O .toNat x26))).2)])) : Option ((List (Int × Int)))) fun l19 =>
    grd (okI .i64 ((O .add x26 1))) <|
    (some (Sum.inl ((O .add x26 1), l19)))
  else
    (some (Sum.inr l17))
def m_runs_Of (O : Ops) (l_1 : List (Int × Int)) : Option (List (Int × Int) × Int) :=
  Option.bind (m_slices_ContainsFunc_2 O l_1) fun b11 =>
  bif b11 then
    (some (([] : List (Int × Int)), 1))
  else
    Option.bind (m_clone_i2 O l_1) fun l13 =>
    Option.bind (m_sortSp O l13) fun l14 =>
    Option.bind (loop (m_runs_Of_L1 O l14) (0, ([] : List (Int × Int)))) fun l20 =>
    Option.bind (
      Option.bind (m_runs_done O l20) fun e => match e with
      | .inl (l21, n12) =>
        (some (n12, l21))
      | .inr (n13) =>
        (some (n13, l20)) : Option ((Int × List (Int × Int)))) fun (x30, l23) =>
    (some (l23, x30))
def m_rectangle_times_L1 (O : Ops) (l_1 : List (Int × Int × Int × Int)) (tx_1 : Int) : (Int × List (Int × Int)) → Option ((Int × List (Int × Int)) ⊕ (List (Int × Int))) := fun (x13, l9) =>
  bif (O .lt x13 (O .ofNat (O .len .i4 l_1))) then
    grd (okIdx x13 ((O .len .i4 l_1))) <|
    grd (okKin ((O .toNat x13)) ((O .len .i4 l_1))) <|
    Option.bind (
      bif (O .le ((O .get .i4 l_1 (O .toNat x13))).2.2.1 tx_1) then
        (some (O .lt tx_1 ((O .get .i4 l_1 (O .toNat x13))).2.2.2))
      else
        (some false) : Option ((Bool))) fun x15 =>
    Option.bind (
      bif x15 then
        grd (okRoom ((O .len .i2 l9))) <|
        grd (okRoom ((O .len .i2 [(((O .get .i4 l_1 (O .toNat x13))).1, ((O .get .i4 l_1 (O .toNat x13))).2.1)]))) <|
        (some (O .app .i2 l9 [(((O .get .i4 l_1 (O .toNat x13))).1, ((O .get .i4 l_1 (O .toNat x13))).2.1)]))
      else
        (some l9) : Option ((List (Int × Int)))) fun l11 =>
    grd (okI .i64 ((O .add x13 1))) <|
    (some (Sum.inl ((O .add x13 1), l11)))
  else
    (some (Sum.inr l9))
def m_rectangle_times (O : Ops) (tx_1 : Int) (l_1 : List (Int × Int × Int × Int)) : Option (List (Int × Int)) :=
  Option.bind (loop (m_rectangle_times_L1 O l_1 tx_1) (0, ([] : List (Int × Int)))) fun l12 =>
  Option.bind (m_runs_Of O l12) fun (l24, _) =>
  (some l24)
def m_runs_Valid_L1 (O : Ops) (l_1 : List (Int × Int)) : (Int) → Option ((Int) ⊕ ((Unit) ⊕ (Unit))) := fun x31 =>
  bif (O .lt x31 (O .ofNat (O .len .i2 l_1))) then
    grd (okIdx x31 ((O .len .i2 l_1))) <|
    grd (okKin ((O .toNat x31)) ((O .len .i2 l_1))) <|
    Option.bind (
      Option.bind (m_interval_Valid O (((O .get .i2 l_1 (O .toNat x31))).1) (((O .get .i2 l_1 (O .toNat x31))).2)) fun b12 =>
      bif (O .not b12) then
        (some true)
      else
        bif (O .lt 0 x31) then
          grd (okI .i64 ((O .sub x31 1))) <|
          grd (okIdx ((O .sub x31 1)) ((O .len .i2 l_1))) <|
          grd (okKin ((O .toNat (O .sub x31 1))) ((O .len .i2 l_1))) <|
          (some (O .le ((O .get .i2 l_1 (O .toNat x31))).1 ((O .get .i2 l_1 (O .toNat (O .sub x31 1)))).2))
        else
          (some false) : Option ((Bool))) fun x34 =>
    bif x34 then
      (some (Sum.inr (Sum.inl ())))
    else
      grd (okI .i64 ((O .add x31 1))) <|
      (some (Sum.inl (O .add x31 1)))
  else
    (some (Sum.inr (Sum.inr ())))
def m_runs_Valid (O : Ops) (l_1 : List (Int × Int)) : Option (Bool) :=
  bif (O .lt 2000 (O .ofNat (O .len .i2 l_1))) then
    (some false)
  else
    Option.bind (loop (m_runs_Valid_L1 O l_1) 0) fun e => match e with
    | .inl _ =>
      (some false)
    | .inr (_) =>
      (some true)
def m_runs_combine_1 (O : Ops) (n_1 : Int) (l_1 : List (Int × Int)) : Option (Int) :=
  grd (okI .i64 ((O .mul 2 (O .ofNat (O .len .i2 l_1))))) <|
  bif (O .eq n_1 (O .mul 2 (O .ofNat (O .len .i2 l_1)))) then
    (some 8796093022208)
  else
    grd (okNz 2) <|
    bif (O .eq (O .rem n_1 2) 0) then
      grd (okI .i64 ((O .quo n_1 2))) <|
      grd (okIdx ((O .quo n_1 2)) ((O .len .i2 l_1))) <|
      grd (okKin ((O .toNat (O .quo n_1 2))) ((O .len .i2 l_1))) <|
      (some ((O .get .i2 l_1 (O .toNat (O .quo n_1 2)))).1)
    else
      grd (okI .i64 ((O .quo n_1 2))) <|
      grd (okIdx ((O .quo n_1 2)) ((O .len .i2 l_1))) <|
      grd (okKin ((O .toNat (O .quo n_1 2))) ((O .len .i2 l_1))) <|
      (some ((O .get .i2 l_1 (O .toNat (O .quo n_1 2)))).2)
def m_runs_Union_1 (O : Ops) (a_1 : Bool) (b_1 : Bool) : Option (Bool) :=
  Option.bind (
    bif a_1 then
      (some true)
    else
      (some b_1) : Option ((Bool))) fun x40 =>
  (some x40)
def m_runs_combine_L1 (O : Ops) (a_1 : List (Int × Int)) (b_1 : List (Int × Int)) : (Int × Int × Bool × Int × List (Int × Int)) → Option ((Int × Int × Bool × Int × List (Int × Int)) ⊕ (List (Int × Int))) := fun (i5, k4, inside2, from2, l29) =>
  Option.bind (
    bif (O .lt i5 (O .mul 2 (O .ofNat (O .len .i2 a_1)))) then
      grd (okI .i64 ((O .mul 2 (O .ofNat (O .len .i2 a_1))))) <|
      (some true)
    else
      grd (okI .i64 ((O .mul 2 (O .ofNat (O .len .i2 a_1))))) <|
      grd (okI .i64 ((O .mul 2 (O .ofNat (O .len .i2 b_1))))) <|
      (some (O .lt k4 (O .mul 2 (O .ofNat (O .len .i2 b_1))))) : Option ((Bool))) fun x42 =>
  bif x42 then
    Option.bind (m_runs_combine_1 O i5 a_1) fun n19 =>
    Option.bind (m_runs_combine_1 O k4 b_1) fun n20 =>
    Option.bind (m_runs_combine_1 O i5 a_1) fun n21 =>
    Option.bind (
      bif (O .eq n21 (O .min n19 n20)) then
        grd (okI .i64 ((O .add i5 1))) <|
        (some (O .add i5 1))
      else
        (some i5) : Option ((Int))) fun i7 =>
    Option.bind (m_runs_combine_1 O k4 b_1) fun n22 =>
    Option.bind (
      bif (O .eq n22 (O .min n19 n20)) then
        grd (okI .i64 ((O .add k4 1))) <|
        (some (O .add k4 1))
      else
        (some k4) : Option ((Int))) fun k6 =>
    grd (okNz 2) <|
    Option.bind (m_runs_Union_1 O ((O .eq (O .rem i7 2) 1)) ((O .eq (O .rem k6 2) 1))) fun b16 =>
    bif (O .beq b16 inside2) then
      (some (Sum.inl (i7, k6, inside2, from2, l29)))
    else
      Option.bind (
        bif inside2 then
          grd (okRoom ((O .len .i2 l29))) <|
          grd (okRoom ((O .len .i2 [(from2, (O .min n19 n20))]))) <|
          (some (O .app .i2 l29 [(from2, (O .min n19 n20))]))
        else
          (some l29) : Option ((List (Int × Int)))) fun l31 =>
      (some (Sum.inl (i7, k6, b16, (O .min n19 n20), l31)))
  else
    (some (Sum.inr l29))
def m_runs_combine (O : Ops) (a_1 : List (Int × Int)) (b_1 : List (Int × Int)) : Option (List (Int × Int) × Int) :=
  Option.bind (
    Option.bind (m_runs_Valid O a_1) fun b13 =>
    bif (O .not b13) then
      (some true)
    else
      Option.bind (m_runs_Valid O b_1) fun b14 =>
      (some (O .not b14)) : Option ((Bool))) fun x36 =>
  bif x36 then
    (some (([] : List (Int × Int)), 1))
  else
    Option.bind (loop (m_runs_combine_L1 O a_1 b_1) (0, 0, false, 0, ([] : List (Int × Int)))) fun l32 =>
    Option.bind (
      Option.bind (m_runs_done O l32) fun e => match e with
      | .inl (l33, n23) =>
        (some (n23, l33))
      | .inr (n24) =>
        (some (n24, l32)) : Option ((Int × List (Int × Int)))) fun (x44, l35) =>
    (some (l35, x44))
def m_runs_Union (O : Ops) (a_1 : List (Int × Int)) (b_1 : List (Int × Int)) : Option (List (Int × Int) × Int) :=
  Option.bind (m_runs_combine O a_1 b_1) fun (l36, n25) =>
  (some (l36, n25))
def m_slices_Equal_L1 (O : Ops) (s1_1 : List (Int × Int)) (s2_1 : List (Int × Int)) : (Int) → Option ((Int) ⊕ ((Unit) ⊕ (Unit))) := fun x45 =>
  bif (O .lt x45 (O .ofNat (O .len .i2 s1_1))) then
    grd (okIdx x45 ((O .len .i2 s1_1))) <|
    grd (okKin ((O .toNat x45)) ((O .len .i2 s1_1))) <|
    grd (okIdx x45 ((O .len .i2 s2_1))) <|
    grd (okKin ((O .toNat x45)) ((O .len .i2 s2_1))) <|
    bif (O .not (O .and (O .eq ((O .get .i2 s1_1 (O .toNat x45))).1 ((O .get .i2 s2_1 (O .toNat x45))).1) (O .eq ((O .get .i2 s1_1 (O .toNat x45))).2 ((O .get .i2 s2_1 (O .toNat x45))).2))) then
      (some (Sum.inr (Sum.inl ())))
    else
      grd (okI .i64 ((O .add x45 1))) <|
      (some (Sum.inl (O .add x45 1)))
  else
    (some (Sum.inr (Sum.inr ())))
def m_slices_Equal (O : Ops) (s1_1 : List (Int × Int)) (s2_1 : List (Int × Int)) : Option (Bool) :=
  bif (O .not (O .eq (O .ofNat (O .len .i2 s1_1)) (O .ofNat (O .len .i2 s2_1)))) then
    (some false)
  else
    Option.bind (loop (m_slices_Equal_L1 O s1_1 s2_1) 0) fun e => match e with
    | .inl _ =>
      (some false)
    | .inr (_) =>
      (some true)
def m_rectangle_combine_L1 (O : Ops) (l2 : List (Int × Int × Int × Int)) : (Int × List Int) → Option ((Int × List Int) ⊕ (List Int)) := fun (x9, l3) =>
  bif (O .lt x9 (O .ofNat (O .len .i4 l2))) then
    grd (okIdx x9 ((O .len .i4 l2))) <|
    grd (okKin ((O .toNat x9)) ((O .len .i4 l2))) <|
    grd (okRoom ((O .len .i1 l3))) <|
    grd (okRoom ((O .len .i1 [((O .get .i4 l2 (O .toNat x9))).2.2.1, ((O .get .i4 l2 (O .toNat x9))).2.2.2]))) <|
    grd (okI .i64 ((O .add x9 1))) <|
    (some (Sum.inl ((O .add x9 1), (O .app .i1 l3 [((O .get .i4 l2 (O .toNat x9))).2.2.1, ((O .get .i4 l2 (O .toNat x9))).2.2.2]))))
  else
    (some (Sum.inr l3))
def m_rectangle_combine_L2 (O : Ops) (i8 : Int) (l6 : List Int) : (Int × List (Int × Int × Int × Int)) → Option ((Int × List (Int × Int × Int × Int)) ⊕ (List (Int × Int × Int × Int))) := fun (k10, l47) =>
  bif (O .lt k10 (O .ofNat (O .len .i4 l47))) then
    grd (okIdx ((O .add i8 1)) ((O .len .i1 l6))) <|
    grd (okKin ((O .toNat (O .add i8 1))) ((O .len .i1 l6))) <|
    grd (okIdx k10 ((O .len .i4 l47))) <|
    grd (okKin ((O .toNat k10)) ((O .len .i4 l47))) <|
    grd (okI .i64 ((O .add k10 1))) <|
    (some (Sum.inl ((O .add k10 1), (O .put .i4 l47 (O .toNat k10) (((O .get .i4 l47 (O .toNat k10))).1, ((O .get .i4 l47 (O .toNat k10))).2.1, ((O .get .i4 l47 (O .toNat k10))).2.2.1, (O .get .i1 l6 (O .toNat (O .add i8 1))))))))
  else
    (some (Sum.inr l47))
def m_rectangle_combine_L3 (O : Ops) (i8 : Int) (l46 : List (Int × Int)) (l6 : List Int) : (Int × List (Int × Int × Int × Int)) → Option ((Int × List (Int × Int × Int × Int)) ⊕ (List (Int × Int × Int × Int))) := fun (x49, l49) =>
  bif (O .lt x49 (O .ofNat (O .len .i2 l46))) then
    grd (okIdx x49 ((O .len .i2 l46))) <|
    grd (okKin ((O .toNat x49)) ((O .len .i2 l46))) <|
    grd (okRng ((O .ofNat (O .len .i4 l49))) ((O .len .i4 l49))) <|
    grd (okRng ((O .ofNat (O .len .i4 l49))) ((O .toNat (O .ofNat (O .len .i4 l49))))) <|
    grd (okIdx ((O .add i8 1)) ((O .len .i1 l6))) <|
    grd (okKin ((O .toNat (O .add i8 1))) ((O .len .i1 l6))) <|
    grd (okRoom ((O .len .i4 (O .cut .i4 l49 0 (O .toNat (O .ofNat (O .len .i4 l49))))))) <|
    grd (okRoom ((O .len .i4 [(((O .get .i2 l46 (O .toNat x49))).1, ((O .get .i2 l46 (O .toNat x49))).2, (O .get .i1 l6 (O .toNat i8)), (O .get .i1 l6 (O .toNat (O .add i8 1))))]))) <|
    grd (okKin 0 ((O .len .i4 [(((O .get .i2 l46 (O .toNat x49))).1, ((O .get .i2 l46 (O .toNat x49))).2, (O .get .i1 l6 (O .toNat i8)), (O .get .i1 l6 (O .toNat (O .add i8 1))))]))) <|
    grd (okI .i64 ((O .add x49 1))) <|
    (some (Sum.inl ((O .add x49 1), (O .app .i4 (O .cut .i4 l49 0 (O .toNat (O .ofNat (O .len .i4 l49)))) [(((O .get .i2 l46 (O .toNat x49))).1, ((O .get .i2 l46 (O .toNat x49))).2, (O .get .i1 l6 (O .toNat i8)), (O .get .i1 l6 (O .toNat (O .add i8 1))))]))))
  else
    (some (Sum.inr l49))
def m_rectangle_combine_L4 (O : Ops) (a_1 : List (Int × Int × Int × Int)) (b_1 : List (Int × Int × Int × Int)) (l6 : List Int) : (Int × Int × List (Int × Int × Int × Int) × List (Int × Int)) → Option ((Int × Int × List (Int × Int × Int × Int) × List (Int × Int)) ⊕ ((Int) ⊕ (List (Int × Int × Int × Int)))) := fun (start2, i8, l42, l43) =>
  grd (okI .i64 ((O .add i8 1))) <|
  bif (O .lt (O .add i8 1) (O .ofNat (O .len .i1 l6))) then
    grd (okIdx i8 ((O .len .i1 l6))) <|
    grd (okKin ((O .toNat i8)) ((O .len .i1 l6))) <|
    Option.bind (m_rectangle_times O ((O .get .i1 l6 (O .toNat i8))) a_1) fun l44 =>
    Option.bind (m_rectangle_times O ((O .get .i1 l6 (O .toNat i8))) b_1) fun l45 =>
    Option.bind (m_runs_Union O l44 l45) fun (l46, n27) =>
    bif (O .not (O .eq n27 0)) then
      (some (Sum.inr (Sum.inl n27)))
    else
      Option.bind (m_slices_Equal O l46 l43) fun b18 =>
      bif b18 then
        Option.bind (loop (m_rectangle_combine_L2 O i8 l6) (start2, l42)) fun l48 =>
        (some (Sum.inl (start2, (O .add i8 1), l48, l43)))
      else
        Option.bind (loop (m_rectangle_combine_L3 O i8 l46 l6) (0, l42)) fun l50 =>
        bif (O .lt 500 (O .ofNat (O .len .i4 l50))) then
          (some (Sum.inr (Sum.inl 5)))
        else
          (some (Sum.inl ((O .ofNat (O .len .i4 l42)), (O .add i8 1), l50, l46)))
  else
    (some (Sum.inr (Sum.inr l42)))
def m_rectangle_combine (O : Ops) (a_1 : List (Int × Int × Int × Int)) (b_1 : List (Int × Int × Int × Int)) : Option (List (Int × Int × Int × Int) × Int) :=
  Option.bind (m_rectangle_check O a_1 b_1) fun n10 =>
  bif (O .not (O .eq n10 0)) then
    (some (([] : List (Int × Int × Int × Int)), n10))
  else
    Option.bind (m_slices_Concat O a_1 b_1) fun l2 =>
    Option.bind (loop (m_rectangle_combine_L1 O l2) (0, ([] : List Int))) fun l4 =>
    Option.bind (m_sortI O l4) fun l5 =>
    Option.bind (m_compI O l5) fun l6 =>
    Option.bind (loop (m_rectangle_combine_L4 O a_1 b_1 l6) (0, 0, ([] : List (Int × Int × Int × Int)), ([] : List (Int × Int)))) fun e => match e with
    | .inl x51 =>
      (some (([] : List (Int × Int × Int × Int)), x51))
    | .inr (l51) =>
      (some (l51, 0))
def m_rectangle_Canonical (O : Ops) (l_1 : List (Int × Int × Int × Int)) : Option (List (Int × Int × Int × Int) × Int) :=
  Option.bind (m_rectangle_combine O l_1 (([] : List (Int × Int × Int × Int)))) fun (l52, n28) =>
  (some (l52, n28))
def m_slices_Equal_2_L1 (O : Ops) (s1_1 : List (Int × Int × Int × Int)) (s2_1 : List (Int × Int × Int × Int)) : (Int) → Option ((Int) ⊕ ((Unit) ⊕ (Unit))) := fun x52 =>
  bif (O .lt x52 (O .ofNat (O .len .i4 s1_1))) then
    grd (okIdx x52 ((O .len .i4 s1_1))) <|
    grd (okKin ((O .toNat x52)) ((O .len .i4 s1_1))) <|
    grd (okIdx x52 ((O .len .i4 s2_1))) <|
    grd (okKin ((O .toNat x52)) ((O .len .i4 s2_1))) <|
    bif (O .not (O .and (O .eq ((O .get .i4 s1_1 (O .toNat x52))).1 ((O .get .i4 s2_1 (O .toNat x52))).1) (O .and (O .eq ((O .get .i4 s1_1 (O .toNat x52))).2.1 ((O .get .i4 s2_1 (O .toNat x52))).2.1) (O .and (O .eq ((O .get .i4 s1_1 (O .toNat x52))).2.2.1 ((O .get .i4 s2_1 (O .toNat x52))).2.2.1) (O .eq ((O .get .i4 s1_1 (O .toNat x52))).2.2.2 ((O .get .i4 s2_1 (O .toNat x52))).2.2.2))))) then
      (some (Sum.inr (Sum.inl ())))
    else
      grd (okI .i64 ((O .add x52 1))) <|
      (some (Sum.inl (O .add x52 1)))
  else
    (some (Sum.inr (Sum.inr ())))
def m_slices_Equal_2 (O : Ops) (s1_1 : List (Int × Int × Int × Int)) (s2_1 : List (Int × Int × Int × Int)) : Option (Bool) :=
  bif (O .not (O .eq (O .ofNat (O .len .i4 s1_1)) (O .ofNat (O .len .i4 s2_1)))) then
    (some false)
  else
    Option.bind (loop (m_slices_Equal_2_L1 O s1_1 s2_1) 0) fun e => match e with
    | .inl _ =>
      (some false)
    | .inr (_) =>
      (some true)
def m_law35_awake (O : Ops) : Option (Bool) :=
  Option.bind (m_law35_rect O 5 15 5 10) fun (n1, n2, n3, n4) =>
  Option.bind (m_law35_rect O 0 10 0 10) fun (n5, n6, n7, n8) =>
  Option.bind (m_rectangle_Canonical O ([(n1, n2, n3, n4), (n5, n6, n7, n8)])) fun (l53, n29) =>
  Option.bind (
    bif (O .eq n29 0) then
      Option.bind (m_law35_rect O 0 10 0 5) fun (n30, n31, n32, n33) =>
      Option.bind (m_law35_rect O 0 15 5 10) fun (n34, n35, n36, n37) =>
      Option.bind (m_slices_Equal_2 O l53 ([(n30, n31, n32, n33), (n34, n35, n36, n37)])) fun b19 =>
      (some b19)
    else
      (some false) : Option ((Bool))) fun x54 =>
  (some x54)
def m_law35_few_1 (O : Ops) (l_1 : List (Int × Int × Int × Int)) : Option (Bool) :=
  (some (O .lt 30 (O .ofNat (O .len .i4 l_1))))
def m_slices_IndexFunc_3 (O : Ops) (s_1 : List (Int × Int × Int × Int)) : Option (Int) :=
  Option.bind (m_law35_few_1 O s_1) fun b21 =>
  bif b21 then
    (some 0)
  else
    grd (okI .i64 ((O .add 0 1))) <|
    (some (-1))
def m_slices_ContainsFunc_3 (O : Ops) (s_1 : List (Int × Int × Int × Int)) : Option (Bool) :=
  Option.bind (m_slices_IndexFunc_3 O s_1) fun n38 =>
  (some (O .le 0 n38))
def m_law35_few (O : Ops) (lists_1 : List (Int × Int × Int × Int)) : Option (Bool) :=
  Option.bind (m_slices_ContainsFunc_3 O lists_1) fun b22 =>
  (some (O .not b22))
def m_ref35_Span (O : Ops) (s_1 : Int) (s_2 : Int) : Option (Bool) :=
  Option.bind (
    bif (O .le (-62135596800) s_1) then
      bif (O .lt s_1 s_2) then
        (some (O .le s_2 253402300800))
      else
        (some false)
    else
      (some false) : Option ((Bool))) fun x57 =>
  (some x57)
def m_ref35_Valid (O : Ops) (r_1 : Int) (r_2 : Int) (r_3 : Int) (r_4 : Int) : Option (Bool) :=
  Option.bind (
    Option.bind (m_ref35_Span O r_1 r_2) fun b24 =>
    bif b24 then
      Option.bind (m_ref35_Span O r_3 r_4) fun b25 =>
      (some b25)
    else
      (some false) : Option ((Bool))) fun x59 =>
  (some x59)
def m_ref35_List_L1 (O : Ops) (l_1 : List (Int × Int × Int × Int)) : (Int) → Option ((Int) ⊕ ((Unit) ⊕ (Unit))) := fun i9 =>
  bif (O .lt i9 (O .ofNat (O .len .i4 l_1))) then
    grd (okIdx i9 ((O .len .i4 l_1))) <|
    grd (okKin ((O .toNat i9)) ((O .len .i4 l_1))) <|
    Option.bind (m_ref35_Valid O (((O .get .i4 l_1 (O .toNat i9))).1) (((O .get .i4 l_1 (O .toNat i9))).2.1) (((O .get .i4 l_1 (O .toNat i9))).2.2.1) (((O .get .i4 l_1 (O .toNat i9))).2.2.2)) fun b26 =>
    bif (O .not b26) then
      (some (Sum.inr (Sum.inl ())))
    else
      grd (okI .i64 ((O .add i9 1))) <|
      (some (Sum.inl (O .add i9 1)))
  else
    (some (Sum.inr (Sum.inr ())))
def m_ref35_List (O : Ops) (l_1 : List (Int × Int × Int × Int)) : Option (Bool) :=
  Option.bind (loop (m_ref35_List_L1 O l_1) 0) fun e => match e with
  | .inl _ =>
    (some false)
  | .inr (_) =>
    (some true)
def m_ref35_put_L1 (O : Ops) (l_1 : List Int) (x_1 : Int) : (Bool × Int × List Int) → Option ((Bool × Int × List Int) ⊕ (Bool × List Int)) := fun (done4, i12, l59) =>
  bif (O .lt i12 (O .ofNat (O .len .i1 l_1))) then
    Option.bind (
      bif (O .not done4) then
        grd (okIdx i12 ((O .len .i1 l_1))) <|
        grd (okKin ((O .toNat i12)) ((O .len .i1 l_1))) <|
        (some (O .le x_1 (O .get .i1 l_1 (O .toNat i12))))
      else
        (some false) : Option ((Bool))) fun x67 =>
    Option.bind (
      bif x67 then
        grd (okIdx i12 ((O .len .i1 l_1))) <|
        grd (okKin ((O .toNat i12)) ((O .len .i1 l_1))) <|
        Option.bind (
          bif (O .lt x_1 (O .get .i1 l_1 (O .toNat i12))) then
            grd (okRoom ((O .len .i1 l59))) <|
            grd (okRoom ((O .len .i1 [x_1]))) <|
            (some (O .app .i1 l59 [x_1]))
          else
            (some l59) : Option ((List Int))) fun l61 =>
        (some (true, l61))
      else
        (some (done4, l59)) : Option ((Bool × List Int))) fun (done6, l63) =>
    grd (okIdx i12 ((O .len .i1 l_1))) <|
    grd (okKin ((O .toNat i12)) ((O .len .i1 l_1))) <|
    grd (okRoom ((O .len .i1 l63))) <|
    grd (okRoom ((O .len .i1 [(O .get .i1 l_1 (O .toNat i12))]))) <|
    grd (okI .i64 ((O .add i12 1))) <|
    (some (Sum.inl (done6, (O .add i12 1), (O .app .i1 l63 [(O .get .i1 l_1 (O .toNat i12))]))))
  else
    (some (Sum.inr (done4, l59)))
def m_ref35_put (O : Ops) (x_1 : Int) (l_1 : List Int) : Option (List Int) :=
  Option.bind (loop (m_ref35_put_L1 O l_1 x_1) (false, 0, ([] : List Int))) fun (done7, l64) =>
  Option.bind (
    bif (O .not done7) then
      grd (okRoom ((O .len .i1 l64))) <|
      grd (okRoom ((O .len .i1 [x_1]))) <|
      (some (O .app .i1 l64 [x_1]))
    else
      (some l64) : Option ((List Int))) fun l66 =>
  (some l66)
def m_ref35_ends_L1 (O : Ops) (a_1 : List (Int × Int × Int × Int)) : (Int × List Int) → Option ((Int × List Int) ⊕ (List Int)) := fun (i13, l69) =>
  bif (O .lt i13 (O .ofNat (O .len .i4 a_1))) then
    grd (okIdx i13 ((O .len .i4 a_1))) <|
    grd (okKin ((O .toNat i13)) ((O .len .i4 a_1))) <|
    Option.bind (m_ref35_put O (((O .get .i4 a_1 (O .toNat i13))).2.2.1) l69) fun l70 =>
    Option.bind (m_ref35_put O (((O .get .i4 a_1 (O .toNat i13))).2.2.2) l70) fun l71 =>
    grd (okI .i64 ((O .add i13 1))) <|
    (some (Sum.inl ((O .add i13 1), l71)))
  else
    (some (Sum.inr l69))
def m_ref35_ends_L2 (O : Ops) (b_1 : List (Int × Int × Int × Int)) : (Int × List Int) → Option ((Int × List Int) ⊕ (List Int)) := fun (i15, l75) =>
  bif (O .lt i15 (O .ofNat (O .len .i4 b_1))) then
    grd (okIdx i15 ((O .len .i4 b_1))) <|
    grd (okKin ((O .toNat i15)) ((O .len .i4 b_1))) <|
    Option.bind (m_ref35_put O (((O .get .i4 b_1 (O .toNat i15))).2.2.1) l75) fun l76 =>
    Option.bind (m_ref35_put O (((O .get .i4 b_1 (O .toNat i15))).2.2.2) l76) fun l77 =>
    grd (okI .i64 ((O .add i15 1))) <|
    (some (Sum.inl ((O .add i15 1), l77)))
  else
    (some (Sum.inr l75))
def m_ref35_ends (O : Ops) (a_1 : List (Int × Int × Int × Int)) (b_1 : List (Int × Int × Int × Int)) : Option (List Int) :=
  Option.bind (loop (m_ref35_ends_L1 O a_1) (0, ([] : List Int))) fun l72 =>
  Option.bind (loop (m_ref35_ends_L2 O b_1) (0, l72)) fun l78 =>
  (some l78)
def m_ref12_Number (O : Ops) (x_1 : Int) : Option (Bool) :=
  Option.bind (
    bif (O .le (-4398046511104) x_1) then
      (some (O .le x_1 4398046511104))
    else
      (some false) : Option ((Bool))) fun x73 =>
  (some x73)
def m_ref12_Span (O : Ops) (s_1 : Int) (s_2 : Int) : Option (Bool) :=
  Option.bind (
    Option.bind (m_ref12_Number O s_1) fun b29 =>
    bif b29 then
      Option.bind (m_ref12_Number O s_2) fun b30 =>
      bif b30 then
        (some (O .lt s_1 s_2))
      else
        (some false)
    else
      (some false) : Option ((Bool))) fun x76 =>
  (some x76)
def m_ref12_Spans_L1 (O : Ops) (l_1 : List (Int × Int)) : (Int) → Option ((Int) ⊕ ((Unit) ⊕ (Unit))) := fun i19 =>
  bif (O .lt i19 (O .ofNat (O .len .i2 l_1))) then
    grd (okIdx i19 ((O .len .i2 l_1))) <|
    grd (okKin ((O .toNat i19)) ((O .len .i2 l_1))) <|
    Option.bind (m_ref12_Span O (((O .get .i2 l_1 (O .toNat i19))).1) (((O .get .i2 l_1 (O .toNat i19))).2)) fun b31 =>
    bif (O .not b31) then
      (some (Sum.inr (Sum.inl ())))
    else
      grd (okI .i64 ((O .add i19 1))) <|
      (some (Sum.inl (O .add i19 1)))
  else
    (some (Sum.inr (Sum.inr ())))
def m_ref12_Spans (O : Ops) (l_1 : List (Int × Int)) : Option (Bool) :=
  Option.bind (loop (m_ref12_Spans_L1 O l_1) 0) fun e => match e with
  | .inl _ =>
    (some false)
  | .inr (_) =>
    (some true)
def m_ref12_Ends_L1 (O : Ops) (i27 : Int) (l90 : List Int) (l_1 : List (Int × Int)) : (Int) → Option ((Int) ⊕ (Int)) := fun i29 =>
  Option.bind (
    bif (O .lt 0 i29) then
      grd (okI .i64 ((O .sub i29 1))) <|
      grd (okIdx ((O .sub i29 1)) ((O .len .i1 l90))) <|
      grd (okKin ((O .toNat (O .sub i29 1))) ((O .len .i1 l90))) <|
      (some (O .le ((O .get .i2 l_1 (O .toNat i27))).1 (O .get .i1 l90 (O .toNat (O .sub i29 1)))))
    else
      (some false) : Option ((Bool))) fun x92 =>
  bif x92 then
    grd (okI .i64 ((O .sub i29 1))) <|
    (some (Sum.inl (O .sub i29 1)))
  else
    (some (Sum.inr i29))
def m_ref12_Ends_L2 (O : Ops) (i27 : Int) (l92 : List Int) (l_1 : List (Int × Int)) : (Int) → Option ((Int) ⊕ (Int)) := fun i32 =>
  Option.bind (
    bif (O .lt 0 i32) then
      grd (okI .i64 ((O .sub i32 1))) <|
      grd (okIdx ((O .sub i32 1)) ((O .len .i1 l92))) <|
      grd (okKin ((O .toNat (O .sub i32 1))) ((O .len .i1 l92))) <|
      (some (O .le ((O .get .i2 l_1 (O .toNat i27))).2 (O .get .i1 l92 (O .toNat (O .sub i32 1)))))
    else
      (some false) : Option ((Bool))) fun x98 =>
  bif x98 then
    grd (okI .i64 ((O .sub i32 1))) <|
    (some (Sum.inl (O .sub i32 1)))
  else
    (some (Sum.inr i32))
def m_ref12_Ends_L3 (O : Ops) (l_1 : List (Int × Int)) : (Int × List Int) → Option ((Int × List Int) ⊕ (List Int)) := fun (i27, l90) =>
  bif (O .lt i27 (O .ofNat (O .len .i2 l_1))) then
    Option.bind (
      grd (okIdx i27 ((O .len .i2 l_1))) <|
      grd (okKin ((O .toNat i27)) ((O .len .i2 l_1))) <|
      Option.bind (loop (m_ref12_Ends_L1 O i27 l90 l_1) (O .ofNat (O .len .i1 l90))) fun i30 =>
      Option.bind (
        bif (O .lt i30 (O .ofNat (O .len .i1 l90))) then
          grd (okIdx i30 ((O .len .i1 l90))) <|
          grd (okKin ((O .toNat i30)) ((O .len .i1 l90))) <|
          (some (O .eq (O .get .i1 l90 (O .toNat i30)) ((O .get .i2 l_1 (O .toNat i27))).1))
        else
          (some false) : Option ((Bool))) fun x94 =>
      bif x94 then
        (some l90)
      else
        grd (okRng i30 ((O .len .i1 l90))) <|
        grd (okRoom ((O .len .i1 []))) <|
        grd (okRoom ((O .len .i1 (O .cut .i1 l90 0 (O .toNat i30))))) <|
        grd (okRoom ((O .len .i1 (O .app .i1 [] (O .cut .i1 l90 0 (O .toNat i30)))))) <|
        grd (okRoom ((O .len .i1 [((O .get .i2 l_1 (O .toNat i27))).1]))) <|
        grd (okRoom ((O .len .i1 (O .app .i1 (O .app .i1 [] (O .cut .i1 l90 0 (O .toNat i30))) [((O .get .i2 l_1 (O .toNat i27))).1])))) <|
        grd (okRoom ((O .len .i1 (O .cut .i1 l90 (O .toNat i30) (O .len .i1 l90))))) <|
        (some (O .app .i1 (O .app .i1 (O .app .i1 [] (O .cut .i1 l90 0 (O .toNat i30))) [((O .get .i2 l_1 (O .toNat i27))).1]) (O .cut .i1 l90 (O .toNat i30) (O .len .i1 l90)))) : Option ((List Int))) fun l92 =>
    Option.bind (
      Option.bind (loop (m_ref12_Ends_L2 O i27 l92 l_1) (O .ofNat (O .len .i1 l92))) fun i33 =>
      Option.bind (
        bif (O .lt i33 (O .ofNat (O .len .i1 l92))) then
          grd (okIdx i33 ((O .len .i1 l92))) <|
          grd (okKin ((O .toNat i33)) ((O .len .i1 l92))) <|
          (some (O .eq (O .get .i1 l92 (O .toNat i33)) ((O .get .i2 l_1 (O .toNat i27))).2))
        else
          (some false) : Option ((Bool))) fun x100 =>
      bif x100 then
        (some l92)
      else
        grd (okRng i33 ((O .len .i1 l92))) <|
        grd (okRoom ((O .len .i1 []))) <|
        grd (okRoom ((O .len .i1 (O .cut .i1 l92 0 (O .toNat i33))))) <|
        grd (okRoom ((O .len .i1 (O .app .i1 [] (O .cut .i1 l92 0 (O .toNat i33)))))) <|
        grd (okRoom ((O .len .i1 [((O .get .i2 l_1 (O .toNat i27))).2]))) <|
        grd (okRoom ((O .len .i1 (O .app .i1 (O .app .i1 [] (O .cut .i1 l92 0 (O .toNat i33))) [((O .get .i2 l_1 (O .toNat i27))).2])))) <|
        grd (okRoom ((O .len .i1 (O .cut .i1 l92 (O .toNat i33) (O .len .i1 l92))))) <|
        (some (O .app .i1 (O .app .i1 (O .app .i1 [] (O .cut .i1 l92 0 (O .toNat i33))) [((O .get .i2 l_1 (O .toNat i27))).2]) (O .cut .i1 l92 (O .toNat i33) (O .len .i1 l92)))) : Option ((List Int))) fun l94 =>
    grd (okI .i64 ((O .add i27 1))) <|
    (some (Sum.inl ((O .add i27 1), l94)))
  else
    (some (Sum.inr l90))
def m_ref12_Ends (O : Ops) (l_1 : List (Int × Int)) : Option (List Int) :=
  Option.bind (loop (m_ref12_Ends_L3 O l_1) (0, ([] : List Int))) fun l95 =>
  (some l95)
def m_ref12_In_L1 (O : Ops) (l_1 : List (Int × Int)) (x_1 : Int) : (Int) → Option ((Int) ⊕ ((Unit) ⊕ (Unit))) := fun i35 =>
  bif (O .lt i35 (O .ofNat (O .len .i2 l_1))) then
    Option.bind (
      bif (O .le ((O .get .i2 l_1 (O .toNat i35))).1 x_1) then
        grd (okIdx i35 ((O .len .i2 l_1))) <|
        grd (okKin ((O .toNat i35)) ((O .len .i2 l_1))) <|
        (some (O .lt x_1 ((O .get .i2 l_1 (O .toNat i35))).2))
      else
        grd (okIdx i35 ((O .len .i2 l_1))) <|
        grd (okKin ((O .toNat i35)) ((O .len .i2 l_1))) <|
        (some false) : Option ((Bool))) fun x102 =>
    bif x102 then
      (some (Sum.inr (Sum.inl ())))
    else
      grd (okI .i64 ((O .add i35 1))) <|
      (some (Sum.inl (O .add i35 1)))
  else
    (some (Sum.inr (Sum.inr ())))
def m_ref12_In (O : Ops) (x_1 : Int) (l_1 : List (Int × Int)) : Option (Bool) :=
  Option.bind (loop (m_ref12_In_L1 O l_1 x_1) 0) fun e => match e with
  | .inl _ =>
    (some true)
  | .inr (_) =>
    (some false)
def m_ref12_keep (O : Ops) (kind_1 : Int) (a_1 : Bool) (b_1 : Bool) : Option (Bool) :=
  Option.bind (
    bif (O .eq kind_1 1) then
      Option.bind (
        bif a_1 then
          (some true)
        else
          (some b_1) : Option ((Bool))) fun x104 =>
      (some (Sum.inl x104))
    else
      Option.bind (
        bif (O .eq kind_1 2) then
          Option.bind (
            bif a_1 then
              (some b_1)
            else
              (some false) : Option ((Bool))) fun x106 =>
          (some (Sum.inl x106))
        else
          bif (O .eq kind_1 3) then
            Option.bind (
              bif a_1 then
                (some (O .not b_1))
              else
                (some false) : Option ((Bool))) fun x108 =>
            (some (Sum.inl x108))
          else
            (some (Sum.inr ())) : Option (((Bool) ⊕ (Unit)))) fun e => match e with
      | .inl x110 =>
        (some (Sum.inl x110))
      | .inr (_) =>
        (some (Sum.inr ())) : Option (((Bool) ⊕ (Unit)))) fun e => match e with
  | .inl x112 =>
    (some x112)
  | .inr (_) =>
    (some (O .not (O .beq a_1 b_1)))
def m_ref12_Combine_L1 (O : Ops) (a_1 : List (Int × Int)) (b_1 : List (Int × Int)) (kind_1 : Int) (l96 : List Int) : (Int × List (Int × Int)) → Option ((Int × List (Int × Int)) ⊕ (List (Int × Int))) := fun (i36, l101) =>
  grd (okI .i64 ((O .add i36 1))) <|
  bif (O .lt (O .add i36 1) (O .ofNat (O .len .i1 l96))) then
    grd (okIdx i36 ((O .len .i1 l96))) <|
    grd (okKin ((O .toNat i36)) ((O .len .i1 l96))) <|
    Option.bind (m_ref12_In O ((O .get .i1 l96 (O .toNat i36))) a_1) fun b36 =>
    Option.bind (m_ref12_In O ((O .get .i1 l96 (O .toNat i36))) b_1) fun b37 =>
    Option.bind (m_ref12_keep O kind_1 b36 b37) fun b38 =>
    Option.bind (
      bif b38 then
        Option.bind (
          grd (okIdx ((O .add i36 1)) ((O .len .i1 l96))) <|
          grd (okKin ((O .toNat (O .add i36 1))) ((O .len .i1 l96))) <|
          Option.bind (
            bif (O .lt 0 (O .ofNat (O .len .i2 l101))) then
              grd (okI .i64 ((O .sub (O .ofNat (O .len .i2 l101)) 1))) <|
              grd (okIdx ((O .sub (O .ofNat (O .len .i2 l101)) 1)) ((O .len .i2 l101))) <|
              grd (okKin ((O .toNat (O .sub (O .ofNat (O .len .i2 l101)) 1))) ((O .len .i2 l101))) <|
              (some (O .eq ((O .get .i2 l101 (O .toNat (O .sub (O .ofNat (O .len .i2 l101)) 1)))).2 (O .get .i1 l96 (O .toNat i36))))
            else
              (some false) : Option ((Bool))) fun x116 =>
          bif x116 then
            grd (okI .i64 ((O .sub (O .ofNat (O .len .i2 l101)) 1))) <|
            grd (okIdx ((O .sub (O .ofNat (O .len .i2 l101)) 1)) ((O .len .i2 l101))) <|
            grd (okKin ((O .toNat (O .sub (O .ofNat (O .len .i2 l101)) 1))) ((O .len .i2 l101))) <|
            (some (O .put .i2 l101 (O .toNat (O .sub (O .ofNat (O .len .i2 l101)) 1)) (((O .get .i2 l101 (O .toNat (O .sub (O .ofNat (O .len .i2 l101)) 1)))).1, (O .get .i1 l96 (O .toNat (O .add i36 1))))))
          else
            grd (okRoom ((O .len .i2 l101))) <|
            grd (okRoom ((O .len .i2 [((O .get .i1 l96 (O .toNat i36)), (O .get .i1 l96 (O .toNat (O .add i36 1))))]))) <|
            (some (O .app .i2 l101 [((O .get .i1 l96 (O .toNat i36)), (O .get .i1 l96 (O .toNat (O .add i36 1))))])) : Option ((List (Int × Int)))) fun l103 =>
        (some l103)
      else
        (some l101) : Option ((List (Int × Int)))) fun l105 =>
    (some (Sum.inl ((O .add i36 1), l105)))
  else
    (some (Sum.inr l101))
def m_ref12_Combine (O : Ops) (kind_1 : Int) (a_1 : List (Int × Int)) (b_1 : List (Int × Int)) : Option (List (Int × Int)) :=
  grd (okRoom ((O .len .i2 []))) <|
  grd (okRoom ((O .len .i2 a_1))) <|
  grd (okRoom ((O .len .i2 (O .app .i2 [] a_1)))) <|
  grd (okRoom ((O .len .i2 b_1))) <|
  Option.bind (m_ref12_Ends O ((O .app .i2 (O .app .i2 [] a_1) b_1))) fun l96 =>
  Option.bind (loop (m_ref12_Combine_L1 O a_1 b_1 kind_1 l96) (0, ([] : List (Int × Int)))) fun l106 =>
  (some l106)
def m_ref12_full (O : Ops) (l_1 : List (Int × Int)) : Option (((List (Int × Int) × Int) ⊕ (Int))) :=
  bif (O .lt 2000 (O .ofNat (O .len .i2 l_1))) then
    (some (Sum.inl (([] : List (Int × Int)), 5)))
  else
    (some (Sum.inr 0))
def m_ref12_Of (O : Ops) (l_1 : List (Int × Int)) : Option (List (Int × Int) × Int) :=
  Option.bind (m_ref12_Spans O l_1) fun b32 =>
  bif (O .not b32) then
    (some (([] : List (Int × Int)), 1))
  else
    Option.bind (
      Option.bind (m_ref12_Combine O 1 l_1 (([] : List (Int × Int)))) fun l107 =>
      Option.bind (m_ref12_full O l107) fun e => match e with
      | .inl (l108, n40) =>
        (some (n40, l108))
      | .inr (n41) =>
        (some (n41, l107)) : Option ((Int × List (Int × Int)))) fun (x118, l110) =>
    (some (l110, x118))
def m_ref35_At_L1 (O : Ops) (l_1 : List (Int × Int × Int × Int)) (tx_1 : Int) : (Int × List (Int × Int)) → Option ((Int × List (Int × Int)) ⊕ (List (Int × Int))) := fun (i18, l82) =>
  bif (O .lt i18 (O .ofNat (O .len .i4 l_1))) then
    Option.bind (
      bif (O .le ((O .get .i4 l_1 (O .toNat i18))).2.2.1 tx_1) then
        grd (okIdx i18 ((O .len .i4 l_1))) <|
        grd (okKin ((O .toNat i18)) ((O .len .i4 l_1))) <|
        (some (O .lt tx_1 ((O .get .i4 l_1 (O .toNat i18))).2.2.2))
      else
        grd (okIdx i18 ((O .len .i4 l_1))) <|
        grd (okKin ((O .toNat i18)) ((O .len .i4 l_1))) <|
        (some false) : Option ((Bool))) fun x71 =>
    Option.bind (
      bif x71 then
        grd (okRoom ((O .len .i2 l82))) <|
        grd (okRoom ((O .len .i2 [(((O .get .i4 l_1 (O .toNat i18))).1, ((O .get .i4 l_1 (O .toNat i18))).2.1)]))) <|
        (some (O .app .i2 l82 [(((O .get .i4 l_1 (O .toNat i18))).1, ((O .get .i4 l_1 (O .toNat i18))).2.1)]))
      else
        (some l82) : Option ((List (Int × Int)))) fun l84 =>
    grd (okI .i64 ((O .add i18 1))) <|
    (some (Sum.inl ((O .add i18 1), l84)))
  else
    (some (Sum.inr l82))
def m_ref35_At (O : Ops) (tx_1 : Int) (l_1 : List (Int × Int × Int × Int)) : Option (List (Int × Int)) :=
  Option.bind (loop (m_ref35_At_L1 O l_1 tx_1) (0, ([] : List (Int × Int)))) fun l85 =>
  Option.bind (m_ref12_Of O l85) fun (l111, _) =>
  (some l111)
def m_ref35_has (O : Ops) (x_1 : Int) (l_1 : List (Int × Int)) : Option (Bool) :=
  Option.bind (m_ref12_In O x_1 l_1) fun b39 =>
  (some b39)
def m_ref35_mix_L1 (O : Ops) (a_1 : List (Int × Int)) : (Int × List Int) → Option ((Int × List Int) ⊕ (List Int)) := fun (i38, l116) =>
  bif (O .lt i38 (O .ofNat (O .len .i2 a_1))) then
    grd (okIdx i38 ((O .len .i2 a_1))) <|
    grd (okKin ((O .toNat i38)) ((O .len .i2 a_1))) <|
    Option.bind (m_ref35_put O (((O .get .i2 a_1 (O .toNat i38))).1) l116) fun l117 =>
    Option.bind (m_ref35_put O (((O .get .i2 a_1 (O .toNat i38))).2) l117) fun l118 =>
    grd (okI .i64 ((O .add i38 1))) <|
    (some (Sum.inl ((O .add i38 1), l118)))
  else
    (some (Sum.inr l116))
def m_ref35_mix_L2 (O : Ops) (b_1 : List (Int × Int)) : (Int × List Int) → Option ((Int × List Int) ⊕ (List Int)) := fun (i40, l122) =>
  bif (O .lt i40 (O .ofNat (O .len .i2 b_1))) then
    grd (okIdx i40 ((O .len .i2 b_1))) <|
    grd (okKin ((O .toNat i40)) ((O .len .i2 b_1))) <|
    Option.bind (m_ref35_put O (((O .get .i2 b_1 (O .toNat i40))).1) l122) fun l123 =>
    Option.bind (m_ref35_put O (((O .get .i2 b_1 (O .toNat i40))).2) l123) fun l124 =>
    grd (okI .i64 ((O .add i40 1))) <|
    (some (Sum.inl ((O .add i40 1), l124)))
  else
    (some (Sum.inr l122))
def m_ref35_mix_L3 (O : Ops) (a_1 : List (Int × Int)) (b_1 : List (Int × Int)) (kind_1 : Int) (l125 : List Int) : (Int × List (Int × Int)) → Option ((Int × List (Int × Int)) ⊕ (List (Int × Int))) := fun (i42, l130) =>
  grd (okI .i64 ((O .add i42 1))) <|
  bif (O .lt (O .add i42 1) (O .ofNat (O .len .i1 l125))) then
    grd (okIdx i42 ((O .len .i1 l125))) <|
    grd (okKin ((O .toNat i42)) ((O .len .i1 l125))) <|
    Option.bind (m_ref35_has O ((O .get .i1 l125 (O .toNat i42))) a_1) fun b42 =>
    Option.bind (m_ref35_has O ((O .get .i1 l125 (O .toNat i42))) b_1) fun b43 =>
    Option.bind (
      bif (O .eq kind_1 0) then
        bif b42 then
          (some true)
        else
          bif b43 then
            (some true)
          else
            bif (O .eq kind_1 1) then
              bif (O .eq kind_1 2) then
                (some false)
              else
                (some false)
            else
              bif (O .eq kind_1 2) then
                (some false)
              else
                (some false)
      else
        bif (O .eq kind_1 1) then
          bif b42 then
            bif b43 then
              (some true)
            else
              bif (O .eq kind_1 2) then
                (some (O .not false))
              else
                (some false)
          else
            bif (O .eq kind_1 2) then
              (some false)
            else
              (some false)
        else
          bif (O .eq kind_1 2) then
            bif b42 then
              (some (O .not b43))
            else
              (some false)
          else
            (some false) : Option ((Bool))) fun x146 =>
    Option.bind (
      bif x146 then
        Option.bind (
          bif (O .lt 0 (O .ofNat (O .len .i2 l130))) then
            grd (okI .i64 ((O .sub (O .ofNat (O .len .i2 l130)) 1))) <|
            grd (okIdx ((O .sub (O .ofNat (O .len .i2 l130)) 1)) ((O .len .i2 l130))) <|
            grd (okKin ((O .toNat (O .sub (O .ofNat (O .len .i2 l130)) 1))) ((O .len .i2 l130))) <|
            (some (O .eq ((O .get .i2 l130 (O .toNat (O .sub (O .ofNat (O .len .i2 l130)) 1)))).2 (O .get .i1 l125 (O .toNat i42))))
          else
            (some false) : Option ((Bool))) fun x148 =>
        Option.bind (
          bif x148 then
            grd (okI .i64 ((O .sub (O .ofNat (O .len .i2 l130)) 1))) <|
            grd (okIdx ((O .add i42 1)) ((O .len .i1 l125))) <|
            grd (okKin ((O .toNat (O .add i42 1))) ((O .len .i1 l125))) <|
            grd (okIdx ((O .sub (O .ofNat (O .len .i2 l130)) 1)) ((O .len .i2 l130))) <|
            grd (okKin ((O .toNat (O .sub (O .ofNat (O .len .i2 l130)) 1))) ((O .len .i2 l130))) <|
            (some (O .put .i2 l130 (O .toNat (O .sub (O .ofNat (O .len .i2 l130)) 1)) (((O .get .i2 l130 (O .toNat (O .sub (O .ofNat (O .len .i2 l130)) 1)))).1, (O .get .i1 l125 (O .toNat (O .add i42 1))))))
          else
            grd (okIdx ((O .add i42 1)) ((O .len .i1 l125))) <|
            grd (okKin ((O .toNat (O .add i42 1))) ((O .len .i1 l125))) <|
            grd (okRoom ((O .len .i2 l130))) <|
            grd (okRoom ((O .len .i2 [((O .get .i1 l125 (O .toNat i42)), (O .get .i1 l125 (O .toNat (O .add i42 1))))]))) <|
            (some (O .app .i2 l130 [((O .get .i1 l125 (O .toNat i42)), (O .get .i1 l125 (O .toNat (O .add i42 1))))])) : Option ((List (Int × Int)))) fun l132 =>
        (some l132)
      else
        (some l130) : Option ((List (Int × Int)))) fun l134 =>
    (some (Sum.inl ((O .add i42 1), l134)))
  else
    (some (Sum.inr l130))
def m_ref35_mix (O : Ops) (kind_1 : Int) (a_1 : List (Int × Int)) (b_1 : List (Int × Int)) : Option (List (Int × Int)) :=
  Option.bind (loop (m_ref35_mix_L1 O a_1) (0, ([] : List Int))) fun l119 =>
  Option.bind (loop (m_ref35_mix_L2 O b_1) (0, l119)) fun l125 =>
  Option.bind (loop (m_ref35_mix_L3 O a_1 b_1 kind_1 l125) (0, ([] : List (Int × Int)))) fun l135 =>
  (some l135)
def m_ref12_Same_L1 (O : Ops) (a_1 : List (Int × Int)) (b_1 : List (Int × Int)) : (Int) → Option ((Int) ⊕ ((Unit) ⊕ (Unit))) := fun i43 =>
  bif (O .lt i43 (O .ofNat (O .len .i2 a_1))) then
    Option.bind (
      bif (O .not (O .eq ((O .get .i2 a_1 (O .toNat i43))).1 ((O .get .i2 b_1 (O .toNat i43))).1)) then
        grd (okIdx i43 ((O .len .i2 a_1))) <|
        grd (okKin ((O .toNat i43)) ((O .len .i2 a_1))) <|
        grd (okIdx i43 ((O .len .i2 b_1))) <|
        grd (okKin ((O .toNat i43)) ((O .len .i2 b_1))) <|
        (some true)
      else
        grd (okIdx i43 ((O .len .i2 a_1))) <|
        grd (okKin ((O .toNat i43)) ((O .len .i2 a_1))) <|
        grd (okIdx i43 ((O .len .i2 b_1))) <|
        grd (okKin ((O .toNat i43)) ((O .len .i2 b_1))) <|
        (some (O .not (O .eq ((O .get .i2 a_1 (O .toNat i43))).2 ((O .get .i2 b_1 (O .toNat i43))).2))) : Option ((Bool))) fun x150 =>
    bif x150 then
      (some (Sum.inr (Sum.inl ())))
    else
      grd (okI .i64 ((O .add i43 1))) <|
      (some (Sum.inl (O .add i43 1)))
  else
    (some (Sum.inr (Sum.inr ())))
def m_ref12_Same (O : Ops) (a_1 : List (Int × Int)) (b_1 : List (Int × Int)) : Option (Bool) :=
  bif (O .not (O .eq (O .ofNat (O .len .i2 a_1)) (O .ofNat (O .len .i2 b_1)))) then
    (some false)
  else
    Option.bind (loop (m_ref12_Same_L1 O a_1 b_1) 0) fun e => match e with
    | .inl _ =>
      (some false)
    | .inr (_) =>
      (some true)
def m_ref35_Combine_L1 (O : Ops) (from4 : Int) (i44 : Int) (l142 : List (Int × Int)) (l79 : List Int) : (Int × List (Int × Int × Int × Int)) → Option ((Int × List (Int × Int × Int × Int)) ⊕ (List (Int × Int × Int × Int))) := fun (k14, l148) =>
  bif (O .lt k14 (O .ofNat (O .len .i2 l142))) then
    grd (okIdx k14 ((O .len .i2 l142))) <|
    grd (okKin ((O .toNat k14)) ((O .len .i2 l142))) <|
    grd (okIdx i44 ((O .len .i1 l79))) <|
    grd (okKin ((O .toNat i44)) ((O .len .i1 l79))) <|
    grd (okRoom ((O .len .i4 l148))) <|
    grd (okRoom ((O .len .i4 [(((O .get .i2 l142 (O .toNat k14))).1, ((O .get .i2 l142 (O .toNat k14))).2, from4, (O .get .i1 l79 (O .toNat i44)))]))) <|
    grd (okI .i64 ((O .add k14 1))) <|
    (some (Sum.inl ((O .add k14 1), (O .app .i4 l148 [(((O .get .i2 l142 (O .toNat k14))).1, ((O .get .i2 l142 (O .toNat k14))).2, from4, (O .get .i1 l79 (O .toNat i44)))]))))
  else
    (some (Sum.inr l148))
def m_ref35_Combine_L2 (O : Ops) (a_1 : List (Int × Int × Int × Int)) (b_1 : List (Int × Int × Int × Int)) (kind_1 : Int) (l79 : List Int) : (Int × Int × List (Int × Int × Int × Int) × List (Int × Int)) → Option ((Int × Int × List (Int × Int × Int × Int) × List (Int × Int)) ⊕ (List (Int × Int × Int × Int))) := fun (from4, i44, l141, l142) =>
  bif (O .lt i44 (O .ofNat (O .len .i1 l79))) then
    grd (okI .i64 ((O .add i44 1))) <|
    Option.bind (
      bif (O .lt (O .add i44 1) (O .ofNat (O .len .i1 l79))) then
        grd (okIdx i44 ((O .len .i1 l79))) <|
        grd (okKin ((O .toNat i44)) ((O .len .i1 l79))) <|
        Option.bind (m_ref35_At O ((O .get .i1 l79 (O .toNat i44))) a_1) fun l143 =>
        Option.bind (m_ref35_At O ((O .get .i1 l79 (O .toNat i44))) b_1) fun l144 =>
        Option.bind (m_ref35_mix O kind_1 l143 l144) fun l145 =>
        (some l145)
      else
        (some ([] : List (Int × Int))) : Option ((List (Int × Int)))) fun l147 =>
    Option.bind (m_ref12_Same O l147 l142) fun b45 =>
    bif b45 then
      (some (Sum.inl (from4, (O .add i44 1), l141, l142)))
    else
      Option.bind (loop (m_ref35_Combine_L1 O from4 i44 l142 l79) (0, l141)) fun l149 =>
      grd (okIdx i44 ((O .len .i1 l79))) <|
      grd (okKin ((O .toNat i44)) ((O .len .i1 l79))) <|
      (some (Sum.inl ((O .get .i1 l79 (O .toNat i44)), (O .add i44 1), l149, l147)))
  else
    (some (Sum.inr l141))
def m_ref35_Combine (O : Ops) (kind_1 : Int) (a_1 : List (Int × Int × Int × Int)) (b_1 : List (Int × Int × Int × Int)) : Option (List (Int × Int × Int × Int) × Int) :=
  Option.bind (
    Option.bind (m_ref35_List O a_1) fun b27 =>
    bif (O .not b27) then
      (some true)
    else
      Option.bind (m_ref35_List O b_1) fun b28 =>
      (some (O .not b28)) : Option ((Bool))) fun x61 =>
  bif x61 then
    (some (([] : List (Int × Int × Int × Int)), 1))
  else
    Option.bind (
      bif (O .lt 500 (O .ofNat (O .len .i4 a_1))) then
        (some true)
      else
        (some (O .lt 500 (O .ofNat (O .len .i4 b_1)))) : Option ((Bool))) fun x63 =>
    bif x63 then
      (some (([] : List (Int × Int × Int × Int)), 5))
    else
      Option.bind (m_ref35_ends O a_1 b_1) fun l79 =>
      Option.bind (loop (m_ref35_Combine_L2 O a_1 b_1 kind_1 l79) (0, 0, ([] : List (Int × Int × Int × Int)), ([] : List (Int × Int)))) fun l150 =>
      bif (O .lt 500 (O .ofNat (O .len .i4 l150))) then
        (some (([] : List (Int × Int × Int × Int)), 5))
      else
        (some (l150, 0))
def m_law35_RectangleCanonical_1 (O : Ops) (r_1 : Int) (r_2 : Int) (r_3 : Int) (r_4 : Int) : Option (Bool) :=
  Option.bind (m_rectangle_Valid O r_1 r_2 r_3 r_4) fun b47 =>
  Option.bind (m_ref35_Valid O r_1 r_2 r_3 r_4) fun b48 =>
  (some (O .not (O .beq b47 b48)))
def m_slices_IndexFunc_4_L1 (O : Ops) (s_1 : List (Int × Int × Int × Int)) : (Int) → Option ((Int) ⊕ ((Int) ⊕ (Unit))) := fun x151 =>
  bif (O .lt x151 (O .ofNat (O .len .i4 s_1))) then
    grd (okIdx x151 ((O .len .i4 s_1))) <|
    grd (okKin ((O .toNat x151)) ((O .len .i4 s_1))) <|
    Option.bind (m_law35_RectangleCanonical_1 O (((O .get .i4 s_1 (O .toNat x151))).1) (((O .get .i4 s_1 (O .toNat x151))).2.1) (((O .get .i4 s_1 (O .toNat x151))).2.2.1) (((O .get .i4 s_1 (O .toNat x151))).2.2.2)) fun b49 =>
    bif b49 then
      (some (Sum.inr (Sum.inl x151)))
    else
      grd (okI .i64 ((O .add x151 1))) <|
      (some (Sum.inl (O .add x151 1)))
  else
    (some (Sum.inr (Sum.inr ())))
def m_slices_IndexFunc_4 (O : Ops) (s_1 : List (Int × Int × Int × Int)) : Option (Int) :=
  Option.bind (loop (m_slices_IndexFunc_4_L1 O s_1) 0) fun e => match e with
  | .inl x152 =>
    (some x152)
  | .inr (_) =>
    (some (-1))
def m_slices_ContainsFunc_4 (O : Ops) (s_1 : List (Int × Int × Int × Int)) : Option (Bool) :=
  Option.bind (m_slices_IndexFunc_4 O s_1) fun n44 =>
  (some (O .le 0 n44))
def m_law35_RectangleCanonical (O : Ops) (l_1 : List (Int × Int × Int × Int)) : Option (Bool) :=
  Option.bind (m_law35_awake O) fun b20 =>
  bif (O .not b20) then
    (some false)
  else
    Option.bind (m_law35_few O l_1) fun b23 =>
    bif (O .not b23) then
      (some true)
    else
      Option.bind (m_rectangle_Canonical O l_1) fun (l54, n39) =>
      Option.bind (m_ref35_Combine O 0 l_1 (([] : List (Int × Int × Int × Int)))) fun (l151, n43) =>
      Option.bind (
        Option.bind (m_slices_Equal_2 O l54 l151) fun b46 =>
        bif b46 then
          bif (O .eq n39 n43) then
            Option.bind (m_slices_ContainsFunc_4 O l_1) fun b50 =>
            (some (O .not b50))
          else
            (some false)
        else
          (some false) : Option ((Bool))) fun x155 =>
      (some x155)
def m_slices_IndexFunc_5 (O : Ops) (s_1 : List (Int × Int × Int × Int)) (s_2 : List (Int × Int × Int × Int)) : Option (Int) :=
  Option.bind (m_law35_few_1 O s_1) fun b52 =>
  bif b52 then
    (some 0)
  else
    grd (okI .i64 ((O .add 0 1))) <|
    Option.bind (m_law35_few_1 O s_2) fun b53 =>
    bif b53 then
      (some 1)
    else
      grd (okI .i64 ((O .add 1 1))) <|
      (some (-1))
def m_slices_ContainsFunc_5 (O : Ops) (s_1 : List (Int × Int × Int × Int)) (s_2 : List (Int × Int × Int × Int)) : Option (Bool) :=
  Option.bind (m_slices_IndexFunc_5 O s_1 s_2) fun n45 =>
  (some (O .le 0 n45))
def m_law35_few_2 (O : Ops) (lists_1 : List (Int × Int × Int × Int)) (lists_2 : List (Int × Int × Int × Int)) : Option (Bool) :=
  Option.bind (m_slices_ContainsFunc_5 O lists_1 lists_2) fun b54 =>
  (some (O .not b54))
def m_rectangle_Union (O : Ops) (a_1 : List (Int × Int × Int × Int)) (b_1 : List (Int × Int × Int × Int)) : Option (List (Int × Int × Int × Int) × Int) :=
  Option.bind (m_rectangle_combine O a_1 b_1) fun (l152, n46) =>
  (some (l152, n46))
def m_runs_Meet_1 (O : Ops) (a_1 : Bool) (b_1 : Bool) : Option (Bool) :=
  Option.bind (
    bif a_1 then
      (some b_1)
    else
      (some false) : Option ((Bool))) fun x165 =>
  (some x165)
def m_runs_combine_2_L1 (O : Ops) (a_1 : List (Int × Int)) (b_1 : List (Int × Int)) : (Int × Int × Bool × Int × List (Int × Int)) → Option ((Int × Int × Bool × Int × List (Int × Int)) ⊕ (List (Int × Int))) := fun (i49, k18, inside4, from6, l164) =>
  Option.bind (
    bif (O .lt i49 (O .mul 2 (O .ofNat (O .len .i2 a_1)))) then
      grd (okI .i64 ((O .mul 2 (O .ofNat (O .len .i2 a_1))))) <|
      (some true)
    else
      grd (okI .i64 ((O .mul 2 (O .ofNat (O .len .i2 a_1))))) <|
      grd (okI .i64 ((O .mul 2 (O .ofNat (O .len .i2 b_1))))) <|
      (some (O .lt k18 (O .mul 2 (O .ofNat (O .len .i2 b_1))))) : Option ((Bool))) fun x167 =>
  bif x167 then
    Option.bind (m_runs_combine_1 O i49 a_1) fun n54 =>
    Option.bind (m_runs_combine_1 O k18 b_1) fun n55 =>
    Option.bind (m_runs_combine_1 O i49 a_1) fun n56 =>
    Option.bind (
      bif (O .eq n56 (O .min n54 n55)) then
        grd (okI .i64 ((O .add i49 1))) <|
        (some (O .add i49 1))
      else
        (some i49) : Option ((Int))) fun i51 =>
    Option.bind (m_runs_combine_1 O k18 b_1) fun n57 =>
    Option.bind (
      bif (O .eq n57 (O .min n54 n55)) then
        grd (okI .i64 ((O .add k18 1))) <|
        (some (O .add k18 1))
      else
        (some k18) : Option ((Int))) fun k20 =>
    grd (okNz 2) <|
    Option.bind (m_runs_Meet_1 O ((O .eq (O .rem i51 2) 1)) ((O .eq (O .rem k20 2) 1))) fun b60 =>
    bif (O .beq b60 inside4) then
      (some (Sum.inl (i51, k20, inside4, from6, l164)))
    else
      Option.bind (
        bif inside4 then
          grd (okRoom ((O .len .i2 l164))) <|
          grd (okRoom ((O .len .i2 [(from6, (O .min n54 n55))]))) <|
          (some (O .app .i2 l164 [(from6, (O .min n54 n55))]))
        else
          (some l164) : Option ((List (Int × Int)))) fun l166 =>
      (some (Sum.inl (i51, k20, b60, (O .min n54 n55), l166)))
  else
    (some (Sum.inr l164))
def m_runs_combine_2 (O : Ops) (a_1 : List (Int × Int)) (b_1 : List (Int × Int)) : Option (List (Int × Int) × Int) :=
  Option.bind (
    Option.bind (m_runs_Valid O a_1) fun b57 =>
    bif (O .not b57) then
      (some true)
    else
      Option.bind (m_runs_Valid O b_1) fun b58 =>
      (some (O .not b58)) : Option ((Bool))) fun x161 =>
  bif x161 then
    (some (([] : List (Int × Int)), 1))
  else
    Option.bind (loop (m_runs_combine_2_L1 O a_1 b_1) (0, 0, false, 0, ([] : List (Int × Int)))) fun l167 =>
    Option.bind (
      Option.bind (m_runs_done O l167) fun e => match e with
      | .inl (l168, n58) =>
        (some (n58, l168))
      | .inr (n59) =>
        (some (n59, l167)) : Option ((Int × List (Int × Int)))) fun (x169, l170) =>
    (some (l170, x169))
def m_runs_Meet (O : Ops) (a_1 : List (Int × Int)) (b_1 : List (Int × Int)) : Option (List (Int × Int) × Int) :=
  Option.bind (m_runs_combine_2 O a_1 b_1) fun (l171, n60) =>
  (some (l171, n60))
def m_rectangle_combine_2_L1 (O : Ops) (l155 : List (Int × Int × Int × Int)) : (Int × List Int) → Option ((Int × List Int) ⊕ (List Int)) := fun (x159, l156) =>
  bif (O .lt x159 (O .ofNat (O .len .i4 l155))) then
    grd (okIdx x159 ((O .len .i4 l155))) <|
    grd (okKin ((O .toNat x159)) ((O .len .i4 l155))) <|
    grd (okRoom ((O .len .i1 l156))) <|
    grd (okRoom ((O .len .i1 [((O .get .i4 l155 (O .toNat x159))).2.2.1, ((O .get .i4 l155 (O .toNat x159))).2.2.2]))) <|
    grd (okI .i64 ((O .add x159 1))) <|
    (some (Sum.inl ((O .add x159 1), (O .app .i1 l156 [((O .get .i4 l155 (O .toNat x159))).2.2.1, ((O .get .i4 l155 (O .toNat x159))).2.2.2]))))
  else
    (some (Sum.inr l156))
def m_rectangle_combine_2_L2 (O : Ops) (i52 : Int) (l159 : List Int) : (Int × List (Int × Int × Int × Int)) → Option ((Int × List (Int × Int × Int × Int)) ⊕ (List (Int × Int × Int × Int))) := fun (k24, l182) =>
  bif (O .lt k24 (O .ofNat (O .len .i4 l182))) then
    grd (okIdx ((O .add i52 1)) ((O .len .i1 l159))) <|
    grd (okKin ((O .toNat (O .add i52 1))) ((O .len .i1 l159))) <|
    grd (okIdx k24 ((O .len .i4 l182))) <|
    grd (okKin ((O .toNat k24)) ((O .len .i4 l182))) <|
    grd (okI .i64 ((O .add k24 1))) <|
    (some (Sum.inl ((O .add k24 1), (O .put .i4 l182 (O .toNat k24) (((O .get .i4 l182 (O .toNat k24))).1, ((O .get .i4 l182 (O .toNat k24))).2.1, ((O .get .i4 l182 (O .toNat k24))).2.2.1, (O .get .i1 l159 (O .toNat (O .add i52 1))))))))
  else
    (some (Sum.inr l182))
def m_rectangle_combine_2_L3 (O : Ops) (i52 : Int) (l159 : List Int) (l181 : List (Int × Int)) : (Int × List (Int × Int × Int × Int)) → Option ((Int × List (Int × Int × Int × Int)) ⊕ (List (Int × Int × Int × Int))) := fun (x173, l184) =>
  bif (O .lt x173 (O .ofNat (O .len .i2 l181))) then
    grd (okIdx x173 ((O .len .i2 l181))) <|
    grd (okKin ((O .toNat x173)) ((O .len .i2 l181))) <|
    grd (okRng ((O .ofNat (O .len .i4 l184))) ((O .len .i4 l184))) <|
    grd (okRng ((O .ofNat (O .len .i4 l184))) ((O .toNat (O .ofNat (O .len .i4 l184))))) <|
    grd (okIdx ((O .add i52 1)) ((O .len .i1 l159))) <|
    grd (okKin ((O .toNat (O .add i52 1))) ((O .len .i1 l159))) <|
    grd (okRoom ((O .len .i4 (O .cut .i4 l184 0 (O .toNat (O .ofNat (O .len .i4 l184))))))) <|
    grd (okRoom ((O .len .i4 [(((O .get .i2 l181 (O .toNat x173))).1, ((O .get .i2 l181 (O .toNat x173))).2, (O .get .i1 l159 (O .toNat i52)), (O .get .i1 l159 (O .toNat (O .add i52 1))))]))) <|
    grd (okKin 0 ((O .len .i4 [(((O .get .i2 l181 (O .toNat x173))).1, ((O .get .i2 l181 (O .toNat x173))).2, (O .get .i1 l159 (O .toNat i52)), (O .get .i1 l159 (O .toNat (O .add i52 1))))]))) <|
    grd (okI .i64 ((O .add x173 1))) <|
    (some (Sum.inl ((O .add x173 1), (O .app .i4 (O .cut .i4 l184 0 (O .toNat (O .ofNat (O .len .i4 l184)))) [(((O .get .i2 l181 (O .toNat x173))).1, ((O .get .i2 l181 (O .toNat x173))).2, (O .get .i1 l159 (O .toNat i52)), (O .get .i1 l159 (O .toNat (O .add i52 1))))]))))
  else
    (some (Sum.inr l184))
def m_rectangle_combine_2_L4 (O : Ops) (a_1 : List (Int × Int × Int × Int)) (b_1 : List (Int × Int × Int × Int)) (l159 : List Int) : (Int × Int × List (Int × Int × Int × Int) × List (Int × Int)) → Option ((Int × Int × List (Int × Int × Int × Int) × List (Int × Int)) ⊕ ((Int) ⊕ (List (Int × Int × Int × Int)))) := fun (start4, i52, l177, l178) =>
  grd (okI .i64 ((O .add i52 1))) <|
  bif (O .lt (O .add i52 1) (O .ofNat (O .len .i1 l159))) then
    grd (okIdx i52 ((O .len .i1 l159))) <|
    grd (okKin ((O .toNat i52)) ((O .len .i1 l159))) <|
    Option.bind (m_rectangle_times O ((O .get .i1 l159 (O .toNat i52))) a_1) fun l179 =>
    Option.bind (m_rectangle_times O ((O .get .i1 l159 (O .toNat i52))) b_1) fun l180 =>
    Option.bind (m_runs_Meet O l179 l180) fun (l181, n62) =>
    bif (O .not (O .eq n62 0)) then
      (some (Sum.inr (Sum.inl n62)))
    else
      Option.bind (m_slices_Equal O l181 l178) fun b62 =>
      bif b62 then
        Option.bind (loop (m_rectangle_combine_2_L2 O i52 l159) (start4, l177)) fun l183 =>
        (some (Sum.inl (start4, (O .add i52 1), l183, l178)))
      else
        Option.bind (loop (m_rectangle_combine_2_L3 O i52 l159 l181) (0, l177)) fun l185 =>
        bif (O .lt 500 (O .ofNat (O .len .i4 l185))) then
          (some (Sum.inr (Sum.inl 5)))
        else
          (some (Sum.inl ((O .ofNat (O .len .i4 l177)), (O .add i52 1), l185, l181)))
  else
    (some (Sum.inr (Sum.inr l177)))
def m_rectangle_combine_2 (O : Ops) (a_1 : List (Int × Int × Int × Int)) (b_1 : List (Int × Int × Int × Int)) : Option (List (Int × Int × Int × Int) × Int) :=
  Option.bind (m_rectangle_check O a_1 b_1) fun n49 =>
  bif (O .not (O .eq n49 0)) then
    (some (([] : List (Int × Int × Int × Int)), n49))
  else
    Option.bind (m_slices_Concat O a_1 b_1) fun l155 =>
    Option.bind (loop (m_rectangle_combine_2_L1 O l155) (0, ([] : List Int))) fun l157 =>
    Option.bind (m_sortI O l157) fun l158 =>
    Option.bind (m_compI O l158) fun l159 =>
    Option.bind (loop (m_rectangle_combine_2_L4 O a_1 b_1 l159) (0, 0, ([] : List (Int × Int × Int × Int)), ([] : List (Int × Int)))) fun e => match e with
    | .inl x175 =>
      (some (([] : List (Int × Int × Int × Int)), x175))
    | .inr (l186) =>
      (some (l186, 0))
def m_rectangle_Meet (O : Ops) (a_1 : List (Int × Int × Int × Int)) (b_1 : List (Int × Int × Int × Int)) : Option (List (Int × Int × Int × Int) × Int) :=
  Option.bind (m_rectangle_combine_2 O a_1 b_1) fun (l187, n63) =>
  (some (l187, n63))
def m_runs_Minus_1 (O : Ops) (a_1 : Bool) (b_1 : Bool) : Option (Bool) :=
  Option.bind (
    bif a_1 then
      (some (O .not b_1))
    else
      (some false) : Option ((Bool))) fun x185 =>
  (some x185)
def m_runs_combine_3_L1 (O : Ops) (a_1 : List (Int × Int)) (b_1 : List (Int × Int)) : (Int × Int × Bool × Int × List (Int × Int)) → Option ((Int × Int × Bool × Int × List (Int × Int)) ⊕ (List (Int × Int))) := fun (i57, k28, inside6, from8, l199) =>
  Option.bind (
    bif (O .lt i57 (O .mul 2 (O .ofNat (O .len .i2 a_1)))) then
      grd (okI .i64 ((O .mul 2 (O .ofNat (O .len .i2 a_1))))) <|
      (some true)
    else
      grd (okI .i64 ((O .mul 2 (O .ofNat (O .len .i2 a_1))))) <|
      grd (okI .i64 ((O .mul 2 (O .ofNat (O .len .i2 b_1))))) <|
      (some (O .lt k28 (O .mul 2 (O .ofNat (O .len .i2 b_1))))) : Option ((Bool))) fun x187 =>
  bif x187 then
    Option.bind (m_runs_combine_1 O i57 a_1) fun n71 =>
    Option.bind (m_runs_combine_1 O k28 b_1) fun n72 =>
    Option.bind (m_runs_combine_1 O i57 a_1) fun n73 =>
    Option.bind (
      bif (O .eq n73 (O .min n71 n72)) then
        grd (okI .i64 ((O .add i57 1))) <|
        (some (O .add i57 1))
      else
        (some i57) : Option ((Int))) fun i59 =>
    Option.bind (m_runs_combine_1 O k28 b_1) fun n74 =>
    Option.bind (
      bif (O .eq n74 (O .min n71 n72)) then
        grd (okI .i64 ((O .add k28 1))) <|
        (some (O .add k28 1))
      else
        (some k28) : Option ((Int))) fun k30 =>
    grd (okNz 2) <|
    Option.bind (m_runs_Minus_1 O ((O .eq (O .rem i59 2) 1)) ((O .eq (O .rem k30 2) 1))) fun b67 =>
    bif (O .beq b67 inside6) then
      (some (Sum.inl (i59, k30, inside6, from8, l199)))
    else
      Option.bind (
        bif inside6 then
          grd (okRoom ((O .len .i2 l199))) <|
          grd (okRoom ((O .len .i2 [(from8, (O .min n71 n72))]))) <|
          (some (O .app .i2 l199 [(from8, (O .min n71 n72))]))
        else
          (some l199) : Option ((List (Int × Int)))) fun l201 =>
      (some (Sum.inl (i59, k30, b67, (O .min n71 n72), l201)))
  else
    (some (Sum.inr l199))
def m_runs_combine_3 (O : Ops) (a_1 : List (Int × Int)) (b_1 : List (Int × Int)) : Option (List (Int × Int) × Int) :=
  Option.bind (
    Option.bind (m_runs_Valid O a_1) fun b64 =>
    bif (O .not b64) then
      (some true)
    else
      Option.bind (m_runs_Valid O b_1) fun b65 =>
      (some (O .not b65)) : Option ((Bool))) fun x181 =>
  bif x181 then
    (some (([] : List (Int × Int)), 1))
  else
    Option.bind (loop (m_runs_combine_3_L1 O a_1 b_1) (0, 0, false, 0, ([] : List (Int × Int)))) fun l202 =>
    Option.bind (
      Option.bind (m_runs_done O l202) fun e => match e with
      | .inl (l203, n75) =>
        (some (n75, l203))
      | .inr (n76) =>
        (some (n76, l202)) : Option ((Int × List (Int × Int)))) fun (x189, l205) =>
    (some (l205, x189))
def m_runs_Minus (O : Ops) (a_1 : List (Int × Int)) (b_1 : List (Int × Int)) : Option (List (Int × Int) × Int) :=
  Option.bind (m_runs_combine_3 O a_1 b_1) fun (l206, n77) =>
  (some (l206, n77))
def m_rectangle_combine_3_L1 (O : Ops) (l190 : List (Int × Int × Int × Int)) : (Int × List Int) → Option ((Int × List Int) ⊕ (List Int)) := fun (x179, l191) =>
  bif (O .lt x179 (O .ofNat (O .len .i4 l190))) then
    grd (okIdx x179 ((O .len .i4 l190))) <|
    grd (okKin ((O .toNat x179)) ((O .len .i4 l190))) <|
    grd (okRoom ((O .len .i1 l191))) <|
    grd (okRoom ((O .len .i1 [((O .get .i4 l190 (O .toNat x179))).2.2.1, ((O .get .i4 l190 (O .toNat x179))).2.2.2]))) <|
    grd (okI .i64 ((O .add x179 1))) <|
    (some (Sum.inl ((O .add x179 1), (O .app .i1 l191 [((O .get .i4 l190 (O .toNat x179))).2.2.1, ((O .get .i4 l190 (O .toNat x179))).2.2.2]))))
  else
    (some (Sum.inr l191))
def m_rectangle_combine_3_L2 (O : Ops) (i60 : Int) (l194 : List Int) : (Int × List (Int × Int × Int × Int)) → Option ((Int × List (Int × Int × Int × Int)) ⊕ (List (Int × Int × Int × Int))) := fun (k34, l217) =>
  bif (O .lt k34 (O .ofNat (O .len .i4 l217))) then
    grd (okIdx ((O .add i60 1)) ((O .len .i1 l194))) <|
    grd (okKin ((O .toNat (O .add i60 1))) ((O .len .i1 l194))) <|
    grd (okIdx k34 ((O .len .i4 l217))) <|
    grd (okKin ((O .toNat k34)) ((O .len .i4 l217))) <|
    grd (okI .i64 ((O .add k34 1))) <|
    (some (Sum.inl ((O .add k34 1), (O .put .i4 l217 (O .toNat k34) (((O .get .i4 l217 (O .toNat k34))).1, ((O .get .i4 l217 (O .toNat k34))).2.1, ((O .get .i4 l217 (O .toNat k34))).2.2.1, (O .get .i1 l194 (O .toNat (O .add i60 1))))))))
  else
    (some (Sum.inr l217))
def m_rectangle_combine_3_L3 (O : Ops) (i60 : Int) (l194 : List Int) (l216 : List (Int × Int)) : (Int × List (Int × Int × Int × Int)) → Option ((Int × List (Int × Int × Int × Int)) ⊕ (List (Int × Int × Int × Int))) := fun (x193, l219) =>
  bif (O .lt x193 (O .ofNat (O .len .i2 l216))) then
    grd (okIdx x193 ((O .len .i2 l216))) <|
    grd (okKin ((O .toNat x193)) ((O .len .i2 l216))) <|
    grd (okRng ((O .ofNat (O .len .i4 l219))) ((O .len .i4 l219))) <|
    grd (okRng ((O .ofNat (O .len .i4 l219))) ((O .toNat (O .ofNat (O .len .i4 l219))))) <|
    grd (okIdx ((O .add i60 1)) ((O .len .i1 l194))) <|
    grd (okKin ((O .toNat (O .add i60 1))) ((O .len .i1 l194))) <|
    grd (okRoom ((O .len .i4 (O .cut .i4 l219 0 (O .toNat (O .ofNat (O .len .i4 l219))))))) <|
    grd (okRoom ((O .len .i4 [(((O .get .i2 l216 (O .toNat x193))).1, ((O .get .i2 l216 (O .toNat x193))).2, (O .get .i1 l194 (O .toNat i60)), (O .get .i1 l194 (O .toNat (O .add i60 1))))]))) <|
    grd (okKin 0 ((O .len .i4 [(((O .get .i2 l216 (O .toNat x193))).1, ((O .get .i2 l216 (O .toNat x193))).2, (O .get .i1 l194 (O .toNat i60)), (O .get .i1 l194 (O .toNat (O .add i60 1))))]))) <|
    grd (okI .i64 ((O .add x193 1))) <|
    (some (Sum.inl ((O .add x193 1), (O .app .i4 (O .cut .i4 l219 0 (O .toNat (O .ofNat (O .len .i4 l219)))) [(((O .get .i2 l216 (O .toNat x193))).1, ((O .get .i2 l216 (O .toNat x193))).2, (O .get .i1 l194 (O .toNat i60)), (O .get .i1 l194 (O .toNat (O .add i60 1))))]))))
  else
    (some (Sum.inr l219))
def m_rectangle_combine_3_L4 (O : Ops) (a_1 : List (Int × Int × Int × Int)) (b_1 : List (Int × Int × Int × Int)) (l194 : List Int) : (Int × Int × List (Int × Int × Int × Int) × List (Int × Int)) → Option ((Int × Int × List (Int × Int × Int × Int) × List (Int × Int)) ⊕ ((Int) ⊕ (List (Int × Int × Int × Int)))) := fun (start6, i60, l212, l213) =>
  grd (okI .i64 ((O .add i60 1))) <|
  bif (O .lt (O .add i60 1) (O .ofNat (O .len .i1 l194))) then
    grd (okIdx i60 ((O .len .i1 l194))) <|
    grd (okKin ((O .toNat i60)) ((O .len .i1 l194))) <|
    Option.bind (m_rectangle_times O ((O .get .i1 l194 (O .toNat i60))) a_1) fun l214 =>
    Option.bind (m_rectangle_times O ((O .get .i1 l194 (O .toNat i60))) b_1) fun l215 =>
    Option.bind (m_runs_Minus O l214 l215) fun (l216, n79) =>
    bif (O .not (O .eq n79 0)) then
      (some (Sum.inr (Sum.inl n79)))
    else
      Option.bind (m_slices_Equal O l216 l213) fun b69 =>
      bif b69 then
        Option.bind (loop (m_rectangle_combine_3_L2 O i60 l194) (start6, l212)) fun l218 =>
        (some (Sum.inl (start6, (O .add i60 1), l218, l213)))
      else
        Option.bind (loop (m_rectangle_combine_3_L3 O i60 l194 l216) (0, l212)) fun l220 =>
        bif (O .lt 500 (O .ofNat (O .len .i4 l220))) then
          (some (Sum.inr (Sum.inl 5)))
        else
          (some (Sum.inl ((O .ofNat (O .len .i4 l212)), (O .add i60 1), l220, l216)))
  else
    (some (Sum.inr (Sum.inr l212)))
def m_rectangle_combine_3 (O : Ops) (a_1 : List (Int × Int × Int × Int)) (b_1 : List (Int × Int × Int × Int)) : Option (List (Int × Int × Int × Int) × Int) :=
  Option.bind (m_rectangle_check O a_1 b_1) fun n66 =>
  bif (O .not (O .eq n66 0)) then
    (some (([] : List (Int × Int × Int × Int)), n66))
  else
    Option.bind (m_slices_Concat O a_1 b_1) fun l190 =>
    Option.bind (loop (m_rectangle_combine_3_L1 O l190) (0, ([] : List Int))) fun l192 =>
    Option.bind (m_sortI O l192) fun l193 =>
    Option.bind (m_compI O l193) fun l194 =>
    Option.bind (loop (m_rectangle_combine_3_L4 O a_1 b_1 l194) (0, 0, ([] : List (Int × Int × Int × Int)), ([] : List (Int × Int)))) fun e => match e with
    | .inl x195 =>
      (some (([] : List (Int × Int × Int × Int)), x195))
    | .inr (l221) =>
      (some (l221, 0))
def m_rectangle_Minus (O : Ops) (a_1 : List (Int × Int × Int × Int)) (b_1 : List (Int × Int × Int × Int)) : Option (List (Int × Int × Int × Int) × Int) :=
  Option.bind (m_rectangle_combine_3 O a_1 b_1) fun (l222, n80) =>
  (some (l222, n80))
def m_rectangle_Equal (O : Ops) (a_1 : List (Int × Int × Int × Int)) (b_1 : List (Int × Int × Int × Int)) : Option (Bool) :=
  Option.bind (m_rectangle_check O a_1 b_1) fun n85 =>
  bif (O .not (O .eq n85 0)) then
    (some false)
  else
    Option.bind (m_rectangle_combine_3 O a_1 b_1) fun (l227, n86) =>
    Option.bind (m_rectangle_combine_3 O b_1 a_1) fun (l228, n87) =>
    Option.bind (
      bif (O .eq n86 0) then
        bif (O .eq n87 0) then
          bif (O .eq (O .ofNat (O .len .i4 l227)) 0) then
            (some (O .eq (O .ofNat (O .len .i4 l228)) 0))
          else
            (some false)
        else
          (some false)
      else
        (some false) : Option ((Bool))) fun x201 =>
    (some x201)
def m_law35_RectangleOperations (O : Ops) (a_1 : List (Int × Int × Int × Int)) (b_1 : List (Int × Int × Int × Int)) : Option (Bool) :=
  Option.bind (m_law35_awake O) fun b51 =>
  bif (O .not b51) then
    (some false)
  else
    Option.bind (m_law35_few_2 O a_1 b_1) fun b55 =>
    bif (O .not b55) then
      (some true)
    else
      Option.bind (m_rectangle_Union O a_1 b_1) fun (l153, n47) =>
      Option.bind (m_ref35_Combine O 0 a_1 b_1) fun (l154, n48) =>
      Option.bind (
        Option.bind (m_slices_Equal_2 O l153 l154) fun b56 =>
        bif (O .not b56) then
          (some true)
        else
          (some (O .not (O .eq n47 n48))) : Option ((Bool))) fun x157 =>
      bif x157 then
        (some false)
      else
        grd (okI .i64 ((O .add 0 1))) <|
        Option.bind (m_rectangle_Meet O a_1 b_1) fun (l188, n64) =>
        Option.bind (m_ref35_Combine O 1 a_1 b_1) fun (l189, n65) =>
        Option.bind (
          Option.bind (m_slices_Equal_2 O l188 l189) fun b63 =>
          bif (O .not b63) then
            (some true)
          else
            (some (O .not (O .eq n64 n65))) : Option ((Bool))) fun x177 =>
        bif x177 then
          (some false)
        else
          grd (okI .i64 ((O .add 1 1))) <|
          Option.bind (m_rectangle_Minus O a_1 b_1) fun (l223, n81) =>
          Option.bind (m_ref35_Combine O 2 a_1 b_1) fun (l224, n82) =>
          Option.bind (
            Option.bind (m_slices_Equal_2 O l223 l224) fun b70 =>
            bif (O .not b70) then
              (some true)
            else
              (some (O .not (O .eq n81 n82))) : Option ((Bool))) fun x197 =>
          bif x197 then
            (some false)
          else
            grd (okI .i64 ((O .add 2 1))) <|
            Option.bind (m_ref35_Combine O 0 a_1 (([] : List (Int × Int × Int × Int)))) fun (l225, n83) =>
            Option.bind (m_ref35_Combine O 0 b_1 (([] : List (Int × Int × Int × Int)))) fun (l226, n84) =>
            Option.bind (
              bif (O .eq n83 5) then
                (some true)
              else
                bif (O .eq n84 5) then
                  (some true)
                else
                  Option.bind (m_rectangle_Equal O a_1 b_1) fun b71 =>
                  bif (O .eq n83 0) then
                    bif (O .eq n84 0) then
                      Option.bind (m_slices_Equal_2 O l225 l226) fun b72 =>
                      (some (O .beq b71 b72))
                    else
                      (some (O .beq b71 false))
                  else
                    (some (O .beq b71 false)) : Option ((Bool))) fun x205 =>
            (some x205)
def m_law35_RectangleForm_L1 (O : Ops) (i65 : Int) (l229 : List (Int × Int × Int × Int)) : (Int × List (Int × Int)) → Option ((Int × List (Int × Int)) ⊕ (Int × List (Int × Int))) := fun (i67, l234) =>
  Option.bind (
    bif (O .lt i67 (O .ofNat (O .len .i4 l229))) then
      grd (okIdx i67 ((O .len .i4 l229))) <|
      grd (okKin ((O .toNat i67)) ((O .len .i4 l229))) <|
      (some (O .and (O .eq ((O .get .i4 l229 (O .toNat i67))).2.2.1 ((O .get .i4 l229 (O .toNat i65))).2.2.1) (O .eq ((O .get .i4 l229 (O .toNat i67))).2.2.2 ((O .get .i4 l229 (O .toNat i65))).2.2.2)))
    else
      (some false) : Option ((Bool))) fun x224 =>
  bif x224 then
    grd (okIdx i67 ((O .len .i4 l229))) <|
    grd (okKin ((O .toNat i67)) ((O .len .i4 l229))) <|
    grd (okRoom ((O .len .i2 l234))) <|
    grd (okRoom ((O .len .i2 [(((O .get .i4 l229 (O .toNat i67))).1, ((O .get .i4 l229 (O .toNat i67))).2.1)]))) <|
    grd (okI .i64 ((O .add i67 1))) <|
    (some (Sum.inl ((O .add i67 1), (O .app .i2 l234 [(((O .get .i4 l229 (O .toNat i67))).1, ((O .get .i4 l229 (O .toNat i67))).2.1)]))))
  else
    (some (Sum.inr (i67, l234)))
def m_law35_RectangleForm_L2 (O : Ops) (l229 : List (Int × Int × Int × Int)) : (Int × List (Int × Int) × Int × Int) → Option ((Int × List (Int × Int) × Int × Int) ⊕ ((Unit) ⊕ (Unit))) := fun (i65, l233, _, x220) =>
  bif (O .lt i65 (O .ofNat (O .len .i4 l229))) then
    grd (okIdx i65 ((O .len .i4 l229))) <|
    grd (okKin ((O .toNat i65)) ((O .len .i4 l229))) <|
    Option.bind (loop (m_law35_RectangleForm_L1 O i65 l229) (i65, ([] : List (Int × Int)))) fun (i68, l235) =>
    Option.bind (
      Option.bind (m_runs_Valid O l235) fun b80 =>
      bif (O .not b80) then
        (some true)
      else
        Option.bind (m_ref35_Span O (((O .get .i4 l229 (O .toNat i65))).2.2.1) (((O .get .i4 l229 (O .toNat i65))).2.2.2)) fun b81 =>
        bif (O .not b81) then
          (some true)
        else
          bif (O .lt 0 (O .ofNat (O .len .i2 l233))) then
            bif (O .lt ((O .get .i4 l229 (O .toNat i65))).2.2.1 x220) then
              (some true)
            else
              bif (O .eq ((O .get .i4 l229 (O .toNat i65))).2.2.1 x220) then
                Option.bind (m_slices_Equal O l235 l233) fun b82 =>
                (some b82)
              else
                (some false)
          else
            (some false) : Option ((Bool))) fun x228 =>
    bif x228 then
      (some (Sum.inr (Sum.inl ())))
    else
      (some (Sum.inl (i68, l235, ((O .get .i4 l229 (O .toNat i65))).2.2.1, ((O .get .i4 l229 (O .toNat i65))).2.2.2)))
  else
    (some (Sum.inr (Sum.inr ())))
def m_law35_RectangleForm (O : Ops) (l_1 : List (Int × Int × Int × Int)) : Option (Bool) :=
  Option.bind (m_law35_awake O) fun b73 =>
  bif (O .not b73) then
    (some false)
  else
    Option.bind (m_law35_few O l_1) fun b74 =>
    bif (O .not b74) then
      (some true)
    else
      Option.bind (m_rectangle_Canonical O l_1) fun (l229, n88) =>
      bif (O .not (O .eq n88 0)) then
        Option.bind (
          bif (O .eq (O .ofNat (O .len .i4 l229)) 0) then
            Option.bind (m_ref35_List O l_1) fun b75 =>
            bif (O .not b75) then
              (some true)
            else
              (some (O .lt 10 (O .ofNat (O .len .i4 l_1))))
          else
            (some false) : Option ((Bool))) fun x208 =>
        (some x208)
      else
        Option.bind (m_rectangle_Canonical O l229) fun (l230, n89) =>
        Option.bind (
          bif (O .not (O .eq n89 0)) then
            (some true)
          else
            Option.bind (m_slices_Equal_2 O l230 l229) fun b76 =>
            (some (O .not b76)) : Option ((Bool))) fun x210 =>
        bif x210 then
          (some false)
        else
          Option.bind (loop (m_law35_RectangleForm_L2 O l229) (0, ([] : List (Int × Int)), 0, 0)) fun e => match e with
          | .inl _ =>
            (some false)
          | .inr (_) =>
            (some true)
def m_law35_critical_L1 (O : Ops) (lists_1 : List (Int × Int × Int × Int)) : (Int × List Int × List Int) → Option ((Int × List Int × List Int) ⊕ (List Int × List Int)) := fun (x234, l239, l240) =>
  bif (O .lt x234 (O .ofNat (O .len .i4 lists_1))) then
    grd (okIdx x234 ((O .len .i4 lists_1))) <|
    grd (okKin ((O .toNat x234)) ((O .len .i4 lists_1))) <|
    grd (okI .i64 ((O .sub ((O .get .i4 lists_1 (O .toNat x234))).1 1))) <|
    grd (okI .i64 ((O .sub ((O .get .i4 lists_1 (O .toNat x234))).2.1 1))) <|
    grd (okRoom ((O .len .i1 l239))) <|
    grd (okRoom ((O .len .i1 [(O .sub ((O .get .i4 lists_1 (O .toNat x234))).1 1), ((O .get .i4 lists_1 (O .toNat x234))).1, (O .sub ((O .get .i4 lists_1 (O .toNat x234))).2.1 1), ((O .get .i4 lists_1 (O .toNat x234))).2.1]))) <|
    grd (okI .i64 ((O .sub ((O .get .i4 lists_1 (O .toNat x234))).2.2.1 1))) <|
    grd (okI .i64 ((O .sub ((O .get .i4 lists_1 (O .toNat x234))).2.2.2 1))) <|
    grd (okRoom ((O .len .i1 l240))) <|
    grd (okRoom ((O .len .i1 [(O .sub ((O .get .i4 lists_1 (O .toNat x234))).2.2.1 1), ((O .get .i4 lists_1 (O .toNat x234))).2.2.1, (O .sub ((O .get .i4 lists_1 (O .toNat x234))).2.2.2 1), ((O .get .i4 lists_1 (O .toNat x234))).2.2.2]))) <|
    grd (okI .i64 ((O .add x234 1))) <|
    (some (Sum.inl ((O .add x234 1), (O .app .i1 l239 [(O .sub ((O .get .i4 lists_1 (O .toNat x234))).1 1), ((O .get .i4 lists_1 (O .toNat x234))).1, (O .sub ((O .get .i4 lists_1 (O .toNat x234))).2.1 1), ((O .get .i4 lists_1 (O .toNat x234))).2.1]), (O .app .i1 l240 [(O .sub ((O .get .i4 lists_1 (O .toNat x234))).2.2.1 1), ((O .get .i4 lists_1 (O .toNat x234))).2.2.1, (O .sub ((O .get .i4 lists_1 (O .toNat x234))).2.2.2 1), ((O .get .i4 lists_1 (O .toNat x234))).2.2.2]))))
  else
    (some (Sum.inr (l239, l240)))
def m_law35_critical_L2 (O : Ops) (lists_2 : List (Int × Int × Int × Int)) : (Int × List Int × List Int) → Option ((Int × List Int × List Int) ⊕ (List Int × List Int)) := fun (x236, l243, l244) =>
  bif (O .lt x236 (O .ofNat (O .len .i4 lists_2))) then
    grd (okIdx x236 ((O .len .i4 lists_2))) <|
    grd (okKin ((O .toNat x236)) ((O .len .i4 lists_2))) <|
    grd (okI .i64 ((O .sub ((O .get .i4 lists_2 (O .toNat x236))).1 1))) <|
    grd (okI .i64 ((O .sub ((O .get .i4 lists_2 (O .toNat x236))).2.1 1))) <|
    grd (okRoom ((O .len .i1 l243))) <|
    grd (okRoom ((O .len .i1 [(O .sub ((O .get .i4 lists_2 (O .toNat x236))).1 1), ((O .get .i4 lists_2 (O .toNat x236))).1, (O .sub ((O .get .i4 lists_2 (O .toNat x236))).2.1 1), ((O .get .i4 lists_2 (O .toNat x236))).2.1]))) <|
    grd (okI .i64 ((O .sub ((O .get .i4 lists_2 (O .toNat x236))).2.2.1 1))) <|
    grd (okI .i64 ((O .sub ((O .get .i4 lists_2 (O .toNat x236))).2.2.2 1))) <|
    grd (okRoom ((O .len .i1 l244))) <|
    grd (okRoom ((O .len .i1 [(O .sub ((O .get .i4 lists_2 (O .toNat x236))).2.2.1 1), ((O .get .i4 lists_2 (O .toNat x236))).2.2.1, (O .sub ((O .get .i4 lists_2 (O .toNat x236))).2.2.2 1), ((O .get .i4 lists_2 (O .toNat x236))).2.2.2]))) <|
    grd (okI .i64 ((O .add x236 1))) <|
    (some (Sum.inl ((O .add x236 1), (O .app .i1 l243 [(O .sub ((O .get .i4 lists_2 (O .toNat x236))).1 1), ((O .get .i4 lists_2 (O .toNat x236))).1, (O .sub ((O .get .i4 lists_2 (O .toNat x236))).2.1 1), ((O .get .i4 lists_2 (O .toNat x236))).2.1]), (O .app .i1 l244 [(O .sub ((O .get .i4 lists_2 (O .toNat x236))).2.2.1 1), ((O .get .i4 lists_2 (O .toNat x236))).2.2.1, (O .sub ((O .get .i4 lists_2 (O .toNat x236))).2.2.2 1), ((O .get .i4 lists_2 (O .toNat x236))).2.2.2]))))
  else
    (some (Sum.inr (l243, l244)))
def m_law35_critical (O : Ops) (lists_1 : List (Int × Int × Int × Int)) (lists_2 : List (Int × Int × Int × Int)) : Option (List Int × List Int) :=
  Option.bind (loop (m_law35_critical_L1 O lists_1) (0, ([] : List Int), ([] : List Int))) fun (l241, l242) =>
  grd (okI .i64 ((O .add 0 1))) <|
  Option.bind (loop (m_law35_critical_L2 O lists_2) (0, l241, l242)) fun (l245, l246) =>
  grd (okI .i64 ((O .add 1 1))) <|
  Option.bind (m_sortI O l245) fun l247 =>
  Option.bind (m_sortI O l246) fun l248 =>
  Option.bind (m_compI O l247) fun l249 =>
  Option.bind (m_compI O l248) fun l250 =>
  (some (l249, l250))
def m_law35_in_1 (O : Ops) (r_1 : Int) (r_2 : Int) (r_3 : Int) (r_4 : Int) (x_1 : Int) (x_2 : Int) : Option (Bool) :=
  Option.bind (
    bif (O .le r_1 x_1) then
      bif (O .lt x_1 r_2) then
        bif (O .le r_3 x_2) then
          (some (O .lt x_2 r_4))
        else
          (some false)
      else
        (some false)
    else
      (some false) : Option ((Bool))) fun x243 =>
  (some x243)
def m_slices_IndexFunc_6_L1 (O : Ops) (c_1 : Int) (c_2 : Int) (s_1 : List (Int × Int × Int × Int)) : (Int) → Option ((Int) ⊕ ((Int) ⊕ (Unit))) := fun x239 =>
  bif (O .lt x239 (O .ofNat (O .len .i4 s_1))) then
    grd (okIdx x239 ((O .len .i4 s_1))) <|
    grd (okKin ((O .toNat x239)) ((O .len .i4 s_1))) <|
    Option.bind (m_law35_in_1 O (((O .get .i4 s_1 (O .toNat x239))).1) (((O .get .i4 s_1 (O .toNat x239))).2.1) (((O .get .i4 s_1 (O .toNat x239))).2.2.1) (((O .get .i4 s_1 (O .toNat x239))).2.2.2) c_1 c_2) fun b86 =>
    bif b86 then
      (some (Sum.inr (Sum.inl x239)))
    else
      grd (okI .i64 ((O .add x239 1))) <|
      (some (Sum.inl (O .add x239 1)))
  else
    (some (Sum.inr (Sum.inr ())))
def m_slices_IndexFunc_6 (O : Ops) (s_1 : List (Int × Int × Int × Int)) (c_1 : Int) (c_2 : Int) : Option (Int) :=
  Option.bind (loop (m_slices_IndexFunc_6_L1 O c_1 c_2 s_1) 0) fun e => match e with
  | .inl x244 =>
    (some x244)
  | .inr (_) =>
    (some (-1))
def m_slices_ContainsFunc_6 (O : Ops) (s_1 : List (Int × Int × Int × Int)) (c_1 : Int) (c_2 : Int) : Option (Bool) :=
  Option.bind (m_slices_IndexFunc_6 O s_1 c_1 c_2) fun n93 =>
  (some (O .le 0 n93))
def m_law35_in (O : Ops) (valid_1 : Int) (tx_1 : Int) (l_1 : List (Int × Int × Int × Int)) : Option (Bool) :=
  Option.bind (m_slices_ContainsFunc_6 O l_1 valid_1 tx_1) fun b87 =>
  (some b87)
def m_rectangle_check_2 (O : Ops) (lists_1 : List (Int × Int × Int × Int)) : Option (Int) :=
  Option.bind (m_slices_ContainsFunc O lists_1) fun b93 =>
  bif b93 then
    (some 1)
  else
    grd (okI .i64 ((O .add 0 1))) <|
    bif (O .lt 500 (O .ofNat (O .len .i4 lists_1))) then
      (some 5)
    else
      (some 0)
def m_rectangle_Has_1 (O : Ops) (r_1 : Int) (r_2 : Int) (r_3 : Int) (r_4 : Int) (x_1 : Int) (x_2 : Int) : Option (Bool) :=
  Option.bind (
    bif (O .le r_1 x_1) then
      bif (O .lt x_1 r_2) then
        bif (O .le r_3 x_2) then
          (some (O .lt x_2 r_4))
        else
          (some false)
      else
        (some false)
    else
      (some false) : Option ((Bool))) fun x249 =>
  (some x249)
def m_slices_IndexFunc_7_L1 (O : Ops) (c_1 : Int) (c_2 : Int) (s_1 : List (Int × Int × Int × Int)) : (Int) → Option ((Int) ⊕ ((Int) ⊕ (Unit))) := fun x245 =>
  bif (O .lt x245 (O .ofNat (O .len .i4 s_1))) then
    grd (okIdx x245 ((O .len .i4 s_1))) <|
    grd (okKin ((O .toNat x245)) ((O .len .i4 s_1))) <|
    Option.bind (m_rectangle_Has_1 O (((O .get .i4 s_1 (O .toNat x245))).1) (((O .get .i4 s_1 (O .toNat x245))).2.1) (((O .get .i4 s_1 (O .toNat x245))).2.2.1) (((O .get .i4 s_1 (O .toNat x245))).2.2.2) c_1 c_2) fun b94 =>
    bif b94 then
      (some (Sum.inr (Sum.inl x245)))
    else
      grd (okI .i64 ((O .add x245 1))) <|
      (some (Sum.inl (O .add x245 1)))
  else
    (some (Sum.inr (Sum.inr ())))
def m_slices_IndexFunc_7 (O : Ops) (s_1 : List (Int × Int × Int × Int)) (c_1 : Int) (c_2 : Int) : Option (Int) :=
  Option.bind (loop (m_slices_IndexFunc_7_L1 O c_1 c_2 s_1) 0) fun e => match e with
  | .inl x250 =>
    (some x250)
  | .inr (_) =>
    (some (-1))
def m_slices_ContainsFunc_7 (O : Ops) (s_1 : List (Int × Int × Int × Int)) (c_1 : Int) (c_2 : Int) : Option (Bool) :=
  Option.bind (m_slices_IndexFunc_7 O s_1 c_1 c_2) fun n95 =>
  (some (O .le 0 n95))
def m_rectangle_Has (O : Ops) (valid_1 : Int) (tx_1 : Int) (l_1 : List (Int × Int × Int × Int)) : Option (Bool) :=
  Option.bind (
    Option.bind (m_rectangle_check_2 O l_1) fun n94 =>
    bif (O .eq n94 0) then
      Option.bind (m_slices_ContainsFunc_7 O l_1 valid_1 tx_1) fun b95 =>
      (some b95)
    else
      (some false) : Option ((Bool))) fun x252 =>
  (some x252)
def m_law35_RectanglePointwise_L1 (O : Ops) (a_1 : List (Int × Int × Int × Int)) (b_1 : List (Int × Int × Int × Int)) (l236 : List (Int × Int × Int × Int)) (l237 : List (Int × Int × Int × Int)) (l238 : List (Int × Int × Int × Int)) (l251 : List Int) (l252 : List Int) (x266 : Int) : (Int) → Option ((Int) ⊕ ((Unit) ⊕ (Unit))) := fun x267 =>
  bif (O .lt x267 (O .ofNat (O .len .i1 l251))) then
    grd (okIdx x267 ((O .len .i1 l251))) <|
    grd (okKin ((O .toNat x267)) ((O .len .i1 l251))) <|
    Option.bind (m_law35_in O ((O .get .i1 l251 (O .toNat x267))) ((O .get .i1 l252 (O .toNat x266))) a_1) fun b109 =>
    Option.bind (m_law35_in O ((O .get .i1 l251 (O .toNat x267))) ((O .get .i1 l252 (O .toNat x266))) b_1) fun b110 =>
    Option.bind (
      Option.bind (m_law35_in O ((O .get .i1 l251 (O .toNat x267))) ((O .get .i1 l252 (O .toNat x266))) l236) fun b111 =>
      bif b109 then
        bif (O .not (O .beq b111 true)) then
          (some true)
        else
          Option.bind (m_law35_in O ((O .get .i1 l251 (O .toNat x267))) ((O .get .i1 l252 (O .toNat x266))) l237) fun b112 =>
          bif (O .not (O .beq b112 b110)) then
            (some true)
          else
            Option.bind (m_law35_in O ((O .get .i1 l251 (O .toNat x267))) ((O .get .i1 l252 (O .toNat x266))) l238) fun b113 =>
            bif (O .not (O .beq b113 (O .not b110))) then
              (some true)
            else
              Option.bind (m_rectangle_Has O ((O .get .i1 l251 (O .toNat x267))) ((O .get .i1 l252 (O .toNat x266))) a_1) fun b114 =>
              (some (O .not (O .beq b114 true)))
      else
        bif (O .not (O .beq b111 b110)) then
          (some true)
        else
          Option.bind (m_law35_in O ((O .get .i1 l251 (O .toNat x267))) ((O .get .i1 l252 (O .toNat x266))) l237) fun b115 =>
          bif (O .not (O .beq b115 false)) then
            (some true)
          else
            Option.bind (m_law35_in O ((O .get .i1 l251 (O .toNat x267))) ((O .get .i1 l252 (O .toNat x266))) l238) fun b116 =>
            bif (O .not (O .beq b116 false)) then
              (some true)
            else
              Option.bind (m_rectangle_Has O ((O .get .i1 l251 (O .toNat x267))) ((O .get .i1 l252 (O .toNat x266))) a_1) fun b117 =>
              (some (O .not (O .beq b117 false))) : Option ((Bool))) fun x273 =>
    bif x273 then
      (some (Sum.inr (Sum.inl ())))
    else
      grd (okI .i64 ((O .add x267 1))) <|
      (some (Sum.inl (O .add x267 1)))
  else
    (some (Sum.inr (Sum.inr ())))
def m_law35_RectanglePointwise_L2 (O : Ops) (a_1 : List (Int × Int × Int × Int)) (b_1 : List (Int × Int × Int × Int)) (l236 : List (Int × Int × Int × Int)) (l237 : List (Int × Int × Int × Int)) (l238 : List (Int × Int × Int × Int)) (l251 : List Int) (l252 : List Int) : (Int) → Option ((Int) ⊕ ((Unit) ⊕ (Unit))) := fun x266 =>
  bif (O .lt x266 (O .ofNat (O .len .i1 l252))) then
    grd (okIdx x266 ((O .len .i1 l252))) <|
    grd (okKin ((O .toNat x266)) ((O .len .i1 l252))) <|
    Option.bind (loop (m_law35_RectanglePointwise_L1 O a_1 b_1 l236 l237 l238 l251 l252 x266) 0) fun e => match e with
    | .inl _ =>
      (some (Sum.inr (Sum.inl ())))
    | .inr (_) =>
      grd (okI .i64 ((O .add x266 1))) <|
      (some (Sum.inl (O .add x266 1)))
  else
    (some (Sum.inr (Sum.inr ())))
def m_law35_RectanglePointwise (O : Ops) (a_1 : List (Int × Int × Int × Int)) (b_1 : List (Int × Int × Int × Int)) : Option (Bool) :=
  Option.bind (m_law35_awake O) fun b83 =>
  bif (O .not b83) then
    (some false)
  else
    Option.bind (
      bif (O .lt 8 (O .ofNat (O .len .i4 a_1))) then
        (some true)
      else
        bif (O .lt 8 (O .ofNat (O .len .i4 b_1))) then
          (some true)
        else
          Option.bind (m_ref35_List O a_1) fun b84 =>
          bif (O .not b84) then
            (some true)
          else
            Option.bind (m_ref35_List O b_1) fun b85 =>
            (some (O .not b85)) : Option ((Bool))) fun x230 =>
    bif x230 then
      (some true)
    else
      Option.bind (m_rectangle_Union O a_1 b_1) fun (l236, n90) =>
      Option.bind (m_rectangle_Meet O a_1 b_1) fun (l237, n91) =>
      Option.bind (m_rectangle_Minus O a_1 b_1) fun (l238, n92) =>
      Option.bind (
        bif (O .not (O .eq n90 0)) then
          (some true)
        else
          bif (O .not (O .eq n91 0)) then
            (some true)
          else
            (some (O .not (O .eq n92 0))) : Option ((Bool))) fun x232 =>
      bif x232 then
        (some false)
      else
        Option.bind (m_law35_critical O a_1 b_1) fun (l251, l252) =>
        Option.bind (loop (m_law35_RectanglePointwise_L2 O a_1 b_1 l236 l237 l238 l251 l252) 0) fun e => match e with
        | .inl _ =>
          (some false)
        | .inr (_) =>
          (some true)
def m_law35_RectangleOrder_L1 (O : Ops) : (Int × Int × List (Int × Int × Int × Int)) → Option ((Int × Int × List (Int × Int × Int × Int)) ⊕ (List (Int × Int × Int × Int))) := fun (i70, j2, l254) =>
  bif (O .lt i70 j2) then
    grd (okIdx j2 ((O .len .i4 l254))) <|
    grd (okKin ((O .toNat j2)) ((O .len .i4 l254))) <|
    grd (okIdx i70 ((O .len .i4 l254))) <|
    grd (okKin ((O .toNat i70)) ((O .len .i4 l254))) <|
    grd (okIdx j2 ((O .len .i4 (O .put .i4 l254 (O .toNat i70) (((O .get .i4 l254 (O .toNat j2))).1, ((O .get .i4 l254 (O .toNat j2))).2.1, ((O .get .i4 l254 (O .toNat j2))).2.2.1, ((O .get .i4 l254 (O .toNat j2))).2.2.2))))) <|
    grd (okKin ((O .toNat j2)) ((O .len .i4 (O .put .i4 l254 (O .toNat i70) (((O .get .i4 l254 (O .toNat j2))).1, ((O .get .i4 l254 (O .toNat j2))).2.1, ((O .get .i4 l254 (O .toNat j2))).2.2.1, ((O .get .i4 l254 (O .toNat j2))).2.2.2))))) <|
    grd (okI .i64 ((O .add i70 1))) <|
    grd (okI .i64 ((O .sub j2 1))) <|
    (some (Sum.inl ((O .add i70 1), (O .sub j2 1), (O .put .i4 (O .put .i4 l254 (O .toNat i70) (((O .get .i4 l254 (O .toNat j2))).1, ((O .get .i4 l254 (O .toNat j2))).2.1, ((O .get .i4 l254 (O .toNat j2))).2.2.1, ((O .get .i4 l254 (O .toNat j2))).2.2.2)) (O .toNat j2) (((O .get .i4 l254 (O .toNat i70))).1, ((O .get .i4 l254 (O .toNat i70))).2.1, ((O .get .i4 l254 (O .toNat i70))).2.2.1, ((O .get .i4 l254 (O .toNat i70))).2.2.2)))))
  else
    (some (Sum.inr l254))
def m_law35_RectangleOrder (O : Ops) (turn_1 : Int) (at_1 : Int) (by_1 : Bool) (l_1 : List (Int × Int × Int × Int)) : Option (Bool) :=
  Option.bind (m_law35_awake O) fun b118 =>
  bif (O .not b118) then
    (some false)
  else
    Option.bind (
      bif (O .lt 29 (O .ofNat (O .len .i4 l_1))) then
        (some true)
      else
        Option.bind (m_ref35_List O l_1) fun b119 =>
        bif (O .not b119) then
          (some true)
        else
          (some (O .eq (O .ofNat (O .len .i4 l_1)) 0)) : Option ((Bool))) fun x275 =>
    bif x275 then
      (some true)
    else
      grd (okI .i64 turn_1) <|
      grd (okNz ((O .ofNat (O .len .i4 l_1)))) <|
      grd (okRng ((O .rem turn_1 (O .ofNat (O .len .i4 l_1)))) ((O .len .i4 l_1))) <|
      Option.bind (m_slices_Concat O ((O .cut .i4 l_1 (O .toNat (O .rem turn_1 (O .ofNat (O .len .i4 l_1)))) (O .len .i4 l_1))) ((O .cut .i4 l_1 0 (O .toNat (O .rem turn_1 (O .ofNat (O .len .i4 l_1))))))) fun l253 =>
      grd (okI .i64 ((O .sub (O .ofNat (O .len .i4 l253)) 1))) <|
      Option.bind (loop (m_law35_RectangleOrder_L1 O) (0, (O .sub (O .ofNat (O .len .i4 l253)) 1), l253)) fun l255 =>
      grd (okIdx 0 ((O .len .i4 l255))) <|
      grd (okKin ((O .toNat 0)) ((O .len .i4 l255))) <|
      Option.bind (
        bif by_1 then
          bif (O .lt ((O .get .i4 l255 (O .toNat 0))).1 at_1) then
            (some (true, (O .lt at_1 ((O .get .i4 l255 (O .toNat 0))).2.1)))
          else
            (some (true, false))
        else
          (some (false, false)) : Option ((Bool × Bool))) fun (by2, x278) =>
      Option.bind (
        bif x278 then
          (some (at_1, at_1))
        else
          (some (((O .get .i4 l255 (O .toNat 0))).2.1, ((O .get .i4 l255 (O .toNat 0))).1)) : Option ((Int × Int))) fun (x281, x282) =>
      Option.bind (
        bif (O .not by2) then
          bif (O .lt ((O .get .i4 l255 (O .toNat 0))).2.2.1 at_1) then
            (some (O .lt at_1 ((O .get .i4 l255 (O .toNat 0))).2.2.2))
          else
            (some false)
        else
          (some false) : Option ((Bool))) fun x285 =>
      Option.bind (
        bif x285 then
          (some (at_1, at_1))
        else
          (some (((O .get .i4 l255 (O .toNat 0))).2.2.2, ((O .get .i4 l255 (O .toNat 0))).2.2.1)) : Option ((Int × Int))) fun (x288, x289) =>
      grd (okRng ((O .ofNat (O .len .i4 l255))) ((O .len .i4 l255))) <|
      grd (okRng ((O .ofNat (O .len .i4 l255))) ((O .toNat (O .ofNat (O .len .i4 l255))))) <|
      grd (okRng 1 ((O .toNat (O .ofNat (O .len .i4 l255))))) <|
      grd (okRoom ((O .len .i4 (O .cut .i4 l255 (O .toNat 1) (O .toNat (O .ofNat (O .len .i4 l255))))))) <|
      grd (okRoom ((O .len .i4 [(((O .get .i4 l255 (O .toNat 0))).1, x281, ((O .get .i4 l255 (O .toNat 0))).2.2.1, x288), (x282, ((O .get .i4 l255 (O .toNat 0))).2.1, x289, ((O .get .i4 l255 (O .toNat 0))).2.2.2)]))) <|
      grd (okKin 0 ((O .len .i4 [(((O .get .i4 l255 (O .toNat 0))).1, x281, ((O .get .i4 l255 (O .toNat 0))).2.2.1, x288), (x282, ((O .get .i4 l255 (O .toNat 0))).2.1, x289, ((O .get .i4 l255 (O .toNat 0))).2.2.2)]))) <|
      Option.bind (m_rectangle_Canonical O l_1) fun (l256, n96) =>
      Option.bind (m_rectangle_Canonical O ((O .app .i4 (O .cut .i4 l255 (O .toNat 1) (O .toNat (O .ofNat (O .len .i4 l255)))) [(((O .get .i4 l255 (O .toNat 0))).1, x281, ((O .get .i4 l255 (O .toNat 0))).2.2.1, x288), (x282, ((O .get .i4 l255 (O .toNat 0))).2.1, x289, ((O .get .i4 l255 (O .toNat 0))).2.2.2)]))) fun (l257, n97) =>
      Option.bind (
        bif (O .eq n96 n97) then
          Option.bind (m_slices_Equal_2 O l256 l257) fun b120 =>
          bif b120 then
            bif (O .not (O .eq n96 0)) then
              (some true)
            else
              Option.bind (m_rectangle_Equal O l_1 ((O .app .i4 (O .cut .i4 l255 (O .toNat 1) (O .toNat (O .ofNat (O .len .i4 l255)))) [(((O .get .i4 l255 (O .toNat 0))).1, x281, ((O .get .i4 l255 (O .toNat 0))).2.2.1, x288), (x282, ((O .get .i4 l255 (O .toNat 0))).2.1, x289, ((O .get .i4 l255 (O .toNat 0))).2.2.2)]))) fun b121 =>
              (some b121)
          else
            (some false)
        else
          (some false) : Option ((Bool))) fun x293 =>
      (some x293)
def m_law35_RectangleAlgebra (O : Ops) (a_1 : List (Int × Int × Int × Int)) (b_1 : List (Int × Int × Int × Int)) (c_1 : List (Int × Int × Int × Int)) : Option (Bool) :=
  Option.bind (m_law35_awake O) fun b122 =>
  bif (O .not b122) then
    (some false)
  else
    Option.bind (
      bif (O .lt 10 (O .ofNat (O .len .i4 a_1))) then
        (some true)
      else
        bif (O .lt 10 (O .ofNat (O .len .i4 b_1))) then
          (some true)
        else
          bif (O .lt 10 (O .ofNat (O .len .i4 c_1))) then
            (some true)
          else
            Option.bind (m_ref35_List O a_1) fun b123 =>
            bif (O .not b123) then
              (some true)
            else
              Option.bind (m_ref35_List O b_1) fun b124 =>
              bif (O .not b124) then
                (some true)
              else
                Option.bind (m_ref35_List O c_1) fun b125 =>
                (some (O .not b125)) : Option ((Bool))) fun x295 =>
    bif x295 then
      (some true)
    else
      Option.bind (m_rectangle_Minus O a_1 b_1) fun (l258, n98) =>
      Option.bind (m_rectangle_Meet O a_1 b_1) fun (l259, n99) =>
      Option.bind (
        bif (O .not (O .eq n98 0)) then
          (some true)
        else
          (some (O .not (O .eq n99 0))) : Option ((Bool))) fun x297 =>
      Option.bind (
        Option.bind (m_rectangle_Minus O a_1 l258) fun (l260, n100) =>
        Option.bind (
          bif x297 then
            (some true)
          else
            (some (O .not (O .eq n100 0))) : Option ((Bool))) fun x299 =>
        Option.bind (m_rectangle_Equal O l260 l259) fun b126 =>
        bif b126 then
          Option.bind (m_rectangle_Union O l258 l259) fun (l261, n101) =>
          Option.bind (
            bif x299 then
              (some true)
            else
              (some (O .not (O .eq n101 0))) : Option ((Bool))) fun x301 =>
          Option.bind (m_rectangle_Equal O l261 a_1) fun b127 =>
          bif b127 then
            Option.bind (m_rectangle_Union O a_1 b_1) fun (l262, n102) =>
            Option.bind (
              bif x301 then
                (some true)
              else
                (some (O .not (O .eq n102 0))) : Option ((Bool))) fun x303 =>
            Option.bind (m_rectangle_Union O b_1 a_1) fun (l263, n103) =>
            Option.bind (
              bif x303 then
                (some true)
              else
                (some (O .not (O .eq n103 0))) : Option ((Bool))) fun x305 =>
            Option.bind (m_rectangle_Equal O l262 l263) fun b128 =>
            bif b128 then
              Option.bind (m_rectangle_Meet O b_1 a_1) fun (l264, n104) =>
              Option.bind (
                bif x305 then
                  (some true)
                else
                  (some (O .not (O .eq n104 0))) : Option ((Bool))) fun x307 =>
              Option.bind (m_rectangle_Equal O l259 l264) fun b129 =>
              bif b129 then
                Option.bind (m_rectangle_Union O b_1 c_1) fun (l265, n105) =>
                Option.bind (
                  bif x307 then
                    (some true)
                  else
                    (some (O .not (O .eq n105 0))) : Option ((Bool))) fun x309 =>
                Option.bind (m_rectangle_Meet O a_1 l265) fun (l266, n106) =>
                Option.bind (
                  bif x309 then
                    (some true)
                  else
                    (some (O .not (O .eq n106 0))) : Option ((Bool))) fun x311 =>
                Option.bind (m_rectangle_Meet O a_1 c_1) fun (l267, n107) =>
                Option.bind (
                  bif x311 then
                    (some true)
                  else
                    (some (O .not (O .eq n107 0))) : Option ((Bool))) fun x313 =>
                Option.bind (m_rectangle_Union O l259 l267) fun (l268, n108) =>
                Option.bind (
                  bif x313 then
                    (some true)
                  else
                    (some (O .not (O .eq n108 0))) : Option ((Bool))) fun x315 =>
                Option.bind (m_rectangle_Equal O l266 l268) fun b130 =>
                bif b130 then
                  Option.bind (m_rectangle_Union O b_1 c_1) fun (l269, n109) =>
                  Option.bind (
                    bif x315 then
                      (some true)
                    else
                      (some (O .not (O .eq n109 0))) : Option ((Bool))) fun x317 =>
                  Option.bind (m_rectangle_Minus O a_1 l269) fun (l270, n110) =>
                  Option.bind (
                    bif x317 then
                      (some true)
                    else
                      (some (O .not (O .eq n110 0))) : Option ((Bool))) fun x319 =>
                  Option.bind (m_rectangle_Minus O l258 c_1) fun (l271, n111) =>
                  Option.bind (
                    bif x319 then
                      (some true)
                    else
                      (some (O .not (O .eq n111 0))) : Option ((Bool))) fun x321 =>
                  Option.bind (m_rectangle_Equal O l270 l271) fun b131 =>
                  bif b131 then
                    Option.bind (m_rectangle_Meet O l258 b_1) fun (l272, n112) =>
                    Option.bind (
                      bif x321 then
                        (some true)
                      else
                        (some (O .not (O .eq n112 0))) : Option ((Bool))) fun x323 =>
                    (some ((O .eq (O .ofNat (O .len .i4 l272)) 0), x323))
                  else
                    (some (false, x321))
                else
                  (some (false, x315))
              else
                (some (false, x307))
            else
              (some (false, x305))
          else
            (some (false, x301))
        else
          (some (false, x299)) : Option ((Bool × Bool))) fun (ok7, x330) =>
      Option.bind (
        bif ok7 then
          (some true)
        else
          (some x330) : Option ((Bool))) fun x332 =>
      (some x332)
def m_rectangle_At (O : Ops) (tx_1 : Int) (l_1 : List (Int × Int × Int × Int)) : Option (List (Int × Int)) :=
  Option.bind (m_rectangle_check_2 O l_1) fun n113 =>
  bif (O .not (O .eq n113 0)) then
    (some ([] : List (Int × Int)))
  else
    Option.bind (m_rectangle_times O tx_1 l_1) fun l275 =>
    (some l275)
def m_rectangle_During_L1 (O : Ops) (l_1 : List (Int × Int × Int × Int)) : (Int × List (Int × Int × Int × Int)) → Option ((Int × List (Int × Int × Int × Int)) ⊕ (List (Int × Int × Int × Int))) := fun (x338, l277) =>
  bif (O .lt x338 (O .ofNat (O .len .i4 l_1))) then
    grd (okIdx x338 ((O .len .i4 l_1))) <|
    grd (okKin ((O .toNat x338)) ((O .len .i4 l_1))) <|
    grd (okRoom ((O .len .i4 l277))) <|
    grd (okRoom ((O .len .i4 [(((O .get .i4 l_1 (O .toNat x338))).2.2.1, ((O .get .i4 l_1 (O .toNat x338))).2.2.2, ((O .get .i4 l_1 (O .toNat x338))).1, ((O .get .i4 l_1 (O .toNat x338))).2.1)]))) <|
    grd (okI .i64 ((O .add x338 1))) <|
    (some (Sum.inl ((O .add x338 1), (O .app .i4 l277 [(((O .get .i4 l_1 (O .toNat x338))).2.2.1, ((O .get .i4 l_1 (O .toNat x338))).2.2.2, ((O .get .i4 l_1 (O .toNat x338))).1, ((O .get .i4 l_1 (O .toNat x338))).2.1)]))))
  else
    (some (Sum.inr l277))
def m_rectangle_During (O : Ops) (valid_1 : Int) (l_1 : List (Int × Int × Int × Int)) : Option (List (Int × Int)) :=
  Option.bind (m_rectangle_check_2 O l_1) fun n114 =>
  bif (O .not (O .eq n114 0)) then
    (some ([] : List (Int × Int)))
  else
    Option.bind (loop (m_rectangle_During_L1 O l_1) (0, ([] : List (Int × Int × Int × Int)))) fun l278 =>
    Option.bind (m_rectangle_times O valid_1 l278) fun l279 =>
    (some l279)
def m_runs_search_1 (O : Ops) (s_1 : Int) (s_2 : Int) (x_1 : Int) : Option (Int) :=
  bif (O .le s_2 x_1) then
    (some (-1))
  else
    (some 1)
def m_slices_BinarySearchFunc_L1 (O : Ops) (target_1 : Int) (x_1 : List (Int × Int)) : (Int × Int) → Option ((Int × Int) ⊕ (Int)) := fun (i71, j3) =>
  bif (O .lt i71 j3) then
    grd (okI .i64 ((O .add i71 j3))) <|
    grd (okI .u64 ((O .add i71 j3))) <|
    grd (okIdx 1 65) <|
    grd (okI .i64 ((O .shr (O .add i71 j3) 1))) <|
    grd (okIdx ((O .shr (O .add i71 j3) 1)) ((O .len .i2 x_1))) <|
    grd (okKin ((O .toNat (O .shr (O .add i71 j3) 1))) ((O .len .i2 x_1))) <|
    Option.bind (m_runs_search_1 O (((O .get .i2 x_1 (O .toNat (O .shr (O .add i71 j3) 1)))).1) (((O .get .i2 x_1 (O .toNat (O .shr (O .add i71 j3) 1)))).2) target_1) fun n115 =>
    Option.bind (
      bif (O .lt n115 0) then
        grd (okI .i64 ((O .add (O .shr (O .add i71 j3) 1) 1))) <|
        (some ((O .add (O .shr (O .add i71 j3) 1) 1), j3))
      else
        (some (i71, (O .shr (O .add i71 j3) 1))) : Option ((Int × Int))) fun (i73, j5) =>
    (some (Sum.inl (i73, j5)))
  else
    (some (Sum.inr i71))
def m_slices_BinarySearchFunc (O : Ops) (target_1 : Int) (x_1 : List (Int × Int)) : Option (Int × Bool) :=
  Option.bind (loop (m_slices_BinarySearchFunc_L1 O target_1 x_1) (0, (O .ofNat (O .len .i2 x_1)))) fun i74 =>
  Option.bind (
    bif (O .lt i74 (O .ofNat (O .len .i2 x_1))) then
      grd (okIdx i74 ((O .len .i2 x_1))) <|
      grd (okKin ((O .toNat i74)) ((O .len .i2 x_1))) <|
      Option.bind (m_runs_search_1 O (((O .get .i2 x_1 (O .toNat i74))).1) (((O .get .i2 x_1 (O .toNat i74))).2) target_1) fun n116 =>
      (some (O .eq n116 0))
    else
      (some false) : Option ((Bool))) fun x342 =>
  (some (i74, x342))
def m_runs_search (O : Ops) (x_1 : Int) (a_1 : List (Int × Int)) : Option (Int) :=
  Option.bind (m_slices_BinarySearchFunc O x_1 a_1) fun (n117, _) =>
  (some n117)
def m_runs_Has (O : Ops) (x_1 : Int) (a_1 : List (Int × Int)) : Option (Bool) :=
  Option.bind (m_runs_Valid O a_1) fun b140 =>
  bif (O .not b140) then
    (some false)
  else
    Option.bind (m_runs_search O x_1 a_1) fun n118 =>
    Option.bind (
      bif (O .lt n118 (O .ofNat (O .len .i2 a_1))) then
        grd (okIdx n118 ((O .len .i2 a_1))) <|
        grd (okKin ((O .toNat n118)) ((O .len .i2 a_1))) <|
        (some (O .le ((O .get .i2 a_1 (O .toNat n118))).1 x_1))
      else
        (some false) : Option ((Bool))) fun x344 =>
    (some x344)
def m_law35_RectangleSlices_L1 (O : Ops) (l_1 : List (Int × Int × Int × Int)) : (Int × List (Int × Int × Int × Int)) → Option ((Int × List (Int × Int × Int × Int)) ⊕ (List (Int × Int × Int × Int))) := fun (x336, l273) =>
  bif (O .lt x336 (O .ofNat (O .len .i4 l_1))) then
    grd (okIdx x336 ((O .len .i4 l_1))) <|
    grd (okKin ((O .toNat x336)) ((O .len .i4 l_1))) <|
    grd (okRoom ((O .len .i4 l273))) <|
    grd (okRoom ((O .len .i4 [(((O .get .i4 l_1 (O .toNat x336))).2.2.1, ((O .get .i4 l_1 (O .toNat x336))).2.2.2, ((O .get .i4 l_1 (O .toNat x336))).1, ((O .get .i4 l_1 (O .toNat x336))).2.1)]))) <|
    grd (okI .i64 ((O .add x336 1))) <|
    (some (Sum.inl ((O .add x336 1), (O .app .i4 l273 [(((O .get .i4 l_1 (O .toNat x336))).2.2.1, ((O .get .i4 l_1 (O .toNat x336))).2.2.2, ((O .get .i4 l_1 (O .toNat x336))).1, ((O .get .i4 l_1 (O .toNat x336))).2.1)]))))
  else
    (some (Sum.inr l273))
def m_law35_RectangleSlices (O : Ops) (valid_1 : Int) (tx_1 : Int) (l_1 : List (Int × Int × Int × Int)) : Option (Bool) :=
  Option.bind (m_law35_awake O) fun b132 =>
  bif (O .not b132) then
    (some false)
  else
    Option.bind (
      Option.bind (m_law35_few O l_1) fun b133 =>
      bif (O .not b133) then
        (some true)
      else
        Option.bind (m_ref35_List O l_1) fun b134 =>
        (some (O .not b134)) : Option ((Bool))) fun x334 =>
    bif x334 then
      (some true)
    else
      Option.bind (loop (m_law35_RectangleSlices_L1 O l_1) (0, ([] : List (Int × Int × Int × Int)))) fun l274 =>
      Option.bind (m_rectangle_At O tx_1 l_1) fun l276 =>
      Option.bind (m_rectangle_During O valid_1 l_1) fun l280 =>
      Option.bind (
        Option.bind (m_runs_Valid O l276) fun b135 =>
        bif (O .not b135) then
          (some true)
        else
          Option.bind (m_runs_Valid O l280) fun b136 =>
          bif (O .not b136) then
            (some true)
          else
            Option.bind (m_rectangle_During O tx_1 l274) fun l281 =>
            Option.bind (m_slices_Equal O l281 l276) fun b137 =>
            bif (O .not b137) then
              (some true)
            else
              Option.bind (m_rectangle_At O valid_1 l274) fun l282 =>
              Option.bind (m_slices_Equal O l282 l280) fun b138 =>
              (some (O .not b138)) : Option ((Bool))) fun x340 =>
      bif x340 then
        (some false)
      else
        Option.bind (m_law35_in O valid_1 tx_1 l_1) fun b139 =>
        Option.bind (
          Option.bind (m_runs_Has O valid_1 l276) fun b142 =>
          bif (O .beq b142 b139) then
            Option.bind (m_runs_Has O tx_1 l280) fun b143 =>
            bif (O .beq b143 b139) then
              Option.bind (m_rectangle_Has O tx_1 valid_1 l274) fun b144 =>
              (some (O .beq b144 b139))
            else
              (some false)
          else
            (some false) : Option ((Bool))) fun x347 =>
        (some x347)
def m_runs_Measure_L1 (O : Ops) (a_1 : List (Int × Int)) : (Int × Int) → Option ((Int × Int) ⊕ (Int)) := fun (n122, x354) =>
  bif (O .lt x354 (O .ofNat (O .len .i2 a_1))) then
    grd (okIdx x354 ((O .len .i2 a_1))) <|
    grd (okKin ((O .toNat x354)) ((O .len .i2 a_1))) <|
    grd (okI .i64 ((O .sub ((O .get .i2 a_1 (O .toNat x354))).2 ((O .get .i2 a_1 (O .toNat x354))).1))) <|
    grd (okI .i64 ((O .add n122 (O .sub ((O .get .i2 a_1 (O .toNat x354))).2 ((O .get .i2 a_1 (O .toNat x354))).1)))) <|
    grd (okI .i64 ((O .add x354 1))) <|
    (some (Sum.inl ((O .add n122 (O .sub ((O .get .i2 a_1 (O .toNat x354))).2 ((O .get .i2 a_1 (O .toNat x354))).1)), (O .add x354 1))))
  else
    (some (Sum.inr n122))
def m_runs_Measure (O : Ops) (a_1 : List (Int × Int)) : Option (Int) :=
  Option.bind (m_runs_Valid O a_1) fun b148 =>
  bif (O .not b148) then
    (some 0)
  else
    Option.bind (loop (m_runs_Measure_L1 O a_1) (0, 0)) fun n123 =>
    (some n123)
def m_rectangle_Area_L1 (O : Ops) (l_1 : List (Int × Int × Int × Int)) : (Int × List Int) → Option ((Int × List Int) ⊕ (List Int)) := fun (x353, l285) =>
  bif (O .lt x353 (O .ofNat (O .len .i4 l_1))) then
    grd (okIdx x353 ((O .len .i4 l_1))) <|
    grd (okKin ((O .toNat x353)) ((O .len .i4 l_1))) <|
    grd (okRoom ((O .len .i1 l285))) <|
    grd (okRoom ((O .len .i1 [((O .get .i4 l_1 (O .toNat x353))).2.2.1, ((O .get .i4 l_1 (O .toNat x353))).2.2.2]))) <|
    grd (okI .i64 ((O .add x353 1))) <|
    (some (Sum.inl ((O .add x353 1), (O .app .i1 l285 [((O .get .i4 l_1 (O .toNat x353))).2.2.1, ((O .get .i4 l_1 (O .toNat x353))).2.2.2]))))
  else
    (some (Sum.inr l285))
def m_rectangle_Area_L2 (O : Ops) (l288 : List Int) (l_1 : List (Int × Int × Int × Int)) : (Int × Int) → Option ((Int × Int) ⊕ ((Unit) ⊕ (Int))) := fun (sum2, i76) =>
  grd (okI .i64 ((O .add i76 1))) <|
  bif (O .lt (O .add i76 1) (O .ofNat (O .len .i1 l288))) then
    grd (okIdx ((O .add i76 1)) ((O .len .i1 l288))) <|
    grd (okKin ((O .toNat (O .add i76 1))) ((O .len .i1 l288))) <|
    grd (okIdx i76 ((O .len .i1 l288))) <|
    grd (okKin ((O .toNat i76)) ((O .len .i1 l288))) <|
    grd (okI .i64 ((O .sub (O .get .i1 l288 (O .toNat (O .add i76 1))) (O .get .i1 l288 (O .toNat i76))))) <|
    grd (okI .u64 ((O .sub (O .get .i1 l288 (O .toNat (O .add i76 1))) (O .get .i1 l288 (O .toNat i76))))) <|
    Option.bind (m_rectangle_times O ((O .get .i1 l288 (O .toNat i76))) l_1) fun l290 =>
    Option.bind (m_runs_Measure O l290) fun n129 =>
    grd (okI .u64 n129) <|
    Option.bind (m_bits_Mul64 O ((O .sub (O .get .i1 l288 (O .toNat (O .add i76 1))) (O .get .i1 l288 (O .toNat i76)))) n129) fun (n130, n131) =>
    Option.bind (m_bits_Add64 O sum2 n131 0) fun (n132, n133) =>
    Option.bind (
      bif (O .not (O .eq n130 0)) then
        (some true)
      else
        bif (O .not (O .eq n133 0)) then
          (some true)
        else
          (some (O .lt 9223372036854775807 n132)) : Option ((Bool))) fun x358 =>
    bif x358 then
      (some (Sum.inr (Sum.inl ())))
    else
      (some (Sum.inl (n132, (O .add i76 1))))
  else
    (some (Sum.inr (Sum.inr sum2)))
def m_rectangle_Area (O : Ops) (l_1 : List (Int × Int × Int × Int)) : Option (Int) :=
  Option.bind (m_rectangle_check_2 O l_1) fun n121 =>
  bif (O .not (O .eq n121 0)) then
    (some (-1))
  else
    Option.bind (loop (m_rectangle_Area_L1 O l_1) (0, ([] : List Int))) fun l286 =>
    Option.bind (m_sortI O l286) fun l287 =>
    Option.bind (m_compI O l287) fun l288 =>
    Option.bind (loop (m_rectangle_Area_L2 O l288 l_1) (0, 0)) fun e => match e with
    | .inl _ =>
      (some (-1))
    | .inr (sum3) =>
      grd (okI .i64 sum3) <|
      (some sum3)
def m_law35_RectangleAreas_L1 (O : Ops) (n134 : Int) (n135 : Int) (n136 : Int) (n137 : Int) : (Int) → Option ((Int) ⊕ ((Bool) ⊕ (Unit))) := fun x362 =>
  bif (O .lt x362 (O .ofNat (O .len .i1 [n134, n135, n136, n137]))) then
    grd (okIdx x362 ((O .len .i1 [n134, n135, n136, n137]))) <|
    grd (okKin ((O .toNat x362)) ((O .len .i1 [n134, n135, n136, n137]))) <|
    Option.bind (
      bif (O .lt 4611686018427387904 (O .get .i1 [n134, n135, n136, n137] (O .toNat x362))) then
        (some true)
      else
        (some (O .lt (O .get .i1 [n134, n135, n136, n137] (O .toNat x362)) 0)) : Option ((Bool))) fun x364 =>
    bif x364 then
      (some (Sum.inr (Sum.inl (O .le (-1) (O .get .i1 [n134, n135, n136, n137] (O .toNat x362))))))
    else
      grd (okI .i64 ((O .add x362 1))) <|
      (some (Sum.inl (O .add x362 1)))
  else
    (some (Sum.inr (Sum.inr ())))
def m_law35_RectangleAreas (O : Ops) (a_1 : List (Int × Int × Int × Int)) (b_1 : List (Int × Int × Int × Int)) : Option (Bool) :=
  Option.bind (m_law35_awake O) fun b145 =>
  bif (O .not b145) then
    (some false)
  else
    Option.bind (
      bif (O .lt 15 (O .ofNat (O .len .i4 a_1))) then
        (some true)
      else
        bif (O .lt 15 (O .ofNat (O .len .i4 b_1))) then
          (some true)
        else
          Option.bind (m_ref35_List O a_1) fun b146 =>
          bif (O .not b146) then
            (some true)
          else
            Option.bind (m_ref35_List O b_1) fun b147 =>
            (some (O .not b147)) : Option ((Bool))) fun x349 =>
    bif x349 then
      (some true)
    else
      Option.bind (m_rectangle_Union O a_1 b_1) fun (l283, n119) =>
      Option.bind (m_rectangle_Meet O a_1 b_1) fun (l284, n120) =>
      Option.bind (
        bif (O .not (O .eq n119 0)) then
          (some true)
        else
          (some (O .not (O .eq n120 0))) : Option ((Bool))) fun x351 =>
      bif x351 then
        (some true)
      else
        Option.bind (m_rectangle_Area O a_1) fun n134 =>
        Option.bind (m_rectangle_Area O b_1) fun n135 =>
        Option.bind (m_rectangle_Area O l283) fun n136 =>
        Option.bind (m_rectangle_Area O l284) fun n137 =>
        Option.bind (loop (m_law35_RectangleAreas_L1 O n134 n135 n136 n137) 0) fun e => match e with
        | .inl x365 =>
          (some x365)
        | .inr (_) =>
          grd (okI .i64 ((O .add n134 n135))) <|
          grd (okI .i64 ((O .add n136 n137))) <|
          (some (O .eq (O .add n134 n135) (O .add n136 n137)))
end Go.Proofs.Ytkdffpncpikdmaa
