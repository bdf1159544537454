/-
  Models of functions (printed by lift.py).
-/
import Derived.Test.YtegmjohhgedakaaManB
namespace Go.Proofs.Ytegmjohhgedakaa
open Go.RowKit
set_option maxRecDepth 100000

def m_bounds_right (O : Ops) (n_1 : Int) (b_1 : Int) (b_2 : Int) (b_3 : Int) : Option (Bool) :=
  Option.bind (
    bif (O .le 0 b_1) then
      bif (O .lt b_1 n_1) then
        bif (O .le 0 b_2) then
          bif (O .lt b_2 n_1) then
            bif (O .le (-1073741824) b_3) then
              (some (O .le b_3 1073741824))
            else
              (some false)
          else
            (some false)
        else
          (some false)
      else
        (some false)
    else
      (some false) : Option ((Bool))) fun x7 =>
  (some x7)
def m_bounds_Valid_1 (O : Ops) (b_1 : Int) (b_2 : Int) (b_3 : Int) (x_1 : Int) : Option (Bool) :=
  Option.bind (m_bounds_right O x_1 b_1 b_2 b_3) fun b1 =>
  (some (O .not b1))
def m_slices_IndexFunc_L1 (O : Ops) (c_1 : Int) (s_1 : List (Int × Int × Int)) : (Int) → Option ((Int) ⊕ ((Int) ⊕ (Unit))) := fun x1 =>
  bif (O .lt x1 (O .ofNat (O .len .i3 s_1))) then
    grd (okIdx x1 ((O .len .i3 s_1))) <|
    grd (okKin ((O .toNat x1)) ((O .len .i3 s_1))) <|
    Option.bind (m_bounds_Valid_1 O (((O .get .i3 s_1 (O .toNat x1))).1) (((O .get .i3 s_1 (O .toNat x1))).2.1) (((O .get .i3 s_1 (O .toNat x1))).2.2) c_1) fun b2 =>
    bif b2 then
      (some (Sum.inr (Sum.inl x1)))
    else
      grd (okI .i64 ((O .add x1 1))) <|
      (some (Sum.inl (O .add x1 1)))
  else
    (some (Sum.inr (Sum.inr ())))
def m_slices_IndexFunc (O : Ops) (s_1 : List (Int × Int × Int)) (c_1 : Int) : Option (Int) :=
  Option.bind (loop (m_slices_IndexFunc_L1 O c_1 s_1) 0) fun e => match e with
  | .inl x8 =>
    (some x8)
  | .inr (_) =>
    (some (-1))
def m_slices_ContainsFunc (O : Ops) (s_1 : List (Int × Int × Int)) (c_1 : Int) : Option (Bool) :=
  Option.bind (m_slices_IndexFunc O s_1 c_1) fun n1 =>
  (some (O .le 0 n1))
def m_bounds_Valid (O : Ops) (n_1 : Int) (l_1 : List (Int × Int × Int)) : Option (Bool) :=
  Option.bind (
    bif (O .le 1 n_1) then
      bif (O .le n_1 24) then
        bif (O .le (O .ofNat (O .len .i3 l_1)) 200) then
          Option.bind (m_slices_ContainsFunc O l_1 n_1) fun b3 =>
          (some (O .not b3))
        else
          (some false)
      else
        (some false)
    else
      (some false) : Option ((Bool))) fun x12 =>
  (some x12)
def m_integer_Add (O : Ops) (a_1 : Int) (b_1 : Int) : Option (Int × Int) :=
  grd (okI .i64 ((O .add a_1 b_1))) <|
  Option.bind (
    bif (O .beq (O .le 0 a_1) (O .le 0 b_1)) then
      (some (O .not (O .beq (O .le 0 (O .add a_1 b_1)) (O .le 0 a_1))))
    else
      (some false) : Option ((Bool))) fun x25 =>
  bif x25 then
    (some (0, 9))
  else
    (some ((O .add a_1 b_1), 0))
def m_bounds_plus (O : Ops) (a_1 : Int) (b_1 : Int) : Option (Int) :=
  Option.bind (
    bif (O .eq a_1 4398046511104) then
      (some true)
    else
      (some (O .eq b_1 4398046511104)) : Option ((Bool))) fun x23 =>
  bif x23 then
    (some 4398046511104)
  else
    Option.bind (m_integer_Add O a_1 b_1) fun (n2, _) =>
    (some n2)
def m_slices_Min_L1 (O : Ops) (x_1 : List Int) : (Int × Int) → Option ((Int × Int) ⊕ (Int)) := fun (m11, i1) =>
  bif (O .lt i1 (O .ofNat (O .len .i1 x_1))) then
    grd (okIdx i1 ((O .len .i1 x_1))) <|
    grd (okKin ((O .toNat i1)) ((O .len .i1 x_1))) <|
    grd (okI .i64 ((O .add i1 1))) <|
    (some (Sum.inl ((O .min m11 (O .get .i1 x_1 (O .toNat i1))), (O .add i1 1))))
  else
    (some (Sum.inr m11))
def m_slices_Min (O : Ops) (x_1 : List Int) : Option (Int) :=
  bif (O .lt (O .ofNat (O .len .i1 x_1)) 1) then
    none
  else
    grd (okIdx 0 ((O .len .i1 x_1))) <|
    grd (okKin ((O .toNat 0)) ((O .len .i1 x_1))) <|
    Option.bind (loop (m_slices_Min_L1 O x_1) ((O .get .i1 x_1 (O .toNat 0)), 1)) fun m12 =>
    (some m12)
def m_bounds_tight_1 (O : Ops) (row_1 : List Int) : Option (Bool) :=
  Option.bind (m_slices_Min O row_1) fun n8 =>
  (some (O .lt n8 (-68719476736)))
def m_slices_IndexFunc_2_L1 (O : Ops) (s_1 : List (List Int)) : (Int) → Option ((Int) ⊕ ((Int) ⊕ (Unit))) := fun x30 =>
  bif (O .lt x30 (O .ofNat (O .len .v1 s_1))) then
    grd (okIdx x30 ((O .len .v1 s_1))) <|
    grd (okKin ((O .toNat x30)) ((O .len .v1 s_1))) <|
    Option.bind (m_bounds_tight_1 O ((O .get .v1 s_1 (O .toNat x30)))) fun b5 =>
    bif b5 then
      (some (Sum.inr (Sum.inl x30)))
    else
      grd (okI .i64 ((O .add x30 1))) <|
      (some (Sum.inl (O .add x30 1)))
  else
    (some (Sum.inr (Sum.inr ())))
def m_slices_IndexFunc_2 (O : Ops) (s_1 : List (List Int)) : Option (Int) :=
  Option.bind (loop (m_slices_IndexFunc_2_L1 O s_1) 0) fun e => match e with
  | .inl x31 =>
    (some x31)
  | .inr (_) =>
    (some (-1))
def m_slices_ContainsFunc_2 (O : Ops) (s_1 : List (List Int)) : Option (Bool) :=
  Option.bind (m_slices_IndexFunc_2 O s_1) fun n9 =>
  (some (O .le 0 n9))
def m_bounds_tight_L1 (O : Ops) (n_1 : Int) : (Int × List (List Int)) → Option ((Int × List (List Int)) ⊕ (List (List Int))) := fun (x16, m1) =>
  bif (O .lt x16 (O .ofNat (O .len .v1 (O .rep .v1 (O .toNat n_1))))) then
    Option.bind (m_rep_i1 O n_1 ([4398046511104])) fun l2 =>
    grd (okIdx x16 ((O .len .v1 m1))) <|
    grd (okKin ((O .toNat x16)) ((O .len .v1 m1))) <|
    grd (okIdx x16 ((O .len .v1 (O .put .v1 m1 (O .toNat x16) l2)))) <|
    grd (okKin ((O .toNat x16)) ((O .len .v1 (O .put .v1 m1 (O .toNat x16) l2)))) <|
    grd (okIdx x16 ((O .len .i1 (O .get .v1 (O .put .v1 m1 (O .toNat x16) l2) (O .toNat x16))))) <|
    grd (okKin ((O .toNat x16)) ((O .len .i1 (O .get .v1 (O .put .v1 m1 (O .toNat x16) l2) (O .toNat x16))))) <|
    grd (okI .i64 ((O .add x16 1))) <|
    (some (Sum.inl ((O .add x16 1), (O .put .v1 (O .put .v1 m1 (O .toNat x16) l2) (O .toNat x16) (O .put .i1 (O .get .v1 (O .put .v1 m1 (O .toNat x16) l2) (O .toNat x16)) (O .toNat x16) 0)))))
  else
    (some (Sum.inr m1))
def m_bounds_tight_L2 (O : Ops) (l_1 : List (Int × Int × Int)) : (Int × List (List Int)) → Option ((Int × List (List Int)) ⊕ (List (List Int))) := fun (x18, m3) =>
  bif (O .lt x18 (O .ofNat (O .len .i3 l_1))) then
    grd (okIdx x18 ((O .len .i3 l_1))) <|
    grd (okKin ((O .toNat x18)) ((O .len .i3 l_1))) <|
    grd (okIdx (((O .get .i3 l_1 (O .toNat x18))).1) ((O .len .v1 m3))) <|
    grd (okKin ((O .toNat ((O .get .i3 l_1 (O .toNat x18))).1)) ((O .len .v1 m3))) <|
    grd (okIdx (((O .get .i3 l_1 (O .toNat x18))).2.1) ((O .len .i1 (O .get .v1 m3 (O .toNat ((O .get .i3 l_1 (O .toNat x18))).1))))) <|
    grd (okKin ((O .toNat ((O .get .i3 l_1 (O .toNat x18))).2.1)) ((O .len .i1 (O .get .v1 m3 (O .toNat ((O .get .i3 l_1 (O .toNat x18))).1))))) <|
    grd (okI .i64 ((O .add x18 1))) <|
    (some (Sum.inl ((O .add x18 1), (O .put .v1 m3 (O .toNat ((O .get .i3 l_1 (O .toNat x18))).1) (O .put .i1 (O .get .v1 m3 (O .toNat ((O .get .i3 l_1 (O .toNat x18))).1)) (O .toNat ((O .get .i3 l_1 (O .toNat x18))).2.1) (O .min (O .get .i1 (O .get .v1 m3 (O .toNat ((O .get .i3 l_1 (O .toNat x18))).1)) (O .toNat ((O .get .i3 l_1 (O .toNat x18))).2.1)) ((O .get .i3 l_1 (O .toNat x18))).2.2))))))
  else
    (some (Sum.inr m3))
def m_bounds_tight_L3 (O : Ops) (n_1 : Int) (x32 : Int) (x36 : Int) : (Int × List (List Int)) → Option ((Int × List (List Int)) ⊕ (List (List Int))) := fun (x38, m17) =>
  bif (O .lt x38 n_1) then
    grd (okIdx x36 ((O .len .v1 m17))) <|
    grd (okKin ((O .toNat x36)) ((O .len .v1 m17))) <|
    grd (okIdx x38 ((O .len .i1 (O .get .v1 m17 (O .toNat x36))))) <|
    grd (okKin ((O .toNat x38)) ((O .len .i1 (O .get .v1 m17 (O .toNat x36))))) <|
    grd (okIdx x32 ((O .len .i1 (O .get .v1 m17 (O .toNat x36))))) <|
    grd (okKin ((O .toNat x32)) ((O .len .i1 (O .get .v1 m17 (O .toNat x36))))) <|
    grd (okIdx x32 ((O .len .v1 m17))) <|
    grd (okKin ((O .toNat x32)) ((O .len .v1 m17))) <|
    grd (okIdx x38 ((O .len .i1 (O .get .v1 m17 (O .toNat x32))))) <|
    grd (okKin ((O .toNat x38)) ((O .len .i1 (O .get .v1 m17 (O .toNat x32))))) <|
    Option.bind (m_bounds_plus O ((O .get .i1 (O .get .v1 m17 (O .toNat x36)) (O .toNat x32))) ((O .get .i1 (O .get .v1 m17 (O .toNat x32)) (O .toNat x38)))) fun n13 =>
    grd (okI .i64 ((O .add x38 1))) <|
    (some (Sum.inl ((O .add x38 1), (O .put .v1 m17 (O .toNat x36) (O .put .i1 (O .get .v1 m17 (O .toNat x36)) (O .toNat x38) (O .min (O .get .i1 (O .get .v1 m17 (O .toNat x36)) (O .toNat x38)) n13))))))
  else
    (some (Sum.inr m17))
def m_bounds_tight_L4 (O : Ops) (n_1 : Int) (x32 : Int) : (Int × List (List Int)) → Option ((Int × List (List Int)) ⊕ (List (List Int))) := fun (x36, m16) =>
  bif (O .lt x36 n_1) then
    Option.bind (loop (m_bounds_tight_L3 O n_1 x32 x36) (0, m16)) fun m18 =>
    grd (okI .i64 ((O .add x36 1))) <|
    (some (Sum.inl ((O .add x36 1), m18)))
  else
    (some (Sum.inr m16))
def m_bounds_tight_L5 (O : Ops) (n_1 : Int) : (Int × List (List Int)) → Option ((Int × List (List Int)) ⊕ ((Unit) ⊕ (List (List Int)))) := fun (x32, m13) =>
  bif (O .lt x32 n_1) then
    Option.bind (loop (m_bounds_tight_L4 O n_1 x32) (0, m13)) fun m19 =>
    Option.bind (m_slices_ContainsFunc_2 O m19) fun b7 =>
    bif b7 then
      (some (Sum.inr (Sum.inl ())))
    else
      grd (okI .i64 ((O .add x32 1))) <|
      (some (Sum.inl ((O .add x32 1), m19)))
  else
    (some (Sum.inr (Sum.inr m13)))
def m_bounds_tight_L6 (O : Ops) (m20 : List (List Int)) (n_1 : Int) : (Int) → Option ((Int) ⊕ ((Unit) ⊕ (Unit))) := fun x39 =>
  bif (O .lt x39 n_1) then
    grd (okIdx x39 ((O .len .v1 m20))) <|
    grd (okKin ((O .toNat x39)) ((O .len .v1 m20))) <|
    grd (okIdx x39 ((O .len .i1 (O .get .v1 m20 (O .toNat x39))))) <|
    grd (okKin ((O .toNat x39)) ((O .len .i1 (O .get .v1 m20 (O .toNat x39))))) <|
    bif (O .lt (O .get .i1 (O .get .v1 m20 (O .toNat x39)) (O .toNat x39)) 0) then
      (some (Sum.inr (Sum.inl ())))
    else
      grd (okI .i64 ((O .add x39 1))) <|
      (some (Sum.inl (O .add x39 1)))
  else
    (some (Sum.inr (Sum.inr ())))
def m_bounds_tight (O : Ops) (n_1 : Int) (l_1 : List (Int × Int × Int)) : Option (List (List Int) × Bool) :=
  grd (okRng n_1 ((O .toNat n_1))) <|
  grd (okRoom ((O .toNat n_1))) <|
  Option.bind (loop (m_bounds_tight_L1 O n_1) (0, (O .rep .v1 (O .toNat n_1)))) fun m2 =>
  Option.bind (loop (m_bounds_tight_L2 O l_1) (0, m2)) fun m4 =>
  Option.bind (loop (m_bounds_tight_L5 O n_1) (0, m4)) fun e => match e with
  | .inl _ =>
    (some (([] : List (List Int)), false))
  | .inr (m20) =>
    Option.bind (loop (m_bounds_tight_L6 O m20 n_1) 0) fun e => match e with
    | .inl _ =>
      (some (([] : List (List Int)), false))
    | .inr (_) =>
      (some (m20, true))
def m_bounds_Between (O : Ops) (n_1 : Int) (i_1 : Int) (j_1 : Int) (l_1 : List (Int × Int × Int)) : Option (Int × Int × Int) :=
  Option.bind (m_bounds_Valid O n_1 l_1) fun b4 =>
  bif (O .not b4) then
    (some (0, 0, 1))
  else
    Option.bind (
      bif (O .lt i_1 0) then
        (some true)
      else
        bif (O .le n_1 i_1) then
          (some true)
        else
          bif (O .lt j_1 0) then
            (some true)
          else
            (some (O .le n_1 j_1)) : Option ((Bool))) fun x14 =>
    bif x14 then
      (some (0, 0, 2))
    else
      Option.bind (m_bounds_tight O n_1 l_1) fun (l3, b8) =>
      bif (O .not b8) then
        (some (0, 0, 17))
      else
        grd (okIdx j_1 ((O .len .v1 l3))) <|
        grd (okKin ((O .toNat j_1)) ((O .len .v1 l3))) <|
        grd (okIdx i_1 ((O .len .i1 (O .get .v1 l3 (O .toNat j_1))))) <|
        grd (okKin ((O .toNat i_1)) ((O .len .i1 (O .get .v1 l3 (O .toNat j_1))))) <|
        grd (okI .i64 ((O .sub 0 (O .get .i1 (O .get .v1 l3 (O .toNat j_1)) (O .toNat i_1))))) <|
        grd (okIdx i_1 ((O .len .v1 l3))) <|
        grd (okKin ((O .toNat i_1)) ((O .len .v1 l3))) <|
        grd (okIdx j_1 ((O .len .i1 (O .get .v1 l3 (O .toNat i_1))))) <|
        grd (okKin ((O .toNat j_1)) ((O .len .i1 (O .get .v1 l3 (O .toNat i_1))))) <|
        (some ((O .sub 0 (O .get .i1 (O .get .v1 l3 (O .toNat j_1)) (O .toNat i_1))), (O .get .i1 (O .get .v1 l3 (O .toNat i_1)) (O .toNat j_1)), 0))
def m_bounds_Tight (O : Ops) (n_1 : Int) (l_1 : List (Int × Int × Int)) : Option (List (List Int) × Int) :=
  Option.bind (m_bounds_Valid O n_1 l_1) fun b9 =>
  bif (O .not b9) then
    (some (([] : List (List Int)), 1))
  else
    Option.bind (m_bounds_tight O n_1 l_1) fun (l4, b10) =>
    bif (O .not b10) then
      (some (([] : List (List Int)), 17))
    else
      (some (l4, 0))
def m_bounds_Earliest_L1 (O : Ops) (l5 : List (List Int)) (n_1 : Int) : (Int × List Int) → Option ((Int × List Int) ⊕ ((Unit) ⊕ (List Int))) := fun (x41, l6) =>
  bif (O .lt x41 n_1) then
    grd (okIdx x41 ((O .len .v1 l5))) <|
    grd (okKin ((O .toNat x41)) ((O .len .v1 l5))) <|
    grd (okIdx 0 ((O .len .i1 (O .get .v1 l5 (O .toNat x41))))) <|
    grd (okKin ((O .toNat 0)) ((O .len .i1 (O .get .v1 l5 (O .toNat x41))))) <|
    bif (O .eq (O .get .i1 (O .get .v1 l5 (O .toNat x41)) (O .toNat 0)) 4398046511104) then
      (some (Sum.inr (Sum.inl ())))
    else
      grd (okI .i64 ((O .sub 0 (O .get .i1 (O .get .v1 l5 (O .toNat x41)) (O .toNat 0))))) <|
      grd (okIdx x41 ((O .len .i1 l6))) <|
      grd (okKin ((O .toNat x41)) ((O .len .i1 l6))) <|
      grd (okI .i64 ((O .add x41 1))) <|
      (some (Sum.inl ((O .add x41 1), (O .put .i1 l6 (O .toNat x41) (O .sub 0 (O .get .i1 (O .get .v1 l5 (O .toNat x41)) (O .toNat 0)))))))
  else
    (some (Sum.inr (Sum.inr l6)))
def m_bounds_Earliest (O : Ops) (n_1 : Int) (l_1 : List (Int × Int × Int)) : Option (List Int × Int) :=
  Option.bind (m_bounds_Tight O n_1 l_1) fun (l5, n17) =>
  bif (O .not (O .eq n17 0)) then
    (some (([] : List Int), n17))
  else
    grd (okRng n_1 ((O .toNat n_1))) <|
    grd (okRoom ((O .toNat n_1))) <|
    Option.bind (loop (m_bounds_Earliest_L1 O l5 n_1) (0, (O .rep .i1 (O .toNat n_1)))) fun e => match e with
    | .inl _ =>
      (some (([] : List Int), 18))
    | .inr (l7) =>
      (some (l7, 0))
def m_bounds_cycle_L1 (O : Ops) (l_1 : List (Int × Int × Int)) : (Int × Int × List Int × List Int) → Option ((Int × Int × List Int × List Int) ⊕ (Int × List Int × List Int)) := fun (last13, x47, l28, l29) =>
  bif (O .lt x47 (O .ofNat (O .len .i3 l_1))) then
    grd (okIdx x47 ((O .len .i3 l_1))) <|
    grd (okKin ((O .toNat x47)) ((O .len .i3 l_1))) <|
    grd (okIdx (((O .get .i3 l_1 (O .toNat x47))).1) ((O .len .i1 l28))) <|
    grd (okKin ((O .toNat ((O .get .i3 l_1 (O .toNat x47))).1)) ((O .len .i1 l28))) <|
    grd (okI .i64 ((O .add (O .get .i1 l28 (O .toNat ((O .get .i3 l_1 (O .toNat x47))).1)) ((O .get .i3 l_1 (O .toNat x47))).2.2))) <|
    grd (okIdx (((O .get .i3 l_1 (O .toNat x47))).2.1) ((O .len .i1 l28))) <|
    grd (okKin ((O .toNat ((O .get .i3 l_1 (O .toNat x47))).2.1)) ((O .len .i1 l28))) <|
    Option.bind (
      bif (O .lt (O .add (O .get .i1 l28 (O .toNat ((O .get .i3 l_1 (O .toNat x47))).1)) ((O .get .i3 l_1 (O .toNat x47))).2.2) (O .get .i1 l28 (O .toNat ((O .get .i3 l_1 (O .toNat x47))).2.1))) then
        grd (okIdx (((O .get .i3 l_1 (O .toNat x47))).2.1) ((O .len .i1 l29))) <|
        grd (okKin ((O .toNat ((O .get .i3 l_1 (O .toNat x47))).2.1)) ((O .len .i1 l29))) <|
        (some (((O .get .i3 l_1 (O .toNat x47))).2.1, (O .put .i1 l28 (O .toNat ((O .get .i3 l_1 (O .toNat x47))).2.1) (O .add (O .get .i1 l28 (O .toNat ((O .get .i3 l_1 (O .toNat x47))).1)) ((O .get .i3 l_1 (O .toNat x47))).2.2)), (O .put .i1 l29 (O .toNat ((O .get .i3 l_1 (O .toNat x47))).2.1) x47)))
      else
        (some (last13, l28, l29)) : Option ((Int × List Int × List Int))) fun (last15, l32, l33) =>
    grd (okI .i64 ((O .add x47 1))) <|
    (some (Sum.inl (last15, (O .add x47 1), l32, l33)))
  else
    (some (Sum.inr (last13, l28, l29)))
def m_bounds_cycle_L2 (O : Ops) (l_1 : List (Int × Int × Int)) (n_1 : Int) : (Int × Int × List Int × List Int) → Option ((Int × Int × List Int × List Int) ⊕ (Int × List Int)) := fun (last9, x45, l22, l23) =>
  bif (O .lt x45 n_1) then
    Option.bind (loop (m_bounds_cycle_L1 O l_1) ((-1), 0, l22, l23)) fun (last16, l34, l35) =>
    bif (O .lt last16 0) then
      (some (Sum.inr (last16, l35)))
    else
      grd (okI .i64 ((O .add x45 1))) <|
      (some (Sum.inl (last16, (O .add x45 1), l34, l35)))
  else
    (some (Sum.inr (last9, l23)))
def m_bounds_cycle_L3 (O : Ops) (l37 : List Int) (l_1 : List (Int × Int × Int)) (n_1 : Int) : (Int × Int) → Option ((Int × Int) ⊕ (Int)) := fun (last19, x48) =>
  bif (O .lt x48 n_1) then
    grd (okIdx last19 ((O .len .i1 l37))) <|
    grd (okKin ((O .toNat last19)) ((O .len .i1 l37))) <|
    grd (okIdx ((O .get .i1 l37 (O .toNat last19))) ((O .len .i3 l_1))) <|
    grd (okKin ((O .toNat (O .get .i1 l37 (O .toNat last19)))) ((O .len .i3 l_1))) <|
    grd (okI .i64 ((O .add x48 1))) <|
    (some (Sum.inl (((O .get .i3 l_1 (O .toNat (O .get .i1 l37 (O .toNat last19))))).1, (O .add x48 1))))
  else
    (some (Sum.inr last19))
def m_bounds_cycle_L4 (O : Ops) (l37 : List Int) (l_1 : List (Int × Int × Int)) (last20 : Int) : (Int × List Int) → Option ((Int × List Int) ⊕ (List Int)) := fun (v3, l38) =>
  grd (okIdx v3 ((O .len .i1 l37))) <|
  grd (okKin ((O .toNat v3)) ((O .len .i1 l37))) <|
  grd (okRoom ((O .len .i1 l38))) <|
  grd (okRoom ((O .len .i1 [(O .get .i1 l37 (O .toNat v3))]))) <|
  grd (okIdx ((O .get .i1 l37 (O .toNat v3))) ((O .len .i3 l_1))) <|
  grd (okKin ((O .toNat (O .get .i1 l37 (O .toNat v3)))) ((O .len .i3 l_1))) <|
  bif (O .eq ((O .get .i3 l_1 (O .toNat (O .get .i1 l37 (O .toNat v3))))).1 last20) then
    (some (Sum.inr (O .app .i1 l38 [(O .get .i1 l37 (O .toNat v3))])))
  else
    (some (Sum.inl (((O .get .i3 l_1 (O .toNat (O .get .i1 l37 (O .toNat v3))))).1, (O .app .i1 l38 [(O .get .i1 l37 (O .toNat v3))]))))
def m_bounds_cycle_L5 (O : Ops) : (Int × Int × List Int) → Option ((Int × Int × List Int) ⊕ (List Int)) := fun (i3, j2, l40) =>
  bif (O .lt i3 j2) then
    grd (okIdx j2 ((O .len .i1 l40))) <|
    grd (okKin ((O .toNat j2)) ((O .len .i1 l40))) <|
    grd (okIdx i3 ((O .len .i1 l40))) <|
    grd (okKin ((O .toNat i3)) ((O .len .i1 l40))) <|
    grd (okIdx j2 ((O .len .i1 (O .put .i1 l40 (O .toNat i3) (O .get .i1 l40 (O .toNat j2)))))) <|
    grd (okKin ((O .toNat j2)) ((O .len .i1 (O .put .i1 l40 (O .toNat i3) (O .get .i1 l40 (O .toNat j2)))))) <|
    grd (okI .i64 ((O .add i3 1))) <|
    grd (okI .i64 ((O .sub j2 1))) <|
    (some (Sum.inl ((O .add i3 1), (O .sub j2 1), (O .put .i1 (O .put .i1 l40 (O .toNat i3) (O .get .i1 l40 (O .toNat j2))) (O .toNat j2) (O .get .i1 l40 (O .toNat i3))))))
  else
    (some (Sum.inr l40))
def m_bounds_cycle (O : Ops) (n_1 : Int) (l_1 : List (Int × Int × Int)) : Option (((Unit) ⊕ (List Int))) :=
  grd (okRng n_1 ((O .toNat n_1))) <|
  grd (okRoom ((O .toNat n_1))) <|
  Option.bind (m_rep_i1 O n_1 ([(-1)])) fun l9 =>
  Option.bind (loop (m_bounds_cycle_L2 O l_1 n_1) ((-1), 0, (O .rep .i1 (O .toNat n_1)), l9)) fun (last18, l37) =>
  bif (O .lt last18 0) then
    (some (Sum.inl ()))
  else
    Option.bind (loop (m_bounds_cycle_L3 O l37 l_1 n_1) (last18, 0)) fun last20 =>
    Option.bind (loop (m_bounds_cycle_L4 O l37 l_1 last20) (last20, ([] : List Int))) fun l39 =>
    grd (okI .i64 ((O .sub (O .ofNat (O .len .i1 l39)) 1))) <|
    Option.bind (loop (m_bounds_cycle_L5 O) (0, (O .sub (O .ofNat (O .len .i1 l39)) 1), l39)) fun l41 =>
    (some (Sum.inr l41))
def m_bounds_Cycle (O : Ops) (n_1 : Int) (l_1 : List (Int × Int × Int)) : Option (List Int × Int) :=
  Option.bind (m_bounds_Valid O n_1 l_1) fun b11 =>
  bif (O .not b11) then
    (some (([] : List Int), 1))
  else
    Option.bind (
      Option.bind (m_bounds_cycle O n_1 l_1) fun e => match e with
      | .inl _ =>
        (some (Sum.inl ()))
      | .inr (l42) =>
        (some (Sum.inr l42)) : Option (((Unit) ⊕ (List Int)))) fun e => match e with
    | .inl _ =>
      (some (([] : List Int), 7))
    | .inr (l43) =>
      grd (okNz ((O .ofNat (O .len .i1 l43)))) <|
      (some (l43, 0))
def m_slices_Equal_L1 (O : Ops) (s1_1 : List Int) (s2_1 : List Int) : (Int) → Option ((Int) ⊕ ((Unit) ⊕ (Unit))) := fun x49 =>
  bif (O .lt x49 (O .ofNat (O .len .i1 s1_1))) then
    grd (okIdx x49 ((O .len .i1 s1_1))) <|
    grd (okKin ((O .toNat x49)) ((O .len .i1 s1_1))) <|
    grd (okIdx x49 ((O .len .i1 s2_1))) <|
    grd (okKin ((O .toNat x49)) ((O .len .i1 s2_1))) <|
    bif (O .not (O .eq (O .get .i1 s1_1 (O .toNat x49)) (O .get .i1 s2_1 (O .toNat x49)))) then
      (some (Sum.inr (Sum.inl ())))
    else
      grd (okI .i64 ((O .add x49 1))) <|
      (some (Sum.inl (O .add x49 1)))
  else
    (some (Sum.inr (Sum.inr ())))
def m_slices_Equal (O : Ops) (s1_1 : List Int) (s2_1 : List Int) : Option (Bool) :=
  bif (O .not (O .eq (O .ofNat (O .len .i1 s1_1)) (O .ofNat (O .len .i1 s2_1)))) then
    (some false)
  else
    Option.bind (loop (m_slices_Equal_L1 O s1_1 s2_1) 0) fun e => match e with
    | .inl _ =>
      (some false)
    | .inr (_) =>
      (some true)
def m_law45_awake (O : Ops) : Option (Bool) :=
  Option.bind (m_bounds_Between O 2 0 1 ([(0, 1, 5), (1, 0, (-2))])) fun (n14, n15, n16) =>
  Option.bind (m_bounds_Earliest O 2 ([(0, 1, 5), (1, 0, (-2))])) fun (l8, n18) =>
  grd (okRoom ((O .len .i3 [(0, 1, 5), (1, 0, (-2))]))) <|
  grd (okRoom ((O .len .i3 [(1, 0, (-7))]))) <|
  Option.bind (m_bounds_Cycle O 2 ((O .app .i3 [(0, 1, 5), (1, 0, (-2))] [(1, 0, (-7))]))) fun (l44, n19) =>
  Option.bind (
    bif (O .eq n14 2) then
      bif (O .eq n15 5) then
        bif (O .eq n16 0) then
          Option.bind (m_slices_Equal O l8 ([0, 2])) fun b12 =>
          bif b12 then
            bif (O .eq n18 0) then
              bif (O .eq (O .ofNat (O .len .i1 l44)) 2) then
                (some (O .eq n19 0))
              else
                (some false)
            else
              (some false)
          else
            (some false)
        else
          (some false)
      else
        (some false)
    else
      (some false) : Option ((Bool))) fun x56 =>
  (some x56)
def m_law45_long (O : Ops) (l_1 : List (Int × Int × Int)) : Option (Bool) :=
  (some (O .lt 300 (O .ofNat (O .len .i3 l_1))))
def m_bounds_Consistent (O : Ops) (n_1 : Int) (l_1 : List (Int × Int × Int)) : Option (Bool × Int) :=
  Option.bind (m_bounds_Valid O n_1 l_1) fun b16 =>
  bif (O .not b16) then
    (some (false, 1))
  else
    Option.bind (m_bounds_tight O n_1 l_1) fun (_, b17) =>
    (some (b17, 0))
def m_ref45_Valid_L1 (O : Ops) (l_1 : List (Int × Int × Int)) (n_1 : Int) : (Int) → Option ((Int) ⊕ ((Unit) ⊕ (Unit))) := fun i4 =>
  bif (O .lt i4 (O .ofNat (O .len .i3 l_1))) then
    grd (okIdx i4 ((O .len .i3 l_1))) <|
    grd (okKin ((O .toNat i4)) ((O .len .i3 l_1))) <|
    Option.bind (
      bif (O .lt ((O .get .i3 l_1 (O .toNat i4))).1 0) then
        (some true)
      else
        bif (O .le n_1 ((O .get .i3 l_1 (O .toNat i4))).1) then
          (some true)
        else
          bif (O .lt ((O .get .i3 l_1 (O .toNat i4))).2.1 0) then
            (some true)
          else
            bif (O .le n_1 ((O .get .i3 l_1 (O .toNat i4))).2.1) then
              (some true)
            else
              bif (O .lt ((O .get .i3 l_1 (O .toNat i4))).2.2 (-1073741824)) then
                (some true)
              else
                (some (O .lt 1073741824 ((O .get .i3 l_1 (O .toNat i4))).2.2)) : Option ((Bool))) fun x62 =>
    bif x62 then
      (some (Sum.inr (Sum.inl ())))
    else
      grd (okI .i64 ((O .add i4 1))) <|
      (some (Sum.inl (O .add i4 1)))
  else
    (some (Sum.inr (Sum.inr ())))
def m_ref45_Valid (O : Ops) (n_1 : Int) (l_1 : List (Int × Int × Int)) : Option (Bool) :=
  Option.bind (
    bif (O .lt n_1 1) then
      (some true)
    else
      bif (O .lt 24 n_1) then
        (some true)
      else
        (some (O .lt 200 (O .ofNat (O .len .i3 l_1)))) : Option ((Bool))) fun x60 =>
  bif x60 then
    (some false)
  else
    Option.bind (loop (m_ref45_Valid_L1 O l_1 n_1) 0) fun e => match e with
    | .inl _ =>
      (some false)
    | .inr (_) =>
      (some true)
def m_ref45_Tight_L1 (O : Ops) (n_1 : Int) : (Int × List Int) → Option ((Int × List Int) ⊕ (List Int)) := fun (j6, l49) =>
  bif (O .lt j6 n_1) then
    grd (okIdx j6 ((O .len .i1 l49))) <|
    grd (okKin ((O .toNat j6)) ((O .len .i1 l49))) <|
    grd (okI .i64 ((O .add j6 1))) <|
    (some (Sum.inl ((O .add j6 1), (O .put .i1 l49 (O .toNat j6) 4398046511104))))
  else
    (some (Sum.inr l49))
def m_ref45_Tight_L2 (O : Ops) (n_1 : Int) : (Int × List (List Int)) → Option ((Int × List (List Int)) ⊕ (List (List Int))) := fun (i6, m21) =>
  bif (O .lt i6 n_1) then
    grd (okRng n_1 ((O .toNat n_1))) <|
    grd (okRoom ((O .toNat n_1))) <|
    Option.bind (loop (m_ref45_Tight_L1 O n_1) (0, (O .rep .i1 (O .toNat n_1)))) fun l50 =>
    grd (okIdx i6 ((O .len .i1 l50))) <|
    grd (okKin ((O .toNat i6)) ((O .len .i1 l50))) <|
    grd (okRoom ((O .len .v1 m21))) <|
    grd (okI .i64 ((O .add i6 1))) <|
    (some (Sum.inl ((O .add i6 1), (O .app .v1 m21 [(O .put .i1 l50 (O .toNat i6) 0)]))))
  else
    (some (Sum.inr m21))
def m_ref45_Tight_L3 (O : Ops) (l_1 : List (Int × Int × Int)) : (Int × List (List Int)) → Option ((Int × List (List Int)) ⊕ (List (List Int))) := fun (i8, m23) =>
  bif (O .lt i8 (O .ofNat (O .len .i3 l_1))) then
    grd (okIdx i8 ((O .len .i3 l_1))) <|
    grd (okKin ((O .toNat i8)) ((O .len .i3 l_1))) <|
    grd (okIdx (((O .get .i3 l_1 (O .toNat i8))).1) ((O .len .v1 m23))) <|
    grd (okKin ((O .toNat ((O .get .i3 l_1 (O .toNat i8))).1)) ((O .len .v1 m23))) <|
    grd (okIdx (((O .get .i3 l_1 (O .toNat i8))).2.1) ((O .len .i1 (O .get .v1 m23 (O .toNat ((O .get .i3 l_1 (O .toNat i8))).1))))) <|
    grd (okKin ((O .toNat ((O .get .i3 l_1 (O .toNat i8))).2.1)) ((O .len .i1 (O .get .v1 m23 (O .toNat ((O .get .i3 l_1 (O .toNat i8))).1))))) <|
    grd (okI .i64 ((O .add i8 1))) <|
    (some (Sum.inl ((O .add i8 1), (O .put .v1 m23 (O .toNat ((O .get .i3 l_1 (O .toNat i8))).1) (O .put .i1 (O .get .v1 m23 (O .toNat ((O .get .i3 l_1 (O .toNat i8))).1)) (O .toNat ((O .get .i3 l_1 (O .toNat i8))).2.1) (O .min (O .get .i1 (O .get .v1 m23 (O .toNat ((O .get .i3 l_1 (O .toNat i8))).1)) (O .toNat ((O .get .i3 l_1 (O .toNat i8))).2.1)) ((O .get .i3 l_1 (O .toNat i8))).2.2))))))
  else
    (some (Sum.inr m23))
def m_ref45_Tight_L4 (O : Ops) (i12 : Int) (k2 : Int) (n_1 : Int) : (Int × List (List Int)) → Option ((Int × List (List Int)) ⊕ (List (List Int))) := fun (j14, m49) =>
  bif (O .lt j14 n_1) then
    Option.bind (
      bif (O .not (O .eq (O .get .i1 (O .get .v1 m49 (O .toNat i12)) (O .toNat k2)) 4398046511104)) then
        grd (okIdx i12 ((O .len .v1 m49))) <|
        grd (okKin ((O .toNat i12)) ((O .len .v1 m49))) <|
        grd (okIdx k2 ((O .len .i1 (O .get .v1 m49 (O .toNat i12))))) <|
        grd (okKin ((O .toNat k2)) ((O .len .i1 (O .get .v1 m49 (O .toNat i12))))) <|
        grd (okIdx k2 ((O .len .v1 m49))) <|
        grd (okKin ((O .toNat k2)) ((O .len .v1 m49))) <|
        grd (okIdx j14 ((O .len .i1 (O .get .v1 m49 (O .toNat k2))))) <|
        grd (okKin ((O .toNat j14)) ((O .len .i1 (O .get .v1 m49 (O .toNat k2))))) <|
        (some (O .not (O .eq (O .get .i1 (O .get .v1 m49 (O .toNat k2)) (O .toNat j14)) 4398046511104)))
      else
        grd (okIdx i12 ((O .len .v1 m49))) <|
        grd (okKin ((O .toNat i12)) ((O .len .v1 m49))) <|
        grd (okIdx k2 ((O .len .i1 (O .get .v1 m49 (O .toNat i12))))) <|
        grd (okKin ((O .toNat k2)) ((O .len .i1 (O .get .v1 m49 (O .toNat i12))))) <|
        (some false) : Option ((Bool))) fun x83 =>
    Option.bind (
      bif x83 then
        grd (okIdx j14 ((O .len .i1 (O .get .v1 m49 (O .toNat i12))))) <|
        grd (okKin ((O .toNat j14)) ((O .len .i1 (O .get .v1 m49 (O .toNat i12))))) <|
        grd (okIdx k2 ((O .len .v1 m49))) <|
        grd (okKin ((O .toNat k2)) ((O .len .v1 m49))) <|
        grd (okIdx j14 ((O .len .i1 (O .get .v1 m49 (O .toNat k2))))) <|
        grd (okKin ((O .toNat j14)) ((O .len .i1 (O .get .v1 m49 (O .toNat k2))))) <|
        grd (okI .i64 ((O .add (O .get .i1 (O .get .v1 m49 (O .toNat i12)) (O .toNat k2)) (O .get .i1 (O .get .v1 m49 (O .toNat k2)) (O .toNat j14))))) <|
        (some (O .put .v1 m49 (O .toNat i12) (O .put .i1 (O .get .v1 m49 (O .toNat i12)) (O .toNat j14) (O .min (O .get .i1 (O .get .v1 m49 (O .toNat i12)) (O .toNat j14)) (O .add (O .get .i1 (O .get .v1 m49 (O .toNat i12)) (O .toNat k2)) (O .get .i1 (O .get .v1 m49 (O .toNat k2)) (O .toNat j14)))))))
      else
        (some m49) : Option ((List (List Int)))) fun m51 =>
    grd (okI .i64 ((O .add j14 1))) <|
    (some (Sum.inl ((O .add j14 1), m51)))
  else
    (some (Sum.inr m49))
def m_ref45_Tight_L5 (O : Ops) (k2 : Int) (n_1 : Int) : (Int × List (List Int)) → Option ((Int × List (List Int)) ⊕ ((Unit) ⊕ (List (List Int)))) := fun (i12, m46) =>
  bif (O .lt i12 n_1) then
    Option.bind (loop (m_ref45_Tight_L4 O i12 k2 n_1) (0, m46)) fun m52 =>
    grd (okIdx i12 ((O .len .v1 m52))) <|
    grd (okKin ((O .toNat i12)) ((O .len .v1 m52))) <|
    grd (okIdx i12 ((O .len .i1 (O .get .v1 m52 (O .toNat i12))))) <|
    grd (okKin ((O .toNat i12)) ((O .len .i1 (O .get .v1 m52 (O .toNat i12))))) <|
    bif (O .lt (O .get .i1 (O .get .v1 m52 (O .toNat i12)) (O .toNat i12)) 0) then
      (some (Sum.inr (Sum.inl ())))
    else
      grd (okI .i64 ((O .add i12 1))) <|
      (some (Sum.inl ((O .add i12 1), m52)))
  else
    (some (Sum.inr (Sum.inr m46)))
def m_ref45_Tight_L6 (O : Ops) (n_1 : Int) : (Int × List (List Int)) → Option ((Int × List (List Int)) ⊕ ((Unit) ⊕ (List (List Int)))) := fun (k2, m39) =>
  bif (O .lt k2 n_1) then
    Option.bind (loop (m_ref45_Tight_L5 O k2 n_1) (0, m39)) fun e => match e with
    | .inl _ =>
      (some (Sum.inr (Sum.inl ())))
    | .inr (m53) =>
      grd (okI .i64 ((O .add k2 1))) <|
      (some (Sum.inl ((O .add k2 1), m53)))
  else
    (some (Sum.inr (Sum.inr m39)))
def m_ref45_Tight (O : Ops) (n_1 : Int) (l_1 : List (Int × Int × Int)) : Option (List (List Int) × Bool) :=
  Option.bind (loop (m_ref45_Tight_L2 O n_1) (0, ([] : List (List Int)))) fun m22 =>
  Option.bind (loop (m_ref45_Tight_L3 O l_1) (0, m22)) fun m24 =>
  Option.bind (loop (m_ref45_Tight_L6 O n_1) (0, m24)) fun e => match e with
  | .inl _ =>
    (some (([] : List (List Int)), false))
  | .inr (m54) =>
    (some (m54, true))
def m_ref45_Same_L1 (O : Ops) (a_1 : List (List Int)) (b_1 : List (List Int)) (i13 : Int) : (Int) → Option ((Int) ⊕ ((Unit) ⊕ (Unit))) := fun j15 =>
  bif (O .lt j15 (O .ofNat (O .len .i1 (O .get .v1 a_1 (O .toNat i13))))) then
    grd (okIdx j15 ((O .len .i1 (O .get .v1 a_1 (O .toNat i13))))) <|
    grd (okKin ((O .toNat j15)) ((O .len .i1 (O .get .v1 a_1 (O .toNat i13))))) <|
    grd (okIdx j15 ((O .len .i1 (O .get .v1 b_1 (O .toNat i13))))) <|
    grd (okKin ((O .toNat j15)) ((O .len .i1 (O .get .v1 b_1 (O .toNat i13))))) <|
    bif (O .not (O .eq (O .get .i1 (O .get .v1 a_1 (O .toNat i13)) (O .toNat j15)) (O .get .i1 (O .get .v1 b_1 (O .toNat i13)) (O .toNat j15)))) then
      (some (Sum.inr (Sum.inl ())))
    else
      grd (okI .i64 ((O .add j15 1))) <|
      (some (Sum.inl (O .add j15 1)))
  else
    (some (Sum.inr (Sum.inr ())))
def m_ref45_Same_L2 (O : Ops) (a_1 : List (List Int)) (b_1 : List (List Int)) : (Int) → Option ((Int) ⊕ ((Unit) ⊕ (Unit))) := fun i13 =>
  bif (O .lt i13 (O .ofNat (O .len .v1 a_1))) then
    grd (okIdx i13 ((O .len .v1 a_1))) <|
    grd (okKin ((O .toNat i13)) ((O .len .v1 a_1))) <|
    grd (okIdx i13 ((O .len .v1 b_1))) <|
    grd (okKin ((O .toNat i13)) ((O .len .v1 b_1))) <|
    bif (O .not (O .eq (O .ofNat (O .len .i1 (O .get .v1 a_1 (O .toNat i13)))) (O .ofNat (O .len .i1 (O .get .v1 b_1 (O .toNat i13)))))) then
      (some (Sum.inr (Sum.inl ())))
    else
      Option.bind (loop (m_ref45_Same_L1 O a_1 b_1 i13) 0) fun e => match e with
      | .inl _ =>
        (some (Sum.inr (Sum.inl ())))
      | .inr (_) =>
        grd (okI .i64 ((O .add i13 1))) <|
        (some (Sum.inl (O .add i13 1)))
  else
    (some (Sum.inr (Sum.inr ())))
def m_ref45_Same (O : Ops) (a_1 : List (List Int)) (b_1 : List (List Int)) : Option (Bool) :=
  bif (O .not (O .eq (O .ofNat (O .len .v1 a_1)) (O .ofNat (O .len .v1 b_1)))) then
    (some false)
  else
    Option.bind (loop (m_ref45_Same_L2 O a_1 b_1) 0) fun e => match e with
    | .inl _ =>
      (some false)
    | .inr (_) =>
      (some true)
def m_ref45_Closed_L1 (O : Ops) (i14 : Int) (m_1 : List (List Int)) : (Int) → Option ((Int) ⊕ ((Unit) ⊕ (Unit))) := fun j16 =>
  bif (O .lt j16 (O .ofNat (O .len .v1 m_1))) then
    Option.bind (
      bif (O .not (O .eq (O .get .i1 (O .get .v1 m_1 (O .toNat i14)) (O .toNat j16)) 4398046511104)) then
        bif (O .lt (O .get .i1 (O .get .v1 m_1 (O .toNat i14)) (O .toNat j16)) (-68719476736)) then
          grd (okIdx j16 ((O .len .i1 (O .get .v1 m_1 (O .toNat i14))))) <|
          grd (okKin ((O .toNat j16)) ((O .len .i1 (O .get .v1 m_1 (O .toNat i14))))) <|
          (some true)
        else
          grd (okIdx j16 ((O .len .i1 (O .get .v1 m_1 (O .toNat i14))))) <|
          grd (okKin ((O .toNat j16)) ((O .len .i1 (O .get .v1 m_1 (O .toNat i14))))) <|
          (some (O .lt 68719476736 (O .get .i1 (O .get .v1 m_1 (O .toNat i14)) (O .toNat j16))))
      else
        grd (okIdx j16 ((O .len .i1 (O .get .v1 m_1 (O .toNat i14))))) <|
        grd (okKin ((O .toNat j16)) ((O .len .i1 (O .get .v1 m_1 (O .toNat i14))))) <|
        (some false) : Option ((Bool))) fun x92 =>
    bif x92 then
      (some (Sum.inr (Sum.inl ())))
    else
      grd (okI .i64 ((O .add j16 1))) <|
      (some (Sum.inl (O .add j16 1)))
  else
    (some (Sum.inr (Sum.inr ())))
def m_ref45_Closed_L2 (O : Ops) (m_1 : List (List Int)) : (Int) → Option ((Int) ⊕ ((Unit) ⊕ (Unit))) := fun i14 =>
  bif (O .lt i14 (O .ofNat (O .len .v1 m_1))) then
    grd (okIdx i14 ((O .len .v1 m_1))) <|
    grd (okKin ((O .toNat i14)) ((O .len .v1 m_1))) <|
    bif (O .not (O .eq (O .ofNat (O .len .i1 (O .get .v1 m_1 (O .toNat i14)))) (O .ofNat (O .len .v1 m_1)))) then
      (some (Sum.inr (Sum.inl ())))
    else
      Option.bind (loop (m_ref45_Closed_L1 O i14 m_1) 0) fun e => match e with
      | .inl _ =>
        (some (Sum.inr (Sum.inl ())))
      | .inr (_) =>
        grd (okIdx i14 ((O .len .i1 (O .get .v1 m_1 (O .toNat i14))))) <|
        grd (okKin ((O .toNat i14)) ((O .len .i1 (O .get .v1 m_1 (O .toNat i14))))) <|
        bif (O .not (O .eq (O .get .i1 (O .get .v1 m_1 (O .toNat i14)) (O .toNat i14)) 0)) then
          (some (Sum.inr (Sum.inl ())))
        else
          grd (okI .i64 ((O .add i14 1))) <|
          (some (Sum.inl (O .add i14 1)))
  else
    (some (Sum.inr (Sum.inr ())))
def m_ref45_Closed_L3 (O : Ops) (i15 : Int) (j17 : Int) (m_1 : List (List Int)) : (Int) → Option ((Int) ⊕ ((Unit) ⊕ (Unit))) := fun k3 =>
  bif (O .lt k3 (O .ofNat (O .len .v1 m_1))) then
    Option.bind (
      bif (O .not (O .eq (O .get .i1 (O .get .v1 m_1 (O .toNat i15)) (O .toNat j17)) 4398046511104)) then
        bif (O .not (O .eq (O .get .i1 (O .get .v1 m_1 (O .toNat j17)) (O .toNat k3)) 4398046511104)) then
          grd (okIdx i15 ((O .len .v1 m_1))) <|
          grd (okKin ((O .toNat i15)) ((O .len .v1 m_1))) <|
          grd (okIdx j17 ((O .len .i1 (O .get .v1 m_1 (O .toNat i15))))) <|
          grd (okKin ((O .toNat j17)) ((O .len .i1 (O .get .v1 m_1 (O .toNat i15))))) <|
          grd (okIdx j17 ((O .len .v1 m_1))) <|
          grd (okKin ((O .toNat j17)) ((O .len .v1 m_1))) <|
          grd (okIdx k3 ((O .len .i1 (O .get .v1 m_1 (O .toNat j17))))) <|
          grd (okKin ((O .toNat k3)) ((O .len .i1 (O .get .v1 m_1 (O .toNat j17))))) <|
          grd (okIdx k3 ((O .len .i1 (O .get .v1 m_1 (O .toNat i15))))) <|
          grd (okKin ((O .toNat k3)) ((O .len .i1 (O .get .v1 m_1 (O .toNat i15))))) <|
          grd (okI .i64 ((O .add (O .get .i1 (O .get .v1 m_1 (O .toNat i15)) (O .toNat j17)) (O .get .i1 (O .get .v1 m_1 (O .toNat j17)) (O .toNat k3))))) <|
          (some (O .lt (O .add (O .get .i1 (O .get .v1 m_1 (O .toNat i15)) (O .toNat j17)) (O .get .i1 (O .get .v1 m_1 (O .toNat j17)) (O .toNat k3))) (O .get .i1 (O .get .v1 m_1 (O .toNat i15)) (O .toNat k3))))
        else
          grd (okIdx i15 ((O .len .v1 m_1))) <|
          grd (okKin ((O .toNat i15)) ((O .len .v1 m_1))) <|
          grd (okIdx j17 ((O .len .i1 (O .get .v1 m_1 (O .toNat i15))))) <|
          grd (okKin ((O .toNat j17)) ((O .len .i1 (O .get .v1 m_1 (O .toNat i15))))) <|
          grd (okIdx j17 ((O .len .v1 m_1))) <|
          grd (okKin ((O .toNat j17)) ((O .len .v1 m_1))) <|
          grd (okIdx k3 ((O .len .i1 (O .get .v1 m_1 (O .toNat j17))))) <|
          grd (okKin ((O .toNat k3)) ((O .len .i1 (O .get .v1 m_1 (O .toNat j17))))) <|
          (some false)
      else
        grd (okIdx i15 ((O .len .v1 m_1))) <|
        grd (okKin ((O .toNat i15)) ((O .len .v1 m_1))) <|
        grd (okIdx j17 ((O .len .i1 (O .get .v1 m_1 (O .toNat i15))))) <|
        grd (okKin ((O .toNat j17)) ((O .len .i1 (O .get .v1 m_1 (O .toNat i15))))) <|
        (some false) : Option ((Bool))) fun x95 =>
    bif x95 then
      (some (Sum.inr (Sum.inl ())))
    else
      grd (okI .i64 ((O .add k3 1))) <|
      (some (Sum.inl (O .add k3 1)))
  else
    (some (Sum.inr (Sum.inr ())))
def m_ref45_Closed_L4 (O : Ops) (i15 : Int) (m_1 : List (List Int)) : (Int) → Option ((Int) ⊕ ((Unit) ⊕ (Unit))) := fun j17 =>
  bif (O .lt j17 (O .ofNat (O .len .v1 m_1))) then
    Option.bind (loop (m_ref45_Closed_L3 O i15 j17 m_1) 0) fun e => match e with
    | .inl _ =>
      (some (Sum.inr (Sum.inl ())))
    | .inr (_) =>
      grd (okI .i64 ((O .add j17 1))) <|
      (some (Sum.inl (O .add j17 1)))
  else
    (some (Sum.inr (Sum.inr ())))
def m_ref45_Closed_L5 (O : Ops) (m_1 : List (List Int)) : (Int) → Option ((Int) ⊕ ((Unit) ⊕ (Unit))) := fun i15 =>
  bif (O .lt i15 (O .ofNat (O .len .v1 m_1))) then
    Option.bind (loop (m_ref45_Closed_L4 O i15 m_1) 0) fun e => match e with
    | .inl _ =>
      (some (Sum.inr (Sum.inl ())))
    | .inr (_) =>
      grd (okI .i64 ((O .add i15 1))) <|
      (some (Sum.inl (O .add i15 1)))
  else
    (some (Sum.inr (Sum.inr ())))
def m_ref45_Closed (O : Ops) (m_1 : List (List Int)) : Option (Bool) :=
  Option.bind (
    bif (O .lt (O .ofNat (O .len .v1 m_1)) 1) then
      (some true)
    else
      (some (O .lt 24 (O .ofNat (O .len .v1 m_1)))) : Option ((Bool))) fun x89 =>
  bif x89 then
    (some false)
  else
    Option.bind (loop (m_ref45_Closed_L2 O m_1) 0) fun e => match e with
    | .inl _ =>
      (some false)
    | .inr (_) =>
      Option.bind (loop (m_ref45_Closed_L5 O m_1) 0) fun e => match e with
      | .inl _ =>
        (some false)
      | .inr (_) =>
        (some true)
def m_law45_BoundsTight (O : Ops) (n_1 : Int) (l_1 : List (Int × Int × Int)) : Option (Bool) :=
  Option.bind (
    Option.bind (m_law45_awake O) fun b13 =>
    bif (O .not b13) then
      (some true)
    else
      Option.bind (m_law45_long O l_1) fun b14 =>
      (some b14) : Option ((Bool))) fun x58 =>
  bif x58 then
    Option.bind (m_law45_awake O) fun b15 =>
    (some b15)
  else
    Option.bind (m_bounds_Tight O n_1 l_1) fun (l45, n20) =>
    Option.bind (m_bounds_Consistent O n_1 l_1) fun (b18, n21) =>
    Option.bind (m_ref45_Valid O n_1 l_1) fun b19 =>
    bif (O .not b19) then
      Option.bind (
        Option.bind (m_bounds_Valid O n_1 l_1) fun b20 =>
        bif (O .not b20) then
          bif (O .eq n20 1) then
            bif (O .eq n21 1) then
              bif (O .not b18) then
                (some (O .eq (O .ofNat (O .len .v1 l45)) 0))
              else
                (some false)
            else
              (some false)
          else
            (some false)
        else
          (some false) : Option ((Bool))) fun x67 =>
      (some x67)
    else
      Option.bind (m_ref45_Tight O n_1 l_1) fun (l51, b21) =>
      Option.bind (
        Option.bind (m_bounds_Valid O n_1 l_1) fun b22 =>
        bif (O .not b22) then
          (some true)
        else
          bif (O .not (O .eq n21 0)) then
            (some true)
          else
            (some (O .not (O .beq b18 b21))) : Option ((Bool))) fun x85 =>
      bif x85 then
        (some false)
      else
        bif (O .not b21) then
          Option.bind (
            bif (O .eq n20 17) then
              (some (O .eq (O .ofNat (O .len .v1 l45)) 0))
            else
              (some false) : Option ((Bool))) fun x87 =>
          (some x87)
        else
          Option.bind (
            bif (O .eq n20 0) then
              Option.bind (m_ref45_Same O l45 l51) fun b23 =>
              bif b23 then
                Option.bind (m_ref45_Closed O l45) fun b24 =>
                (some b24)
              else
                (some false)
            else
              (some false) : Option ((Bool))) fun x98 =>
          (some x98)
def m_ref45_Consistent (O : Ops) (n_1 : Int) (l_1 : List (Int × Int × Int)) : Option (Bool) :=
  Option.bind (m_ref45_Tight O n_1 l_1) fun (_, b29) =>
  (some b29)
def m_law45_BoundsCycles_L1 (O : Ops) (l52 : List Int) (l_1 : List (Int × Int × Int)) : (Int × Int × List Bool) → Option ((Int × Int × List Bool) ⊕ ((Unit) ⊕ (Int))) := fun (sum2, x108, l54) =>
  bif (O .lt x108 (O .ofNat (O .len .i1 l52))) then
    grd (okIdx x108 ((O .len .i1 l52))) <|
    grd (okKin ((O .toNat x108)) ((O .len .i1 l52))) <|
    grd (okI .i64 ((O .add x108 1))) <|
    grd (okNz ((O .ofNat (O .len .i1 l52)))) <|
    grd (okIdx ((O .rem (O .add x108 1) (O .ofNat (O .len .i1 l52)))) ((O .len .i1 l52))) <|
    grd (okKin ((O .toNat (O .rem (O .add x108 1) (O .ofNat (O .len .i1 l52))))) ((O .len .i1 l52))) <|
    Option.bind (
      bif (O .lt (O .get .i1 l52 (O .toNat x108)) 0) then
        (some true)
      else
        bif (O .le (O .ofNat (O .len .i3 l_1)) (O .get .i1 l52 (O .toNat x108))) then
          (some true)
        else
          bif (O .lt (O .get .i1 l52 (O .toNat (O .rem (O .add x108 1) (O .ofNat (O .len .i1 l52))))) 0) then
            (some true)
          else
            bif (O .le (O .ofNat (O .len .i3 l_1)) (O .get .i1 l52 (O .toNat (O .rem (O .add x108 1) (O .ofNat (O .len .i1 l52)))))) then
              (some true)
            else
              bif (O .not (O .eq ((O .get .i3 l_1 (O .toNat (O .get .i1 l52 (O .toNat x108))))).2.1 ((O .get .i3 l_1 (O .toNat (O .get .i1 l52 (O .toNat (O .rem (O .add x108 1) (O .ofNat (O .len .i1 l52)))))))).1)) then
                grd (okIdx ((O .get .i1 l52 (O .toNat x108))) ((O .len .i3 l_1))) <|
                grd (okKin ((O .toNat (O .get .i1 l52 (O .toNat x108)))) ((O .len .i3 l_1))) <|
                grd (okIdx ((O .get .i1 l52 (O .toNat (O .rem (O .add x108 1) (O .ofNat (O .len .i1 l52)))))) ((O .len .i3 l_1))) <|
                grd (okKin ((O .toNat (O .get .i1 l52 (O .toNat (O .rem (O .add x108 1) (O .ofNat (O .len .i1 l52))))))) ((O .len .i3 l_1))) <|
                (some true)
              else
                grd (okIdx ((O .get .i1 l52 (O .toNat x108))) ((O .len .i3 l_1))) <|
                grd (okKin ((O .toNat (O .get .i1 l52 (O .toNat x108)))) ((O .len .i3 l_1))) <|
                grd (okIdx ((O .get .i1 l52 (O .toNat (O .rem (O .add x108 1) (O .ofNat (O .len .i1 l52)))))) ((O .len .i3 l_1))) <|
                grd (okKin ((O .toNat (O .get .i1 l52 (O .toNat (O .rem (O .add x108 1) (O .ofNat (O .len .i1 l52))))))) ((O .len .i3 l_1))) <|
                grd (okIdx (((O .get .i3 l_1 (O .toNat (O .get .i1 l52 (O .toNat x108))))).1) ((O .len .b1 l54))) <|
                grd (okKin ((O .toNat ((O .get .i3 l_1 (O .toNat (O .get .i1 l52 (O .toNat x108))))).1)) ((O .len .b1 l54))) <|
                (some (O .get .b1 l54 (O .toNat ((O .get .i3 l_1 (O .toNat (O .get .i1 l52 (O .toNat x108))))).1))) : Option ((Bool))) fun x110 =>
    bif x110 then
      (some (Sum.inr (Sum.inl ())))
    else
      grd (okIdx ((O .get .i1 l52 (O .toNat x108))) ((O .len .i3 l_1))) <|
      grd (okKin ((O .toNat (O .get .i1 l52 (O .toNat x108)))) ((O .len .i3 l_1))) <|
      grd (okIdx (((O .get .i3 l_1 (O .toNat (O .get .i1 l52 (O .toNat x108))))).1) ((O .len .b1 l54))) <|
      grd (okKin ((O .toNat ((O .get .i3 l_1 (O .toNat (O .get .i1 l52 (O .toNat x108))))).1)) ((O .len .b1 l54))) <|
      grd (okI .i64 ((O .add sum2 ((O .get .i3 l_1 (O .toNat (O .get .i1 l52 (O .toNat x108))))).2.2))) <|
      (some (Sum.inl ((O .add sum2 ((O .get .i3 l_1 (O .toNat (O .get .i1 l52 (O .toNat x108))))).2.2), (O .add x108 1), (O .put .b1 l54 (O .toNat ((O .get .i3 l_1 (O .toNat (O .get .i1 l52 (O .toNat x108))))).1) true))))
  else
    (some (Sum.inr (Sum.inr sum2)))
def m_law45_BoundsCycles (O : Ops) (n_1 : Int) (l_1 : List (Int × Int × Int)) : Option (Bool) :=
  Option.bind (
    Option.bind (m_law45_awake O) fun b25 =>
    bif (O .not b25) then
      (some true)
    else
      Option.bind (m_law45_long O l_1) fun b26 =>
      bif b26 then
        (some true)
      else
        Option.bind (m_ref45_Valid O n_1 l_1) fun b27 =>
        (some (O .not b27)) : Option ((Bool))) fun x100 =>
  bif x100 then
    Option.bind (m_law45_awake O) fun b28 =>
    (some b28)
  else
    Option.bind (m_bounds_Cycle O n_1 l_1) fun (l52, n22) =>
    Option.bind (m_ref45_Consistent O n_1 l_1) fun b30 =>
    bif b30 then
      Option.bind (
        bif (O .eq n22 7) then
          (some (O .eq (O .ofNat (O .len .i1 l52)) 0))
        else
          (some false) : Option ((Bool))) fun x102 =>
      (some x102)
    else
      Option.bind (
        bif (O .not (O .eq n22 0)) then
          (some true)
        else
          bif (O .eq (O .ofNat (O .len .i1 l52)) 0) then
            (some true)
          else
            (some (O .lt n_1 (O .ofNat (O .len .i1 l52)))) : Option ((Bool))) fun x104 =>
      bif x104 then
        (some false)
      else
        grd (okRng n_1 ((O .toNat n_1))) <|
        grd (okRoom ((O .toNat n_1))) <|
        Option.bind (loop (m_law45_BoundsCycles_L1 O l52 l_1) (0, 0, (O .rep .b1 (O .toNat n_1)))) fun e => match e with
        | .inl _ =>
          (some false)
        | .inr (sum3) =>
          (some (O .lt sum3 0))
def m_law45_BoundsBetween (O : Ops) (n_1 : Int) (i_1 : Int) (j_1 : Int) (l_1 : List (Int × Int × Int)) : Option (Bool) :=
  Option.bind (
    Option.bind (m_law45_awake O) fun b31 =>
    bif (O .not b31) then
      (some true)
    else
      Option.bind (m_law45_long O l_1) fun b32 =>
      (some b32) : Option ((Bool))) fun x112 =>
  bif x112 then
    Option.bind (m_law45_awake O) fun b33 =>
    (some b33)
  else
    Option.bind (m_bounds_Between O n_1 i_1 j_1 l_1) fun (n23, n24, n25) =>
    Option.bind (m_ref45_Valid O n_1 l_1) fun b34 =>
    bif (O .not b34) then
      Option.bind (
        bif (O .eq n25 1) then
          bif (O .eq n23 0) then
            (some (O .eq n24 0))
          else
            (some false)
        else
          (some false) : Option ((Bool))) fun x115 =>
      (some x115)
    else
      Option.bind (m_ref45_Tight O n_1 l_1) fun (l55, b35) =>
      Option.bind (
        bif (O .lt i_1 0) then
          (some true)
        else
          bif (O .le n_1 i_1) then
            (some true)
          else
            bif (O .lt j_1 0) then
              (some true)
            else
              (some (O .le n_1 j_1)) : Option ((Bool))) fun x117 =>
      Option.bind (
        bif x117 then
          Option.bind (
            bif (O .eq n25 2) then
              bif (O .eq n23 0) then
                (some (O .eq n24 0))
              else
                (some false)
            else
              (some false) : Option ((Bool))) fun x120 =>
          (some (Sum.inl x120))
        else
          bif (O .not b35) then
            Option.bind (
              bif (O .eq n25 17) then
                bif (O .eq n23 0) then
                  (some (O .eq n24 0))
                else
                  (some false)
              else
                (some false) : Option ((Bool))) fun x123 =>
            (some (Sum.inl x123))
          else
            (some (Sum.inr ())) : Option (((Bool) ⊕ (Unit)))) fun e => match e with
      | .inl x125 =>
        (some x125)
      | .inr (_) =>
        Option.bind (
          bif (O .eq n25 0) then
            bif (O .eq n23 (O .sub 0 (O .get .i1 (O .get .v1 l55 (O .toNat j_1)) (O .toNat i_1)))) then
              grd (okIdx j_1 ((O .len .v1 l55))) <|
              grd (okKin ((O .toNat j_1)) ((O .len .v1 l55))) <|
              grd (okIdx i_1 ((O .len .i1 (O .get .v1 l55 (O .toNat j_1))))) <|
              grd (okKin ((O .toNat i_1)) ((O .len .i1 (O .get .v1 l55 (O .toNat j_1))))) <|
              grd (okI .i64 ((O .sub 0 (O .get .i1 (O .get .v1 l55 (O .toNat j_1)) (O .toNat i_1))))) <|
              grd (okIdx i_1 ((O .len .v1 l55))) <|
              grd (okKin ((O .toNat i_1)) ((O .len .v1 l55))) <|
              grd (okIdx j_1 ((O .len .i1 (O .get .v1 l55 (O .toNat i_1))))) <|
              grd (okKin ((O .toNat j_1)) ((O .len .i1 (O .get .v1 l55 (O .toNat i_1))))) <|
              (some (O .eq n24 (O .get .i1 (O .get .v1 l55 (O .toNat i_1)) (O .toNat j_1))))
            else
              grd (okIdx j_1 ((O .len .v1 l55))) <|
              grd (okKin ((O .toNat j_1)) ((O .len .v1 l55))) <|
              grd (okIdx i_1 ((O .len .i1 (O .get .v1 l55 (O .toNat j_1))))) <|
              grd (okKin ((O .toNat i_1)) ((O .len .i1 (O .get .v1 l55 (O .toNat j_1))))) <|
              grd (okI .i64 ((O .sub 0 (O .get .i1 (O .get .v1 l55 (O .toNat j_1)) (O .toNat i_1))))) <|
              (some false)
          else
            (some false) : Option ((Bool))) fun x128 =>
        (some x128)
def m_bounds_Latest_L1 (O : Ops) (end_1 : Int) (n_1 : Int) : (Int × List (Int × Int × Int)) → Option ((Int × List (Int × Int × Int)) ⊕ (List (Int × Int × Int))) := fun (x134, l58) =>
  bif (O .lt x134 n_1) then
    grd (okRoom ((O .len .i3 l58))) <|
    grd (okRoom ((O .len .i3 [(0, x134, end_1)]))) <|
    grd (okI .i64 ((O .add x134 1))) <|
    (some (Sum.inl ((O .add x134 1), (O .app .i3 l58 [(0, x134, end_1)]))))
  else
    (some (Sum.inr l58))
def m_bounds_Latest (O : Ops) (n_1 : Int) (end_1 : Int) (l_1 : List (Int × Int × Int)) : Option (List Int × Int) :=
  Option.bind (m_bounds_Valid O n_1 l_1) fun b38 =>
  bif (O .not b38) then
    (some (([] : List Int), 1))
  else
    Option.bind (
      bif (O .lt end_1 0) then
        (some true)
      else
        (some (O .lt 1073741824 end_1)) : Option ((Bool))) fun x132 =>
    bif x132 then
      (some (([] : List Int), 2))
    else
      Option.bind (m_clone_i3 O l_1) fun l57 =>
      Option.bind (loop (m_bounds_Latest_L1 O end_1 n_1) (0, l57)) fun l59 =>
      Option.bind (m_bounds_tight O n_1 l59) fun (l60, b39) =>
      bif (O .not b39) then
        (some (([] : List Int), 17))
      else
        grd (okIdx 0 ((O .len .v1 l60))) <|
        grd (okKin ((O .toNat 0)) ((O .len .v1 l60))) <|
        Option.bind (m_clone_i1 O ((O .get .v1 l60 (O .toNat 0)))) fun l61 =>
        (some (l61, 0))
def m_law45_BoundsSchedules_1 (O : Ops) (row_1 : List Int) : Option (Bool) :=
  grd (okIdx 0 ((O .len .i1 row_1))) <|
  grd (okKin ((O .toNat 0)) ((O .len .i1 row_1))) <|
  (some (O .eq (O .get .i1 row_1 (O .toNat 0)) 4398046511104))
def m_slices_IndexFunc_3_L1 (O : Ops) (s_1 : List (List Int)) : (Int) → Option ((Int) ⊕ ((Int) ⊕ (Unit))) := fun x141 =>
  bif (O .lt x141 (O .ofNat (O .len .v1 s_1))) then
    grd (okIdx x141 ((O .len .v1 s_1))) <|
    grd (okKin ((O .toNat x141)) ((O .len .v1 s_1))) <|
    Option.bind (m_law45_BoundsSchedules_1 O ((O .get .v1 s_1 (O .toNat x141)))) fun b42 =>
    bif b42 then
      (some (Sum.inr (Sum.inl x141)))
    else
      grd (okI .i64 ((O .add x141 1))) <|
      (some (Sum.inl (O .add x141 1)))
  else
    (some (Sum.inr (Sum.inr ())))
def m_slices_IndexFunc_3 (O : Ops) (s_1 : List (List Int)) : Option (Int) :=
  Option.bind (loop (m_slices_IndexFunc_3_L1 O s_1) 0) fun e => match e with
  | .inl x142 =>
    (some x142)
  | .inr (_) =>
    (some (-1))
def m_slices_ContainsFunc_3 (O : Ops) (s_1 : List (List Int)) : Option (Bool) :=
  Option.bind (m_slices_IndexFunc_3 O s_1) fun n28 =>
  (some (O .le 0 n28))
def m_ref45_Holds_L1 (O : Ops) (at_1 : List Int) : (Int) → Option ((Int) ⊕ ((Unit) ⊕ (Unit))) := fun i16 =>
  bif (O .lt i16 (O .ofNat (O .len .i1 at_1))) then
    Option.bind (
      bif (O .lt (O .get .i1 at_1 (O .toNat i16)) (-4398046511104)) then
        grd (okIdx i16 ((O .len .i1 at_1))) <|
        grd (okKin ((O .toNat i16)) ((O .len .i1 at_1))) <|
        (some true)
      else
        grd (okIdx i16 ((O .len .i1 at_1))) <|
        grd (okKin ((O .toNat i16)) ((O .len .i1 at_1))) <|
        (some (O .lt 4398046511104 (O .get .i1 at_1 (O .toNat i16)))) : Option ((Bool))) fun x146 =>
    bif x146 then
      (some (Sum.inr (Sum.inl ())))
    else
      grd (okI .i64 ((O .add i16 1))) <|
      (some (Sum.inl (O .add i16 1)))
  else
    (some (Sum.inr (Sum.inr ())))
def m_ref45_Holds_L2 (O : Ops) (at_1 : List Int) (l_1 : List (Int × Int × Int)) : (Int) → Option ((Int) ⊕ ((Unit) ⊕ (Unit))) := fun i17 =>
  bif (O .lt i17 (O .ofNat (O .len .i3 l_1))) then
    grd (okIdx i17 ((O .len .i3 l_1))) <|
    grd (okKin ((O .toNat i17)) ((O .len .i3 l_1))) <|
    grd (okIdx (((O .get .i3 l_1 (O .toNat i17))).2.1) ((O .len .i1 at_1))) <|
    grd (okKin ((O .toNat ((O .get .i3 l_1 (O .toNat i17))).2.1)) ((O .len .i1 at_1))) <|
    grd (okIdx (((O .get .i3 l_1 (O .toNat i17))).1) ((O .len .i1 at_1))) <|
    grd (okKin ((O .toNat ((O .get .i3 l_1 (O .toNat i17))).1)) ((O .len .i1 at_1))) <|
    grd (okI .i64 ((O .sub (O .get .i1 at_1 (O .toNat ((O .get .i3 l_1 (O .toNat i17))).2.1)) (O .get .i1 at_1 (O .toNat ((O .get .i3 l_1 (O .toNat i17))).1))))) <|
    bif (O .lt ((O .get .i3 l_1 (O .toNat i17))).2.2 (O .sub (O .get .i1 at_1 (O .toNat ((O .get .i3 l_1 (O .toNat i17))).2.1)) (O .get .i1 at_1 (O .toNat ((O .get .i3 l_1 (O .toNat i17))).1)))) then
      (some (Sum.inr (Sum.inl ())))
    else
      grd (okI .i64 ((O .add i17 1))) <|
      (some (Sum.inl (O .add i17 1)))
  else
    (some (Sum.inr (Sum.inr ())))
def m_ref45_Holds (O : Ops) (l_1 : List (Int × Int × Int)) (at_1 : List Int) : Option (Bool) :=
  Option.bind (m_ref45_Valid O ((O .ofNat (O .len .i1 at_1))) l_1) fun b44 =>
  bif (O .not b44) then
    (some false)
  else
    Option.bind (loop (m_ref45_Holds_L1 O at_1) 0) fun e => match e with
    | .inl _ =>
      (some false)
    | .inr (_) =>
      Option.bind (loop (m_ref45_Holds_L2 O at_1 l_1) 0) fun e => match e with
      | .inl _ =>
        (some false)
      | .inr (_) =>
        (some true)
def m_ref45_Ended_L1 (O : Ops) (end_1 : Int) (n_1 : Int) : (Int × List (Int × Int × Int)) → Option ((Int × List (Int × Int × Int)) ⊕ (List (Int × Int × Int))) := fun (i19, l64) =>
  bif (O .lt i19 n_1) then
    grd (okRoom ((O .len .i3 l64))) <|
    grd (okRoom ((O .len .i3 [(0, i19, end_1)]))) <|
    grd (okI .i64 ((O .add i19 1))) <|
    (some (Sum.inl ((O .add i19 1), (O .app .i3 l64 [(0, i19, end_1)]))))
  else
    (some (Sum.inr l64))
def m_ref45_Ended (O : Ops) (n_1 : Int) (end_1 : Int) (l_1 : List (Int × Int × Int)) : Option (List (Int × Int × Int)) :=
  grd (okRoom ((O .len .i3 []))) <|
  grd (okRoom ((O .len .i3 l_1))) <|
  Option.bind (loop (m_ref45_Ended_L1 O end_1 n_1) (0, (O .app .i3 [] l_1))) fun l65 =>
  (some l65)
def m_law45_BoundsSchedules_L1 (O : Ops) (l56 : List Int) (l63 : List (List Int)) : (Int) → Option ((Int) ⊕ ((Unit) ⊕ (Unit))) := fun x149 =>
  bif (O .lt x149 (O .ofNat (O .len .i1 l56))) then
    grd (okIdx x149 ((O .len .i1 l56))) <|
    grd (okKin ((O .toNat x149)) ((O .len .i1 l56))) <|
    grd (okIdx x149 ((O .len .v1 l63))) <|
    grd (okKin ((O .toNat x149)) ((O .len .v1 l63))) <|
    grd (okIdx 0 ((O .len .i1 (O .get .v1 l63 (O .toNat x149))))) <|
    grd (okKin ((O .toNat 0)) ((O .len .i1 (O .get .v1 l63 (O .toNat x149))))) <|
    grd (okI .i64 ((O .sub 0 (O .get .i1 (O .get .v1 l63 (O .toNat x149)) (O .toNat 0))))) <|
    bif (O .not (O .eq (O .get .i1 l56 (O .toNat x149)) (O .sub 0 (O .get .i1 (O .get .v1 l63 (O .toNat x149)) (O .toNat 0))))) then
      (some (Sum.inr (Sum.inl ())))
    else
      grd (okI .i64 ((O .add x149 1))) <|
      (some (Sum.inl (O .add x149 1)))
  else
    (some (Sum.inr (Sum.inr ())))
def m_law45_BoundsSchedules (O : Ops) (n_1 : Int) (end_1 : Int) (l_1 : List (Int × Int × Int)) : Option (Bool) :=
  Option.bind (
    Option.bind (m_law45_awake O) fun b36 =>
    bif (O .not b36) then
      (some true)
    else
      (some (O .lt 170 (O .ofNat (O .len .i3 l_1)))) : Option ((Bool))) fun x130 =>
  bif x130 then
    Option.bind (m_law45_awake O) fun b37 =>
    (some b37)
  else
    Option.bind (m_bounds_Earliest O n_1 l_1) fun (l56, n26) =>
    Option.bind (m_bounds_Latest O n_1 end_1 l_1) fun (l62, n27) =>
    Option.bind (m_ref45_Valid O n_1 l_1) fun b40 =>
    bif (O .not b40) then
      Option.bind (
        bif (O .eq n26 1) then
          bif (O .eq n27 1) then
            bif (O .eq (O .ofNat (O .len .i1 l56)) 0) then
              (some (O .eq (O .ofNat (O .len .i1 l62)) 0))
            else
              (some false)
          else
            (some false)
        else
          (some false) : Option ((Bool))) fun x138 =>
      (some x138)
    else
      Option.bind (m_ref45_Tight O n_1 l_1) fun (l63, b41) =>
      Option.bind (
        bif (O .not b41) then
          Option.bind (
            bif (O .not (O .eq n26 17)) then
              (some true)
            else
              (some (O .not (O .eq (O .ofNat (O .len .i1 l56)) 0))) : Option ((Bool))) fun x140 =>
          bif x140 then
            (some (Sum.inl ()))
          else
            (some (Sum.inr ()))
        else
          Option.bind (m_slices_ContainsFunc_3 O l63) fun b43 =>
          Option.bind (
            bif b43 then
              Option.bind (
                bif (O .not (O .eq n26 18)) then
                  (some true)
                else
                  (some (O .not (O .eq (O .ofNat (O .len .i1 l56)) 0))) : Option ((Bool))) fun x144 =>
              bif x144 then
                (some (Sum.inl ()))
              else
                (some (Sum.inr ()))
            else
              Option.bind (
                bif (O .not (O .eq n26 0)) then
                  (some true)
                else
                  bif (O .not (O .eq (O .ofNat (O .len .i1 l56)) n_1)) then
                    (some true)
                  else
                    Option.bind (m_ref45_Holds O l_1 l56) fun b45 =>
                    (some (O .not b45)) : Option ((Bool))) fun x148 =>
              bif x148 then
                (some (Sum.inl ()))
              else
                Option.bind (loop (m_law45_BoundsSchedules_L1 O l56 l63) 0) fun e => match e with
                | .inl _ =>
                  (some (Sum.inl ()))
                | .inr (_) =>
                  (some (Sum.inr ())) : Option (((Unit) ⊕ (Unit)))) fun e => match e with
          | .inl _ =>
            (some (Sum.inl ()))
          | .inr (_) =>
            (some (Sum.inr ())) : Option (((Unit) ⊕ (Unit)))) fun e => match e with
      | .inl _ =>
        (some false)
      | .inr (_) =>
        Option.bind (
          bif (O .lt end_1 0) then
            (some true)
          else
            (some (O .lt 1073741824 end_1)) : Option ((Bool))) fun x151 =>
        bif x151 then
          Option.bind (
            bif (O .eq n27 2) then
              (some (O .eq (O .ofNat (O .len .i1 l62)) 0))
            else
              (some false) : Option ((Bool))) fun x153 =>
          (some x153)
        else
          Option.bind (m_ref45_Ended O n_1 end_1 l_1) fun l66 =>
          Option.bind (m_ref45_Tight O n_1 l66) fun (l67, b46) =>
          bif (O .not b46) then
            Option.bind (
              bif (O .eq n27 17) then
                (some (O .eq (O .ofNat (O .len .i1 l62)) 0))
              else
                (some false) : Option ((Bool))) fun x155 =>
            (some x155)
          else
            Option.bind (
              bif (O .eq n27 0) then
                Option.bind (m_ref45_Holds O l_1 l62) fun b47 =>
                bif b47 then
                  grd (okIdx 0 ((O .len .v1 l67))) <|
                  grd (okKin ((O .toNat 0)) ((O .len .v1 l67))) <|
                  Option.bind (m_slices_Equal O l62 ((O .get .v1 l67 (O .toNat 0)))) fun b48 =>
                  (some b48)
                else
                  (some false)
              else
                (some false) : Option ((Bool))) fun x158 =>
            (some x158)
def m_law45_BoundsTriangle_1 (O : Ops) (row_1 : List Int) (x_1 : Int) : Option (Bool) :=
  (some (O .not (O .eq (O .ofNat (O .len .i1 row_1)) x_1)))
def m_slices_IndexFunc_4_L1 (O : Ops) (c_1 : Int) (s_1 : List (List Int)) : (Int) → Option ((Int) ⊕ ((Int) ⊕ (Unit))) := fun x161 =>
  bif (O .lt x161 (O .ofNat (O .len .v1 s_1))) then
    grd (okIdx x161 ((O .len .v1 s_1))) <|
    grd (okKin ((O .toNat x161)) ((O .len .v1 s_1))) <|
    Option.bind (m_law45_BoundsTriangle_1 O ((O .get .v1 s_1 (O .toNat x161))) c_1) fun b51 =>
    bif b51 then
      (some (Sum.inr (Sum.inl x161)))
    else
      grd (okI .i64 ((O .add x161 1))) <|
      (some (Sum.inl (O .add x161 1)))
  else
    (some (Sum.inr (Sum.inr ())))
def m_slices_IndexFunc_4 (O : Ops) (s_1 : List (List Int)) (c_1 : Int) : Option (Int) :=
  Option.bind (loop (m_slices_IndexFunc_4_L1 O c_1 s_1) 0) fun e => match e with
  | .inl x162 =>
    (some x162)
  | .inr (_) =>
    (some (-1))
def m_slices_ContainsFunc_4 (O : Ops) (s_1 : List (List Int)) (c_1 : Int) : Option (Bool) :=
  Option.bind (m_slices_IndexFunc_4 O s_1 c_1) fun n30 =>
  (some (O .le 0 n30))
def m_law45_BoundsTriangle_L1 (O : Ops) (l68 : List (List Int)) (l_1 : List (Int × Int × Int)) : (Int) → Option ((Int) ⊕ ((Unit) ⊕ (Unit))) := fun x165 =>
  bif (O .lt x165 (O .ofNat (O .len .i3 l_1))) then
    grd (okIdx x165 ((O .len .i3 l_1))) <|
    grd (okKin ((O .toNat x165)) ((O .len .i3 l_1))) <|
    grd (okIdx (((O .get .i3 l_1 (O .toNat x165))).1) ((O .len .v1 l68))) <|
    grd (okKin ((O .toNat ((O .get .i3 l_1 (O .toNat x165))).1)) ((O .len .v1 l68))) <|
    grd (okIdx (((O .get .i3 l_1 (O .toNat x165))).2.1) ((O .len .i1 (O .get .v1 l68 (O .toNat ((O .get .i3 l_1 (O .toNat x165))).1))))) <|
    grd (okKin ((O .toNat ((O .get .i3 l_1 (O .toNat x165))).2.1)) ((O .len .i1 (O .get .v1 l68 (O .toNat ((O .get .i3 l_1 (O .toNat x165))).1))))) <|
    bif (O .lt ((O .get .i3 l_1 (O .toNat x165))).2.2 (O .get .i1 (O .get .v1 l68 (O .toNat ((O .get .i3 l_1 (O .toNat x165))).1)) (O .toNat ((O .get .i3 l_1 (O .toNat x165))).2.1))) then
      (some (Sum.inr (Sum.inl ())))
    else
      grd (okI .i64 ((O .add x165 1))) <|
      (some (Sum.inl (O .add x165 1)))
  else
    (some (Sum.inr (Sum.inr ())))
def m_law45_BoundsTriangle_L2 (O : Ops) (i_1 : Int) (j_1 : Int) (l68 : List (List Int)) (n_1 : Int) : (Int) → Option ((Int) ⊕ ((Unit) ⊕ (Unit))) := fun x166 =>
  bif (O .lt x166 n_1) then
    Option.bind (
      bif (O .not (O .eq (O .get .i1 (O .get .v1 l68 (O .toNat (O .rem i_1 n_1))) (O .toNat x166)) 4398046511104)) then
        bif (O .not (O .eq (O .get .i1 (O .get .v1 l68 (O .toNat x166)) (O .toNat (O .rem j_1 n_1))) 4398046511104)) then
          grd (okIdx ((O .rem i_1 n_1)) ((O .len .v1 l68))) <|
          grd (okKin ((O .toNat (O .rem i_1 n_1))) ((O .len .v1 l68))) <|
          grd (okIdx x166 ((O .len .i1 (O .get .v1 l68 (O .toNat (O .rem i_1 n_1)))))) <|
          grd (okKin ((O .toNat x166)) ((O .len .i1 (O .get .v1 l68 (O .toNat (O .rem i_1 n_1)))))) <|
          grd (okIdx x166 ((O .len .v1 l68))) <|
          grd (okKin ((O .toNat x166)) ((O .len .v1 l68))) <|
          grd (okIdx ((O .rem j_1 n_1)) ((O .len .i1 (O .get .v1 l68 (O .toNat x166))))) <|
          grd (okKin ((O .toNat (O .rem j_1 n_1))) ((O .len .i1 (O .get .v1 l68 (O .toNat x166))))) <|
          grd (okIdx ((O .rem j_1 n_1)) ((O .len .i1 (O .get .v1 l68 (O .toNat (O .rem i_1 n_1)))))) <|
          grd (okKin ((O .toNat (O .rem j_1 n_1))) ((O .len .i1 (O .get .v1 l68 (O .toNat (O .rem i_1 n_1)))))) <|
          grd (okI .i64 ((O .add (O .get .i1 (O .get .v1 l68 (O .toNat (O .rem i_1 n_1))) (O .toNat x166)) (O .get .i1 (O .get .v1 l68 (O .toNat x166)) (O .toNat (O .rem j_1 n_1)))))) <|
          (some (O .lt (O .add (O .get .i1 (O .get .v1 l68 (O .toNat (O .rem i_1 n_1))) (O .toNat x166)) (O .get .i1 (O .get .v1 l68 (O .toNat x166)) (O .toNat (O .rem j_1 n_1)))) (O .get .i1 (O .get .v1 l68 (O .toNat (O .rem i_1 n_1))) (O .toNat (O .rem j_1 n_1)))))
        else
          grd (okIdx ((O .rem i_1 n_1)) ((O .len .v1 l68))) <|
          grd (okKin ((O .toNat (O .rem i_1 n_1))) ((O .len .v1 l68))) <|
          grd (okIdx x166 ((O .len .i1 (O .get .v1 l68 (O .toNat (O .rem i_1 n_1)))))) <|
          grd (okKin ((O .toNat x166)) ((O .len .i1 (O .get .v1 l68 (O .toNat (O .rem i_1 n_1)))))) <|
          grd (okIdx x166 ((O .len .v1 l68))) <|
          grd (okKin ((O .toNat x166)) ((O .len .v1 l68))) <|
          grd (okIdx ((O .rem j_1 n_1)) ((O .len .i1 (O .get .v1 l68 (O .toNat x166))))) <|
          grd (okKin ((O .toNat (O .rem j_1 n_1))) ((O .len .i1 (O .get .v1 l68 (O .toNat x166))))) <|
          (some false)
      else
        grd (okIdx ((O .rem i_1 n_1)) ((O .len .v1 l68))) <|
        grd (okKin ((O .toNat (O .rem i_1 n_1))) ((O .len .v1 l68))) <|
        grd (okIdx x166 ((O .len .i1 (O .get .v1 l68 (O .toNat (O .rem i_1 n_1)))))) <|
        grd (okKin ((O .toNat x166)) ((O .len .i1 (O .get .v1 l68 (O .toNat (O .rem i_1 n_1)))))) <|
        (some false) : Option ((Bool))) fun x169 =>
    bif x169 then
      (some (Sum.inr (Sum.inl ())))
    else
      grd (okI .i64 ((O .add x166 1))) <|
      (some (Sum.inl (O .add x166 1)))
  else
    (some (Sum.inr (Sum.inr ())))
def m_law45_BoundsTriangle (O : Ops) (n_1 : Int) (i_1 : Int) (j_1 : Int) (l_1 : List (Int × Int × Int)) : Option (Bool) :=
  Option.bind (
    Option.bind (m_law45_awake O) fun b49 =>
    bif (O .not b49) then
      (some true)
    else
      (some (O .lt 190 (O .ofNat (O .len .i3 l_1)))) : Option ((Bool))) fun x160 =>
  bif x160 then
    Option.bind (m_law45_awake O) fun b50 =>
    (some b50)
  else
    Option.bind (m_bounds_Tight O n_1 l_1) fun (l68, n29) =>
    bif (O .not (O .eq n29 0)) then
      (some (O .eq (O .ofNat (O .len .v1 l68)) 0))
    else
      Option.bind (
        bif (O .not (O .eq (O .ofNat (O .len .v1 l68)) n_1)) then
          (some true)
        else
          Option.bind (m_slices_ContainsFunc_4 O l68 n_1) fun b52 =>
          bif b52 then
            (some true)
          else
            Option.bind (m_ref45_Valid O n_1 l_1) fun b53 =>
            (some (O .not b53)) : Option ((Bool))) fun x164 =>
      bif x164 then
        (some false)
      else
        Option.bind (loop (m_law45_BoundsTriangle_L1 O l68 l_1) 0) fun e => match e with
        | .inl _ =>
          (some false)
        | .inr (_) =>
          grd (okI .i64 i_1) <|
          grd (okNz n_1) <|
          grd (okI .i64 j_1) <|
          Option.bind (loop (m_law45_BoundsTriangle_L2 O i_1 j_1 l68 n_1) 0) fun e => match e with
          | .inl _ =>
            (some false)
          | .inr (_) =>
            Option.bind (
              bif (O .lt (O .get .i1 (O .get .v1 l68 (O .toNat (O .rem i_1 n_1))) (O .toNat (O .rem j_1 n_1))) (-1073741824)) then
                grd (okIdx ((O .rem i_1 n_1)) ((O .len .v1 l68))) <|
                grd (okKin ((O .toNat (O .rem i_1 n_1))) ((O .len .v1 l68))) <|
                grd (okIdx ((O .rem j_1 n_1)) ((O .len .i1 (O .get .v1 l68 (O .toNat (O .rem i_1 n_1)))))) <|
                grd (okKin ((O .toNat (O .rem j_1 n_1))) ((O .len .i1 (O .get .v1 l68 (O .toNat (O .rem i_1 n_1)))))) <|
                (some true)
              else
                grd (okIdx ((O .rem i_1 n_1)) ((O .len .v1 l68))) <|
                grd (okKin ((O .toNat (O .rem i_1 n_1))) ((O .len .v1 l68))) <|
                grd (okIdx ((O .rem j_1 n_1)) ((O .len .i1 (O .get .v1 l68 (O .toNat (O .rem i_1 n_1)))))) <|
                grd (okKin ((O .toNat (O .rem j_1 n_1))) ((O .len .i1 (O .get .v1 l68 (O .toNat (O .rem i_1 n_1)))))) <|
                (some (O .lt 1073741824 (O .get .i1 (O .get .v1 l68 (O .toNat (O .rem i_1 n_1))) (O .toNat (O .rem j_1 n_1))))) : Option ((Bool))) fun x171 =>
            bif x171 then
              (some true)
            else
              Option.bind (m_clone_i3 O l_1) fun l69 =>
              grd (okRoom ((O .len .i3 l69))) <|
              grd (okRoom ((O .len .i3 [((O .rem i_1 n_1), (O .rem j_1 n_1), (O .get .i1 (O .get .v1 l68 (O .toNat (O .rem i_1 n_1))) (O .toNat (O .rem j_1 n_1))))]))) <|
              Option.bind (m_bounds_Tight O n_1 ((O .app .i3 l69 [((O .rem i_1 n_1), (O .rem j_1 n_1), (O .get .i1 (O .get .v1 l68 (O .toNat (O .rem i_1 n_1))) (O .toNat (O .rem j_1 n_1))))]))) fun (l70, n31) =>
              Option.bind (
                bif (O .eq n31 0) then
                  Option.bind (m_ref45_Same O l68 l70) fun b54 =>
                  (some b54)
                else
                  (some false) : Option ((Bool))) fun x173 =>
              (some x173)
def m_law45_BoundsAdds_1 (O : Ops) (row_1 : List Int) : Option (Bool) :=
  (some (O .lt 40 (O .ofNat (O .len .i1 row_1))))
def m_slices_IndexFunc_5_L1 (O : Ops) (s_1 : List (List Int)) : (Int) → Option ((Int) ⊕ ((Int) ⊕ (Unit))) := fun x174 =>
  bif (O .lt x174 (O .ofNat (O .len .v1 s_1))) then
    grd (okIdx x174 ((O .len .v1 s_1))) <|
    grd (okKin ((O .toNat x174)) ((O .len .v1 s_1))) <|
    Option.bind (m_law45_BoundsAdds_1 O ((O .get .v1 s_1 (O .toNat x174)))) fun b56 =>
    bif b56 then
      (some (Sum.inr (Sum.inl x174)))
    else
      grd (okI .i64 ((O .add x174 1))) <|
      (some (Sum.inl (O .add x174 1)))
  else
    (some (Sum.inr (Sum.inr ())))
def m_slices_IndexFunc_5 (O : Ops) (s_1 : List (List Int)) : Option (Int) :=
  Option.bind (loop (m_slices_IndexFunc_5_L1 O s_1) 0) fun e => match e with
  | .inl x175 =>
    (some x175)
  | .inr (_) =>
    (some (-1))
def m_slices_ContainsFunc_5 (O : Ops) (s_1 : List (List Int)) : Option (Bool) :=
  Option.bind (m_slices_IndexFunc_5 O s_1) fun n32 =>
  (some (O .le 0 n32))
def m_bounds_closed_1 (O : Ops) (x_1 : Int) : Option (Bool) :=
  Option.bind (
    bif (O .not (O .eq x_1 4398046511104)) then
      bif (O .lt x_1 (-68719476736)) then
        (some true)
      else
        (some (O .lt 68719476736 x_1))
    else
      (some false) : Option ((Bool))) fun x184 =>
  (some x184)
def m_slices_IndexFunc_6_L1 (O : Ops) (s_1 : List Int) : (Int) → Option ((Int) ⊕ ((Int) ⊕ (Unit))) := fun x181 =>
  bif (O .lt x181 (O .ofNat (O .len .i1 s_1))) then
    grd (okIdx x181 ((O .len .i1 s_1))) <|
    grd (okKin ((O .toNat x181)) ((O .len .i1 s_1))) <|
    Option.bind (m_bounds_closed_1 O ((O .get .i1 s_1 (O .toNat x181)))) fun b59 =>
    bif b59 then
      (some (Sum.inr (Sum.inl x181)))
    else
      grd (okI .i64 ((O .add x181 1))) <|
      (some (Sum.inl (O .add x181 1)))
  else
    (some (Sum.inr (Sum.inr ())))
def m_slices_IndexFunc_6 (O : Ops) (s_1 : List Int) : Option (Int) :=
  Option.bind (loop (m_slices_IndexFunc_6_L1 O s_1) 0) fun e => match e with
  | .inl x185 =>
    (some x185)
  | .inr (_) =>
    (some (-1))
def m_slices_ContainsFunc_6 (O : Ops) (s_1 : List Int) : Option (Bool) :=
  Option.bind (m_slices_IndexFunc_6 O s_1) fun n33 =>
  (some (O .le 0 n33))
def m_bounds_closed_L1 (O : Ops) (m_1 : List (List Int)) : (Int) → Option ((Int) ⊕ ((Unit) ⊕ (Unit))) := fun x180 =>
  bif (O .lt x180 (O .ofNat (O .len .v1 m_1))) then
    grd (okIdx x180 ((O .len .v1 m_1))) <|
    grd (okKin ((O .toNat x180)) ((O .len .v1 m_1))) <|
    Option.bind (
      bif (O .not (O .eq (O .ofNat (O .len .i1 (O .get .v1 m_1 (O .toNat x180)))) (O .ofNat (O .len .v1 m_1)))) then
        (some true)
      else
        bif (O .not (O .eq (O .get .i1 (O .get .v1 m_1 (O .toNat x180)) (O .toNat x180)) 0)) then
          grd (okIdx x180 ((O .len .i1 (O .get .v1 m_1 (O .toNat x180))))) <|
          grd (okKin ((O .toNat x180)) ((O .len .i1 (O .get .v1 m_1 (O .toNat x180))))) <|
          (some true)
        else
          grd (okIdx x180 ((O .len .i1 (O .get .v1 m_1 (O .toNat x180))))) <|
          grd (okKin ((O .toNat x180)) ((O .len .i1 (O .get .v1 m_1 (O .toNat x180))))) <|
          Option.bind (m_slices_ContainsFunc_6 O ((O .get .v1 m_1 (O .toNat x180)))) fun b60 =>
          (some b60) : Option ((Bool))) fun x187 =>
    bif x187 then
      (some (Sum.inr (Sum.inl ())))
    else
      grd (okI .i64 ((O .add x180 1))) <|
      (some (Sum.inl (O .add x180 1)))
  else
    (some (Sum.inr (Sum.inr ())))
def m_bounds_closed_L2 (O : Ops) (m_1 : List (List Int)) (x188 : Int) (x189 : Int) : (Int) → Option ((Int) ⊕ ((Unit) ⊕ (Unit))) := fun x190 =>
  bif (O .lt x190 (O .ofNat (O .len .v1 m_1))) then
    grd (okIdx x188 ((O .len .v1 m_1))) <|
    grd (okKin ((O .toNat x188)) ((O .len .v1 m_1))) <|
    grd (okIdx x190 ((O .len .i1 (O .get .v1 m_1 (O .toNat x188))))) <|
    grd (okKin ((O .toNat x190)) ((O .len .i1 (O .get .v1 m_1 (O .toNat x188))))) <|
    grd (okIdx x189 ((O .len .i1 (O .get .v1 m_1 (O .toNat x188))))) <|
    grd (okKin ((O .toNat x189)) ((O .len .i1 (O .get .v1 m_1 (O .toNat x188))))) <|
    grd (okIdx x189 ((O .len .v1 m_1))) <|
    grd (okKin ((O .toNat x189)) ((O .len .v1 m_1))) <|
    grd (okIdx x190 ((O .len .i1 (O .get .v1 m_1 (O .toNat x189))))) <|
    grd (okKin ((O .toNat x190)) ((O .len .i1 (O .get .v1 m_1 (O .toNat x189))))) <|
    Option.bind (m_bounds_plus O ((O .get .i1 (O .get .v1 m_1 (O .toNat x188)) (O .toNat x189))) ((O .get .i1 (O .get .v1 m_1 (O .toNat x189)) (O .toNat x190)))) fun n34 =>
    bif (O .lt n34 (O .get .i1 (O .get .v1 m_1 (O .toNat x188)) (O .toNat x190))) then
      (some (Sum.inr (Sum.inl ())))
    else
      grd (okI .i64 ((O .add x190 1))) <|
      (some (Sum.inl (O .add x190 1)))
  else
    (some (Sum.inr (Sum.inr ())))
def m_bounds_closed_L3 (O : Ops) (m_1 : List (List Int)) (x188 : Int) : (Int) → Option ((Int) ⊕ ((Unit) ⊕ (Unit))) := fun x189 =>
  bif (O .lt x189 (O .ofNat (O .len .v1 m_1))) then
    Option.bind (loop (m_bounds_closed_L2 O m_1 x188 x189) 0) fun e => match e with
    | .inl _ =>
      (some (Sum.inr (Sum.inl ())))
    | .inr (_) =>
      grd (okI .i64 ((O .add x189 1))) <|
      (some (Sum.inl (O .add x189 1)))
  else
    (some (Sum.inr (Sum.inr ())))
def m_bounds_closed_L4 (O : Ops) (m_1 : List (List Int)) : (Int) → Option ((Int) ⊕ ((Unit) ⊕ (Unit))) := fun x188 =>
  bif (O .lt x188 (O .ofNat (O .len .v1 m_1))) then
    Option.bind (loop (m_bounds_closed_L3 O m_1 x188) 0) fun e => match e with
    | .inl _ =>
      (some (Sum.inr (Sum.inl ())))
    | .inr (_) =>
      grd (okI .i64 ((O .add x188 1))) <|
      (some (Sum.inl (O .add x188 1)))
  else
    (some (Sum.inr (Sum.inr ())))
def m_bounds_closed (O : Ops) (m_1 : List (List Int)) : Option (Bool) :=
  Option.bind (
    bif (O .lt (O .ofNat (O .len .v1 m_1)) 1) then
      (some true)
    else
      (some (O .lt 24 (O .ofNat (O .len .v1 m_1)))) : Option ((Bool))) fun x179 =>
  bif x179 then
    (some false)
  else
    Option.bind (loop (m_bounds_closed_L1 O m_1) 0) fun e => match e with
    | .inl _ =>
      (some false)
    | .inr (_) =>
      Option.bind (loop (m_bounds_closed_L4 O m_1) 0) fun e => match e with
      | .inl _ =>
        (some false)
      | .inr (_) =>
        (some true)
def m_bounds_Add_L1 (O : Ops) (b_1 : Int) (b_2 : Int) (b_3 : Int) (m_1 : List (List Int)) (x196 : Int) : (Int × List (List Int)) → Option ((Int × List (List Int)) ⊕ (List (List Int))) := fun (x198, m58) =>
  bif (O .lt x198 (O .ofNat (O .len .i1 (O .get .v1 m_1 (O .toNat x196))))) then
    grd (okIdx x196 ((O .len .v1 m58))) <|
    grd (okKin ((O .toNat x196)) ((O .len .v1 m58))) <|
    grd (okIdx x198 ((O .len .i1 (O .get .v1 m_1 (O .toNat x196))))) <|
    grd (okKin ((O .toNat x198)) ((O .len .i1 (O .get .v1 m_1 (O .toNat x196))))) <|
    grd (okIdx b_1 ((O .len .i1 (O .get .v1 m_1 (O .toNat x196))))) <|
    grd (okKin ((O .toNat b_1)) ((O .len .i1 (O .get .v1 m_1 (O .toNat x196))))) <|
    grd (okIdx x198 ((O .len .i1 (O .get .v1 m_1 (O .toNat b_2))))) <|
    grd (okKin ((O .toNat x198)) ((O .len .i1 (O .get .v1 m_1 (O .toNat b_2))))) <|
    Option.bind (m_bounds_plus O ((O .get .i1 (O .get .v1 m_1 (O .toNat x196)) (O .toNat b_1))) b_3) fun n42 =>
    Option.bind (m_bounds_plus O n42 ((O .get .i1 (O .get .v1 m_1 (O .toNat b_2)) (O .toNat x198)))) fun n43 =>
    grd (okIdx x198 ((O .len .i1 (O .get .v1 m58 (O .toNat x196))))) <|
    grd (okKin ((O .toNat x198)) ((O .len .i1 (O .get .v1 m58 (O .toNat x196))))) <|
    grd (okI .i64 ((O .add x198 1))) <|
    (some (Sum.inl ((O .add x198 1), (O .put .v1 m58 (O .toNat x196) (O .put .i1 (O .get .v1 m58 (O .toNat x196)) (O .toNat x198) (O .min (O .get .i1 (O .get .v1 m_1 (O .toNat x196)) (O .toNat x198)) n43))))))
  else
    (some (Sum.inr m58))
def m_bounds_Add_L2 (O : Ops) (b_1 : Int) (b_2 : Int) (b_3 : Int) (m_1 : List (List Int)) : (Int × List (List Int)) → Option ((Int × List (List Int)) ⊕ (List (List Int))) := fun (x196, m57) =>
  bif (O .lt x196 (O .ofNat (O .len .v1 m_1))) then
    grd (okIdx x196 ((O .len .v1 m_1))) <|
    grd (okKin ((O .toNat x196)) ((O .len .v1 m_1))) <|
    Option.bind (m_clone_i1 O ((O .get .v1 m_1 (O .toNat x196)))) fun l72 =>
    grd (okIdx x196 ((O .len .v1 m57))) <|
    grd (okKin ((O .toNat x196)) ((O .len .v1 m57))) <|
    Option.bind (loop (m_bounds_Add_L1 O b_1 b_2 b_3 m_1 x196) (0, (O .put .v1 m57 (O .toNat x196) l72))) fun m59 =>
    grd (okI .i64 ((O .add x196 1))) <|
    (some (Sum.inl ((O .add x196 1), m59)))
  else
    (some (Sum.inr m57))
def m_bounds_Add (O : Ops) (b_1 : Int) (b_2 : Int) (b_3 : Int) (m_1 : List (List Int)) : Option (List (List Int) × Int) :=
  Option.bind (
    Option.bind (m_bounds_closed O m_1) fun b61 =>
    bif (O .not b61) then
      (some true)
    else
      Option.bind (m_bounds_right O ((O .ofNat (O .len .v1 m_1))) b_1 b_2 b_3) fun b62 =>
      (some (O .not b62)) : Option ((Bool))) fun x192 =>
  bif x192 then
    (some (([] : List (List Int)), 1))
  else
    grd (okIdx b_2 ((O .len .v1 m_1))) <|
    grd (okKin ((O .toNat b_2)) ((O .len .v1 m_1))) <|
    grd (okIdx b_1 ((O .len .i1 (O .get .v1 m_1 (O .toNat b_2))))) <|
    grd (okKin ((O .toNat b_1)) ((O .len .i1 (O .get .v1 m_1 (O .toNat b_2))))) <|
    Option.bind (m_bounds_plus O ((O .get .i1 (O .get .v1 m_1 (O .toNat b_2)) (O .toNat b_1))) b_3) fun n35 =>
    bif (O .lt n35 0) then
      (some (([] : List (List Int)), 17))
    else
      grd (okRng ((O .ofNat (O .len .v1 m_1))) ((O .toNat (O .ofNat (O .len .v1 m_1))))) <|
      grd (okRoom ((O .toNat (O .ofNat (O .len .v1 m_1))))) <|
      Option.bind (loop (m_bounds_Add_L2 O b_1 b_2 b_3 m_1) (0, (O .rep .v1 (O .toNat (O .ofNat (O .len .v1 m_1)))))) fun m60 =>
      (some (m60, 0))
def m_law45_BoundsAdds (O : Ops) (n_1 : Int) (b_1 : Int) (b_2 : Int) (b_3 : Int) (l_1 : List (Int × Int × Int)) (m_1 : List (List Int)) : Option (Bool) :=
  Option.bind (
    Option.bind (m_law45_awake O) fun b55 =>
    bif (O .not b55) then
      (some true)
    else
      bif (O .lt 190 (O .ofNat (O .len .i3 l_1))) then
        (some true)
      else
        bif (O .lt 40 (O .ofNat (O .len .v1 m_1))) then
          (some true)
        else
          Option.bind (m_slices_ContainsFunc_5 O m_1) fun b57 =>
          (some b57) : Option ((Bool))) fun x177 =>
  bif x177 then
    Option.bind (m_law45_awake O) fun b58 =>
    (some b58)
  else
    Option.bind (m_bounds_Add O b_1 b_2 b_3 m_1) fun (l73, n44) =>
    Option.bind (
      Option.bind (m_ref45_Closed O m_1) fun b63 =>
      bif (O .not b63) then
        bif (O .not (O .eq n44 1)) then
          (some true)
        else
          (some (O .not (O .eq (O .ofNat (O .len .v1 l73)) 0)))
      else
        Option.bind (m_ref45_Valid O ((O .ofNat (O .len .v1 m_1))) ([(b_1, b_2, b_3)])) fun b64 =>
        bif (O .not b64) then
          bif (O .not (O .eq n44 1)) then
            (some true)
          else
            (some (O .not (O .eq (O .ofNat (O .len .v1 l73)) 0)))
        else
          (some false) : Option ((Bool))) fun x203 =>
    bif x203 then
      (some false)
    else
      Option.bind (
        Option.bind (m_ref45_Valid O n_1 l_1) fun b65 =>
        bif (O .not b65) then
          (some true)
        else
          Option.bind (m_ref45_Valid O n_1 ([(b_1, b_2, b_3)])) fun b66 =>
          (some (O .not b66)) : Option ((Bool))) fun x205 =>
      bif x205 then
        (some true)
      else
        Option.bind (m_ref45_Tight O n_1 l_1) fun (l74, b67) =>
        bif (O .not b67) then
          (some true)
        else
          Option.bind (m_bounds_Add O b_1 b_2 b_3 l74) fun (l75, n45) =>
          Option.bind (m_clone_i3 O l_1) fun l76 =>
          grd (okRoom ((O .len .i3 l76))) <|
          grd (okRoom ((O .len .i3 [(b_1, b_2, b_3)]))) <|
          Option.bind (m_ref45_Tight O n_1 ((O .app .i3 l76 [(b_1, b_2, b_3)]))) fun (l77, b68) =>
          bif (O .not b68) then
            Option.bind (
              bif (O .eq n45 17) then
                (some (O .eq (O .ofNat (O .len .v1 l75)) 0))
              else
                (some false) : Option ((Bool))) fun x207 =>
            (some x207)
          else
            Option.bind (
              bif (O .eq n45 0) then
                Option.bind (m_ref45_Same O l75 l77) fun b69 =>
                (some b69)
              else
                (some false) : Option ((Bool))) fun x209 =>
            (some x209)
def m_bounds_Holds_1 (O : Ops) (t_1 : Int) : Option (Bool) :=
  Option.bind (
    bif (O .lt t_1 (-4398046511104)) then
      (some true)
    else
      (some (O .lt 4398046511104 t_1)) : Option ((Bool))) fun x214 =>
  (some x214)
def m_slices_IndexFunc_7_L1 (O : Ops) (s_1 : List Int) : (Int) → Option ((Int) ⊕ ((Int) ⊕ (Unit))) := fun x212 =>
  bif (O .lt x212 (O .ofNat (O .len .i1 s_1))) then
    grd (okIdx x212 ((O .len .i1 s_1))) <|
    grd (okKin ((O .toNat x212)) ((O .len .i1 s_1))) <|
    Option.bind (m_bounds_Holds_1 O ((O .get .i1 s_1 (O .toNat x212)))) fun b73 =>
    bif b73 then
      (some (Sum.inr (Sum.inl x212)))
    else
      grd (okI .i64 ((O .add x212 1))) <|
      (some (Sum.inl (O .add x212 1)))
  else
    (some (Sum.inr (Sum.inr ())))
def m_slices_IndexFunc_7 (O : Ops) (s_1 : List Int) : Option (Int) :=
  Option.bind (loop (m_slices_IndexFunc_7_L1 O s_1) 0) fun e => match e with
  | .inl x215 =>
    (some x215)
  | .inr (_) =>
    (some (-1))
def m_slices_ContainsFunc_7 (O : Ops) (s_1 : List Int) : Option (Bool) :=
  Option.bind (m_slices_IndexFunc_7 O s_1) fun n46 =>
  (some (O .le 0 n46))
def m_bounds_Holds_2 (O : Ops) (b_1 : Int) (b_2 : Int) (b_3 : Int) (x_1 : List Int) : Option (Bool) :=
  grd (okIdx b_2 ((O .len .i1 x_1))) <|
  grd (okKin ((O .toNat b_2)) ((O .len .i1 x_1))) <|
  grd (okIdx b_1 ((O .len .i1 x_1))) <|
  grd (okKin ((O .toNat b_1)) ((O .len .i1 x_1))) <|
  grd (okI .i64 ((O .sub (O .get .i1 x_1 (O .toNat b_2)) (O .get .i1 x_1 (O .toNat b_1))))) <|
  (some (O .lt b_3 (O .sub (O .get .i1 x_1 (O .toNat b_2)) (O .get .i1 x_1 (O .toNat b_1)))))
def m_slices_IndexFunc_8_L1 (O : Ops) (c_1 : List Int) (s_1 : List (Int × Int × Int)) : (Int) → Option ((Int) ⊕ ((Int) ⊕ (Unit))) := fun x218 =>
  bif (O .lt x218 (O .ofNat (O .len .i3 s_1))) then
    grd (okIdx x218 ((O .len .i3 s_1))) <|
    grd (okKin ((O .toNat x218)) ((O .len .i3 s_1))) <|
    Option.bind (m_bounds_Holds_2 O (((O .get .i3 s_1 (O .toNat x218))).1) (((O .get .i3 s_1 (O .toNat x218))).2.1) (((O .get .i3 s_1 (O .toNat x218))).2.2) c_1) fun b75 =>
    bif b75 then
      (some (Sum.inr (Sum.inl x218)))
    else
      grd (okI .i64 ((O .add x218 1))) <|
      (some (Sum.inl (O .add x218 1)))
  else
    (some (Sum.inr (Sum.inr ())))
def m_slices_IndexFunc_8 (O : Ops) (s_1 : List (Int × Int × Int)) (c_1 : List Int) : Option (Int) :=
  Option.bind (loop (m_slices_IndexFunc_8_L1 O c_1 s_1) 0) fun e => match e with
  | .inl x219 =>
    (some x219)
  | .inr (_) =>
    (some (-1))
def m_slices_ContainsFunc_8 (O : Ops) (s_1 : List (Int × Int × Int)) (c_1 : List Int) : Option (Bool) :=
  Option.bind (m_slices_IndexFunc_8 O s_1 c_1) fun n47 =>
  (some (O .le 0 n47))
def m_bounds_Holds (O : Ops) (l_1 : List (Int × Int × Int)) (at_1 : List Int) : Option (Bool) :=
  Option.bind (
    Option.bind (m_bounds_Valid O ((O .ofNat (O .len .i1 at_1))) l_1) fun b72 =>
    bif (O .not b72) then
      (some true)
    else
      Option.bind (m_slices_ContainsFunc_7 O at_1) fun b74 =>
      (some b74) : Option ((Bool))) fun x217 =>
  bif x217 then
    (some false)
  else
    Option.bind (m_slices_ContainsFunc_8 O l_1 at_1) fun b76 =>
    (some (O .not b76))
def m_slices_Max_L1 (O : Ops) (x_1 : List Int) : (Int × Int) → Option ((Int × Int) ⊕ (Int)) := fun (m61, i20) =>
  bif (O .lt i20 (O .ofNat (O .len .i1 x_1))) then
    grd (okIdx i20 ((O .len .i1 x_1))) <|
    grd (okKin ((O .toNat i20)) ((O .len .i1 x_1))) <|
    grd (okI .i64 ((O .add i20 1))) <|
    (some (Sum.inl ((O .max m61 (O .get .i1 x_1 (O .toNat i20))), (O .add i20 1))))
  else
    (some (Sum.inr m61))
def m_slices_Max (O : Ops) (x_1 : List Int) : Option (Int) :=
  bif (O .lt (O .ofNat (O .len .i1 x_1)) 1) then
    none
  else
    grd (okIdx 0 ((O .len .i1 x_1))) <|
    grd (okKin ((O .toNat 0)) ((O .len .i1 x_1))) <|
    Option.bind (loop (m_slices_Max_L1 O x_1) ((O .get .i1 x_1 (O .toNat 0)), 1)) fun m62 =>
    (some m62)
def m_law45_BoundsKeeps_L1 (O : Ops) (at_1 : List Int) (l78 : List Int) : (Int) → Option ((Int) ⊕ ((Unit) ⊕ (Unit))) := fun x227 =>
  bif (O .lt x227 (O .ofNat (O .len .i1 l78))) then
    grd (okIdx x227 ((O .len .i1 l78))) <|
    grd (okKin ((O .toNat x227)) ((O .len .i1 l78))) <|
    Option.bind (
      bif (O .le (O .ofNat (O .len .i1 at_1)) x227) then
        (some true)
      else
        grd (okIdx x227 ((O .len .i1 at_1))) <|
        grd (okKin ((O .toNat x227)) ((O .len .i1 at_1))) <|
        (some (O .lt (O .get .i1 at_1 (O .toNat x227)) (O .get .i1 l78 (O .toNat x227)))) : Option ((Bool))) fun x229 =>
    bif x229 then
      (some (Sum.inr (Sum.inl ())))
    else
      grd (okI .i64 ((O .add x227 1))) <|
      (some (Sum.inl (O .add x227 1)))
  else
    (some (Sum.inr (Sum.inr ())))
def m_law45_BoundsKeeps_L2 (O : Ops) (at_1 : List Int) (l79 : List Int) : (Int) → Option ((Int) ⊕ ((Unit) ⊕ (Unit))) := fun x234 =>
  bif (O .lt x234 (O .ofNat (O .len .i1 l79))) then
    grd (okIdx x234 ((O .len .i1 l79))) <|
    grd (okKin ((O .toNat x234)) ((O .len .i1 l79))) <|
    grd (okIdx x234 ((O .len .i1 at_1))) <|
    grd (okKin ((O .toNat x234)) ((O .len .i1 at_1))) <|
    bif (O .lt (O .get .i1 l79 (O .toNat x234)) (O .get .i1 at_1 (O .toNat x234))) then
      (some (Sum.inr (Sum.inl ())))
    else
      grd (okI .i64 ((O .add x234 1))) <|
      (some (Sum.inl (O .add x234 1)))
  else
    (some (Sum.inr (Sum.inr ())))
def m_law45_BoundsKeeps (O : Ops) (i_1 : Int) (j_1 : Int) (l_1 : List (Int × Int × Int)) (at_1 : List Int) : Option (Bool) :=
  Option.bind (
    Option.bind (m_law45_awake O) fun b70 =>
    bif (O .not b70) then
      (some true)
    else
      bif (O .lt 170 (O .ofNat (O .len .i3 l_1))) then
        (some true)
      else
        (some (O .lt 40 (O .ofNat (O .len .i1 at_1)))) : Option ((Bool))) fun x211 =>
  bif x211 then
    Option.bind (m_law45_awake O) fun b71 =>
    (some b71)
  else
    Option.bind (m_bounds_Holds O l_1 at_1) fun b77 =>
    Option.bind (m_ref45_Holds O l_1 at_1) fun b78 =>
    bif (O .not (O .beq b77 b78)) then
      (some false)
    else
      Option.bind (m_bounds_Holds O l_1 at_1) fun b79 =>
      bif (O .not b79) then
        (some true)
      else
        Option.bind (m_bounds_Consistent O ((O .ofNat (O .len .i1 at_1))) l_1) fun (b80, n48) =>
        grd (okI .i64 i_1) <|
        grd (okNz ((O .ofNat (O .len .i1 at_1)))) <|
        grd (okI .i64 j_1) <|
        Option.bind (m_bounds_Between O ((O .ofNat (O .len .i1 at_1))) ((O .rem i_1 (O .ofNat (O .len .i1 at_1)))) ((O .rem j_1 (O .ofNat (O .len .i1 at_1)))) l_1) fun (n49, n50, n51) =>
        Option.bind (
          bif (O .not b80) then
            (some true)
          else
            bif (O .not (O .eq n48 0)) then
              (some true)
            else
              (some (O .not (O .eq n51 0))) : Option ((Bool))) fun x221 =>
        bif x221 then
          (some false)
        else
          grd (okIdx ((O .rem j_1 (O .ofNat (O .len .i1 at_1)))) ((O .len .i1 at_1))) <|
          grd (okKin ((O .toNat (O .rem j_1 (O .ofNat (O .len .i1 at_1))))) ((O .len .i1 at_1))) <|
          grd (okIdx ((O .rem i_1 (O .ofNat (O .len .i1 at_1)))) ((O .len .i1 at_1))) <|
          grd (okKin ((O .toNat (O .rem i_1 (O .ofNat (O .len .i1 at_1))))) ((O .len .i1 at_1))) <|
          grd (okI .i64 ((O .sub (O .get .i1 at_1 (O .toNat (O .rem j_1 (O .ofNat (O .len .i1 at_1))))) (O .get .i1 at_1 (O .toNat (O .rem i_1 (O .ofNat (O .len .i1 at_1)))))))) <|
          Option.bind (
            bif (O .not (O .eq n49 (-4398046511104))) then
              bif (O .lt (O .sub (O .get .i1 at_1 (O .toNat (O .rem j_1 (O .ofNat (O .len .i1 at_1))))) (O .get .i1 at_1 (O .toNat (O .rem i_1 (O .ofNat (O .len .i1 at_1)))))) n49) then
                (some true)
              else
                bif (O .not (O .eq n50 4398046511104)) then
                  (some (O .lt n50 (O .sub (O .get .i1 at_1 (O .toNat (O .rem j_1 (O .ofNat (O .len .i1 at_1))))) (O .get .i1 at_1 (O .toNat (O .rem i_1 (O .ofNat (O .len .i1 at_1))))))))
                else
                  (some false)
            else
              bif (O .not (O .eq n50 4398046511104)) then
                (some (O .lt n50 (O .sub (O .get .i1 at_1 (O .toNat (O .rem j_1 (O .ofNat (O .len .i1 at_1))))) (O .get .i1 at_1 (O .toNat (O .rem i_1 (O .ofNat (O .len .i1 at_1))))))))
              else
                (some false) : Option ((Bool))) fun x226 =>
          bif x226 then
            (some false)
          else
            grd (okIdx 0 ((O .len .i1 at_1))) <|
            grd (okKin ((O .toNat 0)) ((O .len .i1 at_1))) <|
            bif (O .not (O .eq (O .get .i1 at_1 (O .toNat 0)) 0)) then
              (some true)
            else
              Option.bind (m_bounds_Earliest O ((O .ofNat (O .len .i1 at_1))) l_1) fun (l78, n52) =>
              Option.bind (
                bif (O .eq n52 0) then
                  Option.bind (loop (m_law45_BoundsKeeps_L1 O at_1 l78) 0) fun e => match e with
                  | .inl _ =>
                    (some (Sum.inl ()))
                  | .inr (_) =>
                    (some (Sum.inr ()))
                else
                  (some (Sum.inr ())) : Option (((Unit) ⊕ (Unit)))) fun e => match e with
              | .inl _ =>
                (some false)
              | .inr (_) =>
                Option.bind (m_slices_Max O at_1) fun n53 =>
                Option.bind (m_bounds_Latest O ((O .ofNat (O .len .i1 at_1))) n53 l_1) fun (l79, n54) =>
                Option.bind (
                  bif (O .lt n53 0) then
                    (some true)
                  else
                    (some (O .lt 1073741824 n53)) : Option ((Bool))) fun x231 =>
                bif x231 then
                  (some true)
                else
                  Option.bind (
                    bif (O .not (O .eq n54 0)) then
                      (some true)
                    else
                      (some (O .not (O .eq (O .ofNat (O .len .i1 l79)) (O .ofNat (O .len .i1 at_1))))) : Option ((Bool))) fun x233 =>
                  bif x233 then
                    (some false)
                  else
                    Option.bind (loop (m_law45_BoundsKeeps_L2 O at_1 l79) 0) fun e => match e with
                    | .inl _ =>
                      (some false)
                    | .inr (_) =>
                      (some true)
end Go.Proofs.Ytegmjohhgedakaa
