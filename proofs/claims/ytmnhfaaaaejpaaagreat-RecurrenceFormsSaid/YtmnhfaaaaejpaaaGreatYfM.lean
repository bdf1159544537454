/-
  Models of functions (printed by lift.py).
-/
import Derived.Test.YtmnhfaaaaejpaaaGreatYOrM
namespace Go.Proofs.YtmnhfaaaaejpaaaGreat.R
open Go.RowKit Go.Proofs.YtmnhfaaaaejpaaaGreat
set_option maxRecDepth 100000

def m_recurrence_Matches (O : Ops) (r_1 : Int) (r_2 : Int) (r_3 : Int) (r_4 : Int) (r_5 : Int) (start_1 : Int) (l_1 : Int) (r_6 : List Int) (r_7 : List Int) (r_8 : List Int) (r_9 : List Int) (r_10 : List (Int × Int)) (r_11 : List Int) (r_12 : List Int) (r_13 : List Int) (r_14 : List Int) : Option (Bool × Int) :=
  Option.bind (m_recurrence_given O r_1 r_2 r_3 r_4 r_5 start_1 r_6 r_7 r_8 r_9 r_10 r_11 r_12 r_13 r_14) fun n65 =>
  bif (O .not (O .eq n65 0)) then
    (some (false, n65))
  else
    Option.bind (m_recurrence_local O l_1) fun b41 =>
    bif (O .not b41) then
      (some (false, 2))
    else
      Option.bind (m_integer_Floor O l_1 86400) fun n66 =>
      Option.bind (
        bif (O .lt l_1 start_1) then
          (some true)
        else
          bif (O .not (O .eq r_4 0)) then
            bif (O .lt r_4 l_1) then
              (some true)
            else
              Option.bind (m_recurrence_number O r_1 r_2 r_3 r_4 r_5 l_1 r_6 r_7 r_8 r_9 r_10 r_11 r_12 r_13 r_14) fun n67 =>
              Option.bind (m_recurrence_number O r_1 r_2 r_3 r_4 r_5 start_1 r_6 r_7 r_8 r_9 r_10 r_11 r_12 r_13 r_14) fun n68 =>
              grd (okI .i64 ((O .sub n67 n68))) <|
              grd (okNz r_2) <|
              (some (O .not (O .eq (O .rem (O .sub n67 n68) r_2) 0)))
          else
            Option.bind (m_recurrence_number O r_1 r_2 r_3 r_4 r_5 l_1 r_6 r_7 r_8 r_9 r_10 r_11 r_12 r_13 r_14) fun n69 =>
            Option.bind (m_recurrence_number O r_1 r_2 r_3 r_4 r_5 start_1 r_6 r_7 r_8 r_9 r_10 r_11 r_12 r_13 r_14) fun n70 =>
            grd (okI .i64 ((O .sub n69 n70))) <|
            grd (okNz r_2) <|
            (some (O .not (O .eq (O .rem (O .sub n69 n70) r_2) 0))) : Option ((Bool))) fun x150 =>
      bif x150 then
        (some (false, 0))
      else
        Option.bind (
          Option.bind (m_recurrence_times O r_1 r_2 r_3 r_4 r_5 start_1 r_6 r_7 r_8 r_9 r_10 r_11 r_12 r_13 r_14) fun l30 =>
          Option.bind (m_integer_Mod O l_1 86400) fun n71 =>
          Option.bind (m_slices_Contains O n71 l30) fun b42 =>
          bif (O .not b42) then
            (some true)
          else
            Option.bind (m_integer_Floor O start_1 86400) fun n72 =>
            Option.bind (m_recurrence_dateOf O n72) fun (n73, n74, n75, n76, n77, n78, n79, n80) =>
            Option.bind (m_recurrence_passes O r_1 r_2 r_3 r_4 r_5 n73 n74 n75 n76 n77 n78 n79 n80 n66 r_6 r_7 r_8 r_9 r_10 r_11 r_12 r_13 r_14) fun b43 =>
            (some (O .not b43)) : Option ((Bool))) fun x152 =>
        bif x152 then
          (some (false, 0))
        else
          bif (O .eq (O .ofNat (O .len .i1 r_14)) 0) then
            (some (true, 0))
          else
            Option.bind (m_recurrence_place O r_1 r_2 r_3 r_4 r_5 start_1 l_1 r_6 r_7 r_8 r_9 r_10 r_11 r_12 r_13 r_14) fun (n81, n82) =>
            Option.bind (m_recurrence_counted O n81 n82 r_14) fun b44 =>
            (some (b44, 0))
def m_law29_awake (O : Ops) : Option (Bool) :=
  Option.bind (m_recurrence_Matches O 4 2 0 0 1 0 345600 (([] : List Int)) (([] : List Int)) (([] : List Int)) (([] : List Int)) (([] : List (Int × Int))) (([] : List Int)) (([] : List Int)) (([] : List Int)) (([] : List Int))) fun (b45, n83) =>
  Option.bind (m_recurrence_Matches O 2 1 0 0 1 0 2505600 (([] : List Int)) (([] : List Int)) (([] : List Int)) (([] : List Int)) ([((-1), 5)]) (([] : List Int)) (([] : List Int)) (([] : List Int)) (([] : List Int))) fun (b46, n84) =>
  Option.bind (
    bif b45 then
      bif (O .eq n83 0) then
        bif b46 then
          (some (O .eq n84 0))
        else
          (some false)
      else
        (some false)
    else
      (some false) : Option ((Bool))) fun x156 =>
  (some x156)
def m_recurrence_Canonical (O : Ops) (r_1 : Int) (r_2 : Int) (r_3 : Int) (r_4 : Int) (r_5 : Int) (r_6 : List Int) (r_7 : List Int) (r_8 : List Int) (r_9 : List Int) (r_10 : List (Int × Int)) (r_11 : List Int) (r_12 : List Int) (r_13 : List Int) (r_14 : List Int) : Option (Int × Int × Int × Int × List Int × List Int × List Int × List Int × List (Int × Int) × List Int × List Int × List Int × List Int × Int × Int) :=
  Option.bind (m_recurrence_Valid O r_1 r_2 r_3 r_4 r_5 r_6 r_7 r_8 r_9 r_10 r_11 r_12 r_13 r_14) fun b51 =>
  bif (O .not b51) then
    (some (0, 0, 0, 0, ([] : List Int), ([] : List Int), ([] : List Int), ([] : List Int), ([] : List (Int × Int)), ([] : List Int), ([] : List Int), ([] : List Int), ([] : List Int), 0, 1))
  else
    Option.bind (m_recurrence_set O r_6) fun l31 =>
    grd (okI .i64 ((O .add 0 1))) <|
    Option.bind (m_recurrence_set O r_7) fun l32 =>
    grd (okI .i64 ((O .add 1 1))) <|
    Option.bind (m_recurrence_set O r_8) fun l33 =>
    grd (okI .i64 ((O .add 2 1))) <|
    Option.bind (m_recurrence_set O r_9) fun l34 =>
    grd (okI .i64 ((O .add 3 1))) <|
    Option.bind (m_recurrence_set O r_11) fun l35 =>
    grd (okI .i64 ((O .add 4 1))) <|
    Option.bind (m_recurrence_set O r_12) fun l36 =>
    grd (okI .i64 ((O .add 5 1))) <|
    Option.bind (m_recurrence_set O r_13) fun l37 =>
    grd (okI .i64 ((O .add 6 1))) <|
    Option.bind (m_recurrence_set O r_14) fun l38 =>
    grd (okI .i64 ((O .add 7 1))) <|
    Option.bind (m_clone_i2 O r_10) fun l39 =>
    Option.bind (m_sortOr O l39) fun l40 =>
    Option.bind (m_compOr O l40) fun l41 =>
    (some (r_1, r_2, r_3, r_4, l31, l32, l33, l34, l41, l35, l36, l37, l38, r_5, 0))
def m_ref29_same_L1 (O : Ops) (a_1 : List Int) (b_1 : List Int) : (Int) → Option ((Int) ⊕ ((Unit) ⊕ (Unit))) := fun i6 =>
  bif (O .lt i6 (O .ofNat (O .len .i1 a_1))) then
    grd (okIdx i6 ((O .len .i1 a_1))) <|
    grd (okKin ((O .toNat i6)) ((O .len .i1 a_1))) <|
    grd (okIdx i6 ((O .len .i1 b_1))) <|
    grd (okKin ((O .toNat i6)) ((O .len .i1 b_1))) <|
    bif (O .not (O .eq (O .get .i1 a_1 (O .toNat i6)) (O .get .i1 b_1 (O .toNat i6)))) then
      (some (Sum.inr (Sum.inl ())))
    else
      grd (okI .i64 ((O .add i6 1))) <|
      (some (Sum.inl (O .add i6 1)))
  else
    (some (Sum.inr (Sum.inr ())))
def m_ref29_same (O : Ops) (a_1 : List Int) (b_1 : List Int) : Option (Bool) :=
  bif (O .not (O .eq (O .ofNat (O .len .i1 a_1)) (O .ofNat (O .len .i1 b_1)))) then
    (some false)
  else
    Option.bind (loop (m_ref29_same_L1 O a_1 b_1) 0) fun e => match e with
    | .inl _ =>
      (some false)
    | .inr (_) =>
      (some true)
def m_ref29_Same_L1 (O : Ops) (a_10 : List (Int × Int)) (b_10 : List (Int × Int)) : (Int) → Option ((Int) ⊕ ((Unit) ⊕ (Unit))) := fun i5 =>
  bif (O .lt i5 (O .ofNat (O .len .i2 a_10))) then
    grd (okIdx i5 ((O .len .i2 a_10))) <|
    grd (okKin ((O .toNat i5)) ((O .len .i2 a_10))) <|
    grd (okIdx i5 ((O .len .i2 b_10))) <|
    grd (okKin ((O .toNat i5)) ((O .len .i2 b_10))) <|
    bif (O .not (O .and (O .eq ((O .get .i2 a_10 (O .toNat i5))).1 ((O .get .i2 b_10 (O .toNat i5))).1) (O .eq ((O .get .i2 a_10 (O .toNat i5))).2 ((O .get .i2 b_10 (O .toNat i5))).2))) then
      (some (Sum.inr (Sum.inl ())))
    else
      grd (okI .i64 ((O .add i5 1))) <|
      (some (Sum.inl (O .add i5 1)))
  else
    (some (Sum.inr (Sum.inr ())))
def m_ref29_Same (O : Ops) (a_1 : Int) (a_2 : Int) (a_3 : Int) (a_4 : Int) (a_5 : Int) (b_1 : Int) (b_2 : Int) (b_3 : Int) (b_4 : Int) (b_5 : Int) (a_6 : List Int) (a_7 : List Int) (a_8 : List Int) (a_9 : List Int) (a_10 : List (Int × Int)) (a_11 : List Int) (a_12 : List Int) (a_13 : List Int) (a_14 : List Int) (b_6 : List Int) (b_7 : List Int) (b_8 : List Int) (b_9 : List Int) (b_10 : List (Int × Int)) (b_11 : List Int) (b_12 : List Int) (b_13 : List Int) (b_14 : List Int) : Option (Bool) :=
  Option.bind (
    bif (O .not (O .eq a_1 b_1)) then
      (some true)
    else
      bif (O .not (O .eq a_2 b_2)) then
        (some true)
      else
        bif (O .not (O .eq a_3 b_3)) then
          (some true)
        else
          bif (O .not (O .eq a_4 b_4)) then
            (some true)
          else
            bif (O .not (O .eq a_5 b_5)) then
              (some true)
            else
              (some (O .not (O .eq (O .ofNat (O .len .i2 a_10)) (O .ofNat (O .len .i2 b_10))))) : Option ((Bool))) fun x160 =>
  bif x160 then
    (some false)
  else
    Option.bind (loop (m_ref29_Same_L1 O a_10 b_10) 0) fun e => match e with
    | .inl _ =>
      (some false)
    | .inr (_) =>
      Option.bind (
        Option.bind (m_ref29_same O a_6 b_6) fun b54 =>
        bif b54 then
          Option.bind (m_ref29_same O a_7 b_7) fun b55 =>
          bif b55 then
            Option.bind (m_ref29_same O a_8 b_8) fun b56 =>
            bif b56 then
              Option.bind (m_ref29_same O a_9 b_9) fun b57 =>
              bif b57 then
                Option.bind (m_ref29_same O a_11 b_11) fun b58 =>
                bif b58 then
                  Option.bind (m_ref29_same O a_12 b_12) fun b59 =>
                  bif b59 then
                    Option.bind (m_ref29_same O a_13 b_13) fun b60 =>
                    bif b60 then
                      Option.bind (m_ref29_same O a_14 b_14) fun b61 =>
                      (some b61)
                    else
                      (some false)
                  else
                    (some false)
                else
                  (some false)
              else
                (some false)
            else
              (some false)
          else
            (some false)
        else
          (some false) : Option ((Bool))) fun x168 =>
      (some x168)
def m_slices_Equal_L1 (O : Ops) (s1_1 : List (Int × Int)) (s2_1 : List (Int × Int)) : (Int) → Option ((Int) ⊕ ((Unit) ⊕ (Unit))) := fun x169 =>
  bif (O .lt x169 (O .ofNat (O .len .i2 s1_1))) then
    grd (okIdx x169 ((O .len .i2 s1_1))) <|
    grd (okKin ((O .toNat x169)) ((O .len .i2 s1_1))) <|
    grd (okIdx x169 ((O .len .i2 s2_1))) <|
    grd (okKin ((O .toNat x169)) ((O .len .i2 s2_1))) <|
    bif (O .not (O .and (O .eq ((O .get .i2 s1_1 (O .toNat x169))).1 ((O .get .i2 s2_1 (O .toNat x169))).1) (O .eq ((O .get .i2 s1_1 (O .toNat x169))).2 ((O .get .i2 s2_1 (O .toNat x169))).2))) then
      (some (Sum.inr (Sum.inl ())))
    else
      grd (okI .i64 ((O .add x169 1))) <|
      (some (Sum.inl (O .add x169 1)))
  else
    (some (Sum.inr (Sum.inr ())))
def m_slices_Equal (O : Ops) (s1_1 : List (Int × Int)) (s2_1 : List (Int × Int)) : Option (Bool) :=
  bif (O .not (O .eq (O .ofNat (O .len .i2 s1_1)) (O .ofNat (O .len .i2 s2_1)))) then
    (some false)
  else
    Option.bind (loop (m_slices_Equal_L1 O s1_1 s2_1) 0) fun e => match e with
    | .inl _ =>
      (some false)
    | .inr (_) =>
      (some true)
def m_slices_Equal_2_L1 (O : Ops) (s1_1 : List Int) (s2_1 : List Int) : (Int) → Option ((Int) ⊕ ((Unit) ⊕ (Unit))) := fun x172 =>
  bif (O .lt x172 (O .ofNat (O .len .i1 s1_1))) then
    grd (okIdx x172 ((O .len .i1 s1_1))) <|
    grd (okKin ((O .toNat x172)) ((O .len .i1 s1_1))) <|
    grd (okIdx x172 ((O .len .i1 s2_1))) <|
    grd (okKin ((O .toNat x172)) ((O .len .i1 s2_1))) <|
    bif (O .not (O .eq (O .get .i1 s1_1 (O .toNat x172)) (O .get .i1 s2_1 (O .toNat x172)))) then
      (some (Sum.inr (Sum.inl ())))
    else
      grd (okI .i64 ((O .add x172 1))) <|
      (some (Sum.inl (O .add x172 1)))
  else
    (some (Sum.inr (Sum.inr ())))
def m_slices_Equal_2 (O : Ops) (s1_1 : List Int) (s2_1 : List Int) : Option (Bool) :=
  bif (O .not (O .eq (O .ofNat (O .len .i1 s1_1)) (O .ofNat (O .len .i1 s2_1)))) then
    (some false)
  else
    Option.bind (loop (m_slices_Equal_2_L1 O s1_1 s2_1) 0) fun e => match e with
    | .inl _ =>
      (some false)
    | .inr (_) =>
      (some true)
def m_recurrence_Equal_1 (O : Ops) (a_1 : List Int) (b_1 : List Int) : Option (Bool) :=
  Option.bind (m_slices_Equal_2 O a_1 b_1) fun b64 =>
  (some b64)
def m_slices_EqualFunc (O : Ops) (s1_1 : List Int) (s1_2 : List Int) (s1_3 : List Int) (s1_4 : List Int) (s1_5 : List Int) (s1_6 : List Int) (s1_7 : List Int) (s1_8 : List Int) (s2_1 : List Int) (s2_2 : List Int) (s2_3 : List Int) (s2_4 : List Int) (s2_5 : List Int) (s2_6 : List Int) (s2_7 : List Int) (s2_8 : List Int) : Option (Bool) :=
  Option.bind (m_recurrence_Equal_1 O s1_1 s2_1) fun b65 =>
  bif (O .not b65) then
    (some false)
  else
    grd (okI .i64 ((O .add 0 1))) <|
    Option.bind (m_recurrence_Equal_1 O s1_2 s2_2) fun b66 =>
    bif (O .not b66) then
      (some false)
    else
      grd (okI .i64 ((O .add 1 1))) <|
      Option.bind (m_recurrence_Equal_1 O s1_3 s2_3) fun b67 =>
      bif (O .not b67) then
        (some false)
      else
        grd (okI .i64 ((O .add 2 1))) <|
        Option.bind (m_recurrence_Equal_1 O s1_4 s2_4) fun b68 =>
        bif (O .not b68) then
          (some false)
        else
          grd (okI .i64 ((O .add 3 1))) <|
          Option.bind (m_recurrence_Equal_1 O s1_5 s2_5) fun b69 =>
          bif (O .not b69) then
            (some false)
          else
            grd (okI .i64 ((O .add 4 1))) <|
            Option.bind (m_recurrence_Equal_1 O s1_6 s2_6) fun b70 =>
            bif (O .not b70) then
              (some false)
            else
              grd (okI .i64 ((O .add 5 1))) <|
              Option.bind (m_recurrence_Equal_1 O s1_7 s2_7) fun b71 =>
              bif (O .not b71) then
                (some false)
              else
                grd (okI .i64 ((O .add 6 1))) <|
                Option.bind (m_recurrence_Equal_1 O s1_8 s2_8) fun b72 =>
                bif (O .not b72) then
                  (some false)
                else
                  grd (okI .i64 ((O .add 7 1))) <|
                  (some true)
def m_recurrence_Equal (O : Ops) (a_1 : Int) (a_2 : Int) (a_3 : Int) (a_4 : Int) (a_5 : Int) (b_1 : Int) (b_2 : Int) (b_3 : Int) (b_4 : Int) (b_5 : Int) (a_6 : List Int) (a_7 : List Int) (a_8 : List Int) (a_9 : List Int) (a_10 : List (Int × Int)) (a_11 : List Int) (a_12 : List Int) (a_13 : List Int) (a_14 : List Int) (b_6 : List Int) (b_7 : List Int) (b_8 : List Int) (b_9 : List Int) (b_10 : List (Int × Int)) (b_11 : List Int) (b_12 : List Int) (b_13 : List Int) (b_14 : List Int) : Option (Bool) :=
  Option.bind (m_recurrence_Canonical O a_1 a_2 a_3 a_4 a_5 a_6 a_7 a_8 a_9 a_10 a_11 a_12 a_13 a_14) fun (n91, n92, n93, n94, l51, l52, l53, l54, l55, l56, l57, l58, l59, n95, n96) =>
  Option.bind (m_recurrence_Canonical O b_1 b_2 b_3 b_4 b_5 b_6 b_7 b_8 b_9 b_10 b_11 b_12 b_13 b_14) fun (n97, n98, n99, n100, l60, l61, l62, l63, l64, l65, l66, l67, l68, n101, n102) =>
  Option.bind (
    bif (O .not (O .eq n96 0)) then
      (some true)
    else
      bif (O .not (O .eq n102 0)) then
        (some true)
      else
        bif (O .not (O .eq n91 n97)) then
          (some true)
        else
          bif (O .not (O .eq n92 n98)) then
            (some true)
          else
            bif (O .not (O .eq n93 n99)) then
              (some true)
            else
              bif (O .not (O .eq n94 n100)) then
                (some true)
              else
                bif (O .not (O .eq n95 n101)) then
                  (some true)
                else
                  Option.bind (m_slices_Equal O l55 l64) fun b63 =>
                  (some (O .not b63)) : Option ((Bool))) fun x171 =>
  bif x171 then
    (some false)
  else
    Option.bind (m_slices_EqualFunc O l51 l52 l53 l54 l56 l57 l58 l59 l60 l61 l62 l63 l65 l66 l67 l68) fun b73 =>
    (some b73)
def m_recurrence_Endless (O : Ops) (r_1 : Int) (r_2 : Int) (r_3 : Int) (r_4 : Int) (r_5 : Int) (r_6 : List Int) (r_7 : List Int) (r_8 : List Int) (r_9 : List Int) (r_10 : List (Int × Int)) (r_11 : List Int) (r_12 : List Int) (r_13 : List Int) (r_14 : List Int) : Option (Bool) :=
  Option.bind (
    Option.bind (m_recurrence_Valid O r_1 r_2 r_3 r_4 r_5 r_6 r_7 r_8 r_9 r_10 r_11 r_12 r_13 r_14) fun b75 =>
    bif b75 then
      bif (O .eq r_3 0) then
        (some (O .eq r_4 0))
      else
        (some false)
    else
      (some false) : Option ((Bool))) fun x175 =>
  (some x175)
def m_ref29_Ordinals_L1 (O : Ops) (l_1 : List (Int × Int)) : (Int × List Int) → Option ((Int × List Int) ⊕ (List Int)) := fun (i8, l77) =>
  bif (O .lt i8 (O .ofNat (O .len .i2 l_1))) then
    grd (okIdx i8 ((O .len .i2 l_1))) <|
    grd (okKin ((O .toNat i8)) ((O .len .i2 l_1))) <|
    grd (okI .i64 ((O .mul 200 ((O .get .i2 l_1 (O .toNat i8))).2))) <|
    grd (okI .i64 ((O .add (O .mul 200 ((O .get .i2 l_1 (O .toNat i8))).2) ((O .get .i2 l_1 (O .toNat i8))).1))) <|
    grd (okI .i64 ((O .add (O .add (O .mul 200 ((O .get .i2 l_1 (O .toNat i8))).2) ((O .get .i2 l_1 (O .toNat i8))).1) 100))) <|
    grd (okRoom ((O .len .i1 l77))) <|
    grd (okRoom ((O .len .i1 [(O .add (O .add (O .mul 200 ((O .get .i2 l_1 (O .toNat i8))).2) ((O .get .i2 l_1 (O .toNat i8))).1) 100)]))) <|
    grd (okI .i64 ((O .add i8 1))) <|
    (some (Sum.inl ((O .add i8 1), (O .app .i1 l77 [(O .add (O .add (O .mul 200 ((O .get .i2 l_1 (O .toNat i8))).2) ((O .get .i2 l_1 (O .toNat i8))).1) 100)]))))
  else
    (some (Sum.inr l77))
def m_ref29_Ordinals_L2 (O : Ops) (l79 : List Int) : (Int × List (Int × Int)) → Option ((Int × List (Int × Int)) ⊕ (List (Int × Int))) := fun (i10, l80) =>
  bif (O .lt i10 (O .ofNat (O .len .i1 l79))) then
    grd (okIdx i10 ((O .len .i1 l79))) <|
    grd (okKin ((O .toNat i10)) ((O .len .i1 l79))) <|
    grd (okNz 200) <|
    grd (okI .i64 ((O .sub (O .rem (O .get .i1 l79 (O .toNat i10)) 200) 100))) <|
    grd (okI .i64 ((O .quo (O .get .i1 l79 (O .toNat i10)) 200))) <|
    grd (okRoom ((O .len .i2 l80))) <|
    grd (okRoom ((O .len .i2 [((O .sub (O .rem (O .get .i1 l79 (O .toNat i10)) 200) 100), (O .quo (O .get .i1 l79 (O .toNat i10)) 200))]))) <|
    grd (okI .i64 ((O .add i10 1))) <|
    (some (Sum.inl ((O .add i10 1), (O .app .i2 l80 [((O .sub (O .rem (O .get .i1 l79 (O .toNat i10)) 200) 100), (O .quo (O .get .i1 l79 (O .toNat i10)) 200))]))))
  else
    (some (Sum.inr l80))
def m_ref29_Ordinals (O : Ops) (l_1 : List (Int × Int)) : Option (List (Int × Int)) :=
  Option.bind (loop (m_ref29_Ordinals_L1 O l_1) (0, ([] : List Int))) fun l78 =>
  Option.bind (m_ref29_Set O l78) fun l79 =>
  Option.bind (loop (m_ref29_Ordinals_L2 O l79) (0, ([] : List (Int × Int)))) fun l81 =>
  (some l81)
def m_ref29_Canonical (O : Ops) (r_1 : Int) (r_2 : Int) (r_3 : Int) (r_4 : Int) (r_5 : Int) (r_6 : List Int) (r_7 : List Int) (r_8 : List Int) (r_9 : List Int) (r_10 : List (Int × Int)) (r_11 : List Int) (r_12 : List Int) (r_13 : List Int) (r_14 : List Int) : Option (Int × Int × Int × Int × List Int × List Int × List Int × List Int × List (Int × Int) × List Int × List Int × List Int × List Int × Int) :=
  Option.bind (m_ref29_Set O r_6) fun l69 =>
  Option.bind (m_ref29_Set O r_7) fun l70 =>
  Option.bind (m_ref29_Set O r_8) fun l71 =>
  Option.bind (m_ref29_Set O r_9) fun l72 =>
  Option.bind (m_ref29_Set O r_11) fun l73 =>
  Option.bind (m_ref29_Set O r_12) fun l74 =>
  Option.bind (m_ref29_Set O r_13) fun l75 =>
  Option.bind (m_ref29_Set O r_14) fun l76 =>
  Option.bind (m_ref29_Ordinals O r_10) fun l82 =>
  (some (r_1, r_2, r_3, r_4, l69, l70, l71, l72, l82, l73, l74, l75, l76, r_5))
def m_law29_RecurrenceForms (O : Ops) (a_1 : Int) (a_2 : Int) (a_3 : Int) (a_4 : Int) (a_5 : Int) (b_1 : Int) (b_2 : Int) (b_3 : Int) (b_4 : Int) (b_5 : Int) (a_6 : List Int) (a_7 : List Int) (a_8 : List Int) (a_9 : List Int) (a_10 : List (Int × Int)) (a_11 : List Int) (a_12 : List Int) (a_13 : List Int) (a_14 : List Int) (b_6 : List Int) (b_7 : List Int) (b_8 : List Int) (b_9 : List Int) (b_10 : List (Int × Int)) (b_11 : List Int) (b_12 : List Int) (b_13 : List Int) (b_14 : List Int) : Option (Bool) :=
  Option.bind (
    Option.bind (m_law29_awake O) fun b47 =>
    bif (O .not b47) then
      (some true)
    else
      Option.bind (m_law29_long O a_1 a_2 a_3 a_4 a_5 a_6 a_7 a_8 a_9 a_10 a_11 a_12 a_13 a_14) fun b48 =>
      bif b48 then
        (some true)
      else
        Option.bind (m_law29_long O b_1 b_2 b_3 b_4 b_5 b_6 b_7 b_8 b_9 b_10 b_11 b_12 b_13 b_14) fun b49 =>
        (some b49) : Option ((Bool))) fun x158 =>
  bif x158 then
    Option.bind (m_law29_awake O) fun b50 =>
    (some b50)
  else
    Option.bind (m_recurrence_Canonical O a_1 a_2 a_3 a_4 a_5 a_6 a_7 a_8 a_9 a_10 a_11 a_12 a_13 a_14) fun (n85, n86, n87, n88, l42, l43, l44, l45, l46, l47, l48, l49, l50, n89, n90) =>
    Option.bind (m_ref29_Valid O a_1 a_2 a_3 a_4 a_5 a_6 a_7 a_8 a_9 a_10 a_11 a_12 a_13 a_14) fun b52 =>
    bif (O .not b52) then
      Option.bind (
        Option.bind (m_recurrence_Valid O a_1 a_2 a_3 a_4 a_5 a_6 a_7 a_8 a_9 a_10 a_11 a_12 a_13 a_14) fun b53 =>
        bif (O .not b53) then
          bif (O .eq n90 1) then
            Option.bind (m_ref29_Same O n85 n86 n87 n88 n89 0 0 0 0 0 l42 l43 l44 l45 l46 l47 l48 l49 l50 (([] : List Int)) (([] : List Int)) (([] : List Int)) (([] : List Int)) (([] : List (Int × Int))) (([] : List Int)) (([] : List Int)) (([] : List Int)) (([] : List Int))) fun b62 =>
            bif b62 then
              Option.bind (m_recurrence_Equal O a_1 a_2 a_3 a_4 a_5 b_1 b_2 b_3 b_4 b_5 a_6 a_7 a_8 a_9 a_10 a_11 a_12 a_13 a_14 b_6 b_7 b_8 b_9 b_10 b_11 b_12 b_13 b_14) fun b74 =>
              bif (O .not b74) then
                Option.bind (m_recurrence_Endless O a_1 a_2 a_3 a_4 a_5 a_6 a_7 a_8 a_9 a_10 a_11 a_12 a_13 a_14) fun b76 =>
                (some (O .not b76))
              else
                (some false)
            else
              (some false)
          else
            (some false)
        else
          (some false) : Option ((Bool))) fun x180 =>
      (some x180)
    else
      Option.bind (
        Option.bind (m_recurrence_Valid O a_1 a_2 a_3 a_4 a_5 a_6 a_7 a_8 a_9 a_10 a_11 a_12 a_13 a_14) fun b77 =>
        bif (O .not b77) then
          (some true)
        else
          bif (O .not (O .eq n90 0)) then
            (some true)
          else
            Option.bind (m_ref29_Canonical O a_1 a_2 a_3 a_4 a_5 a_6 a_7 a_8 a_9 a_10 a_11 a_12 a_13 a_14) fun (n103, n104, n105, n106, l83, l84, l85, l86, l87, l88, l89, l90, l91, n107) =>
            Option.bind (m_ref29_Same O n85 n86 n87 n88 n89 n103 n104 n105 n106 n107 l42 l43 l44 l45 l46 l47 l48 l49 l50 l83 l84 l85 l86 l87 l88 l89 l90 l91) fun b78 =>
            bif (O .not b78) then
              (some true)
            else
              Option.bind (m_recurrence_Equal O a_1 a_2 a_3 a_4 a_5 n85 n86 n87 n88 n89 a_6 a_7 a_8 a_9 a_10 a_11 a_12 a_13 a_14 l42 l43 l44 l45 l46 l47 l48 l49 l50) fun b79 =>
              bif (O .not b79) then
                (some true)
              else
                Option.bind (m_recurrence_Endless O a_1 a_2 a_3 a_4 a_5 a_6 a_7 a_8 a_9 a_10 a_11 a_12 a_13 a_14) fun b80 =>
                bif (O .eq a_3 0) then
                  (some (O .not (O .beq b80 (O .eq a_4 0))))
                else
                  (some (O .not (O .beq b80 false))) : Option ((Bool))) fun x183 =>
      bif x183 then
        (some false)
      else
        Option.bind (
          Option.bind (m_recurrence_Equal O a_1 a_2 a_3 a_4 a_5 b_1 b_2 b_3 b_4 b_5 a_6 a_7 a_8 a_9 a_10 a_11 a_12 a_13 a_14 b_6 b_7 b_8 b_9 b_10 b_11 b_12 b_13 b_14) fun b81 =>
          Option.bind (m_ref29_Valid O b_1 b_2 b_3 b_4 b_5 b_6 b_7 b_8 b_9 b_10 b_11 b_12 b_13 b_14) fun b82 =>
          bif b82 then
            Option.bind (m_ref29_Canonical O a_1 a_2 a_3 a_4 a_5 a_6 a_7 a_8 a_9 a_10 a_11 a_12 a_13 a_14) fun (n108, n109, n110, n111, l92, l93, l94, l95, l96, l97, l98, l99, l100, n112) =>
            Option.bind (m_ref29_Canonical O b_1 b_2 b_3 b_4 b_5 b_6 b_7 b_8 b_9 b_10 b_11 b_12 b_13 b_14) fun (n113, n114, n115, n116, l101, l102, l103, l104, l105, l106, l107, l108, l109, n117) =>
            Option.bind (m_ref29_Same O n108 n109 n110 n111 n112 n113 n114 n115 n116 n117 l92 l93 l94 l95 l96 l97 l98 l99 l100 l101 l102 l103 l104 l105 l106 l107 l108 l109) fun b83 =>
            (some (O .beq b81 b83))
          else
            (some (O .beq b81 false)) : Option ((Bool))) fun x185 =>
        (some x185)
end Go.Proofs.YtmnhfaaaaejpaaaGreat.R
