/-
  Models of functions (printed by lift.py).
-/
import Derived.Test.YtmnhfaaaaejpaaaNNoM
namespace Go.Proofs.Ytmnhfaaaaejpaaa
open Go.RowKit
set_option maxRecDepth 100000

def m_recurrence_local (O : Ops) (l_1 : Int) : Option (Bool) :=
  Option.bind (
    bif (O .le (-62135596800) l_1) then
      (some (O .lt l_1 253402300800))
    else
      (some false) : Option ((Bool))) fun x14 =>
  (some x14)
def m_recurrence_between_1 (O : Ops) (n_1 : Int) (x_1 : Int) (x_2 : Int) (x_3 : Bool) : Option (Bool) :=
  Option.bind (
    bif (O .lt n_1 x_1) then
      bif x_3 then
        bif (O .le (O .sub 0 x_2) n_1) then
          grd (okI .i64 ((O .sub 0 x_2))) <|
          grd (okI .i64 ((O .sub 0 x_1))) <|
          (some ((O .not (O .le n_1 (O .sub 0 x_1))), true))
        else
          grd (okI .i64 ((O .sub 0 x_2))) <|
          (some ((O .not false), true))
      else
        (some ((O .not false), false))
    else
      bif (O .lt x_2 n_1) then
        bif x_3 then
          bif (O .le (O .sub 0 x_2) n_1) then
            grd (okI .i64 ((O .sub 0 x_2))) <|
            grd (okI .i64 ((O .sub 0 x_1))) <|
            (some ((O .not (O .le n_1 (O .sub 0 x_1))), true))
          else
            grd (okI .i64 ((O .sub 0 x_2))) <|
            (some ((O .not false), true))
        else
          (some ((O .not false), false))
      else
        (some (false, x_3)) : Option ((Bool × Bool))) fun (x32, _) =>
  (some x32)
def m_slices_IndexFunc_L1 (O : Ops) (c_1 : Int) (c_2 : Int) (c_3 : Bool) (s_1 : List Int) : (Int) → Option ((Int) ⊕ ((Int) ⊕ (Unit))) := fun x20 =>
  bif (O .lt x20 (O .ofNat (O .len .i1 s_1))) then
    grd (okIdx x20 ((O .len .i1 s_1))) <|
    grd (okKin ((O .toNat x20)) ((O .len .i1 s_1))) <|
    Option.bind (m_recurrence_between_1 O ((O .get .i1 s_1 (O .toNat x20))) c_1 c_2 c_3) fun b2 =>
    bif b2 then
      (some (Sum.inr (Sum.inl x20)))
    else
      grd (okI .i64 ((O .add x20 1))) <|
      (some (Sum.inl (O .add x20 1)))
  else
    (some (Sum.inr (Sum.inr ())))
def m_slices_IndexFunc (O : Ops) (s_1 : List Int) (c_1 : Int) (c_2 : Int) (c_3 : Bool) : Option (Int) :=
  Option.bind (loop (m_slices_IndexFunc_L1 O c_1 c_2 c_3 s_1) 0) fun e => match e with
  | .inl x34 =>
    (some x34)
  | .inr (_) =>
    (some (-1))
def m_slices_ContainsFunc (O : Ops) (s_1 : List Int) (c_1 : Int) (c_2 : Int) (c_3 : Bool) : Option (Bool) :=
  Option.bind (m_slices_IndexFunc O s_1 c_1 c_2 c_3) fun n1 =>
  (some (O .le 0 n1))
def m_recurrence_between (O : Ops) (low_1 : Int) (high_1 : Int) (signed_1 : Bool) (l_1 : List Int) : Option (Bool) :=
  Option.bind (
    bif (O .le (O .ofNat (O .len .i1 l_1)) 60) then
      Option.bind (m_slices_ContainsFunc O l_1 low_1 high_1 signed_1) fun b3 =>
      (some (O .not b3))
    else
      (some false) : Option ((Bool))) fun x36 =>
  (some x36)
def m_integer_Div (O : Ops) (a_1 : Int) (b_1 : Int) : Option (Int × Int × Int) :=
  Option.bind (
    bif (O .eq b_1 0) then
      (some (Sum.inl 10))
    else
      Option.bind (
        bif (O .eq a_1 (-9223372036854775808)) then
          (some (O .eq b_1 (-1)))
        else
          (some false) : Option ((Bool))) fun x51 =>
      bif x51 then
        (some (Sum.inl 9))
      else
        (some (Sum.inr ())) : Option (((Int) ⊕ (Unit)))) fun e => match e with
  | .inl x53 =>
    (some (0, 0, x53))
  | .inr (_) =>
    grd (okNz b_1) <|
    grd (okI .i64 ((O .quo a_1 b_1))) <|
    Option.bind (
      bif (O .not (O .eq (O .rem a_1 b_1) 0)) then
        (some (O .not (O .beq (O .lt (O .rem a_1 b_1) 0) (O .lt b_1 0))))
      else
        (some false) : Option ((Bool))) fun x55 =>
    Option.bind (
      bif x55 then
        grd (okI .i64 ((O .sub (O .quo a_1 b_1) 1))) <|
        grd (okI .i64 ((O .add (O .rem a_1 b_1) b_1))) <|
        (some ((O .sub (O .quo a_1 b_1) 1), (O .add (O .rem a_1 b_1) b_1)))
      else
        (some ((O .quo a_1 b_1), (O .rem a_1 b_1))) : Option ((Int × Int))) fun (q2, r2) =>
    (some (q2, r2, 0))
def m_integer_Mod (O : Ops) (a_1 : Int) (b_1 : Int) : Option (Int) :=
  Option.bind (m_integer_Div O a_1 b_1) fun (_, n3, _) =>
  (some n3)
def m_recurrence_set (O : Ops) (l_1 : List Int) : Option (List Int) :=
  Option.bind (m_clone_i1 O l_1) fun l1 =>
  Option.bind (m_sortI O l1) fun l2 =>
  Option.bind (m_compI O l2) fun l3 =>
  (some l3)
def m_recurrence_times_1 (O : Ops) (other_1 : Int) (l_1 : List Int) : Option (List Int) :=
  bif (O .eq (O .ofNat (O .len .i1 l_1)) 0) then
    (some [other_1])
  else
    Option.bind (m_recurrence_set O l_1) fun l4 =>
    (some l4)
def m_recurrence_times_L1 (O : Ops) : (Int × List Int) → Option ((Int × List Int) ⊕ (List Int)) := fun (x59, l6) =>
  bif (O .lt x59 24) then
    grd (okRoom ((O .len .i1 l6))) <|
    grd (okRoom ((O .len .i1 [x59]))) <|
    grd (okI .i64 ((O .add x59 1))) <|
    (some (Sum.inl ((O .add x59 1), (O .app .i1 l6 [x59]))))
  else
    (some (Sum.inr l6))
def m_recurrence_times_L2 (O : Ops) (l10 : List Int) (l11 : List Int) (l9 : List Int) (x67 : Int) (x71 : Int) : (Int × List Int) → Option ((Int × List Int) ⊕ (List Int)) := fun (x73, l22) =>
  bif (O .lt x73 (O .ofNat (O .len .i1 l11))) then
    grd (okIdx x73 ((O .len .i1 l11))) <|
    grd (okKin ((O .toNat x73)) ((O .len .i1 l11))) <|
    grd (okI .i64 ((O .mul 3600 (O .get .i1 l9 (O .toNat x67))))) <|
    grd (okI .i64 ((O .mul 60 (O .get .i1 l10 (O .toNat x71))))) <|
    grd (okI .i64 ((O .add (O .mul 3600 (O .get .i1 l9 (O .toNat x67))) (O .mul 60 (O .get .i1 l10 (O .toNat x71)))))) <|
    grd (okI .i64 ((O .add (O .add (O .mul 3600 (O .get .i1 l9 (O .toNat x67))) (O .mul 60 (O .get .i1 l10 (O .toNat x71)))) (O .get .i1 l11 (O .toNat x73))))) <|
    grd (okRoom ((O .len .i1 l22))) <|
    grd (okRoom ((O .len .i1 [(O .add (O .add (O .mul 3600 (O .get .i1 l9 (O .toNat x67))) (O .mul 60 (O .get .i1 l10 (O .toNat x71)))) (O .get .i1 l11 (O .toNat x73)))]))) <|
    grd (okI .i64 ((O .add x73 1))) <|
    (some (Sum.inl ((O .add x73 1), (O .app .i1 l22 [(O .add (O .add (O .mul 3600 (O .get .i1 l9 (O .toNat x67))) (O .mul 60 (O .get .i1 l10 (O .toNat x71)))) (O .get .i1 l11 (O .toNat x73)))]))))
  else
    (some (Sum.inr l22))
def m_recurrence_times_L3 (O : Ops) (l10 : List Int) (l11 : List Int) (l9 : List Int) (x67 : Int) : (Int × List Int) → Option ((Int × List Int) ⊕ (List Int)) := fun (x71, l21) =>
  bif (O .lt x71 (O .ofNat (O .len .i1 l10))) then
    grd (okIdx x71 ((O .len .i1 l10))) <|
    grd (okKin ((O .toNat x71)) ((O .len .i1 l10))) <|
    Option.bind (loop (m_recurrence_times_L2 O l10 l11 l9 x67 x71) (0, l21)) fun l23 =>
    grd (okI .i64 ((O .add x71 1))) <|
    (some (Sum.inl ((O .add x71 1), l23)))
  else
    (some (Sum.inr l21))
def m_recurrence_times_L4 (O : Ops) (l10 : List Int) (l11 : List Int) (l9 : List Int) : (Int × List Int) → Option ((Int × List Int) ⊕ (List Int)) := fun (x67, l18) =>
  bif (O .lt x67 (O .ofNat (O .len .i1 l9))) then
    grd (okIdx x67 ((O .len .i1 l9))) <|
    grd (okKin ((O .toNat x67)) ((O .len .i1 l9))) <|
    Option.bind (loop (m_recurrence_times_L3 O l10 l11 l9 x67) (0, l18)) fun l24 =>
    grd (okI .i64 ((O .add x67 1))) <|
    (some (Sum.inl ((O .add x67 1), l24)))
  else
    (some (Sum.inr l18))
def m_recurrence_times (O : Ops) (r_1 : Int) (_r_2 : Int) (_r_3 : Int) (_r_4 : Int) (_r_5 : Int) (start_1 : Int) (_r_6 : List Int) (_r_7 : List Int) (_r_8 : List Int) (_r_9 : List Int) (_r_10 : List (Int × Int)) (r_11 : List Int) (r_12 : List Int) (r_13 : List Int) (_r_14 : List Int) : Option (List Int) :=
  Option.bind (m_integer_Mod O start_1 86400) fun n5 =>
  grd (okNz 3600) <|
  grd (okI .i64 ((O .quo n5 3600))) <|
  Option.bind (m_recurrence_times_1 O ((O .quo n5 3600)) r_11) fun l5 =>
  Option.bind (
    bif (O .eq (O .ofNat (O .len .i1 r_11)) 0) then
      (some (O .eq r_1 5))
    else
      (some false) : Option ((Bool))) fun x57 =>
  Option.bind (
    bif x57 then
      Option.bind (loop (m_recurrence_times_L1 O) (0, ([] : List Int))) fun l7 =>
      (some l7)
    else
      (some l5) : Option ((List Int))) fun l9 =>
  grd (okNz 60) <|
  grd (okI .i64 ((O .quo n5 60))) <|
  Option.bind (m_recurrence_times_1 O ((O .rem (O .quo n5 60) 60)) r_12) fun l10 =>
  Option.bind (m_recurrence_times_1 O ((O .rem n5 60)) r_13) fun l11 =>
  Option.bind (loop (m_recurrence_times_L4 O l10 l11 l9) (0, ([] : List Int))) fun l25 =>
  (some l25)
def m_recurrence_Valid_L1 (O : Ops) (r_1 : Int) (r_10 : List (Int × Int)) : (Int) → Option ((Int) ⊕ ((Unit) ⊕ (Unit))) := fun x45 =>
  bif (O .lt x45 (O .ofNat (O .len .i2 r_10))) then
    grd (okIdx x45 ((O .len .i2 r_10))) <|
    grd (okKin ((O .toNat x45)) ((O .len .i2 r_10))) <|
    Option.bind (
      bif (O .lt ((O .get .i2 r_10 (O .toNat x45))).2 1) then
        (some true)
      else
        bif (O .lt 7 ((O .get .i2 r_10 (O .toNat x45))).2) then
          (some true)
        else
          bif (O .lt ((O .get .i2 r_10 (O .toNat x45))).1 (-53)) then
            (some true)
          else
            bif (O .lt 53 ((O .get .i2 r_10 (O .toNat x45))).1) then
              (some true)
            else
              bif (O .not (O .eq ((O .get .i2 r_10 (O .toNat x45))).1 0)) then
                bif (O .not (O .eq r_1 1)) then
                  (some (O .not (O .eq r_1 2)))
                else
                  (some false)
              else
                (some false) : Option ((Bool))) fun x49 =>
    bif x49 then
      (some (Sum.inr (Sum.inl ())))
    else
      grd (okI .i64 ((O .add x45 1))) <|
      (some (Sum.inl (O .add x45 1)))
  else
    (some (Sum.inr (Sum.inr ())))
def m_recurrence_Valid (O : Ops) (r_1 : Int) (r_2 : Int) (r_3 : Int) (r_4 : Int) (r_5 : Int) (r_6 : List Int) (r_7 : List Int) (r_8 : List Int) (r_9 : List Int) (r_10 : List (Int × Int)) (r_11 : List Int) (r_12 : List Int) (r_13 : List Int) (r_14 : List Int) : Option (Bool) :=
  Option.bind (
    bif (O .lt r_1 1) then
      (some true)
    else
      (some (O .lt 5 r_1)) : Option ((Bool))) fun x2 =>
  Option.bind (
    bif x2 then
      (some true)
    else
      Option.bind (
        bif (O .lt r_2 1) then
          (some true)
        else
          (some (O .lt 1000 r_2)) : Option ((Bool))) fun x4 =>
      Option.bind (
        bif x4 then
          (some true)
        else
          Option.bind (
            bif (O .lt r_5 1) then
              (some true)
            else
              (some (O .lt 7 r_5)) : Option ((Bool))) fun x6 =>
          (some x6) : Option ((Bool))) fun x8 =>
      (some x8) : Option ((Bool))) fun x10 =>
  Option.bind (
    bif x10 then
      (some (Sum.inl ()))
    else
      Option.bind (
        bif (O .lt r_3 0) then
          (some true)
        else
          (some (O .lt 1000 r_3)) : Option ((Bool))) fun x12 =>
      Option.bind (
        bif x12 then
          (some true)
        else
          Option.bind (
            bif (O .not (O .eq r_4 0)) then
              Option.bind (m_recurrence_local O r_4) fun b1 =>
              bif (O .not b1) then
                (some true)
              else
                (some (O .not (O .eq r_3 0)))
            else
              (some false) : Option ((Bool))) fun x17 =>
          (some x17) : Option ((Bool))) fun x19 =>
      Option.bind (
        bif x19 then
          (some (Sum.inl ()))
        else
          Option.bind (
            Option.bind (m_recurrence_between O 1 12 false r_6) fun b4 =>
            bif (O .not b4) then
              (some true)
            else
              Option.bind (m_recurrence_between O 1 31 true r_7) fun b5 =>
              bif (O .not b5) then
                (some true)
              else
                Option.bind (m_recurrence_between O 1 366 true r_8) fun b6 =>
                bif (O .not b6) then
                  (some true)
                else
                  Option.bind (m_recurrence_between O 1 53 true r_9) fun b7 =>
                  (some (O .not b7)) : Option ((Bool))) fun x38 =>
          Option.bind (
            bif x38 then
              (some (Sum.inl ()))
            else
              Option.bind (
                Option.bind (m_recurrence_between O 0 23 false r_11) fun b8 =>
                bif (O .not b8) then
                  (some true)
                else
                  Option.bind (m_recurrence_between O 0 59 false r_12) fun b9 =>
                  bif (O .not b9) then
                    (some true)
                  else
                    Option.bind (m_recurrence_between O 0 59 false r_13) fun b10 =>
                    bif (O .not b10) then
                      (some true)
                    else
                      Option.bind (m_recurrence_between O 1 366 true r_14) fun b11 =>
                      (some (O .not b11)) : Option ((Bool))) fun x40 =>
              Option.bind (
                bif x40 then
                  (some (Sum.inl ()))
                else
                  Option.bind (
                    bif (O .lt 0 (O .ofNat (O .len .i1 r_9))) then
                      (some (O .not (O .eq r_1 1)))
                    else
                      (some false) : Option ((Bool))) fun x42 =>
                  Option.bind (
                    bif x42 then
                      (some true)
                    else
                      (some (O .lt 60 (O .ofNat (O .len .i2 r_10)))) : Option ((Bool))) fun x44 =>
                  bif x44 then
                    (some (Sum.inl ()))
                  else
                    (some (Sum.inr ())) : Option (((Unit) ⊕ (Unit)))) fun e => match e with
              | .inl _ =>
                (some (Sum.inl ()))
              | .inr (_) =>
                (some (Sum.inr ())) : Option (((Unit) ⊕ (Unit)))) fun e => match e with
          | .inl _ =>
            (some (Sum.inl ()))
          | .inr (_) =>
            (some (Sum.inr ())) : Option (((Unit) ⊕ (Unit)))) fun e => match e with
      | .inl _ =>
        (some (Sum.inl ()))
      | .inr (_) =>
        (some (Sum.inr ())) : Option (((Unit) ⊕ (Unit)))) fun e => match e with
  | .inl _ =>
    (some false)
  | .inr (_) =>
    Option.bind (loop (m_recurrence_Valid_L1 O r_1 r_10) 0) fun e => match e with
    | .inl _ =>
      (some false)
    | .inr (_) =>
      Option.bind (m_recurrence_times O r_1 r_2 r_3 r_4 r_5 0 r_6 r_7 r_8 r_9 r_10 r_11 r_12 r_13 r_14) fun l26 =>
      (some (O .le (O .ofNat (O .len .i1 l26)) 1440))
def m_recurrence_given (O : Ops) (r_1 : Int) (r_2 : Int) (r_3 : Int) (r_4 : Int) (r_5 : Int) (start_1 : Int) (r_6 : List Int) (r_7 : List Int) (r_8 : List Int) (r_9 : List Int) (r_10 : List (Int × Int)) (r_11 : List Int) (r_12 : List Int) (r_13 : List Int) (r_14 : List Int) : Option (Int) :=
  Option.bind (
    Option.bind (m_recurrence_Valid O r_1 r_2 r_3 r_4 r_5 r_6 r_7 r_8 r_9 r_10 r_11 r_12 r_13 r_14) fun b12 =>
    bif (O .not b12) then
      (some true)
    else
      Option.bind (m_recurrence_local O start_1) fun b13 =>
      (some (O .not b13)) : Option ((Bool))) fun x75 =>
  bif x75 then
    (some 1)
  else
    (some 0)
def m_integer_Floor (O : Ops) (a_1 : Int) (b_1 : Int) : Option (Int) :=
  Option.bind (m_integer_Div O a_1 b_1) fun (n7, _, _) =>
  (some n7)
def m_recurrence_weekday (O : Ops) (day_1 : Int) : Option (Int) :=
  grd (okI .i64 ((O .add day_1 3))) <|
  Option.bind (m_integer_Mod O ((O .add day_1 3)) 7) fun n12 =>
  grd (okI .i64 ((O .add n12 1))) <|
  (some (O .add n12 1))
def m_recurrence_week (O : Ops) (day_1 : Int) (start_1 : Int) : Option (Int) :=
  Option.bind (m_recurrence_weekday O day_1) fun n13 =>
  grd (okI .i64 ((O .sub n13 start_1))) <|
  Option.bind (m_integer_Mod O ((O .sub n13 start_1)) 7) fun n14 =>
  grd (okI .i64 ((O .sub day_1 n14))) <|
  (some (O .sub day_1 n14))
def m_civil_inside (O : Ops) (day_1 : Int) : Option (Bool) :=
  Option.bind (
    bif (O .le (-719162) day_1) then
      (some (O .lt day_1 2932897))
    else
      (some false) : Option ((Bool))) fun x83 =>
  (some x83)
def m_civil_count (O : Ops) (y_1 : Int) (m_1 : Int) (d_1 : Int) : Option (Int) :=
  Option.bind (
    bif (O .le m_1 2) then
      grd (okI .i64 ((O .sub y_1 1))) <|
      grd (okI .i64 ((O .add m_1 12))) <|
      (some ((O .sub y_1 1), (O .add m_1 12)))
    else
      (some (y_1, m_1)) : Option ((Int × Int))) fun (y3, m2) =>
  grd (okI .i64 ((O .mul 365 y3))) <|
  grd (okNz 4) <|
  grd (okI .i64 ((O .quo y3 4))) <|
  grd (okI .i64 ((O .add (O .mul 365 y3) (O .quo y3 4)))) <|
  grd (okNz 100) <|
  grd (okI .i64 ((O .quo y3 100))) <|
  grd (okI .i64 ((O .sub (O .add (O .mul 365 y3) (O .quo y3 4)) (O .quo y3 100)))) <|
  grd (okNz 400) <|
  grd (okI .i64 ((O .quo y3 400))) <|
  grd (okI .i64 ((O .add (O .sub (O .add (O .mul 365 y3) (O .quo y3 4)) (O .quo y3 100)) (O .quo y3 400)))) <|
  grd (okI .i64 ((O .sub m2 3))) <|
  grd (okI .i64 ((O .mul 153 (O .sub m2 3)))) <|
  grd (okI .i64 ((O .add (O .mul 153 (O .sub m2 3)) 2))) <|
  grd (okNz 5) <|
  grd (okI .i64 ((O .quo (O .add (O .mul 153 (O .sub m2 3)) 2) 5))) <|
  grd (okI .i64 ((O .add (O .add (O .sub (O .add (O .mul 365 y3) (O .quo y3 4)) (O .quo y3 100)) (O .quo y3 400)) (O .quo (O .add (O .mul 153 (O .sub m2 3)) 2) 5)))) <|
  grd (okI .i64 ((O .add (O .add (O .add (O .sub (O .add (O .mul 365 y3) (O .quo y3 4)) (O .quo y3 100)) (O .quo y3 400)) (O .quo (O .add (O .mul 153 (O .sub m2 3)) 2) 5)) d_1))) <|
  grd (okI .i64 ((O .sub (O .add (O .add (O .add (O .sub (O .add (O .mul 365 y3) (O .quo y3 4)) (O .quo y3 100)) (O .quo y3 400)) (O .quo (O .add (O .mul 153 (O .sub m2 3)) 2) 5)) d_1) 307))) <|
  grd (okI .i64 ((O .add (O .sub (O .add (O .add (O .add (O .sub (O .add (O .mul 365 y3) (O .quo y3 4)) (O .quo y3 100)) (O .quo y3 400)) (O .quo (O .add (O .mul 153 (O .sub m2 3)) 2) 5)) d_1) 307) (-719162)))) <|
  (some (O .add (O .sub (O .add (O .add (O .add (O .sub (O .add (O .mul 365 y3) (O .quo y3 4)) (O .quo y3 100)) (O .quo y3 400)) (O .quo (O .add (O .mul 153 (O .sub m2 3)) 2) 5)) d_1) 307) (-719162)))
def m_civil_Date_L1 (O : Ops) (day_1 : Int) : (Int) → Option ((Int) ⊕ (Int)) := fun y1 =>
  Option.bind (
    bif (O .lt y1 9999) then
      grd (okI .i64 ((O .add y1 1))) <|
      Option.bind (m_civil_count O ((O .add y1 1)) 1 1) fun n19 =>
      (some (O .le n19 day_1))
    else
      (some false) : Option ((Bool))) fun x85 =>
  bif x85 then
    grd (okI .i64 ((O .add y1 1))) <|
    (some (Sum.inl (O .add y1 1)))
  else
    (some (Sum.inr y1))
def m_civil_Date_L2 (O : Ops) (day_1 : Int) (y4 : Int) : (Int) → Option ((Int) ⊕ (Int)) := fun m3 =>
  Option.bind (
    bif (O .lt m3 12) then
      grd (okI .i64 ((O .add m3 1))) <|
      Option.bind (m_civil_count O y4 ((O .add m3 1)) 1) fun n20 =>
      (some (O .le n20 day_1))
    else
      (some false) : Option ((Bool))) fun x87 =>
  bif x87 then
    grd (okI .i64 ((O .add m3 1))) <|
    (some (Sum.inl (O .add m3 1)))
  else
    (some (Sum.inr m3))
def m_civil_Date (O : Ops) (day_1 : Int) : Option (Int × Int × Int × Int) :=
  Option.bind (m_civil_inside O day_1) fun b15 =>
  bif (O .not b15) then
    (some (0, 0, 0, 2))
  else
    grd (okI .i64 ((O .sub day_1 (-719162)))) <|
    grd (okNz 366) <|
    grd (okI .i64 ((O .quo (O .sub day_1 (-719162)) 366))) <|
    grd (okI .i64 ((O .add (O .quo (O .sub day_1 (-719162)) 366) 1))) <|
    Option.bind (loop (m_civil_Date_L1 O day_1) (O .add (O .quo (O .sub day_1 (-719162)) 366) 1)) fun y4 =>
    Option.bind (loop (m_civil_Date_L2 O day_1 y4) 1) fun m4 =>
    Option.bind (m_civil_count O y4 m4 1) fun n21 =>
    grd (okI .i64 ((O .sub day_1 n21))) <|
    grd (okI .i64 ((O .add (O .sub day_1 n21) 1))) <|
    (some (y4, m4, (O .add (O .sub day_1 n21) 1), 0))
def m_recurrence_newYear (O : Ops) (year_1 : Int) : Option (Int) :=
  grd (okI .i64 ((O .sub year_1 1))) <|
  grd (okI .i64 ((O .mul 365 (O .sub year_1 1)))) <|
  grd (okI .i64 ((O .add (-719162) (O .mul 365 (O .sub year_1 1))))) <|
  Option.bind (m_integer_Floor O ((O .sub year_1 1)) 4) fun n26 =>
  grd (okI .i64 ((O .add (O .add (-719162) (O .mul 365 (O .sub year_1 1))) n26))) <|
  Option.bind (m_integer_Floor O ((O .sub year_1 1)) 100) fun n27 =>
  grd (okI .i64 ((O .sub (O .add (O .add (-719162) (O .mul 365 (O .sub year_1 1))) n26) n27))) <|
  Option.bind (m_integer_Floor O ((O .sub year_1 1)) 400) fun n28 =>
  grd (okI .i64 ((O .add (O .sub (O .add (O .add (-719162) (O .mul 365 (O .sub year_1 1))) n26) n27) n28))) <|
  (some (O .add (O .sub (O .add (O .add (-719162) (O .mul 365 (O .sub year_1 1))) n26) n27) n28))
def m_recurrence_weekYear (O : Ops) (day_1 : Int) (start_1 : Int) : Option (Int) :=
  Option.bind (m_recurrence_week O day_1 start_1) fun n18 =>
  grd (okI .i64 ((O .add n18 3))) <|
  Option.bind (m_civil_Date O ((O .min (O .max (O .add n18 3) (-719162)) 2932896))) fun (n22, _, _, _) =>
  Option.bind (m_recurrence_newYear O n22) fun n29 =>
  Option.bind (
    bif (O .lt (O .add n18 3) n29) then
      grd (okI .i64 ((O .sub n22 1))) <|
      (some (O .sub n22 1))
    else
      grd (okI .i64 ((O .add n22 1))) <|
      Option.bind (m_recurrence_newYear O ((O .add n22 1))) fun n30 =>
      Option.bind (
        bif (O .le n30 (O .add n18 3)) then
          (some (O .add n22 1))
        else
          (some n22) : Option ((Int))) fun x89 =>
      (some x89) : Option ((Int))) fun x91 =>
  (some x91)
def m_recurrence_number (O : Ops) (r_1 : Int) (_r_2 : Int) (_r_3 : Int) (_r_4 : Int) (r_5 : Int) (l_1 : Int) (_r_6 : List Int) (_r_7 : List Int) (_r_8 : List Int) (r_9 : List Int) (_r_10 : List (Int × Int)) (_r_11 : List Int) (_r_12 : List Int) (_r_13 : List Int) (_r_14 : List Int) : Option (Int) :=
  Option.bind (m_integer_Floor O l_1 86400) fun n11 =>
  Option.bind (
    bif (O .eq r_1 3) then
      Option.bind (m_recurrence_week O n11 r_5) fun n15 =>
      Option.bind (m_integer_Floor O n15 7) fun n16 =>
      (some (Sum.inl n16))
    else
      Option.bind (
        bif (O .eq r_1 4) then
          (some (Sum.inl n11))
        else
          bif (O .eq r_1 5) then
            Option.bind (m_integer_Floor O l_1 3600) fun n17 =>
            (some (Sum.inl n17))
          else
            (some (Sum.inr ())) : Option (((Int) ⊕ (Unit)))) fun e => match e with
      | .inl x77 =>
        (some (Sum.inl x77))
      | .inr (_) =>
        (some (Sum.inr ())) : Option (((Int) ⊕ (Unit)))) fun e => match e with
  | .inl x79 =>
    (some x79)
  | .inr (_) =>
    Option.bind (
      bif (O .eq r_1 1) then
        (some (O .lt 0 (O .ofNat (O .len .i1 r_9))))
      else
        (some false) : Option ((Bool))) fun x81 =>
    bif x81 then
      Option.bind (m_recurrence_weekYear O n11 r_5) fun n31 =>
      (some n31)
    else
      Option.bind (m_civil_Date O n11) fun (n32, n33, _, _) =>
      bif (O .eq r_1 1) then
        (some n32)
      else
        grd (okI .i64 ((O .mul 12 n32))) <|
        grd (okI .i64 ((O .add (O .mul 12 n32) n33))) <|
        (some (O .add (O .mul 12 n32) n33))
def m_slices_Index_L1 (O : Ops) (s_1 : List Int) (v_1 : Int) : (Int) → Option ((Int) ⊕ ((Int) ⊕ (Unit))) := fun x95 =>
  bif (O .lt x95 (O .ofNat (O .len .i1 s_1))) then
    grd (okIdx x95 ((O .len .i1 s_1))) <|
    grd (okKin ((O .toNat x95)) ((O .len .i1 s_1))) <|
    bif (O .eq v_1 (O .get .i1 s_1 (O .toNat x95))) then
      (some (Sum.inr (Sum.inl x95)))
    else
      grd (okI .i64 ((O .add x95 1))) <|
      (some (Sum.inl (O .add x95 1)))
  else
    (some (Sum.inr (Sum.inr ())))
def m_slices_Index (O : Ops) (v_1 : Int) (s_1 : List Int) : Option (Int) :=
  Option.bind (loop (m_slices_Index_L1 O s_1 v_1) 0) fun e => match e with
  | .inl x96 =>
    (some x96)
  | .inr (_) =>
    (some (-1))
def m_slices_Contains (O : Ops) (v_1 : Int) (s_1 : List Int) : Option (Bool) :=
  Option.bind (m_slices_Index O v_1 s_1) fun n41 =>
  (some (O .le 0 n41))
def m_recurrence_dateOf (O : Ops) (day_1 : Int) : Option (Int × Int × Int × Int × Int × Int × Int × Int) :=
  Option.bind (m_civil_Date O day_1) fun (n43, n44, n45, _) =>
  Option.bind (m_recurrence_newYear O n43) fun n47 =>
  grd (okI .i64 ((O .sub day_1 n47))) <|
  grd (okI .i64 ((O .add (O .sub day_1 n47) 1))) <|
  grd (okI .i64 ((O .add n43 1))) <|
  Option.bind (m_recurrence_newYear O ((O .add n43 1))) fun n48 =>
  grd (okI .i64 ((O .sub n48 n47))) <|
  Option.bind (m_civil_Length O n43 n44) fun n49 =>
  (some (n43, n44, n45, day_1, (O .add (O .sub day_1 n47) 1), (O .sub n48 n47), n45, n49))
def m_recurrence_filters_1 (O : Ops) (_r_1 : Int) (_r_2 : Int) (_r_3 : Int) (_r_4 : Int) (_r_5 : Int) (_x_1 : Int) (x_2 : Int) (_x_3 : Int) (_x_4 : Int) (_x_5 : Int) (_x_6 : Int) (_x_7 : Int) (_x_8 : Int) (_x_9 : Int) (_x_10 : Int) (_x_11 : Int) (_x_12 : Int) (_x_13 : Int) (_x_14 : Int) (_x_15 : Int) (_x_16 : Int) (r_6 : List Int) (_r_7 : List Int) (_r_8 : List Int) (_r_9 : List Int) (_r_10 : List (Int × Int)) (_r_11 : List Int) (_r_12 : List Int) (_r_13 : List Int) (_r_14 : List Int) : Option (Bool) :=
  Option.bind (
    bif (O .eq (O .ofNat (O .len .i1 r_6)) 0) then
      (some true)
    else
      Option.bind (m_slices_Contains O x_2 r_6) fun b17 =>
      (some b17) : Option ((Bool))) fun x98 =>
  (some x98)
def m_recurrence_counted (O : Ops) (n_1 : Int) (of_1 : Int) (l_1 : List Int) : Option (Bool) :=
  Option.bind (
    bif (O .eq (O .ofNat (O .len .i1 l_1)) 0) then
      (some true)
    else
      Option.bind (m_slices_Contains O n_1 l_1) fun b19 =>
      bif b19 then
        (some true)
      else
        grd (okI .i64 ((O .sub n_1 of_1))) <|
        grd (okI .i64 ((O .sub (O .sub n_1 of_1) 1))) <|
        Option.bind (m_slices_Contains O ((O .sub (O .sub n_1 of_1) 1)) l_1) fun b20 =>
        (some b20) : Option ((Bool))) fun x100 =>
  (some x100)
def m_recurrence_filters_2 (O : Ops) (_r_1 : Int) (_r_2 : Int) (_r_3 : Int) (_r_4 : Int) (_r_5 : Int) (_x_1 : Int) (_x_2 : Int) (_x_3 : Int) (_x_4 : Int) (_x_5 : Int) (_x_6 : Int) (x_7 : Int) (x_8 : Int) (_x_9 : Int) (_x_10 : Int) (_x_11 : Int) (_x_12 : Int) (_x_13 : Int) (_x_14 : Int) (_x_15 : Int) (_x_16 : Int) (_r_6 : List Int) (r_7 : List Int) (_r_8 : List Int) (_r_9 : List Int) (_r_10 : List (Int × Int)) (_r_11 : List Int) (_r_12 : List Int) (_r_13 : List Int) (_r_14 : List Int) : Option (Bool) :=
  Option.bind (m_recurrence_counted O x_7 x_8 r_7) fun b21 =>
  (some b21)
def m_recurrence_filters_3 (O : Ops) (_r_1 : Int) (_r_2 : Int) (_r_3 : Int) (_r_4 : Int) (_r_5 : Int) (_x_1 : Int) (_x_2 : Int) (_x_3 : Int) (_x_4 : Int) (x_5 : Int) (x_6 : Int) (_x_7 : Int) (_x_8 : Int) (_x_9 : Int) (_x_10 : Int) (_x_11 : Int) (_x_12 : Int) (_x_13 : Int) (_x_14 : Int) (_x_15 : Int) (_x_16 : Int) (_r_6 : List Int) (_r_7 : List Int) (r_8 : List Int) (_r_9 : List Int) (_r_10 : List (Int × Int)) (_r_11 : List Int) (_r_12 : List Int) (_r_13 : List Int) (_r_14 : List Int) : Option (Bool) :=
  Option.bind (m_recurrence_counted O x_5 x_6 r_8) fun b23 =>
  (some b23)
def m_recurrence_firstWeek (O : Ops) (year_1 : Int) (start_1 : Int) : Option (Int) :=
  Option.bind (m_recurrence_newYear O year_1) fun n67 =>
  grd (okI .i64 ((O .add n67 3))) <|
  Option.bind (m_recurrence_week O ((O .add n67 3)) start_1) fun n68 =>
  (some n68)
def m_recurrence_filters_4 (O : Ops) (_r_1 : Int) (_r_2 : Int) (_r_3 : Int) (_r_4 : Int) (r_5 : Int) (_x_1 : Int) (_x_2 : Int) (_x_3 : Int) (x_4 : Int) (_x_5 : Int) (_x_6 : Int) (_x_7 : Int) (_x_8 : Int) (_x_9 : Int) (_x_10 : Int) (_x_11 : Int) (_x_12 : Int) (_x_13 : Int) (_x_14 : Int) (_x_15 : Int) (_x_16 : Int) (_r_6 : List Int) (_r_7 : List Int) (_r_8 : List Int) (r_9 : List Int) (_r_10 : List (Int × Int)) (_r_11 : List Int) (_r_12 : List Int) (_r_13 : List Int) (_r_14 : List Int) : Option (Bool) :=
  bif (O .eq (O .ofNat (O .len .i1 r_9)) 0) then
    (some true)
  else
    Option.bind (m_recurrence_weekYear O x_4 r_5) fun n66 =>
    Option.bind (m_recurrence_firstWeek O n66 r_5) fun n69 =>
    grd (okI .i64 ((O .sub x_4 n69))) <|
    grd (okNz 7) <|
    grd (okI .i64 ((O .quo (O .sub x_4 n69) 7))) <|
    grd (okI .i64 ((O .add (O .quo (O .sub x_4 n69) 7) 1))) <|
    grd (okI .i64 ((O .add n66 1))) <|
    Option.bind (m_recurrence_firstWeek O ((O .add n66 1)) r_5) fun n70 =>
    grd (okI .i64 ((O .sub n70 n69))) <|
    grd (okI .i64 ((O .quo (O .sub n70 n69) 7))) <|
    Option.bind (m_recurrence_counted O ((O .add (O .quo (O .sub x_4 n69) 7) 1)) ((O .quo (O .sub n70 n69) 7)) r_9) fun b25 =>
    (some b25)
def m_recurrence_nth_1 (O : Ops) (o_1 : Int) (o_2 : Int) (x_1 : Int) (x_2 : Int) (x_3 : Int) : Option (Bool) :=
  Option.bind (
    bif (O .eq o_2 x_1) then
      bif (O .eq o_1 0) then
        (some true)
      else
        bif (O .eq o_1 (O .add (O .quo (O .sub x_2 1) 7) 1)) then
          grd (okI .i64 ((O .sub x_2 1))) <|
          grd (okNz 7) <|
          grd (okI .i64 ((O .quo (O .sub x_2 1) 7))) <|
          grd (okI .i64 ((O .add (O .quo (O .sub x_2 1) 7) 1))) <|
          (some true)
        else
          grd (okI .i64 ((O .sub x_2 1))) <|
          grd (okNz 7) <|
          grd (okI .i64 ((O .quo (O .sub x_2 1) 7))) <|
          grd (okI .i64 ((O .add (O .quo (O .sub x_2 1) 7) 1))) <|
          grd (okI .i64 ((O .sub x_3 x_2))) <|
          grd (okI .i64 ((O .quo (O .sub x_3 x_2) 7))) <|
          grd (okI .i64 ((O .add (O .quo (O .sub x_3 x_2) 7) 1))) <|
          grd (okI .i64 ((O .sub 0 (O .add (O .quo (O .sub x_3 x_2) 7) 1)))) <|
          (some (O .eq o_1 (O .sub 0 (O .add (O .quo (O .sub x_3 x_2) 7) 1))))
    else
      (some false) : Option ((Bool))) fun x106 =>
  (some x106)
def m_slices_IndexFunc_2_L1 (O : Ops) (c_1 : Int) (c_2 : Int) (c_3 : Int) (s_1 : List (Int × Int)) : (Int) → Option ((Int) ⊕ ((Int) ⊕ (Unit))) := fun x103 =>
  bif (O .lt x103 (O .ofNat (O .len .i2 s_1))) then
    grd (okIdx x103 ((O .len .i2 s_1))) <|
    grd (okKin ((O .toNat x103)) ((O .len .i2 s_1))) <|
    Option.bind (m_recurrence_nth_1 O (((O .get .i2 s_1 (O .toNat x103))).1) (((O .get .i2 s_1 (O .toNat x103))).2) c_1 c_2 c_3) fun b27 =>
    bif b27 then
      (some (Sum.inr (Sum.inl x103)))
    else
      grd (okI .i64 ((O .add x103 1))) <|
      (some (Sum.inl (O .add x103 1)))
  else
    (some (Sum.inr (Sum.inr ())))
def m_slices_IndexFunc_2 (O : Ops) (s_1 : List (Int × Int)) (c_1 : Int) (c_2 : Int) (c_3 : Int) : Option (Int) :=
  Option.bind (loop (m_slices_IndexFunc_2_L1 O c_1 c_2 c_3 s_1) 0) fun e => match e with
  | .inl x107 =>
    (some x107)
  | .inr (_) =>
    (some (-1))
def m_slices_ContainsFunc_2 (O : Ops) (s_1 : List (Int × Int)) (c_1 : Int) (c_2 : Int) (c_3 : Int) : Option (Bool) :=
  Option.bind (m_slices_IndexFunc_2 O s_1 c_1 c_2 c_3) fun n72 =>
  (some (O .le 0 n72))
def m_recurrence_nth (O : Ops) (w_1 : Int) (n_1 : Int) (of_1 : Int) (l_1 : List (Int × Int)) : Option (Bool) :=
  Option.bind (
    bif (O .eq (O .ofNat (O .len .i2 l_1)) 0) then
      (some true)
    else
      Option.bind (m_slices_ContainsFunc_2 O l_1 w_1 n_1 of_1) fun b28 =>
      (some b28) : Option ((Bool))) fun x109 =>
  (some x109)
def m_recurrence_filters_5 (O : Ops) (r_1 : Int) (_r_2 : Int) (_r_3 : Int) (_r_4 : Int) (_r_5 : Int) (_x_1 : Int) (_x_2 : Int) (_x_3 : Int) (x_4 : Int) (x_5 : Int) (x_6 : Int) (x_7 : Int) (x_8 : Int) (_x_9 : Int) (_x_10 : Int) (_x_11 : Int) (_x_12 : Int) (_x_13 : Int) (_x_14 : Int) (_x_15 : Int) (_x_16 : Int) (r_6 : List Int) (_r_7 : List Int) (_r_8 : List Int) (_r_9 : List Int) (r_10 : List (Int × Int)) (_r_11 : List Int) (_r_12 : List Int) (_r_13 : List Int) (_r_14 : List Int) : Option (Bool) :=
  Option.bind (
    bif (O .eq r_1 2) then
      (some true)
    else
      (some (O .lt 0 (O .ofNat (O .len .i1 r_6)))) : Option ((Bool))) fun x102 =>
  bif x102 then
    Option.bind (m_recurrence_weekday O x_4) fun n71 =>
    Option.bind (m_recurrence_nth O n71 x_7 x_8 r_10) fun b29 =>
    (some b29)
  else
    Option.bind (m_recurrence_weekday O x_4) fun n73 =>
    Option.bind (m_recurrence_nth O n73 x_5 x_6 r_10) fun b30 =>
    (some b30)
def m_recurrence_filters_6 (O : Ops) (r_1 : Int) (_r_2 : Int) (_r_3 : Int) (_r_4 : Int) (_r_5 : Int) (_x_1 : Int) (x_2 : Int) (x_3 : Int) (x_4 : Int) (_x_5 : Int) (_x_6 : Int) (_x_7 : Int) (_x_8 : Int) (_start_1 : Int) (start_2 : Int) (start_3 : Int) (start_4 : Int) (_start_5 : Int) (_start_6 : Int) (_start_7 : Int) (_start_8 : Int) (r_6 : List Int) (r_7 : List Int) (r_8 : List Int) (r_9 : List Int) (r_10 : List (Int × Int)) (_r_11 : List Int) (_r_12 : List Int) (_r_13 : List Int) (_r_14 : List Int) : Option (Bool) :=
  Option.bind (
    bif (O .lt 0 (O .ofNat (O .len .i1 r_7))) then
      (some true)
    else
      bif (O .lt 0 (O .ofNat (O .len .i1 r_8))) then
        (some true)
      else
        (some (O .lt 0 (O .ofNat (O .len .i2 r_10)))) : Option ((Bool))) fun x111 =>
  bif x111 then
    (some true)
  else
    Option.bind (m_recurrence_weekday O x_4) fun n74 =>
    Option.bind (m_recurrence_weekday O start_4) fun n75 =>
    Option.bind (
      bif (O .eq r_1 1) then
        (some (O .lt 0 (O .ofNat (O .len .i1 r_9))))
      else
        (some false) : Option ((Bool))) fun x113 =>
    Option.bind (
      bif x113 then
        (some true)
      else
        (some (O .eq r_1 3)) : Option ((Bool))) fun x115 =>
    Option.bind (
      bif x115 then
        (some (Sum.inl (O .eq n74 n75)))
      else
        Option.bind (
          bif (O .eq r_1 1) then
            Option.bind (
              bif (O .eq x_3 start_3) then
                bif (O .lt 0 (O .ofNat (O .len .i1 r_6))) then
                  (some true)
                else
                  (some (O .eq x_2 start_2))
              else
                (some false) : Option ((Bool))) fun x118 =>
            (some (Sum.inl x118))
          else
            bif (O .eq r_1 2) then
              (some (Sum.inl (O .eq x_3 start_3)))
            else
              (some (Sum.inr ())) : Option (((Bool) ⊕ (Unit)))) fun e => match e with
        | .inl x120 =>
          (some (Sum.inl x120))
        | .inr (_) =>
          (some (Sum.inr ())) : Option (((Bool) ⊕ (Unit)))) fun e => match e with
    | .inl x122 =>
      (some x122)
    | .inr (_) =>
      (some true)
def m_recurrence_passes (O : Ops) (r_1 : Int) (r_2 : Int) (r_3 : Int) (r_4 : Int) (r_5 : Int) (start_1 : Int) (start_2 : Int) (start_3 : Int) (start_4 : Int) (start_5 : Int) (start_6 : Int) (start_7 : Int) (start_8 : Int) (day_1 : Int) (r_6 : List Int) (r_7 : List Int) (r_8 : List Int) (r_9 : List Int) (r_10 : List (Int × Int)) (r_11 : List Int) (r_12 : List Int) (r_13 : List Int) (r_14 : List Int) : Option (Bool) :=
  Option.bind (m_recurrence_dateOf O day_1) fun (n58, n59, n60, n61, n62, n63, n64, n65) =>
  Option.bind (m_recurrence_filters_1 O r_1 r_2 r_3 r_4 r_5 n58 n59 n60 n61 n62 n63 n64 n65 start_1 start_2 start_3 start_4 start_5 start_6 start_7 start_8 r_6 r_7 r_8 r_9 r_10 r_11 r_12 r_13 r_14) fun b18 =>
  bif (O .not b18) then
    (some false)
  else
    grd (okI .i64 ((O .add 0 1))) <|
    Option.bind (m_recurrence_filters_2 O r_1 r_2 r_3 r_4 r_5 n58 n59 n60 n61 n62 n63 n64 n65 start_1 start_2 start_3 start_4 start_5 start_6 start_7 start_8 r_6 r_7 r_8 r_9 r_10 r_11 r_12 r_13 r_14) fun b22 =>
    bif (O .not b22) then
      (some false)
    else
      grd (okI .i64 ((O .add 1 1))) <|
      Option.bind (m_recurrence_filters_3 O r_1 r_2 r_3 r_4 r_5 n58 n59 n60 n61 n62 n63 n64 n65 start_1 start_2 start_3 start_4 start_5 start_6 start_7 start_8 r_6 r_7 r_8 r_9 r_10 r_11 r_12 r_13 r_14) fun b24 =>
      bif (O .not b24) then
        (some false)
      else
        grd (okI .i64 ((O .add 2 1))) <|
        Option.bind (m_recurrence_filters_4 O r_1 r_2 r_3 r_4 r_5 n58 n59 n60 n61 n62 n63 n64 n65 start_1 start_2 start_3 start_4 start_5 start_6 start_7 start_8 r_6 r_7 r_8 r_9 r_10 r_11 r_12 r_13 r_14) fun b26 =>
        bif (O .not b26) then
          (some false)
        else
          grd (okI .i64 ((O .add 3 1))) <|
          Option.bind (m_recurrence_filters_5 O r_1 r_2 r_3 r_4 r_5 n58 n59 n60 n61 n62 n63 n64 n65 start_1 start_2 start_3 start_4 start_5 start_6 start_7 start_8 r_6 r_7 r_8 r_9 r_10 r_11 r_12 r_13 r_14) fun b31 =>
          bif (O .not b31) then
            (some false)
          else
            grd (okI .i64 ((O .add 4 1))) <|
            Option.bind (m_recurrence_filters_6 O r_1 r_2 r_3 r_4 r_5 n58 n59 n60 n61 n62 n63 n64 n65 start_1 start_2 start_3 start_4 start_5 start_6 start_7 start_8 r_6 r_7 r_8 r_9 r_10 r_11 r_12 r_13 r_14) fun b32 =>
            bif (O .not b32) then
              (some false)
            else
              grd (okI .i64 ((O .add 5 1))) <|
              (some true)
def m_recurrence_Matches (O : Ops) (r_1 : Int) (r_2 : Int) (r_3 : Int) (r_4 : Int) (r_5 : Int) (start_1 : Int) (l_1 : Int) (r_6 : List Int) (r_7 : List Int) (r_8 : List Int) (r_9 : List Int) (r_10 : List (Int × Int)) (r_11 : List Int) (r_12 : List Int) (r_13 : List Int) (r_14 : List Int) : Option (Bool × Int) :=
  Option.bind (m_recurrence_given O r_1 r_2 r_3 r_4 r_5 start_1 r_6 r_7 r_8 r_9 r_10 r_11 r_12 r_13 r_14) fun n6 =>
  bif (O .not (O .eq n6 0)) then
    (some (false, n6))
  else
    Option.bind (m_recurrence_local O l_1) fun b14 =>
    bif (O .not b14) then
      (some (false, 2))
    else
      Option.bind (m_integer_Floor O l_1 86400) fun n10 =>
      Option.bind (
        bif (O .lt l_1 start_1) then
          (some true)
        else
          bif (O .not (O .eq r_4 0)) then
            bif (O .lt r_4 l_1) then
              (some true)
            else
              Option.bind (m_recurrence_number O r_1 r_2 r_3 r_4 r_5 l_1 r_6 r_7 r_8 r_9 r_10 r_11 r_12 r_13 r_14) fun n36 =>
              Option.bind (m_recurrence_number O r_1 r_2 r_3 r_4 r_5 start_1 r_6 r_7 r_8 r_9 r_10 r_11 r_12 r_13 r_14) fun n37 =>
              grd (okI .i64 ((O .sub n36 n37))) <|
              grd (okNz r_2) <|
              (some (O .not (O .eq (O .rem (O .sub n36 n37) r_2) 0)))
          else
            Option.bind (m_recurrence_number O r_1 r_2 r_3 r_4 r_5 l_1 r_6 r_7 r_8 r_9 r_10 r_11 r_12 r_13 r_14) fun n38 =>
            Option.bind (m_recurrence_number O r_1 r_2 r_3 r_4 r_5 start_1 r_6 r_7 r_8 r_9 r_10 r_11 r_12 r_13 r_14) fun n39 =>
            grd (okI .i64 ((O .sub n38 n39))) <|
            grd (okNz r_2) <|
            (some (O .not (O .eq (O .rem (O .sub n38 n39) r_2) 0))) : Option ((Bool))) fun x94 =>
      bif x94 then
        (some (false, 0))
      else
        Option.bind (
          Option.bind (m_recurrence_times O r_1 r_2 r_3 r_4 r_5 start_1 r_6 r_7 r_8 r_9 r_10 r_11 r_12 r_13 r_14) fun l27 =>
          Option.bind (m_integer_Mod O l_1 86400) fun n40 =>
          Option.bind (m_slices_Contains O n40 l27) fun b16 =>
          bif (O .not b16) then
            (some true)
          else
            Option.bind (m_integer_Floor O start_1 86400) fun n42 =>
            Option.bind (m_recurrence_dateOf O n42) fun (n50, n51, n52, n53, n54, n55, n56, n57) =>
            Option.bind (m_recurrence_passes O r_1 r_2 r_3 r_4 r_5 n50 n51 n52 n53 n54 n55 n56 n57 n10 r_6 r_7 r_8 r_9 r_10 r_11 r_12 r_13 r_14) fun b33 =>
            (some (O .not b33)) : Option ((Bool))) fun x124 =>
        bif x124 then
          (some (false, 0))
        else
          bif (O .eq (O .ofNat (O .len .i1 r_14)) 0) then
            (some (true, 0))
          else
            Option.bind (m_recurrence_place O r_1 r_2 r_3 r_4 r_5 start_1 l_1 r_6 r_7 r_8 r_9 r_10 r_11 r_12 r_13 r_14) fun (n76, n77) =>
            Option.bind (m_recurrence_counted O n76 n77 r_14) fun b34 =>
            (some (b34, 0))
def m_law29_awake (O : Ops) : Option (Bool) :=
  Option.bind (m_recurrence_Matches O 4 2 0 0 1 0 345600 (([] : List Int)) (([] : List Int)) (([] : List Int)) (([] : List Int)) (([] : List (Int × Int))) (([] : List Int)) (([] : List Int)) (([] : List Int)) (([] : List Int))) fun (b35, n78) =>
  Option.bind (m_recurrence_Matches O 2 1 0 0 1 0 2505600 (([] : List Int)) (([] : List Int)) (([] : List Int)) (([] : List Int)) ([((-1), 5)]) (([] : List Int)) (([] : List Int)) (([] : List Int)) (([] : List Int))) fun (b36, n79) =>
  Option.bind (
    bif b35 then
      bif (O .eq n78 0) then
        bif b36 then
          (some (O .eq n79 0))
        else
          (some false)
      else
        (some false)
    else
      (some false) : Option ((Bool))) fun x128 =>
  (some x128)
def m_law29_long (O : Ops) (_r_1 : Int) (_r_2 : Int) (_r_3 : Int) (_r_4 : Int) (_r_5 : Int) (r_6 : List Int) (r_7 : List Int) (r_8 : List Int) (r_9 : List Int) (r_10 : List (Int × Int)) (r_11 : List Int) (r_12 : List Int) (r_13 : List Int) (r_14 : List Int) : Option (Bool) :=
  Option.bind (
    bif (O .lt 100 (O .ofNat (O .len .i1 r_6))) then
      (some true)
    else
      bif (O .lt 100 (O .ofNat (O .len .i1 r_7))) then
        (some true)
      else
        bif (O .lt 100 (O .ofNat (O .len .i1 r_8))) then
          (some true)
        else
          bif (O .lt 100 (O .ofNat (O .len .i1 r_9))) then
            (some true)
          else
            bif (O .lt 100 (O .ofNat (O .len .i2 r_10))) then
              (some true)
            else
              bif (O .lt 100 (O .ofNat (O .len .i1 r_11))) then
                (some true)
              else
                bif (O .lt 100 (O .ofNat (O .len .i1 r_12))) then
                  (some true)
                else
                  bif (O .lt 100 (O .ofNat (O .len .i1 r_13))) then
                    (some true)
                  else
                    (some (O .lt 100 (O .ofNat (O .len .i1 r_14)))) : Option ((Bool))) fun x171 =>
  (some x171)
def m_ref29_days_L1 (O : Ops) (r_1 : Int) (r_10 : List (Int × Int)) : (Int) → Option ((Int) ⊕ ((Unit) ⊕ (Unit))) := fun i2 =>
  bif (O .lt i2 (O .ofNat (O .len .i2 r_10))) then
    grd (okIdx i2 ((O .len .i2 r_10))) <|
    grd (okKin ((O .toNat i2)) ((O .len .i2 r_10))) <|
    Option.bind (
      bif (O .lt ((O .get .i2 r_10 (O .toNat i2))).2 1) then
        (some true)
      else
        bif (O .lt 7 ((O .get .i2 r_10 (O .toNat i2))).2) then
          (some true)
        else
          bif (O .lt ((O .get .i2 r_10 (O .toNat i2))).1 (-53)) then
            (some true)
          else
            bif (O .lt 53 ((O .get .i2 r_10 (O .toNat i2))).1) then
              (some true)
            else
              bif (O .not (O .eq ((O .get .i2 r_10 (O .toNat i2))).1 0)) then
                bif (O .not (O .eq r_1 1)) then
                  (some (O .not (O .eq r_1 2)))
                else
                  (some false)
              else
                (some false) : Option ((Bool))) fun x186 =>
    bif x186 then
      (some (Sum.inr (Sum.inl ())))
    else
      grd (okI .i64 ((O .add i2 1))) <|
      (some (Sum.inl (O .add i2 1)))
  else
    (some (Sum.inr (Sum.inr ())))
def m_ref01_Div (O : Ops) (a_1 : Int) (b_1 : Int) : Option (Int × Int × Int) :=
  bif (O .eq b_1 0) then
    (some (0, 0, 10))
  else
    Option.bind (
      bif (O .eq a_1 (-9223372036854775808)) then
        (some (O .eq b_1 (-1)))
      else
        (some false) : Option ((Bool))) fun x207 =>
    bif x207 then
      (some (0, 0, 9))
    else
      grd (okNz b_1) <|
      grd (okI .i64 ((O .quo a_1 b_1))) <|
      Option.bind (
        bif (O .not (O .eq (O .rem a_1 b_1) 0)) then
          (some (O .not (O .beq (O .lt (O .rem a_1 b_1) 0) (O .lt b_1 0))))
        else
          (some false) : Option ((Bool))) fun x209 =>
      Option.bind (
        bif x209 then
          grd (okI .i64 ((O .sub (O .quo a_1 b_1) 1))) <|
          grd (okI .i64 ((O .add (O .rem a_1 b_1) b_1))) <|
          (some ((O .sub (O .quo a_1 b_1) 1), (O .add (O .rem a_1 b_1) b_1)))
        else
          (some ((O .quo a_1 b_1), (O .rem a_1 b_1))) : Option ((Int × Int))) fun (q4, r4) =>
      (some (q4, r4, 0))
def m_ref01_Floor (O : Ops) (a_1 : Int) (b_1 : Int) : Option (Int) :=
  Option.bind (m_ref01_Div O a_1 b_1) fun (n109, _, _) =>
  (some n109)
def m_ref05_Right (O : Ops) (day_1 : Int) : Option (Bool) :=
  Option.bind (
    bif (O .le (-719162) day_1) then
      (some (O .lt day_1 2932897))
    else
      (some false) : Option ((Bool))) fun x211 =>
  (some x211)
def m_ref05_Length (O : Ops) (year_1 : Int) (month_1 : Int) : Option (Int) :=
  Option.bind (
    bif (O .lt year_1 1) then
      (some true)
    else
      bif (O .lt 9999 year_1) then
        (some true)
      else
        bif (O .lt month_1 1) then
          (some true)
        else
          (some (O .lt 12 month_1)) : Option ((Bool))) fun x215 =>
  bif x215 then
    (some 0)
  else
    Option.bind (
      bif (O .eq month_1 2) then
        grd (okNz 4) <|
        bif (O .eq (O .rem year_1 4) 0) then
          (some (Sum.inl 29))
        else
          (some (Sum.inl 28))
      else
        (some (Sum.inr ())) : Option (((Int) ⊕ (Unit)))) fun e => match e with
    | .inl x217 =>
      (some x217)
    | .inr (_) =>
      Option.bind (
        bif (O .eq month_1 4) then
          (some true)
        else
          bif (O .eq month_1 6) then
            (some true)
          else
            bif (O .eq month_1 9) then
              (some true)
            else
              (some (O .eq month_1 11)) : Option ((Bool))) fun x219 =>
      bif x219 then
        (some 30)
      else
        (some 31)
def m_ref05_Date_L1 (O : Ops) : (Int × Int × Int) → Option ((Int × Int × Int) ⊕ (Int × Int)) := fun (n113, year1, k5) =>
  Option.bind (
    bif (O .lt k5 3) then
      (some (O .le 365 n113))
    else
      (some false) : Option ((Bool))) fun x213 =>
  bif x213 then
    grd (okI .i64 ((O .add year1 1))) <|
    grd (okI .i64 ((O .sub n113 365))) <|
    grd (okI .i64 ((O .add k5 1))) <|
    (some (Sum.inl ((O .sub n113 365), (O .add year1 1), (O .add k5 1))))
  else
    (some (Sum.inr (n113, year1)))
def m_ref05_Date_L2 (O : Ops) (year2 : Int) : (Int × Int) → Option ((Int × Int) ⊕ (Int × Int)) := fun (n115, month1) =>
  Option.bind (m_ref05_Length O year2 month1) fun n116 =>
  bif (O .le n116 n115) then
    Option.bind (m_ref05_Length O year2 month1) fun n117 =>
    grd (okI .i64 ((O .sub n115 n117))) <|
    grd (okI .i64 ((O .add month1 1))) <|
    (some (Sum.inl ((O .sub n115 n117), (O .add month1 1))))
  else
    (some (Sum.inr (n115, month1)))
def m_ref05_Date (O : Ops) (day_1 : Int) : Option (Int × Int × Int × Int) :=
  Option.bind (m_ref05_Right O day_1) fun b64 =>
  bif (O .not b64) then
    (some (0, 0, 0, 2))
  else
    grd (okI .i64 ((O .sub day_1 (-719164)))) <|
    grd (okNz 1461) <|
    grd (okI .i64 ((O .quo (O .sub day_1 (-719164)) 1461))) <|
    grd (okI .i64 ((O .mul 4 (O .quo (O .sub day_1 (-719164)) 1461)))) <|
    grd (okI .i64 ((O .add (O .mul 4 (O .quo (O .sub day_1 (-719164)) 1461)) 1))) <|
    Option.bind (loop (m_ref05_Date_L1 O) ((O .rem (O .sub day_1 (-719164)) 1461), (O .add (O .mul 4 (O .quo (O .sub day_1 (-719164)) 1461)) 1), 0)) fun (n114, year2) =>
    Option.bind (loop (m_ref05_Date_L2 O year2) (n114, 1)) fun (n118, month2) =>
    grd (okI .i64 ((O .add n118 1))) <|
    (some (year2, month2, (O .add n118 1), 0))
def m_ref05_leap (O : Ops) (year_1 : Int) : Option (Bool) :=
  Option.bind (
    bif (O .eq (O .rem year_1 4) 0) then
      bif (O .not (O .eq (O .rem year_1 100) 0)) then
        grd (okNz 4) <|
        grd (okNz 100) <|
        (some true)
      else
        grd (okNz 4) <|
        grd (okNz 100) <|
        grd (okNz 400) <|
        (some (O .eq (O .rem year_1 400) 0))
    else
      grd (okNz 4) <|
      (some false) : Option ((Bool))) fun x222 =>
  (some x222)
def m_ref05_Leap (O : Ops) (year_1 : Int) : Option (Bool) :=
  Option.bind (
    bif (O .le 1 year_1) then
      bif (O .le year_1 9999) then
        grd (okNz 4) <|
        (some (O .eq (O .rem year_1 4) 0))
      else
        (some false)
    else
      (some false) : Option ((Bool))) fun x230 =>
  (some x230)
def m_ref05_Gregorian_L1 (O : Ops) (d_1 : Int) (d_2 : Int) : (Int × Int) → Option ((Int × Int) ⊕ (Int)) := fun (n124, m5) =>
  bif (O .lt m5 d_2) then
    Option.bind (m_ref05_Length O d_1 m5) fun n125 =>
    grd (okI .i64 ((O .add n124 n125))) <|
    grd (okI .i64 ((O .add m5 1))) <|
    (some (Sum.inl ((O .add n124 n125), (O .add m5 1))))
  else
    (some (Sum.inr n124))
def m_ref05_Gregorian (O : Ops) (d_1 : Int) (d_2 : Int) (d_3 : Int) : Option (Int × Bool) :=
  Option.bind (m_ref05_Length O d_1 d_2) fun n123 =>
  Option.bind (
    bif (O .eq d_2 2) then
      Option.bind (m_ref05_leap O d_1) fun b65 =>
      bif (O .not b65) then
        (some (O .lt 0 n123))
      else
        (some false)
    else
      (some false) : Option ((Bool))) fun x225 =>
  Option.bind (
    bif x225 then
      (some 28)
    else
      (some n123) : Option ((Int))) fun long2 =>
  Option.bind (
    bif (O .lt d_3 1) then
      (some true)
    else
      (some (O .lt long2 d_3)) : Option ((Bool))) fun x227 =>
  bif x227 then
    (some (0, false))
  else
    grd (okI .i64 ((O .sub d_1 1))) <|
    grd (okI .i64 ((O .mul 365 (O .sub d_1 1)))) <|
    grd (okI .i64 ((O .add (-719162) (O .mul 365 (O .sub d_1 1))))) <|
    grd (okNz 4) <|
    grd (okI .i64 ((O .quo (O .sub d_1 1) 4))) <|
    grd (okI .i64 ((O .add (O .add (-719162) (O .mul 365 (O .sub d_1 1))) (O .quo (O .sub d_1 1) 4)))) <|
    grd (okNz 100) <|
    grd (okI .i64 ((O .quo (O .sub d_1 1) 100))) <|
    grd (okI .i64 ((O .sub (O .add (O .add (-719162) (O .mul 365 (O .sub d_1 1))) (O .quo (O .sub d_1 1) 4)) (O .quo (O .sub d_1 1) 100)))) <|
    grd (okNz 400) <|
    grd (okI .i64 ((O .quo (O .sub d_1 1) 400))) <|
    grd (okI .i64 ((O .add (O .sub (O .add (O .add (-719162) (O .mul 365 (O .sub d_1 1))) (O .quo (O .sub d_1 1) 4)) (O .quo (O .sub d_1 1) 100)) (O .quo (O .sub d_1 1) 400)))) <|
    Option.bind (loop (m_ref05_Gregorian_L1 O d_1 d_2) ((O .add (O .sub (O .add (O .add (-719162) (O .mul 365 (O .sub d_1 1))) (O .quo (O .sub d_1 1) 4)) (O .quo (O .sub d_1 1) 100)) (O .quo (O .sub d_1 1) 400)), 1)) fun n126 =>
    Option.bind (
      bif (O .lt 2 d_2) then
        Option.bind (m_ref05_Leap O d_1) fun b66 =>
        bif b66 then
          Option.bind (m_ref05_leap O d_1) fun b67 =>
          (some (O .not b67))
        else
          (some false)
      else
        (some false) : Option ((Bool))) fun x233 =>
    Option.bind (
      bif x233 then
        grd (okI .i64 ((O .sub n126 1))) <|
        (some (O .sub n126 1))
      else
        (some n126) : Option ((Int))) fun n128 =>
    grd (okI .i64 ((O .add n128 d_3))) <|
    grd (okI .i64 ((O .sub (O .add n128 d_3) 1))) <|
    (some ((O .sub (O .add n128 d_3) 1), true))
def m_ref05_first (O : Ops) (year_1 : Int) : Option (Int) :=
  Option.bind (m_ref05_Gregorian O year_1 1 1) fun (n129, _) =>
  (some n129)
def m_ref05_Fields_L1 (O : Ops) (day_1 : Int) : (Int) → Option ((Int) ⊕ (Int)) := fun year4 =>
  Option.bind (
    bif (O .lt 9999 year4) then
      (some true)
    else
      Option.bind (m_ref05_first O year4) fun n131 =>
      (some (O .lt day_1 n131)) : Option ((Bool))) fun x237 =>
  bif x237 then
    grd (okI .i64 ((O .sub year4 1))) <|
    (some (Sum.inl (O .sub year4 1)))
  else
    (some (Sum.inr year4))
def m_ref05_Fields_L2 (O : Ops) (day_1 : Int) (year5 : Int) : (Int) → Option ((Int) ⊕ (Int × Int)) := fun month3 =>
  Option.bind (m_ref05_Gregorian O year5 month3 1) fun (n132, _) =>
  bif (O .le n132 day_1) then
    grd (okI .i64 ((O .sub day_1 n132))) <|
    grd (okI .i64 ((O .add (O .sub day_1 n132) 1))) <|
    (some (Sum.inr (month3, (O .add (O .sub day_1 n132) 1))))
  else
    grd (okI .i64 ((O .sub month3 1))) <|
    (some (Sum.inl (O .sub month3 1)))
def m_ref05_Fields (O : Ops) (day_1 : Int) : Option (Int × Int × Int) :=
  Option.bind (m_ref05_Date O day_1) fun (n119, _, _, _) =>
  grd (okI .i64 ((O .add n119 1))) <|
  Option.bind (loop (m_ref05_Fields_L1 O day_1) (O .add n119 1)) fun year5 =>
  Option.bind (loop (m_ref05_Fields_L2 O day_1 year5) 12) fun (x238, x239) =>
  (some (year5, x238, x239))
def m_ref01_Mod (O : Ops) (a_1 : Int) (b_1 : Int) : Option (Int) :=
  Option.bind (m_ref01_Div O a_1 b_1) fun (_, n137, _) =>
  (some n137)
def m_ref29_Weekday (O : Ops) (day_1 : Int) : Option (Int) :=
  grd (okI .i64 ((O .add day_1 3))) <|
  Option.bind (m_ref01_Mod O ((O .add day_1 3)) 7) fun n139 =>
  grd (okI .i64 ((O .add n139 1))) <|
  (some (O .add n139 1))
def m_ref29_week (O : Ops) (day_1 : Int) (start_1 : Int) : Option (Int) :=
  Option.bind (m_ref29_Weekday O day_1) fun n140 =>
  grd (okI .i64 ((O .sub n140 start_1))) <|
  Option.bind (m_ref01_Mod O ((O .sub n140 start_1)) 7) fun n141 =>
  grd (okI .i64 ((O .sub day_1 n141))) <|
  (some (O .sub day_1 n141))
def m_ref29_NewYear (O : Ops) (year_1 : Int) : Option (Int) :=
  grd (okI .i64 ((O .sub year_1 1))) <|
  grd (okI .i64 ((O .mul 365 (O .sub year_1 1)))) <|
  grd (okI .i64 ((O .add (-719162) (O .mul 365 (O .sub year_1 1))))) <|
  Option.bind (m_ref01_Floor O ((O .sub year_1 1)) 4) fun n143 =>
  grd (okI .i64 ((O .add (O .add (-719162) (O .mul 365 (O .sub year_1 1))) n143))) <|
  Option.bind (m_ref01_Floor O ((O .sub year_1 1)) 100) fun n144 =>
  grd (okI .i64 ((O .sub (O .add (O .add (-719162) (O .mul 365 (O .sub year_1 1))) n143) n144))) <|
  Option.bind (m_ref01_Floor O ((O .sub year_1 1)) 400) fun n145 =>
  grd (okI .i64 ((O .add (O .sub (O .add (O .add (-719162) (O .mul 365 (O .sub year_1 1))) n143) n144) n145))) <|
  (some (O .add (O .sub (O .add (O .add (-719162) (O .mul 365 (O .sub year_1 1))) n143) n144) n145))
def m_ref29_firstWeek (O : Ops) (year_1 : Int) (start_1 : Int) : Option (Int) :=
  Option.bind (m_ref29_NewYear O year_1) fun n147 =>
  grd (okI .i64 ((O .add n147 3))) <|
  Option.bind (m_ref29_week O ((O .add n147 3)) start_1) fun n148 =>
  (some n148)
def m_ref29_Week_L1 (O : Ops) (n142 : Int) : (Int) → Option ((Int) ⊕ (Int)) := fun year6 =>
  grd (okI .i64 ((O .add year6 1))) <|
  Option.bind (m_ref29_NewYear O ((O .add year6 1))) fun n146 =>
  bif (O .le n146 (O .add n142 3)) then
    (some (Sum.inl (O .add year6 1)))
  else
    (some (Sum.inr year6))
def m_ref29_Week (O : Ops) (day_1 : Int) (start_1 : Int) : Option (Int × Int × Int) :=
  Option.bind (m_ref29_week O day_1 start_1) fun n142 =>
  grd (okI .i64 ((O .add n142 3))) <|
  grd (okI .i64 ((O .sub (O .add n142 3) (-719162)))) <|
  grd (okI .i64 ((O .mul (O .sub (O .add n142 3) (-719162)) 400))) <|
  grd (okNz 146097) <|
  grd (okI .i64 ((O .quo (O .mul (O .sub (O .add n142 3) (-719162)) 400) 146097))) <|
  grd (okI .i64 ((O .sub (O .quo (O .mul (O .sub (O .add n142 3) (-719162)) 400) 146097) 1))) <|
  Option.bind (loop (m_ref29_Week_L1 O n142) (O .sub (O .quo (O .mul (O .sub (O .add n142 3) (-719162)) 400) 146097) 1)) fun year7 =>
  Option.bind (m_ref29_firstWeek O year7 start_1) fun n149 =>
  grd (okI .i64 ((O .sub n142 n149))) <|
  grd (okNz 7) <|
  grd (okI .i64 ((O .quo (O .sub n142 n149) 7))) <|
  grd (okI .i64 ((O .add (O .quo (O .sub n142 n149) 7) 1))) <|
  grd (okI .i64 ((O .add year7 1))) <|
  Option.bind (m_ref29_firstWeek O ((O .add year7 1)) start_1) fun n150 =>
  grd (okI .i64 ((O .sub n150 n149))) <|
  grd (okI .i64 ((O .quo (O .sub n150 n149) 7))) <|
  (some (year7, (O .add (O .quo (O .sub n142 n149) 7) 1), (O .quo (O .sub n150 n149) 7)))
def m_ref29_Number (O : Ops) (r_1 : Int) (_r_2 : Int) (_r_3 : Int) (_r_4 : Int) (r_5 : Int) (l_1 : Int) (_r_6 : List Int) (_r_7 : List Int) (_r_8 : List Int) (r_9 : List Int) (_r_10 : List (Int × Int)) (_r_11 : List Int) (_r_12 : List Int) (_r_13 : List Int) (_r_14 : List Int) : Option (Int) :=
  Option.bind (m_ref01_Floor O l_1 86400) fun n112 =>
  Option.bind (m_ref05_Fields O n112) fun (n133, n134, _) =>
  Option.bind (
    bif (O .eq r_1 1) then
      bif (O .lt 0 (O .ofNat (O .len .i1 r_9))) then
        Option.bind (m_ref29_Week O n112 r_5) fun (n151, _, _) =>
        (some (Sum.inl n151))
      else
        (some (Sum.inl n133))
    else
      Option.bind (
        bif (O .eq r_1 2) then
          grd (okI .i64 ((O .mul 12 n133))) <|
          grd (okI .i64 ((O .add (O .mul 12 n133) n134))) <|
          (some (Sum.inl (O .add (O .mul 12 n133) n134)))
        else
          Option.bind (
            bif (O .eq r_1 3) then
              Option.bind (m_ref29_week O n112 r_5) fun n154 =>
              Option.bind (m_ref01_Floor O n154 7) fun n155 =>
              (some (Sum.inl n155))
            else
              bif (O .eq r_1 4) then
                (some (Sum.inl n112))
              else
                (some (Sum.inr ())) : Option (((Int) ⊕ (Unit)))) fun e => match e with
          | .inl x241 =>
            (some (Sum.inl x241))
          | .inr (_) =>
            (some (Sum.inr ())) : Option (((Int) ⊕ (Unit)))) fun e => match e with
      | .inl x243 =>
        (some (Sum.inl x243))
      | .inr (_) =>
        (some (Sum.inr ())) : Option (((Int) ⊕ (Unit)))) fun e => match e with
  | .inl x246 =>
    (some x246)
  | .inr (_) =>
    Option.bind (m_ref01_Floor O l_1 3600) fun n156 =>
    (some n156)
end Go.Proofs.Ytmnhfaaaaejpaaa
