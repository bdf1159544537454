/-
  Models of functions (printed by lift.py).
-/
import Derived.Test.YtmnhfaaaaejpaaaGreatManN
namespace Go.Proofs.YtmnhfaaaaejpaaaGreat
open Go.RowKit
set_option maxRecDepth 100000

def m_recurrence_local (O : Ops) (l_1 : Int) : Option (Bool) :=
  Option.bind (
    bif (O .le (-62135596800) l_1) then
      (some (O .lt l_1 253402300800))
    else
      (some false) : Option ((Bool))) fun x14 =>
  (some x14)
def m_recurrence_between_1 (O : Ops) (n_1 : Int) (x_1 : Int) (x_2 : Int) (x_3 : Bool) : Option (Bool) :=
  Option.bind (
    bif (O .lt n_1 x_1) then
      bif x_3 then
        bif (O .le (O .sub 0 x_2) n_1) then
          grd (okI .i64 ((O .sub 0 x_2))) <|
          grd (okI .i64 ((O .sub 0 x_1))) <|
          (some ((O .not (O .le n_1 (O .sub 0 x_1))), true))
        else
          grd (okI .i64 ((O .sub 0 x_2))) <|
          (some ((O .not false), true))
      else
        (some ((O .not false), false))
    else
      bif (O .lt x_2 n_1) then
        bif x_3 then
          bif (O .le (O .sub 0 x_2) n_1) then
            grd (okI .i64 ((O .sub 0 x_2))) <|
            grd (okI .i64 ((O .sub 0 x_1))) <|
            (some ((O .not (O .le n_1 (O .sub 0 x_1))), true))
          else
            grd (okI .i64 ((O .sub 0 x_2))) <|
            (some ((O .not false), true))
        else
          (some ((O .not false), false))
      else
        (some (false, x_3)) : Option ((Bool × Bool))) fun (x32, _) =>
  (some x32)
def m_slices_IndexFunc_L1 (O : Ops) (c_1 : Int) (c_2 : Int) (c_3 : Bool) (s_1 : List Int) : (Int) → Option ((Int) ⊕ ((Int) ⊕ (Unit))) := fun x20 =>
  bif (O .lt x20 (O .ofNat (O .len .i1 s_1))) then
    grd (okIdx x20 ((O .len .i1 s_1))) <|
    grd (okKin ((O .toNat x20)) ((O .len .i1 s_1))) <|
    Option.bind (m_recurrence_between_1 O ((O .get .i1 s_1 (O .toNat x20))) c_1 c_2 c_3) fun b2 =>
    bif b2 then
      (some (Sum.inr (Sum.inl x20)))
    else
      grd (okI .i64 ((O .add x20 1))) <|
      (some (Sum.inl (O .add x20 1)))
  else
    (some (Sum.inr (Sum.inr ())))
def m_slices_IndexFunc (O : Ops) (s_1 : List Int) (c_1 : Int) (c_2 : Int) (c_3 : Bool) : Option (Int) :=
  Option.bind (loop (m_slices_IndexFunc_L1 O c_1 c_2 c_3 s_1) 0) fun e => match e with
  | .inl x34 =>
    (some x34)
  | .inr (_) =>
    (some (-1))
def m_slices_ContainsFunc (O : Ops) (s_1 : List Int) (c_1 : Int) (c_2 : Int) (c_3 : Bool) : Option (Bool) :=
  Option.bind (m_slices_IndexFunc O s_1 c_1 c_2 c_3) fun n1 =>
  (some (O .le 0 n1))
def m_recurrence_between (O : Ops) (low_1 : Int) (high_1 : Int) (signed_1 : Bool) (l_1 : List Int) : Option (Bool) :=
  Option.bind (
    bif (O .le (O .ofNat (O .len .i1 l_1)) 60) then
      Option.bind (m_slices_ContainsFunc O l_1 low_1 high_1 signed_1) fun b3 =>
      (some (O .not b3))
    else
      (some false) : Option ((Bool))) fun x36 =>
  (some x36)
def m_integer_Div (O : Ops) (a_1 : Int) (b_1 : Int) : Option (Int × Int × Int) :=
  Option.bind (
    bif (O .eq b_1 0) then
      (some (Sum.inl 10))
    else
      Option.bind (
        bif (O .eq a_1 (-9223372036854775808)) then
          (some (O .eq b_1 (-1)))
        else
          (some false) : Option ((Bool))) fun x51 =>
      bif x51 then
        (some (Sum.inl 9))
      else
        (some (Sum.inr ())) : Option (((Int) ⊕ (Unit)))) fun e => match e with
  | .inl x53 =>
    (some (0, 0, x53))
  | .inr (_) =>
    grd (okNz b_1) <|
    grd (okI .i64 ((O .quo a_1 b_1))) <|
    Option.bind (
      bif (O .not (O .eq (O .rem a_1 b_1) 0)) then
        (some (O .not (O .beq (O .lt (O .rem a_1 b_1) 0) (O .lt b_1 0))))
      else
        (some false) : Option ((Bool))) fun x55 =>
    Option.bind (
      bif x55 then
        grd (okI .i64 ((O .sub (O .quo a_1 b_1) 1))) <|
        grd (okI .i64 ((O .add (O .rem a_1 b_1) b_1))) <|
        (some ((O .sub (O .quo a_1 b_1) 1), (O .add (O .rem a_1 b_1) b_1)))
      else
        (some ((O .quo a_1 b_1), (O .rem a_1 b_1))) : Option ((Int × Int))) fun (q2, r2) =>
    (some (q2, r2, 0))
def m_integer_Mod (O : Ops) (a_1 : Int) (b_1 : Int) : Option (Int) :=
  Option.bind (m_integer_Div O a_1 b_1) fun (_, n3, _) =>
  (some n3)
def m_recurrence_set (O : Ops) (l_1 : List Int) : Option (List Int) :=
  Option.bind (m_clone_i1 O l_1) fun l1 =>
  Option.bind (m_sortI O l1) fun l2 =>
  Option.bind (m_compI O l2) fun l3 =>
  (some l3)
def m_recurrence_times_1 (O : Ops) (other_1 : Int) (l_1 : List Int) : Option (List Int) :=
  bif (O .eq (O .ofNat (O .len .i1 l_1)) 0) then
    (some [other_1])
  else
    Option.bind (m_recurrence_set O l_1) fun l4 =>
    (some l4)
def m_recurrence_times_L1 (O : Ops) : (Int × List Int) → Option ((Int × List Int) ⊕ (List Int)) := fun (x59, l6) =>
  bif (O .lt x59 24) then
    grd (okRoom ((O .len .i1 l6))) <|
    grd (okRoom ((O .len .i1 [x59]))) <|
    grd (okI .i64 ((O .add x59 1))) <|
    (some (Sum.inl ((O .add x59 1), (O .app .i1 l6 [x59]))))
  else
    (some (Sum.inr l6))
def m_recurrence_times_L2 (O : Ops) (l10 : List Int) (l11 : List Int) (l9 : List Int) (x67 : Int) (x71 : Int) : (Int × List Int) → Option ((Int × List Int) ⊕ (List Int)) := fun (x73, l22) =>
  bif (O .lt x73 (O .ofNat (O .len .i1 l11))) then
    grd (okIdx x73 ((O .len .i1 l11))) <|
    grd (okKin ((O .toNat x73)) ((O .len .i1 l11))) <|
    grd (okI .i64 ((O .mul 3600 (O .get .i1 l9 (O .toNat x67))))) <|
    grd (okI .i64 ((O .mul 60 (O .get .i1 l10 (O .toNat x71))))) <|
    grd (okI .i64 ((O .add (O .mul 3600 (O .get .i1 l9 (O .toNat x67))) (O .mul 60 (O .get .i1 l10 (O .toNat x71)))))) <|
    grd (okI .i64 ((O .add (O .add (O .mul 3600 (O .get .i1 l9 (O .toNat x67))) (O .mul 60 (O .get .i1 l10 (O .toNat x71)))) (O .get .i1 l11 (O .toNat x73))))) <|
    grd (okRoom ((O .len .i1 l22))) <|
    grd (okRoom ((O .len .i1 [(O .add (O .add (O .mul 3600 (O .get .i1 l9 (O .toNat x67))) (O .mul 60 (O .get .i1 l10 (O .toNat x71)))) (O .get .i1 l11 (O .toNat x73)))]))) <|
    grd (okI .i64 ((O .add x73 1))) <|
    (some (Sum.inl ((O .add x73 1), (O .app .i1 l22 [(O .add (O .add (O .mul 3600 (O .get .i1 l9 (O .toNat x67))) (O .mul 60 (O .get .i1 l10 (O .toNat x71)))) (O .get .i1 l11 (O .toNat x73)))]))))
  else
    (some (Sum.inr l22))
def m_recurrence_times_L3 (O : Ops) (l10 : List Int) (l11 : List Int) (l9 : List Int) (x67 : Int) : (Int × List Int) → Option ((Int × List Int) ⊕ (List Int)) := fun (x71, l21) =>
  bif (O .lt x71 (O .ofNat (O .len .i1 l10))) then
    grd (okIdx x71 ((O .len .i1 l10))) <|
    grd (okKin ((O .toNat x71)) ((O .len .i1 l10))) <|
    Option.bind (loop (m_recurrence_times_L2 O l10 l11 l9 x67 x71) (0, l21)) fun l23 =>
    grd (okI .i64 ((O .add x71 1))) <|
    (some (Sum.inl ((O .add x71 1), l23)))
  else
    (some (Sum.inr l21))
def m_recurrence_times_L4 (O : Ops) (l10 : List Int) (l11 : List Int) (l9 : List Int) : (Int × List Int) → Option ((Int × List Int) ⊕ (List Int)) := fun (x67, l18) =>
  bif (O .lt x67 (O .ofNat (O .len .i1 l9))) then
    grd (okIdx x67 ((O .len .i1 l9))) <|
    grd (okKin ((O .toNat x67)) ((O .len .i1 l9))) <|
    Option.bind (loop (m_recurrence_times_L3 O l10 l11 l9 x67) (0, l18)) fun l24 =>
    grd (okI .i64 ((O .add x67 1))) <|
    (some (Sum.inl ((O .add x67 1), l24)))
  else
    (some (Sum.inr l18))
def m_recurrence_times (O : Ops) (r_1 : Int) (_r_2 : Int) (_r_3 : Int) (_r_4 : Int) (_r_5 : Int) (start_1 : Int) (_r_6 : List Int) (_r_7 : List Int) (_r_8 : List Int) (_r_9 : List Int) (_r_10 : List (Int × Int)) (r_11 : List Int) (r_12 : List Int) (r_13 : List Int) (_r_14 : List Int) : Option (List Int) :=
  Option.bind (m_integer_Mod O start_1 86400) fun n5 =>
  grd (okNz 3600) <|
  grd (okI .i64 ((O .quo n5 3600))) <|
  Option.bind (m_recurrence_times_1 O ((O .quo n5 3600)) r_11) fun l5 =>
  Option.bind (
    bif (O .eq (O .ofNat (O .len .i1 r_11)) 0) then
      (some (O .eq r_1 5))
    else
      (some false) : Option ((Bool))) fun x57 =>
  Option.bind (
    bif x57 then
      Option.bind (loop (m_recurrence_times_L1 O) (0, ([] : List Int))) fun l7 =>
      (some l7)
    else
      (some l5) : Option ((List Int))) fun l9 =>
  grd (okNz 60) <|
  grd (okI .i64 ((O .quo n5 60))) <|
  Option.bind (m_recurrence_times_1 O ((O .rem (O .quo n5 60) 60)) r_12) fun l10 =>
  Option.bind (m_recurrence_times_1 O ((O .rem n5 60)) r_13) fun l11 =>
  Option.bind (loop (m_recurrence_times_L4 O l10 l11 l9) (0, ([] : List Int))) fun l25 =>
  (some l25)
def m_recurrence_Valid_L1 (O : Ops) (r_1 : Int) (r_10 : List (Int × Int)) : (Int) → Option ((Int) ⊕ ((Unit) ⊕ (Unit))) := fun x45 =>
  bif (O .lt x45 (O .ofNat (O .len .i2 r_10))) then
    grd (okIdx x45 ((O .len .i2 r_10))) <|
    grd (okKin ((O .toNat x45)) ((O .len .i2 r_10))) <|
    Option.bind (
      bif (O .lt ((O .get .i2 r_10 (O .toNat x45))).2 1) then
        (some true)
      else
        bif (O .lt 7 ((O .get .i2 r_10 (O .toNat x45))).2) then
          (some true)
        else
          bif (O .lt ((O .get .i2 r_10 (O .toNat x45))).1 (-53)) then
            (some true)
          else
            bif (O .lt 53 ((O .get .i2 r_10 (O .toNat x45))).1) then
              (some true)
            else
              bif (O .not (O .eq ((O .get .i2 r_10 (O .toNat x45))).1 0)) then
                bif (O .not (O .eq r_1 1)) then
                  (some (O .not (O .eq r_1 2)))
                else
                  (some false)
              else
                (some false) : Option ((Bool))) fun x49 =>
    bif x49 then
      (some (Sum.inr (Sum.inl ())))
    else
      grd (okI .i64 ((O .add x45 1))) <|
      (some (Sum.inl (O .add x45 1)))
  else
    (some (Sum.inr (Sum.inr ())))
def m_recurrence_Valid (O : Ops) (r_1 : Int) (r_2 : Int) (r_3 : Int) (r_4 : Int) (r_5 : Int) (r_6 : List Int) (r_7 : List Int) (r_8 : List Int) (r_9 : List Int) (r_10 : List (Int × Int)) (r_11 : List Int) (r_12 : List Int) (r_13 : List Int) (r_14 : List Int) : Option (Bool) :=
  Option.bind (
    bif (O .lt r_1 1) then
      (some true)
    else
      (some (O .lt 5 r_1)) : Option ((Bool))) fun x2 =>
  Option.bind (
    bif x2 then
      (some true)
    else
      Option.bind (
        bif (O .lt r_2 1) then
          (some true)
        else
          (some (O .lt 1000 r_2)) : Option ((Bool))) fun x4 =>
      Option.bind (
        bif x4 then
          (some true)
        else
          Option.bind (
            bif (O .lt r_5 1) then
              (some true)
            else
              (some (O .lt 7 r_5)) : Option ((Bool))) fun x6 =>
          (some x6) : Option ((Bool))) fun x8 =>
      (some x8) : Option ((Bool))) fun x10 =>
  Option.bind (
    bif x10 then
      (some (Sum.inl ()))
    else
      Option.bind (
        bif (O .lt r_3 0) then
          (some true)
        else
          (some (O .lt 1000 r_3)) : Option ((Bool))) fun x12 =>
      Option.bind (
        bif x12 then
          (some true)
        else
          Option.bind (
            bif (O .not (O .eq r_4 0)) then
              Option.bind (m_recurrence_local O r_4) fun b1 =>
              bif (O .not b1) then
                (some true)
              else
                (some (O .not (O .eq r_3 0)))
            else
              (some false) : Option ((Bool))) fun x17 =>
          (some x17) : Option ((Bool))) fun x19 =>
      Option.bind (
        bif x19 then
          (some (Sum.inl ()))
        else
          Option.bind (
            Option.bind (m_recurrence_between O 1 12 false r_6) fun b4 =>
            bif (O .not b4) then
              (some true)
            else
              Option.bind (m_recurrence_between O 1 31 true r_7) fun b5 =>
              bif (O .not b5) then
                (some true)
              else
                Option.bind (m_recurrence_between O 1 366 true r_8) fun b6 =>
                bif (O .not b6) then
                  (some true)
                else
                  Option.bind (m_recurrence_between O 1 53 true r_9) fun b7 =>
                  (some (O .not b7)) : Option ((Bool))) fun x38 =>
          Option.bind (
            bif x38 then
              (some (Sum.inl ()))
            else
              Option.bind (
                Option.bind (m_recurrence_between O 0 23 false r_11) fun b8 =>
                bif (O .not b8) then
                  (some true)
                else
                  Option.bind (m_recurrence_between O 0 59 false r_12) fun b9 =>
                  bif (O .not b9) then
                    (some true)
                  else
                    Option.bind (m_recurrence_between O 0 59 false r_13) fun b10 =>
                    bif (O .not b10) then
                      (some true)
                    else
                      Option.bind (m_recurrence_between O 1 366 true r_14) fun b11 =>
                      (some (O .not b11)) : Option ((Bool))) fun x40 =>
              Option.bind (
                bif x40 then
                  (some (Sum.inl ()))
                else
                  Option.bind (
                    bif (O .lt 0 (O .ofNat (O .len .i1 r_9))) then
                      (some (O .not (O .eq r_1 1)))
                    else
                      (some false) : Option ((Bool))) fun x42 =>
                  Option.bind (
                    bif x42 then
                      (some true)
                    else
                      (some (O .lt 60 (O .ofNat (O .len .i2 r_10)))) : Option ((Bool))) fun x44 =>
                  bif x44 then
                    (some (Sum.inl ()))
                  else
                    (some (Sum.inr ())) : Option (((Unit) ⊕ (Unit)))) fun e => match e with
              | .inl _ =>
                (some (Sum.inl ()))
              | .inr (_) =>
                (some (Sum.inr ())) : Option (((Unit) ⊕ (Unit)))) fun e => match e with
          | .inl _ =>
            (some (Sum.inl ()))
          | .inr (_) =>
            (some (Sum.inr ())) : Option (((Unit) ⊕ (Unit)))) fun e => match e with
      | .inl _ =>
        (some (Sum.inl ()))
      | .inr (_) =>
        (some (Sum.inr ())) : Option (((Unit) ⊕ (Unit)))) fun e => match e with
  | .inl _ =>
    (some false)
  | .inr (_) =>
    Option.bind (loop (m_recurrence_Valid_L1 O r_1 r_10) 0) fun e => match e with
    | .inl _ =>
      (some false)
    | .inr (_) =>
      Option.bind (m_recurrence_times O r_1 r_2 r_3 r_4 r_5 0 r_6 r_7 r_8 r_9 r_10 r_11 r_12 r_13 r_14) fun l26 =>
      (some (O .le (O .ofNat (O .len .i1 l26)) 1440))
def m_recurrence_given (O : Ops) (r_1 : Int) (r_2 : Int) (r_3 : Int) (r_4 : Int) (r_5 : Int) (start_1 : Int) (r_6 : List Int) (r_7 : List Int) (r_8 : List Int) (r_9 : List Int) (r_10 : List (Int × Int)) (r_11 : List Int) (r_12 : List Int) (r_13 : List Int) (r_14 : List Int) : Option (Int) :=
  Option.bind (
    Option.bind (m_recurrence_Valid O r_1 r_2 r_3 r_4 r_5 r_6 r_7 r_8 r_9 r_10 r_11 r_12 r_13 r_14) fun b12 =>
    bif (O .not b12) then
      (some true)
    else
      Option.bind (m_recurrence_local O start_1) fun b13 =>
      (some (O .not b13)) : Option ((Bool))) fun x75 =>
  bif x75 then
    (some 1)
  else
    (some 0)
def m_integer_Floor (O : Ops) (a_1 : Int) (b_1 : Int) : Option (Int) :=
  Option.bind (m_integer_Div O a_1 b_1) fun (n6, _, _) =>
  (some n6)
def m_recurrence_weekday (O : Ops) (day_1 : Int) : Option (Int) :=
  grd (okI .i64 ((O .add day_1 3))) <|
  Option.bind (m_integer_Mod O ((O .add day_1 3)) 7) fun n10 =>
  grd (okI .i64 ((O .add n10 1))) <|
  (some (O .add n10 1))
def m_recurrence_week (O : Ops) (day_1 : Int) (start_1 : Int) : Option (Int) :=
  Option.bind (m_recurrence_weekday O day_1) fun n11 =>
  grd (okI .i64 ((O .sub n11 start_1))) <|
  Option.bind (m_integer_Mod O ((O .sub n11 start_1)) 7) fun n12 =>
  grd (okI .i64 ((O .sub day_1 n12))) <|
  (some (O .sub day_1 n12))
def m_civil_inside (O : Ops) (day_1 : Int) : Option (Bool) :=
  Option.bind (
    bif (O .le (-719162) day_1) then
      (some (O .lt day_1 2932897))
    else
      (some false) : Option ((Bool))) fun x83 =>
  (some x83)
def m_civil_count (O : Ops) (y_1 : Int) (m_1 : Int) (d_1 : Int) : Option (Int) :=
  Option.bind (
    bif (O .le m_1 2) then
      grd (okI .i64 ((O .sub y_1 1))) <|
      grd (okI .i64 ((O .add m_1 12))) <|
      (some ((O .sub y_1 1), (O .add m_1 12)))
    else
      (some (y_1, m_1)) : Option ((Int × Int))) fun (y3, m2) =>
  grd (okI .i64 ((O .mul 365 y3))) <|
  grd (okNz 4) <|
  grd (okI .i64 ((O .quo y3 4))) <|
  grd (okI .i64 ((O .add (O .mul 365 y3) (O .quo y3 4)))) <|
  grd (okNz 100) <|
  grd (okI .i64 ((O .quo y3 100))) <|
  grd (okI .i64 ((O .sub (O .add (O .mul 365 y3) (O .quo y3 4)) (O .quo y3 100)))) <|
  grd (okNz 400) <|
  grd (okI .i64 ((O .quo y3 400))) <|
  grd (okI .i64 ((O .add (O .sub (O .add (O .mul 365 y3) (O .quo y3 4)) (O .quo y3 100)) (O .quo y3 400)))) <|
  grd (okI .i64 ((O .sub m2 3))) <|
  grd (okI .i64 ((O .mul 153 (O .sub m2 3)))) <|
  grd (okI .i64 ((O .add (O .mul 153 (O .sub m2 3)) 2))) <|
  grd (okNz 5) <|
  grd (okI .i64 ((O .quo (O .add (O .mul 153 (O .sub m2 3)) 2) 5))) <|
  grd (okI .i64 ((O .add (O .add (O .sub (O .add (O .mul 365 y3) (O .quo y3 4)) (O .quo y3 100)) (O .quo y3 400)) (O .quo (O .add (O .mul 153 (O .sub m2 3)) 2) 5)))) <|
  grd (okI .i64 ((O .add (O .add (O .add (O .sub (O .add (O .mul 365 y3) (O .quo y3 4)) (O .quo y3 100)) (O .quo y3 400)) (O .quo (O .add (O .mul 153 (O .sub m2 3)) 2) 5)) d_1))) <|
  grd (okI .i64 ((O .sub (O .add (O .add (O .add (O .sub (O .add (O .mul 365 y3) (O .quo y3 4)) (O .quo y3 100)) (O .quo y3 400)) (O .quo (O .add (O .mul 153 (O .sub m2 3)) 2) 5)) d_1) 307))) <|
  grd (okI .i64 ((O .add (O .sub (O .add (O .add (O .add (O .sub (O .add (O .mul 365 y3) (O .quo y3 4)) (O .quo y3 100)) (O .quo y3 400)) (O .quo (O .add (O .mul 153 (O .sub m2 3)) 2) 5)) d_1) 307) (-719162)))) <|
  (some (O .add (O .sub (O .add (O .add (O .add (O .sub (O .add (O .mul 365 y3) (O .quo y3 4)) (O .quo y3 100)) (O .quo y3 400)) (O .quo (O .add (O .mul 153 (O .sub m2 3)) 2) 5)) d_1) 307) (-719162)))
def m_civil_Date_L1 (O : Ops) (day_1 : Int) : (Int) → Option ((Int) ⊕ (Int)) := fun y1 =>
  Option.bind (
    bif (O .lt y1 9999) then
      grd (okI .i64 ((O .add y1 1))) <|
      Option.bind (m_civil_count O ((O .add y1 1)) 1 1) fun n17 =>
      (some (O .le n17 day_1))
    else
      (some false) : Option ((Bool))) fun x85 =>
  bif x85 then
    grd (okI .i64 ((O .add y1 1))) <|
    (some (Sum.inl (O .add y1 1)))
  else
    (some (Sum.inr y1))
def m_civil_Date_L2 (O : Ops) (day_1 : Int) (y4 : Int) : (Int) → Option ((Int) ⊕ (Int)) := fun m3 =>
  Option.bind (
    bif (O .lt m3 12) then
      grd (okI .i64 ((O .add m3 1))) <|
      Option.bind (m_civil_count O y4 ((O .add m3 1)) 1) fun n18 =>
      (some (O .le n18 day_1))
    else
      (some false) : Option ((Bool))) fun x87 =>
  bif x87 then
    grd (okI .i64 ((O .add m3 1))) <|
    (some (Sum.inl (O .add m3 1)))
  else
    (some (Sum.inr m3))
def m_civil_Date (O : Ops) (day_1 : Int) : Option (Int × Int × Int × Int) :=
  Option.bind (m_civil_inside O day_1) fun b14 =>
  bif (O .not b14) then
    (some (0, 0, 0, 2))
  else
    grd (okI .i64 ((O .sub day_1 (-719162)))) <|
    grd (okNz 366) <|
    grd (okI .i64 ((O .quo (O .sub day_1 (-719162)) 366))) <|
    grd (okI .i64 ((O .add (O .quo (O .sub day_1 (-719162)) 366) 1))) <|
    Option.bind (loop (m_civil_Date_L1 O day_1) (O .add (O .quo (O .sub day_1 (-719162)) 366) 1)) fun y4 =>
    Option.bind (loop (m_civil_Date_L2 O day_1 y4) 1) fun m4 =>
    Option.bind (m_civil_count O y4 m4 1) fun n19 =>
    grd (okI .i64 ((O .sub day_1 n19))) <|
    grd (okI .i64 ((O .add (O .sub day_1 n19) 1))) <|
    (some (y4, m4, (O .add (O .sub day_1 n19) 1), 0))
def m_recurrence_newYear (O : Ops) (year_1 : Int) : Option (Int) :=
  grd (okI .i64 ((O .sub year_1 1))) <|
  grd (okI .i64 ((O .mul 365 (O .sub year_1 1)))) <|
  grd (okI .i64 ((O .add (-719162) (O .mul 365 (O .sub year_1 1))))) <|
  Option.bind (m_integer_Floor O ((O .sub year_1 1)) 4) fun n24 =>
  grd (okI .i64 ((O .add (O .add (-719162) (O .mul 365 (O .sub year_1 1))) n24))) <|
  Option.bind (m_integer_Floor O ((O .sub year_1 1)) 100) fun n25 =>
  grd (okI .i64 ((O .sub (O .add (O .add (-719162) (O .mul 365 (O .sub year_1 1))) n24) n25))) <|
  Option.bind (m_integer_Floor O ((O .sub year_1 1)) 400) fun n26 =>
  grd (okI .i64 ((O .add (O .sub (O .add (O .add (-719162) (O .mul 365 (O .sub year_1 1))) n24) n25) n26))) <|
  (some (O .add (O .sub (O .add (O .add (-719162) (O .mul 365 (O .sub year_1 1))) n24) n25) n26))
def m_recurrence_weekYear (O : Ops) (day_1 : Int) (start_1 : Int) : Option (Int) :=
  Option.bind (m_recurrence_week O day_1 start_1) fun n16 =>
  grd (okI .i64 ((O .add n16 3))) <|
  Option.bind (m_civil_Date O ((O .min (O .max (O .add n16 3) (-719162)) 2932896))) fun (n20, _, _, _) =>
  Option.bind (m_recurrence_newYear O n20) fun n27 =>
  Option.bind (
    bif (O .lt (O .add n16 3) n27) then
      grd (okI .i64 ((O .sub n20 1))) <|
      (some (O .sub n20 1))
    else
      grd (okI .i64 ((O .add n20 1))) <|
      Option.bind (m_recurrence_newYear O ((O .add n20 1))) fun n28 =>
      Option.bind (
        bif (O .le n28 (O .add n16 3)) then
          (some (O .add n20 1))
        else
          (some n20) : Option ((Int))) fun x89 =>
      (some x89) : Option ((Int))) fun x91 =>
  (some x91)
def m_recurrence_number (O : Ops) (r_1 : Int) (_r_2 : Int) (_r_3 : Int) (_r_4 : Int) (r_5 : Int) (l_1 : Int) (_r_6 : List Int) (_r_7 : List Int) (_r_8 : List Int) (r_9 : List Int) (_r_10 : List (Int × Int)) (_r_11 : List Int) (_r_12 : List Int) (_r_13 : List Int) (_r_14 : List Int) : Option (Int) :=
  Option.bind (m_integer_Floor O l_1 86400) fun n9 =>
  Option.bind (
    bif (O .eq r_1 3) then
      Option.bind (m_recurrence_week O n9 r_5) fun n13 =>
      Option.bind (m_integer_Floor O n13 7) fun n14 =>
      (some (Sum.inl n14))
    else
      Option.bind (
        bif (O .eq r_1 4) then
          (some (Sum.inl n9))
        else
          bif (O .eq r_1 5) then
            Option.bind (m_integer_Floor O l_1 3600) fun n15 =>
            (some (Sum.inl n15))
          else
            (some (Sum.inr ())) : Option (((Int) ⊕ (Unit)))) fun e => match e with
      | .inl x77 =>
        (some (Sum.inl x77))
      | .inr (_) =>
        (some (Sum.inr ())) : Option (((Int) ⊕ (Unit)))) fun e => match e with
  | .inl x79 =>
    (some x79)
  | .inr (_) =>
    Option.bind (
      bif (O .eq r_1 1) then
        (some (O .lt 0 (O .ofNat (O .len .i1 r_9))))
      else
        (some false) : Option ((Bool))) fun x81 =>
    bif x81 then
      Option.bind (m_recurrence_weekYear O n9 r_5) fun n29 =>
      (some n29)
    else
      Option.bind (m_civil_Date O n9) fun (n30, n31, _, _) =>
      bif (O .eq r_1 1) then
        (some n30)
      else
        grd (okI .i64 ((O .mul 12 n30))) <|
        grd (okI .i64 ((O .add (O .mul 12 n30) n31))) <|
        (some (O .add (O .mul 12 n30) n31))
def m_recurrence_dateOf (O : Ops) (day_1 : Int) : Option (Int × Int × Int × Int × Int × Int × Int × Int) :=
  Option.bind (m_civil_Date O day_1) fun (n34, n35, n36, _) =>
  Option.bind (m_recurrence_newYear O n34) fun n38 =>
  grd (okI .i64 ((O .sub day_1 n38))) <|
  grd (okI .i64 ((O .add (O .sub day_1 n38) 1))) <|
  grd (okI .i64 ((O .add n34 1))) <|
  Option.bind (m_recurrence_newYear O ((O .add n34 1))) fun n39 =>
  grd (okI .i64 ((O .sub n39 n38))) <|
  Option.bind (m_civil_Length O n34 n35) fun n40 =>
  (some (n34, n35, n36, day_1, (O .add (O .sub day_1 n38) 1), (O .sub n39 n38), n36, n40))
def m_slices_Index_L1 (O : Ops) (s_1 : List Int) (v_1 : Int) : (Int) → Option ((Int) ⊕ ((Int) ⊕ (Unit))) := fun x92 =>
  bif (O .lt x92 (O .ofNat (O .len .i1 s_1))) then
    grd (okIdx x92 ((O .len .i1 s_1))) <|
    grd (okKin ((O .toNat x92)) ((O .len .i1 s_1))) <|
    bif (O .eq v_1 (O .get .i1 s_1 (O .toNat x92))) then
      (some (Sum.inr (Sum.inl x92)))
    else
      grd (okI .i64 ((O .add x92 1))) <|
      (some (Sum.inl (O .add x92 1)))
  else
    (some (Sum.inr (Sum.inr ())))
def m_slices_Index (O : Ops) (v_1 : Int) (s_1 : List Int) : Option (Int) :=
  Option.bind (loop (m_slices_Index_L1 O s_1 v_1) 0) fun e => match e with
  | .inl x93 =>
    (some x93)
  | .inr (_) =>
    (some (-1))
def m_slices_Contains (O : Ops) (v_1 : Int) (s_1 : List Int) : Option (Bool) :=
  Option.bind (m_slices_Index O v_1 s_1) fun n49 =>
  (some (O .le 0 n49))
def m_recurrence_filters_1 (O : Ops) (_r_1 : Int) (_r_2 : Int) (_r_3 : Int) (_r_4 : Int) (_r_5 : Int) (_x_1 : Int) (x_2 : Int) (_x_3 : Int) (_x_4 : Int) (_x_5 : Int) (_x_6 : Int) (_x_7 : Int) (_x_8 : Int) (_x_9 : Int) (_x_10 : Int) (_x_11 : Int) (_x_12 : Int) (_x_13 : Int) (_x_14 : Int) (_x_15 : Int) (_x_16 : Int) (r_6 : List Int) (_r_7 : List Int) (_r_8 : List Int) (_r_9 : List Int) (_r_10 : List (Int × Int)) (_r_11 : List Int) (_r_12 : List Int) (_r_13 : List Int) (_r_14 : List Int) : Option (Bool) :=
  Option.bind (
    bif (O .eq (O .ofNat (O .len .i1 r_6)) 0) then
      (some true)
    else
      Option.bind (m_slices_Contains O x_2 r_6) fun b15 =>
      (some b15) : Option ((Bool))) fun x95 =>
  (some x95)
def m_recurrence_counted (O : Ops) (n_1 : Int) (of_1 : Int) (l_1 : List Int) : Option (Bool) :=
  Option.bind (
    bif (O .eq (O .ofNat (O .len .i1 l_1)) 0) then
      (some true)
    else
      Option.bind (m_slices_Contains O n_1 l_1) fun b17 =>
      bif b17 then
        (some true)
      else
        grd (okI .i64 ((O .sub n_1 of_1))) <|
        grd (okI .i64 ((O .sub (O .sub n_1 of_1) 1))) <|
        Option.bind (m_slices_Contains O ((O .sub (O .sub n_1 of_1) 1)) l_1) fun b18 =>
        (some b18) : Option ((Bool))) fun x97 =>
  (some x97)
def m_recurrence_filters_2 (O : Ops) (_r_1 : Int) (_r_2 : Int) (_r_3 : Int) (_r_4 : Int) (_r_5 : Int) (_x_1 : Int) (_x_2 : Int) (_x_3 : Int) (_x_4 : Int) (_x_5 : Int) (_x_6 : Int) (x_7 : Int) (x_8 : Int) (_x_9 : Int) (_x_10 : Int) (_x_11 : Int) (_x_12 : Int) (_x_13 : Int) (_x_14 : Int) (_x_15 : Int) (_x_16 : Int) (_r_6 : List Int) (r_7 : List Int) (_r_8 : List Int) (_r_9 : List Int) (_r_10 : List (Int × Int)) (_r_11 : List Int) (_r_12 : List Int) (_r_13 : List Int) (_r_14 : List Int) : Option (Bool) :=
  Option.bind (m_recurrence_counted O x_7 x_8 r_7) fun b19 =>
  (some b19)
def m_recurrence_filters_3 (O : Ops) (_r_1 : Int) (_r_2 : Int) (_r_3 : Int) (_r_4 : Int) (_r_5 : Int) (_x_1 : Int) (_x_2 : Int) (_x_3 : Int) (_x_4 : Int) (x_5 : Int) (x_6 : Int) (_x_7 : Int) (_x_8 : Int) (_x_9 : Int) (_x_10 : Int) (_x_11 : Int) (_x_12 : Int) (_x_13 : Int) (_x_14 : Int) (_x_15 : Int) (_x_16 : Int) (_r_6 : List Int) (_r_7 : List Int) (r_8 : List Int) (_r_9 : List Int) (_r_10 : List (Int × Int)) (_r_11 : List Int) (_r_12 : List Int) (_r_13 : List Int) (_r_14 : List Int) : Option (Bool) :=
  Option.bind (m_recurrence_counted O x_5 x_6 r_8) fun b21 =>
  (some b21)
def m_recurrence_firstWeek (O : Ops) (year_1 : Int) (start_1 : Int) : Option (Int) :=
  Option.bind (m_recurrence_newYear O year_1) fun n51 =>
  grd (okI .i64 ((O .add n51 3))) <|
  Option.bind (m_recurrence_week O ((O .add n51 3)) start_1) fun n52 =>
  (some n52)
def m_recurrence_filters_4 (O : Ops) (_r_1 : Int) (_r_2 : Int) (_r_3 : Int) (_r_4 : Int) (r_5 : Int) (_x_1 : Int) (_x_2 : Int) (_x_3 : Int) (x_4 : Int) (_x_5 : Int) (_x_6 : Int) (_x_7 : Int) (_x_8 : Int) (_x_9 : Int) (_x_10 : Int) (_x_11 : Int) (_x_12 : Int) (_x_13 : Int) (_x_14 : Int) (_x_15 : Int) (_x_16 : Int) (_r_6 : List Int) (_r_7 : List Int) (_r_8 : List Int) (r_9 : List Int) (_r_10 : List (Int × Int)) (_r_11 : List Int) (_r_12 : List Int) (_r_13 : List Int) (_r_14 : List Int) : Option (Bool) :=
  bif (O .eq (O .ofNat (O .len .i1 r_9)) 0) then
    (some true)
  else
    Option.bind (m_recurrence_weekYear O x_4 r_5) fun n50 =>
    Option.bind (m_recurrence_firstWeek O n50 r_5) fun n53 =>
    grd (okI .i64 ((O .sub x_4 n53))) <|
    grd (okNz 7) <|
    grd (okI .i64 ((O .quo (O .sub x_4 n53) 7))) <|
    grd (okI .i64 ((O .add (O .quo (O .sub x_4 n53) 7) 1))) <|
    grd (okI .i64 ((O .add n50 1))) <|
    Option.bind (m_recurrence_firstWeek O ((O .add n50 1)) r_5) fun n54 =>
    grd (okI .i64 ((O .sub n54 n53))) <|
    grd (okI .i64 ((O .quo (O .sub n54 n53) 7))) <|
    Option.bind (m_recurrence_counted O ((O .add (O .quo (O .sub x_4 n53) 7) 1)) ((O .quo (O .sub n54 n53) 7)) r_9) fun b23 =>
    (some b23)
def m_recurrence_nth_1 (O : Ops) (o_1 : Int) (o_2 : Int) (x_1 : Int) (x_2 : Int) (x_3 : Int) : Option (Bool) :=
  Option.bind (
    bif (O .eq o_2 x_1) then
      bif (O .eq o_1 0) then
        (some true)
      else
        bif (O .eq o_1 (O .add (O .quo (O .sub x_2 1) 7) 1)) then
          grd (okI .i64 ((O .sub x_2 1))) <|
          grd (okNz 7) <|
          grd (okI .i64 ((O .quo (O .sub x_2 1) 7))) <|
          grd (okI .i64 ((O .add (O .quo (O .sub x_2 1) 7) 1))) <|
          (some true)
        else
          grd (okI .i64 ((O .sub x_2 1))) <|
          grd (okNz 7) <|
          grd (okI .i64 ((O .quo (O .sub x_2 1) 7))) <|
          grd (okI .i64 ((O .add (O .quo (O .sub x_2 1) 7) 1))) <|
          grd (okI .i64 ((O .sub x_3 x_2))) <|
          grd (okI .i64 ((O .quo (O .sub x_3 x_2) 7))) <|
          grd (okI .i64 ((O .add (O .quo (O .sub x_3 x_2) 7) 1))) <|
          grd (okI .i64 ((O .sub 0 (O .add (O .quo (O .sub x_3 x_2) 7) 1)))) <|
          (some (O .eq o_1 (O .sub 0 (O .add (O .quo (O .sub x_3 x_2) 7) 1))))
    else
      (some false) : Option ((Bool))) fun x103 =>
  (some x103)
def m_slices_IndexFunc_2_L1 (O : Ops) (c_1 : Int) (c_2 : Int) (c_3 : Int) (s_1 : List (Int × Int)) : (Int) → Option ((Int) ⊕ ((Int) ⊕ (Unit))) := fun x100 =>
  bif (O .lt x100 (O .ofNat (O .len .i2 s_1))) then
    grd (okIdx x100 ((O .len .i2 s_1))) <|
    grd (okKin ((O .toNat x100)) ((O .len .i2 s_1))) <|
    Option.bind (m_recurrence_nth_1 O (((O .get .i2 s_1 (O .toNat x100))).1) (((O .get .i2 s_1 (O .toNat x100))).2) c_1 c_2 c_3) fun b25 =>
    bif b25 then
      (some (Sum.inr (Sum.inl x100)))
    else
      grd (okI .i64 ((O .add x100 1))) <|
      (some (Sum.inl (O .add x100 1)))
  else
    (some (Sum.inr (Sum.inr ())))
def m_slices_IndexFunc_2 (O : Ops) (s_1 : List (Int × Int)) (c_1 : Int) (c_2 : Int) (c_3 : Int) : Option (Int) :=
  Option.bind (loop (m_slices_IndexFunc_2_L1 O c_1 c_2 c_3 s_1) 0) fun e => match e with
  | .inl x104 =>
    (some x104)
  | .inr (_) =>
    (some (-1))
def m_slices_ContainsFunc_2 (O : Ops) (s_1 : List (Int × Int)) (c_1 : Int) (c_2 : Int) (c_3 : Int) : Option (Bool) :=
  Option.bind (m_slices_IndexFunc_2 O s_1 c_1 c_2 c_3) fun n56 =>
  (some (O .le 0 n56))
def m_recurrence_nth (O : Ops) (w_1 : Int) (n_1 : Int) (of_1 : Int) (l_1 : List (Int × Int)) : Option (Bool) :=
  Option.bind (
    bif (O .eq (O .ofNat (O .len .i2 l_1)) 0) then
      (some true)
    else
      Option.bind (m_slices_ContainsFunc_2 O l_1 w_1 n_1 of_1) fun b26 =>
      (some b26) : Option ((Bool))) fun x106 =>
  (some x106)
def m_recurrence_filters_5 (O : Ops) (r_1 : Int) (_r_2 : Int) (_r_3 : Int) (_r_4 : Int) (_r_5 : Int) (_x_1 : Int) (_x_2 : Int) (_x_3 : Int) (x_4 : Int) (x_5 : Int) (x_6 : Int) (x_7 : Int) (x_8 : Int) (_x_9 : Int) (_x_10 : Int) (_x_11 : Int) (_x_12 : Int) (_x_13 : Int) (_x_14 : Int) (_x_15 : Int) (_x_16 : Int) (r_6 : List Int) (_r_7 : List Int) (_r_8 : List Int) (_r_9 : List Int) (r_10 : List (Int × Int)) (_r_11 : List Int) (_r_12 : List Int) (_r_13 : List Int) (_r_14 : List Int) : Option (Bool) :=
  Option.bind (
    bif (O .eq r_1 2) then
      (some true)
    else
      (some (O .lt 0 (O .ofNat (O .len .i1 r_6)))) : Option ((Bool))) fun x99 =>
  bif x99 then
    Option.bind (m_recurrence_weekday O x_4) fun n55 =>
    Option.bind (m_recurrence_nth O n55 x_7 x_8 r_10) fun b27 =>
    (some b27)
  else
    Option.bind (m_recurrence_weekday O x_4) fun n57 =>
    Option.bind (m_recurrence_nth O n57 x_5 x_6 r_10) fun b28 =>
    (some b28)
def m_recurrence_filters_6 (O : Ops) (r_1 : Int) (_r_2 : Int) (_r_3 : Int) (_r_4 : Int) (_r_5 : Int) (_x_1 : Int) (x_2 : Int) (x_3 : Int) (x_4 : Int) (_x_5 : Int) (_x_6 : Int) (_x_7 : Int) (_x_8 : Int) (_start_1 : Int) (start_2 : Int) (start_3 : Int) (start_4 : Int) (_start_5 : Int) (_start_6 : Int) (_start_7 : Int) (_start_8 : Int) (r_6 : List Int) (r_7 : List Int) (r_8 : List Int) (r_9 : List Int) (r_10 : List (Int × Int)) (_r_11 : List Int) (_r_12 : List Int) (_r_13 : List Int) (_r_14 : List Int) : Option (Bool) :=
  Option.bind (
    bif (O .lt 0 (O .ofNat (O .len .i1 r_7))) then
      (some true)
    else
      bif (O .lt 0 (O .ofNat (O .len .i1 r_8))) then
        (some true)
      else
        (some (O .lt 0 (O .ofNat (O .len .i2 r_10)))) : Option ((Bool))) fun x108 =>
  bif x108 then
    (some true)
  else
    Option.bind (m_recurrence_weekday O x_4) fun n58 =>
    Option.bind (m_recurrence_weekday O start_4) fun n59 =>
    Option.bind (
      bif (O .eq r_1 1) then
        (some (O .lt 0 (O .ofNat (O .len .i1 r_9))))
      else
        (some false) : Option ((Bool))) fun x110 =>
    Option.bind (
      bif x110 then
        (some true)
      else
        (some (O .eq r_1 3)) : Option ((Bool))) fun x112 =>
    Option.bind (
      bif x112 then
        (some (Sum.inl (O .eq n58 n59)))
      else
        Option.bind (
          bif (O .eq r_1 1) then
            Option.bind (
              bif (O .eq x_3 start_3) then
                bif (O .lt 0 (O .ofNat (O .len .i1 r_6))) then
                  (some true)
                else
                  (some (O .eq x_2 start_2))
              else
                (some false) : Option ((Bool))) fun x115 =>
            (some (Sum.inl x115))
          else
            bif (O .eq r_1 2) then
              (some (Sum.inl (O .eq x_3 start_3)))
            else
              (some (Sum.inr ())) : Option (((Bool) ⊕ (Unit)))) fun e => match e with
        | .inl x117 =>
          (some (Sum.inl x117))
        | .inr (_) =>
          (some (Sum.inr ())) : Option (((Bool) ⊕ (Unit)))) fun e => match e with
    | .inl x119 =>
      (some x119)
    | .inr (_) =>
      (some true)
def m_recurrence_passes (O : Ops) (r_1 : Int) (r_2 : Int) (r_3 : Int) (r_4 : Int) (r_5 : Int) (start_1 : Int) (start_2 : Int) (start_3 : Int) (start_4 : Int) (start_5 : Int) (start_6 : Int) (start_7 : Int) (start_8 : Int) (day_1 : Int) (r_6 : List Int) (r_7 : List Int) (r_8 : List Int) (r_9 : List Int) (r_10 : List (Int × Int)) (r_11 : List Int) (r_12 : List Int) (r_13 : List Int) (r_14 : List Int) : Option (Bool) :=
  Option.bind (m_recurrence_dateOf O day_1) fun (n41, n42, n43, n44, n45, n46, n47, n48) =>
  Option.bind (m_recurrence_filters_1 O r_1 r_2 r_3 r_4 r_5 n41 n42 n43 n44 n45 n46 n47 n48 start_1 start_2 start_3 start_4 start_5 start_6 start_7 start_8 r_6 r_7 r_8 r_9 r_10 r_11 r_12 r_13 r_14) fun b16 =>
  bif (O .not b16) then
    (some false)
  else
    grd (okI .i64 ((O .add 0 1))) <|
    Option.bind (m_recurrence_filters_2 O r_1 r_2 r_3 r_4 r_5 n41 n42 n43 n44 n45 n46 n47 n48 start_1 start_2 start_3 start_4 start_5 start_6 start_7 start_8 r_6 r_7 r_8 r_9 r_10 r_11 r_12 r_13 r_14) fun b20 =>
    bif (O .not b20) then
      (some false)
    else
      grd (okI .i64 ((O .add 1 1))) <|
      Option.bind (m_recurrence_filters_3 O r_1 r_2 r_3 r_4 r_5 n41 n42 n43 n44 n45 n46 n47 n48 start_1 start_2 start_3 start_4 start_5 start_6 start_7 start_8 r_6 r_7 r_8 r_9 r_10 r_11 r_12 r_13 r_14) fun b22 =>
      bif (O .not b22) then
        (some false)
      else
        grd (okI .i64 ((O .add 2 1))) <|
        Option.bind (m_recurrence_filters_4 O r_1 r_2 r_3 r_4 r_5 n41 n42 n43 n44 n45 n46 n47 n48 start_1 start_2 start_3 start_4 start_5 start_6 start_7 start_8 r_6 r_7 r_8 r_9 r_10 r_11 r_12 r_13 r_14) fun b24 =>
        bif (O .not b24) then
          (some false)
        else
          grd (okI .i64 ((O .add 3 1))) <|
          Option.bind (m_recurrence_filters_5 O r_1 r_2 r_3 r_4 r_5 n41 n42 n43 n44 n45 n46 n47 n48 start_1 start_2 start_3 start_4 start_5 start_6 start_7 start_8 r_6 r_7 r_8 r_9 r_10 r_11 r_12 r_13 r_14) fun b29 =>
          bif (O .not b29) then
            (some false)
          else
            grd (okI .i64 ((O .add 4 1))) <|
            Option.bind (m_recurrence_filters_6 O r_1 r_2 r_3 r_4 r_5 n41 n42 n43 n44 n45 n46 n47 n48 start_1 start_2 start_3 start_4 start_5 start_6 start_7 start_8 r_6 r_7 r_8 r_9 r_10 r_11 r_12 r_13 r_14) fun b30 =>
            bif (O .not b30) then
              (some false)
            else
              grd (okI .i64 ((O .add 5 1))) <|
              (some true)
def m_ref29_Local (O : Ops) (l_1 : Int) : Option (Bool) :=
  Option.bind (
    bif (O .le (-62135596800) l_1) then
      (some (O .lt l_1 253402300800))
    else
      (some false) : Option ((Bool))) fun x121 =>
  (some x121)
def m_ref29_within_L1 (O : Ops) (high_1 : Int) (l_1 : List Int) (low_1 : Int) (signed_1 : Bool) : (Int) → Option ((Int) ⊕ ((Unit) ⊕ (Unit))) := fun i1 =>
  bif (O .lt i1 (O .ofNat (O .len .i1 l_1))) then
    grd (okIdx i1 ((O .len .i1 l_1))) <|
    grd (okKin ((O .toNat i1)) ((O .len .i1 l_1))) <|
    Option.bind (
      bif signed_1 then
        bif (O .lt (O .get .i1 l_1 (O .toNat i1)) 0) then
          grd (okI .i64 ((O .sub 0 high_1))) <|
          (some (true, (O .le (O .sub 0 high_1) (O .get .i1 l_1 (O .toNat i1)))))
        else
          (some (true, false))
      else
        (some (false, false)) : Option ((Bool × Bool))) fun (_, x128) =>
    Option.bind (
      bif x128 then
        grd (okI .i64 ((O .sub 0 (O .get .i1 l_1 (O .toNat i1))))) <|
        (some (O .sub 0 (O .get .i1 l_1 (O .toNat i1))))
      else
        (some (O .get .i1 l_1 (O .toNat i1))) : Option ((Int))) fun n61 =>
    Option.bind (
      bif (O .lt n61 low_1) then
        (some true)
      else
        (some (O .lt high_1 n61)) : Option ((Bool))) fun x130 =>
    bif x130 then
      (some (Sum.inr (Sum.inl ())))
    else
      grd (okI .i64 ((O .add i1 1))) <|
      (some (Sum.inl (O .add i1 1)))
  else
    (some (Sum.inr (Sum.inr ())))
def m_ref29_within (O : Ops) (low_1 : Int) (high_1 : Int) (signed_1 : Bool) (l_1 : List Int) : Option (Bool) :=
  bif (O .lt 60 (O .ofNat (O .len .i1 l_1))) then
    (some false)
  else
    Option.bind (loop (m_ref29_within_L1 O high_1 l_1 low_1 signed_1) 0) fun e => match e with
    | .inl _ =>
      (some false)
    | .inr (_) =>
      (some true)
def m_ref29_days_L1 (O : Ops) (r_1 : Int) (r_10 : List (Int × Int)) : (Int) → Option ((Int) ⊕ ((Unit) ⊕ (Unit))) := fun i2 =>
  bif (O .lt i2 (O .ofNat (O .len .i2 r_10))) then
    grd (okIdx i2 ((O .len .i2 r_10))) <|
    grd (okKin ((O .toNat i2)) ((O .len .i2 r_10))) <|
    Option.bind (
      bif (O .lt ((O .get .i2 r_10 (O .toNat i2))).2 1) then
        (some true)
      else
        bif (O .lt 7 ((O .get .i2 r_10 (O .toNat i2))).2) then
          (some true)
        else
          bif (O .lt ((O .get .i2 r_10 (O .toNat i2))).1 (-53)) then
            (some true)
          else
            bif (O .lt 53 ((O .get .i2 r_10 (O .toNat i2))).1) then
              (some true)
            else
              bif (O .not (O .eq ((O .get .i2 r_10 (O .toNat i2))).1 0)) then
                bif (O .not (O .eq r_1 1)) then
                  (some (O .not (O .eq r_1 2)))
                else
                  (some false)
              else
                (some false) : Option ((Bool))) fun x134 =>
    bif x134 then
      (some (Sum.inr (Sum.inl ())))
    else
      grd (okI .i64 ((O .add i2 1))) <|
      (some (Sum.inl (O .add i2 1)))
  else
    (some (Sum.inr (Sum.inr ())))
def m_ref29_days (O : Ops) (r_1 : Int) (_r_2 : Int) (_r_3 : Int) (_r_4 : Int) (_r_5 : Int) (_r_6 : List Int) (_r_7 : List Int) (_r_8 : List Int) (_r_9 : List Int) (r_10 : List (Int × Int)) (_r_11 : List Int) (_r_12 : List Int) (_r_13 : List Int) (_r_14 : List Int) : Option (Bool) :=
  bif (O .lt 60 (O .ofNat (O .len .i2 r_10))) then
    (some false)
  else
    Option.bind (loop (m_ref29_days_L1 O r_1 r_10) 0) fun e => match e with
    | .inl _ =>
      (some false)
    | .inr (_) =>
      (some true)
def m_ref29_Set_L1 (O : Ops) (i4 : Int) (l27 : List Int) (l_1 : List Int) : (Int) → Option ((Int) ⊕ (Int)) := fun k3 =>
  Option.bind (
    bif (O .lt k3 (O .ofNat (O .len .i1 l27))) then
      grd (okIdx k3 ((O .len .i1 l27))) <|
      grd (okKin ((O .toNat k3)) ((O .len .i1 l27))) <|
      grd (okIdx i4 ((O .len .i1 l_1))) <|
      grd (okKin ((O .toNat i4)) ((O .len .i1 l_1))) <|
      (some (O .lt (O .get .i1 l27 (O .toNat k3)) (O .get .i1 l_1 (O .toNat i4))))
    else
      (some false) : Option ((Bool))) fun x143 =>
  bif x143 then
    grd (okI .i64 ((O .add k3 1))) <|
    (some (Sum.inl (O .add k3 1)))
  else
    (some (Sum.inr k3))
def m_ref29_Set_L2 (O : Ops) (l_1 : List Int) : (Int × List Int) → Option ((Int × List Int) ⊕ (List Int)) := fun (i4, l27) =>
  bif (O .lt i4 (O .ofNat (O .len .i1 l_1))) then
    Option.bind (loop (m_ref29_Set_L1 O i4 l27 l_1) 0) fun k4 =>
    Option.bind (
      bif (O .lt k4 (O .ofNat (O .len .i1 l27))) then
        grd (okIdx k4 ((O .len .i1 l27))) <|
        grd (okKin ((O .toNat k4)) ((O .len .i1 l27))) <|
        grd (okIdx i4 ((O .len .i1 l_1))) <|
        grd (okKin ((O .toNat i4)) ((O .len .i1 l_1))) <|
        (some (O .eq (O .get .i1 l27 (O .toNat k4)) (O .get .i1 l_1 (O .toNat i4))))
      else
        (some false) : Option ((Bool))) fun x145 =>
    bif x145 then
      grd (okI .i64 ((O .add i4 1))) <|
      (some (Sum.inl ((O .add i4 1), l27)))
    else
      grd (okRng k4 ((O .len .i1 l27))) <|
      grd (okRoom ((O .len .i1 []))) <|
      grd (okRoom ((O .len .i1 (O .cut .i1 l27 0 (O .toNat k4))))) <|
      grd (okIdx i4 ((O .len .i1 l_1))) <|
      grd (okKin ((O .toNat i4)) ((O .len .i1 l_1))) <|
      grd (okRoom ((O .len .i1 (O .app .i1 [] (O .cut .i1 l27 0 (O .toNat k4)))))) <|
      grd (okRoom ((O .len .i1 [(O .get .i1 l_1 (O .toNat i4))]))) <|
      grd (okRoom ((O .len .i1 (O .app .i1 (O .app .i1 [] (O .cut .i1 l27 0 (O .toNat k4))) [(O .get .i1 l_1 (O .toNat i4))])))) <|
      grd (okRoom ((O .len .i1 (O .cut .i1 l27 (O .toNat k4) (O .len .i1 l27))))) <|
      grd (okI .i64 ((O .add i4 1))) <|
      (some (Sum.inl ((O .add i4 1), (O .app .i1 (O .app .i1 (O .app .i1 [] (O .cut .i1 l27 0 (O .toNat k4))) [(O .get .i1 l_1 (O .toNat i4))]) (O .cut .i1 l27 (O .toNat k4) (O .len .i1 l27))))))
  else
    (some (Sum.inr l27))
def m_ref29_Set (O : Ops) (l_1 : List Int) : Option (List Int) :=
  Option.bind (loop (m_ref29_Set_L2 O l_1) (0, ([] : List Int))) fun l28 =>
  (some l28)
def m_ref29_number (O : Ops) (other_1 : Int) (l_1 : List Int) : Option (Int) :=
  bif (O .eq (O .ofNat (O .len .i1 l_1)) 0) then
    (some other_1)
  else
    Option.bind (m_ref29_Set O l_1) fun l29 =>
    (some (O .ofNat (O .len .i1 l29)))
def m_ref29_Valid (O : Ops) (r_1 : Int) (r_2 : Int) (r_3 : Int) (r_4 : Int) (r_5 : Int) (r_6 : List Int) (r_7 : List Int) (r_8 : List Int) (r_9 : List Int) (r_10 : List (Int × Int)) (r_11 : List Int) (r_12 : List Int) (r_13 : List Int) (r_14 : List Int) : Option (Bool) :=
  Option.bind (
    bif (O .lt r_1 1) then
      (some true)
    else
      bif (O .lt 5 r_1) then
        (some true)
      else
        bif (O .lt r_2 1) then
          (some true)
        else
          bif (O .lt 1000 r_2) then
            (some true)
          else
            bif (O .lt r_3 0) then
              (some true)
            else
              bif (O .lt 1000 r_3) then
                (some true)
              else
                bif (O .not (O .eq r_4 0)) then
                  Option.bind (m_ref29_Local O r_4) fun b31 =>
                  bif (O .not b31) then
                    (some true)
                  else
                    bif (O .not (O .eq r_3 0)) then
                      (some true)
                    else
                      bif (O .lt r_5 1) then
                        (some true)
                      else
                        (some (O .lt 7 r_5))
                else
                  bif (O .lt r_5 1) then
                    (some true)
                  else
                    (some (O .lt 7 r_5)) : Option ((Bool))) fun x125 =>
  bif x125 then
    (some false)
  else
    Option.bind (
      Option.bind (m_ref29_within O 1 12 false r_6) fun b32 =>
      bif (O .not b32) then
        (some true)
      else
        Option.bind (m_ref29_within O 1 31 true r_7) fun b33 =>
        bif (O .not b33) then
          (some true)
        else
          Option.bind (m_ref29_within O 1 366 true r_8) fun b34 =>
          bif (O .not b34) then
            (some true)
          else
            Option.bind (m_ref29_within O 1 53 true r_9) fun b35 =>
            bif (O .not b35) then
              (some true)
            else
              Option.bind (m_ref29_within O 0 23 false r_11) fun b36 =>
              bif (O .not b36) then
                (some true)
              else
                Option.bind (m_ref29_within O 0 59 false r_12) fun b37 =>
                bif (O .not b37) then
                  (some true)
                else
                  Option.bind (m_ref29_within O 0 59 false r_13) fun b38 =>
                  bif (O .not b38) then
                    (some true)
                  else
                    Option.bind (m_ref29_within O 1 366 true r_14) fun b39 =>
                    bif (O .not b39) then
                      (some true)
                    else
                      Option.bind (m_ref29_days O r_1 r_2 r_3 r_4 r_5 r_6 r_7 r_8 r_9 r_10 r_11 r_12 r_13 r_14) fun b40 =>
                      bif (O .not b40) then
                        (some true)
                      else
                        bif (O .lt 0 (O .ofNat (O .len .i1 r_9))) then
                          (some (O .not (O .eq r_1 1)))
                        else
                          (some false) : Option ((Bool))) fun x137 =>
    bif x137 then
      (some false)
    else
      Option.bind (
        bif (O .eq r_1 5) then
          (some 24)
        else
          (some 1) : Option ((Int))) fun hours2 =>
      Option.bind (m_ref29_number O hours2 r_11) fun n62 =>
      Option.bind (m_ref29_number O 1 r_12) fun n63 =>
      grd (okI .i64 ((O .mul n62 n63))) <|
      Option.bind (m_ref29_number O 1 r_13) fun n64 =>
      grd (okI .i64 ((O .mul (O .mul n62 n63) n64))) <|
      (some (O .le (O .mul (O .mul n62 n63) n64) 1440))
def m_law29_long (O : Ops) (_r_1 : Int) (_r_2 : Int) (_r_3 : Int) (_r_4 : Int) (_r_5 : Int) (r_6 : List Int) (r_7 : List Int) (r_8 : List Int) (r_9 : List Int) (r_10 : List (Int × Int)) (r_11 : List Int) (r_12 : List Int) (r_13 : List Int) (r_14 : List Int) : Option (Bool) :=
  Option.bind (
    bif (O .lt 100 (O .ofNat (O .len .i1 r_6))) then
      (some true)
    else
      bif (O .lt 100 (O .ofNat (O .len .i1 r_7))) then
        (some true)
      else
        bif (O .lt 100 (O .ofNat (O .len .i1 r_8))) then
          (some true)
        else
          bif (O .lt 100 (O .ofNat (O .len .i1 r_9))) then
            (some true)
          else
            bif (O .lt 100 (O .ofNat (O .len .i2 r_10))) then
              (some true)
            else
              bif (O .lt 100 (O .ofNat (O .len .i1 r_11))) then
                (some true)
              else
                bif (O .lt 100 (O .ofNat (O .len .i1 r_12))) then
                  (some true)
                else
                  bif (O .lt 100 (O .ofNat (O .len .i1 r_13))) then
                    (some true)
                  else
                    (some (O .lt 100 (O .ofNat (O .len .i1 r_14)))) : Option ((Bool))) fun x147 =>
  (some x147)
end Go.Proofs.YtmnhfaaaaejpaaaGreat
