/-
  Models of functions (printed by lift.py).
-/
import Derived.Test.YtebkfbkgmbgobaaManK
namespace Go.Proofs.Ytebkfbkgmbgobaa
open Go.RowKit
set_option maxRecDepth 100000

def m_law16_days (_O : Ops) : Option (Int × Int × List (Int × Int)) :=
  (some (0, 1, [(0, 1)]))
def m_granule_half (O : Ops) (x_1 : Int) : Option (Bool) :=
  Option.bind (
    bif (O .le (-2199023255552) x_1) then
      (some (O .le x_1 2199023255552))
    else
      (some false) : Option ((Bool))) fun x2 =>
  (some x2)
def m_interval_line (O : Ops) (x_1 : Int) : Option (Bool) :=
  Option.bind (
    bif (O .le (-4398046511104) x_1) then
      (some (O .le x_1 4398046511104))
    else
      (some false) : Option ((Bool))) fun x5 =>
  (some x5)
def m_interval_Valid (O : Ops) (s_1 : Int) (s_2 : Int) : Option (Bool) :=
  Option.bind (
    Option.bind (m_interval_line O s_1) fun b2 =>
    bif b2 then
      Option.bind (m_interval_line O s_2) fun b3 =>
      bif b3 then
        (some (O .lt s_1 s_2))
      else
        (some false)
    else
      (some false) : Option ((Bool))) fun x8 =>
  (some x8)
def m_granule_ascending_L1 (O : Ops) (l_1 : List (Int × Int)) : (Int) → Option ((Int) ⊕ ((Unit) ⊕ (Unit))) := fun x3 =>
  bif (O .lt x3 (O .ofNat (O .len .i2 l_1))) then
    grd (okIdx x3 ((O .len .i2 l_1))) <|
    grd (okKin ((O .toNat x3)) ((O .len .i2 l_1))) <|
    Option.bind (
      Option.bind (m_interval_Valid O (((O .get .i2 l_1 (O .toNat x3))).1) (((O .get .i2 l_1 (O .toNat x3))).2)) fun b4 =>
      bif (O .not b4) then
        (some true)
      else
        bif (O .lt 0 x3) then
          grd (okI .i64 ((O .sub x3 1))) <|
          grd (okIdx ((O .sub x3 1)) ((O .len .i2 l_1))) <|
          grd (okKin ((O .toNat (O .sub x3 1))) ((O .len .i2 l_1))) <|
          (some (O .lt ((O .get .i2 l_1 (O .toNat x3))).1 ((O .get .i2 l_1 (O .toNat (O .sub x3 1)))).2))
        else
          (some false) : Option ((Bool))) fun x11 =>
    bif x11 then
      (some (Sum.inr (Sum.inl ())))
    else
      grd (okI .i64 ((O .add x3 1))) <|
      (some (Sum.inl (O .add x3 1)))
  else
    (some (Sum.inr (Sum.inr ())))
def m_granule_ascending (O : Ops) (l_1 : List (Int × Int)) : Option (Bool) :=
  Option.bind (loop (m_granule_ascending_L1 O l_1) 0) fun e => match e with
  | .inl _ =>
    (some false)
  | .inr (_) =>
    (some (O .lt 0 (O .ofNat (O .len .i2 l_1))))
def m_granule_least_L1 (O : Ops) (l_1 : List (Int × Int)) (m1 : Int) (period_1 : Int) : (Bool × Int) → Option ((Bool × Int) ⊕ (Bool)) := fun (same1, i1) =>
  Option.bind (
    bif (O .lt (O .add i1 m1) (O .ofNat (O .len .i2 l_1))) then
      grd (okI .i64 ((O .add i1 m1))) <|
      (some same1)
    else
      grd (okI .i64 ((O .add i1 m1))) <|
      (some false) : Option ((Bool))) fun x17 =>
  bif x17 then
    grd (okIdx ((O .add i1 m1)) ((O .len .i2 l_1))) <|
    grd (okKin ((O .toNat (O .add i1 m1))) ((O .len .i2 l_1))) <|
    grd (okIdx i1 ((O .len .i2 l_1))) <|
    grd (okKin ((O .toNat i1)) ((O .len .i2 l_1))) <|
    grd (okI .i64 ((O .add ((O .get .i2 l_1 (O .toNat i1))).1 (O .quo period_1 (O .quo (O .ofNat (O .len .i2 l_1)) m1))))) <|
    grd (okI .i64 ((O .add ((O .get .i2 l_1 (O .toNat i1))).2 (O .quo period_1 (O .quo (O .ofNat (O .len .i2 l_1)) m1))))) <|
    grd (okI .i64 ((O .add i1 1))) <|
    (some (Sum.inl ((O .and (O .eq ((O .get .i2 l_1 (O .toNat (O .add i1 m1)))).1 (O .add ((O .get .i2 l_1 (O .toNat i1))).1 (O .quo period_1 (O .quo (O .ofNat (O .len .i2 l_1)) m1)))) (O .eq ((O .get .i2 l_1 (O .toNat (O .add i1 m1)))).2 (O .add ((O .get .i2 l_1 (O .toNat i1))).2 (O .quo period_1 (O .quo (O .ofNat (O .len .i2 l_1)) m1))))), (O .add i1 1))))
  else
    (some (Sum.inr same1))
def m_granule_least_L2 (O : Ops) (l_1 : List (Int × Int)) (period_1 : Int) : (Int) → Option ((Int) ⊕ ((Int) ⊕ (Unit))) := fun m1 =>
  bif (O .lt m1 (O .ofNat (O .len .i2 l_1))) then
    Option.bind (
      bif (O .not (O .eq (O .rem (O .ofNat (O .len .i2 l_1)) m1) 0)) then
        grd (okNz m1) <|
        (some true)
      else
        grd (okNz m1) <|
        grd (okI .i64 ((O .quo (O .ofNat (O .len .i2 l_1)) m1))) <|
        grd (okNz ((O .quo (O .ofNat (O .len .i2 l_1)) m1))) <|
        (some (O .not (O .eq (O .rem period_1 (O .quo (O .ofNat (O .len .i2 l_1)) m1)) 0))) : Option ((Bool))) fun x15 =>
    bif x15 then
      grd (okI .i64 ((O .add m1 1))) <|
      (some (Sum.inl (O .add m1 1)))
    else
      grd (okI .i64 ((O .quo (O .ofNat (O .len .i2 l_1)) m1))) <|
      grd (okNz ((O .quo (O .ofNat (O .len .i2 l_1)) m1))) <|
      grd (okI .i64 ((O .quo period_1 (O .quo (O .ofNat (O .len .i2 l_1)) m1)))) <|
      Option.bind (loop (m_granule_least_L1 O l_1 m1 period_1) (true, 0)) fun same2 =>
      bif same2 then
        (some (Sum.inr (Sum.inl m1)))
      else
        grd (okI .i64 ((O .add m1 1))) <|
        (some (Sum.inl (O .add m1 1)))
  else
    (some (Sum.inr (Sum.inr ())))
def m_granule_least (O : Ops) (period_1 : Int) (l_1 : List (Int × Int)) : Option (Int) :=
  Option.bind (loop (m_granule_least_L2 O l_1 period_1) 1) fun e => match e with
  | .inl x18 =>
    (some x18)
  | .inr (_) =>
    (some (O .ofNat (O .len .i2 l_1)))
def m_granule_Valid (O : Ops) (c_1 : Int) (c_2 : Int) (c_3 : List (Int × Int)) : Option (Bool) :=
  Option.bind (
    bif (O .lt (O .ofNat (O .len .i2 c_3)) 1) then
      (some true)
    else
      bif (O .lt 5000 (O .ofNat (O .len .i2 c_3))) then
        (some true)
      else
        bif (O .lt c_2 1) then
          (some true)
        else
          bif (O .lt 12622780800 c_2) then
            (some true)
          else
            Option.bind (m_granule_half O c_1) fun b1 =>
            bif (O .not b1) then
              (some true)
            else
              Option.bind (m_granule_ascending O c_3) fun b5 =>
              bif (O .not b5) then
                (some true)
              else
                bif (O .not (O .eq ((O .get .i2 c_3 (O .toNat 0))).1 0)) then
                  grd (okIdx 0 ((O .len .i2 c_3))) <|
                  grd (okKin ((O .toNat 0)) ((O .len .i2 c_3))) <|
                  (some true)
                else
                  grd (okIdx 0 ((O .len .i2 c_3))) <|
                  grd (okKin ((O .toNat 0)) ((O .len .i2 c_3))) <|
                  grd (okI .i64 ((O .sub (O .ofNat (O .len .i2 c_3)) 1))) <|
                  grd (okIdx ((O .sub (O .ofNat (O .len .i2 c_3)) 1)) ((O .len .i2 c_3))) <|
                  grd (okKin ((O .toNat (O .sub (O .ofNat (O .len .i2 c_3)) 1))) ((O .len .i2 c_3))) <|
                  (some (O .lt c_2 ((O .get .i2 c_3 (O .toNat (O .sub (O .ofNat (O .len .i2 c_3)) 1)))).2)) : Option ((Bool))) fun x13 =>
  bif x13 then
    (some false)
  else
    Option.bind (m_granule_least O c_2 c_3) fun n3 =>
    (some (O .eq n3 (O .ofNat (O .len .i2 c_3))))
def m_integer_size (O : Ops) (a_1 : Int) : Option (Int) :=
  bif (O .lt a_1 0) then
    grd (okI .u64 a_1) <|
    grd (okI .u64 ((O .sub 0 a_1))) <|
    (some (O .sub 0 a_1))
  else
    grd (okI .u64 a_1) <|
    (some a_1)
def m_integer_signed (O : Ops) (m_1 : Int) (neg_1 : Bool) : Option (Int × Bool) :=
  Option.bind (
    bif neg_1 then
      (some (true, (O .le m_1 9223372036854775808)))
    else
      (some (false, false)) : Option ((Bool × Bool))) fun (neg2, x24) =>
  Option.bind (
    bif x24 then
      grd (okI .u64 ((O .sub 0 m_1))) <|
      grd (okI .i64 ((O .sub 0 m_1))) <|
      (some (Sum.inl (O .sub 0 m_1)))
    else
      Option.bind (
        bif (O .not neg2) then
          (some (O .le m_1 9223372036854775807))
        else
          (some false) : Option ((Bool))) fun x26 =>
      bif x26 then
        grd (okI .i64 m_1) <|
        (some (Sum.inl m_1))
      else
        (some (Sum.inr ())) : Option (((Int) ⊕ (Unit)))) fun e => match e with
  | .inl x28 =>
    (some (x28, true))
  | .inr (_) =>
    (some (0, false))
def m_integer_Gcd_L1 (O : Ops) : (Int × Int) → Option ((Int × Int) ⊕ (Int)) := fun (x21, y1) =>
  bif (O .not (O .eq y1 0)) then
    grd (okNz y1) <|
    (some (Sum.inl (y1, (O .rem x21 y1))))
  else
    (some (Sum.inr x21))
def m_integer_Gcd (O : Ops) (a_1 : Int) (b_1 : Int) : Option (Int) :=
  Option.bind (m_integer_size O a_1) fun n4 =>
  Option.bind (m_integer_size O b_1) fun n5 =>
  Option.bind (loop (m_integer_Gcd_L1 O) (n4, n5)) fun x22 =>
  Option.bind (m_integer_signed O x22 false) fun (n6, _) =>
  (some n6)
def m_group_blocks (O : Ops) (_c_1 : Int) (c_2 : Int) (m_1 : Int) (c_3 : List (Int × Int)) : Option (Int × Int × Int) :=
  Option.bind (m_integer_Gcd O ((O .ofNat (O .len .i2 c_3))) m_1) fun n7 =>
  grd (okNz n7) <|
  grd (okI .i64 ((O .quo m_1 n7))) <|
  Option.bind (m_integer_Mul O c_2 ((O .quo m_1 n7))) fun (n8, n9) =>
  Option.bind (
    bif (O .not (O .eq n9 0)) then
      (some true)
    else
      (some (O .lt 12622780800 n8)) : Option ((Bool))) fun x30 =>
  bif x30 then
    (some (0, 0, 9))
  else
    grd (okI .i64 ((O .quo (O .ofNat (O .len .i2 c_3)) n7))) <|
    (some (n8, (O .quo (O .ofNat (O .len .i2 c_3)) n7), 0))
def m_integer_Div (O : Ops) (a_1 : Int) (b_1 : Int) : Option (Int × Int × Int) :=
  Option.bind (
    bif (O .eq b_1 0) then
      (some (Sum.inl 10))
    else
      Option.bind (
        bif (O .eq a_1 (-9223372036854775808)) then
          (some (O .eq b_1 (-1)))
        else
          (some false) : Option ((Bool))) fun x35 =>
      bif x35 then
        (some (Sum.inl 9))
      else
        (some (Sum.inr ())) : Option (((Int) ⊕ (Unit)))) fun e => match e with
  | .inl x37 =>
    (some (0, 0, x37))
  | .inr (_) =>
    grd (okNz b_1) <|
    grd (okI .i64 ((O .quo a_1 b_1))) <|
    Option.bind (
      bif (O .not (O .eq (O .rem a_1 b_1) 0)) then
        (some (O .not (O .beq (O .lt (O .rem a_1 b_1) 0) (O .lt b_1 0))))
      else
        (some false) : Option ((Bool))) fun x39 =>
    Option.bind (
      bif x39 then
        grd (okI .i64 ((O .sub (O .quo a_1 b_1) 1))) <|
        grd (okI .i64 ((O .add (O .rem a_1 b_1) b_1))) <|
        (some ((O .sub (O .quo a_1 b_1) 1), (O .add (O .rem a_1 b_1) b_1)))
      else
        (some ((O .quo a_1 b_1), (O .rem a_1 b_1))) : Option ((Int × Int))) fun (q2, r2) =>
    (some (q2, r2, 0))
def m_integer_Mod (O : Ops) (a_1 : Int) (b_1 : Int) : Option (Int) :=
  Option.bind (m_integer_Div O a_1 b_1) fun (_, n14, _) =>
  (some n14)
def m_integer_Floor (O : Ops) (a_1 : Int) (b_1 : Int) : Option (Int) :=
  Option.bind (m_integer_Div O a_1 b_1) fun (n17, _, _) =>
  (some n17)
def m_group_at (O : Ops) (c_1 : Int) (c_2 : Int) (k_1 : Int) (c_3 : List (Int × Int)) : Option (Int × Int) :=
  Option.bind (m_integer_Mod O k_1 ((O .ofNat (O .len .i2 c_3)))) fun n16 =>
  grd (okIdx n16 ((O .len .i2 c_3))) <|
  grd (okKin ((O .toNat n16)) ((O .len .i2 c_3))) <|
  Option.bind (m_integer_Floor O k_1 ((O .ofNat (O .len .i2 c_3)))) fun n20 =>
  grd (okI .i64 ((O .mul c_2 n20))) <|
  grd (okI .i64 ((O .add c_1 (O .mul c_2 n20)))) <|
  grd (okI .i64 ((O .add ((O .get .i2 c_3 (O .toNat n16))).1 (O .add c_1 (O .mul c_2 n20))))) <|
  grd (okI .i64 ((O .add ((O .get .i2 c_3 (O .toNat n16))).2 (O .add c_1 (O .mul c_2 n20))))) <|
  (some ((O .add ((O .get .i2 c_3 (O .toNat n16))).1 (O .add c_1 (O .mul c_2 n20))), (O .add ((O .get .i2 c_3 (O .toNat n16))).2 (O .add c_1 (O .mul c_2 n20)))))
def m_group_Groups_1 (O : Ops) (j_1 : Int) (x_1 : Int) (x_2 : Int) (x_3 : Int) (x_4 : Int) (x_5 : List (Int × Int)) : Option (Int × Int × Bool) :=
  grd (okI .i64 ((O .mul j_1 x_4))) <|
  grd (okI .i64 ((O .add x_3 (O .mul j_1 x_4)))) <|
  grd (okI .i64 ((O .add j_1 1))) <|
  grd (okI .i64 ((O .mul (O .add j_1 1) x_4))) <|
  grd (okI .i64 ((O .add x_3 (O .mul (O .add j_1 1) x_4)))) <|
  grd (okI .i64 ((O .sub (O .add x_3 (O .mul (O .add j_1 1) x_4)) 1))) <|
  Option.bind (m_group_at O x_1 x_2 ((O .add x_3 (O .mul j_1 x_4))) x_5) fun (n21, _) =>
  Option.bind (m_group_at O x_1 x_2 ((O .sub (O .add x_3 (O .mul (O .add j_1 1) x_4)) 1)) x_5) fun (_, n24) =>
  (some (n21, n24, true))
def m_granule_line (O : Ops) (x_1 : Int) : Option (Bool) :=
  Option.bind (
    bif (O .le (-4398046511104) x_1) then
      (some (O .le x_1 4398046511104))
    else
      (some false) : Option ((Bool))) fun x46 =>
  (some x46)
def m_granule_Of_L1 (O : Ops) (l_1 : List (Int × Int)) : (Int × List (Int × Int)) → Option ((Int × List (Int × Int)) ⊕ (List (Int × Int))) := fun (x51, l10) =>
  bif (O .lt x51 (O .ofNat (O .len .i2 l_1))) then
    grd (okIdx x51 ((O .len .i2 l_1))) <|
    grd (okKin ((O .toNat x51)) ((O .len .i2 l_1))) <|
    grd (okI .i64 ((O .sub ((O .get .i2 l_1 (O .toNat x51))).1 ((O .get .i2 l_1 (O .toNat 0))).1))) <|
    grd (okI .i64 ((O .sub ((O .get .i2 l_1 (O .toNat x51))).2 ((O .get .i2 l_1 (O .toNat 0))).1))) <|
    grd (okRoom ((O .len .i2 l10))) <|
    grd (okRoom ((O .len .i2 [((O .sub ((O .get .i2 l_1 (O .toNat x51))).1 ((O .get .i2 l_1 (O .toNat 0))).1), (O .sub ((O .get .i2 l_1 (O .toNat x51))).2 ((O .get .i2 l_1 (O .toNat 0))).1))]))) <|
    grd (okI .i64 ((O .add x51 1))) <|
    (some (Sum.inl ((O .add x51 1), (O .app .i2 l10 [((O .sub ((O .get .i2 l_1 (O .toNat x51))).1 ((O .get .i2 l_1 (O .toNat 0))).1), (O .sub ((O .get .i2 l_1 (O .toNat x51))).2 ((O .get .i2 l_1 (O .toNat 0))).1))]))))
  else
    (some (Sum.inr l10))
def m_granule_Of (O : Ops) (origin_1 : Int) (period_1 : Int) (l_1 : List (Int × Int)) : Option (Int × Int × List (Int × Int) × Int) :=
  Option.bind (
    bif (O .lt period_1 1) then
      (some true)
    else
      bif (O .lt 12622780800 period_1) then
        (some true)
      else
        Option.bind (m_granule_ascending O l_1) fun b10 =>
        bif (O .not b10) then
          (some true)
        else
          grd (okI .i64 ((O .sub (O .ofNat (O .len .i2 l_1)) 1))) <|
          grd (okIdx ((O .sub (O .ofNat (O .len .i2 l_1)) 1)) ((O .len .i2 l_1))) <|
          grd (okKin ((O .toNat (O .sub (O .ofNat (O .len .i2 l_1)) 1))) ((O .len .i2 l_1))) <|
          grd (okIdx 0 ((O .len .i2 l_1))) <|
          grd (okKin ((O .toNat 0)) ((O .len .i2 l_1))) <|
          grd (okI .i64 ((O .sub ((O .get .i2 l_1 (O .toNat (O .sub (O .ofNat (O .len .i2 l_1)) 1)))).2 ((O .get .i2 l_1 (O .toNat 0))).1))) <|
          (some (O .lt period_1 (O .sub ((O .get .i2 l_1 (O .toNat (O .sub (O .ofNat (O .len .i2 l_1)) 1)))).2 ((O .get .i2 l_1 (O .toNat 0))).1))) : Option ((Bool))) fun x44 =>
  bif x44 then
    (some (0, 0, ([] : List (Int × Int)), 1))
  else
    bif (O .lt 5000 (O .ofNat (O .len .i2 l_1))) then
      (some (0, 0, ([] : List (Int × Int)), 5))
    else
      grd (okIdx 0 ((O .len .i2 l_1))) <|
      grd (okKin ((O .toNat 0)) ((O .len .i2 l_1))) <|
      Option.bind (
        Option.bind (m_granule_line O origin_1) fun b11 =>
        bif (O .not b11) then
          (some true)
        else
          grd (okI .i64 ((O .add origin_1 ((O .get .i2 l_1 (O .toNat 0))).1))) <|
          Option.bind (m_granule_half O ((O .add origin_1 ((O .get .i2 l_1 (O .toNat 0))).1))) fun b12 =>
          (some (O .not b12)) : Option ((Bool))) fun x48 =>
      bif x48 then
        (some (0, 0, ([] : List (Int × Int)), 2))
      else
        grd (okI .i64 ((O .add origin_1 ((O .get .i2 l_1 (O .toNat 0))).1))) <|
        Option.bind (loop (m_granule_Of_L1 O l_1) (0, ([] : List (Int × Int)))) fun l11 =>
        Option.bind (m_granule_least O period_1 l11) fun n29 =>
        grd (okNz n29) <|
        grd (okI .i64 ((O .quo (O .ofNat (O .len .i2 l11)) n29))) <|
        grd (okNz ((O .quo (O .ofNat (O .len .i2 l11)) n29))) <|
        grd (okI .i64 ((O .quo period_1 (O .quo (O .ofNat (O .len .i2 l11)) n29)))) <|
        grd (okRng n29 ((O .len .i2 l11))) <|
        grd (okRng n29 ((O .toNat n29))) <|
        (some ((O .add origin_1 ((O .get .i2 l_1 (O .toNat 0))).1), (O .quo period_1 (O .quo (O .ofNat (O .len .i2 l11)) n29)), (O .cut .i2 l11 0 (O .toNat n29)), 0))
def m_group_made_L1 (O : Ops) (l_1 : List (Int × Int)) : (Int × List (Int × Int)) → Option ((Int × List (Int × Int)) ⊕ (List (Int × Int))) := fun (x42, l8) =>
  bif (O .lt x42 (O .ofNat (O .len .i2 l_1))) then
    grd (okIdx x42 ((O .len .i2 l_1))) <|
    grd (okKin ((O .toNat x42)) ((O .len .i2 l_1))) <|
    grd (okI .i64 ((O .sub ((O .get .i2 l_1 (O .toNat x42))).1 ((O .get .i2 l_1 (O .toNat 0))).1))) <|
    grd (okI .i64 ((O .sub ((O .get .i2 l_1 (O .toNat x42))).2 ((O .get .i2 l_1 (O .toNat 0))).1))) <|
    grd (okRoom ((O .len .i2 l8))) <|
    grd (okRoom ((O .len .i2 [((O .sub ((O .get .i2 l_1 (O .toNat x42))).1 ((O .get .i2 l_1 (O .toNat 0))).1), (O .sub ((O .get .i2 l_1 (O .toNat x42))).2 ((O .get .i2 l_1 (O .toNat 0))).1))]))) <|
    grd (okI .i64 ((O .add x42 1))) <|
    (some (Sum.inl ((O .add x42 1), (O .app .i2 l8 [((O .sub ((O .get .i2 l_1 (O .toNat x42))).1 ((O .get .i2 l_1 (O .toNat 0))).1), (O .sub ((O .get .i2 l_1 (O .toNat x42))).2 ((O .get .i2 l_1 (O .toNat 0))).1))]))))
  else
    (some (Sum.inr l8))
def m_group_made (O : Ops) (period_1 : Int) (l_1 : List (Int × Int)) : Option (Int × Int × List (Int × Int) × Int) :=
  grd (okIdx 0 ((O .len .i2 l_1))) <|
  grd (okKin ((O .toNat 0)) ((O .len .i2 l_1))) <|
  grd (okRng ((O .ofNat (O .len .i2 l_1))) ((O .toNat (O .ofNat (O .len .i2 l_1))))) <|
  grd (okRng 0 ((O .toNat (O .ofNat (O .len .i2 l_1))))) <|
  grd (okRoom ((O .toNat (O .ofNat (O .len .i2 l_1))))) <|
  Option.bind (loop (m_group_made_L1 O l_1) (0, (O .rep .i2 (O .toNat 0)))) fun l9 =>
  Option.bind (m_granule_Of O (((O .get .i2 l_1 (O .toNat 0))).1) period_1 l9) fun (n30, n31, l12, n32) =>
  (some (n30, n31, l12, n32))
def m_group_collect_L1 (O : Ops) (c_1 : Int) (c_2 : Int) (c_3 : Int) (c_4 : Int) (c_5 : List (Int × Int)) (n_1 : Int) : (Int × List (Int × Int)) → Option ((Int × List (Int × Int)) ⊕ (List (Int × Int))) := fun (x40, l4) =>
  bif (O .lt x40 n_1) then
    Option.bind (m_group_Groups_1 O x40 c_1 c_2 c_3 c_4 c_5) fun (n27, n28, b9) =>
    Option.bind (
      bif b9 then
        grd (okRoom ((O .len .i2 l4))) <|
        grd (okRoom ((O .len .i2 [(n27, n28)]))) <|
        (some (O .app .i2 l4 [(n27, n28)]))
      else
        (some l4) : Option ((List (Int × Int)))) fun l6 =>
    grd (okI .i64 ((O .add x40 1))) <|
    (some (Sum.inl ((O .add x40 1), l6)))
  else
    (some (Sum.inr l4))
def m_group_collect (O : Ops) (period_1 : Int) (n_1 : Int) (c_1 : Int) (c_2 : Int) (c_3 : Int) (c_4 : Int) (c_5 : List (Int × Int)) : Option (Int × Int × List (Int × Int) × Int) :=
  Option.bind (loop (m_group_collect_L1 O c_1 c_2 c_3 c_4 c_5 n_1) (0, ([] : List (Int × Int)))) fun l7 =>
  bif (O .eq (O .ofNat (O .len .i2 l7)) 0) then
    (some (0, 0, ([] : List (Int × Int)), 7))
  else
    Option.bind (m_group_made O period_1 l7) fun (n33, n34, l13, n35) =>
    (some (n33, n34, l13, n35))
def m_group_Groups (O : Ops) (c_1 : Int) (c_2 : Int) (first_1 : Int) (m_1 : Int) (c_3 : List (Int × Int)) : Option (Int × Int × List (Int × Int) × Int) :=
  Option.bind (
    Option.bind (m_granule_Valid O c_1 c_2 c_3) fun b6 =>
    bif (O .not b6) then
      (some true)
    else
      bif (O .lt m_1 1) then
        (some true)
      else
        bif (O .lt 12622780800 m_1) then
          (some true)
        else
          bif (O .lt first_1 (-268435456)) then
            (some true)
          else
            (some (O .lt 268435456 first_1)) : Option ((Bool))) fun x20 =>
  bif x20 then
    (some (0, 0, ([] : List (Int × Int)), 1))
  else
    Option.bind (m_group_blocks O c_1 c_2 m_1 c_3) fun (n10, n11, n12) =>
    Option.bind (
      bif (O .not (O .eq n12 0)) then
        (some (Sum.inl n12))
      else
        bif (O .lt 5000 n11) then
          (some (Sum.inl 5))
        else
          (some (Sum.inr ())) : Option (((Int) ⊕ (Unit)))) fun e => match e with
    | .inl x32 =>
      (some (0, 0, ([] : List (Int × Int)), x32))
    | .inr (_) =>
      Option.bind (m_group_collect O n10 n11 c_1 c_2 first_1 m_1 c_3) fun (n36, n37, l14, n38) =>
      (some (n36, n37, l14, n38))
def m_group_Custom_1 (O : Ops) (n_1 : Int) : Option (Bool) :=
  Option.bind (
    bif (O .lt n_1 1) then
      (some true)
    else
      (some (O .lt 12622780800 n_1)) : Option ((Bool))) fun x60 =>
  (some x60)
def m_slices_IndexFunc_L1 (O : Ops) (s_1 : List Int) : (Int) → Option ((Int) ⊕ ((Int) ⊕ (Unit))) := fun x58 =>
  bif (O .lt x58 (O .ofNat (O .len .i1 s_1))) then
    grd (okIdx x58 ((O .len .i1 s_1))) <|
    grd (okKin ((O .toNat x58)) ((O .len .i1 s_1))) <|
    Option.bind (m_group_Custom_1 O ((O .get .i1 s_1 (O .toNat x58)))) fun b13 =>
    bif b13 then
      (some (Sum.inr (Sum.inl x58)))
    else
      grd (okI .i64 ((O .add x58 1))) <|
      (some (Sum.inl (O .add x58 1)))
  else
    (some (Sum.inr (Sum.inr ())))
def m_slices_IndexFunc (O : Ops) (s_1 : List Int) : Option (Int) :=
  Option.bind (loop (m_slices_IndexFunc_L1 O s_1) 0) fun e => match e with
  | .inl x61 =>
    (some x61)
  | .inr (_) =>
    (some (-1))
def m_slices_ContainsFunc (O : Ops) (s_1 : List Int) : Option (Bool) :=
  Option.bind (m_slices_IndexFunc O s_1) fun n42 =>
  (some (O .le 0 n42))
def m_group_Custom_L1 (O : Ops) (lengths_1 : List Int) : (Int × Int × List (Int × Int)) → Option ((Int × Int × List (Int × Int)) ⊕ (Int × List (Int × Int))) := fun (sum2, x65, l18) =>
  bif (O .lt x65 (O .ofNat (O .len .i1 lengths_1))) then
    grd (okIdx x65 ((O .len .i1 lengths_1))) <|
    grd (okKin ((O .toNat x65)) ((O .len .i1 lengths_1))) <|
    grd (okI .i64 ((O .add sum2 (O .get .i1 lengths_1 (O .toNat x65))))) <|
    grd (okRoom ((O .len .i2 l18))) <|
    grd (okRoom ((O .len .i2 [(sum2, (O .add sum2 (O .get .i1 lengths_1 (O .toNat x65))))]))) <|
    grd (okI .i64 ((O .add x65 1))) <|
    (some (Sum.inl ((O .add sum2 (O .get .i1 lengths_1 (O .toNat x65))), (O .add x65 1), (O .app .i2 l18 [(sum2, (O .add sum2 (O .get .i1 lengths_1 (O .toNat x65))))]))))
  else
    (some (Sum.inr (sum2, l18)))
def m_group_Custom (O : Ops) (origin_1 : Int) (lengths_1 : List Int) : Option (Int × Int × List (Int × Int) × Int) :=
  Option.bind (
    bif (O .eq (O .ofNat (O .len .i1 lengths_1)) 0) then
      (some true)
    else
      Option.bind (m_slices_ContainsFunc O lengths_1) fun b14 =>
      (some b14) : Option ((Bool))) fun x63 =>
  bif x63 then
    (some (0, 0, ([] : List (Int × Int)), 1))
  else
    bif (O .lt 5000 (O .ofNat (O .len .i1 lengths_1))) then
      (some (0, 0, ([] : List (Int × Int)), 5))
    else
      Option.bind (loop (m_group_Custom_L1 O lengths_1) (0, 0, ([] : List (Int × Int)))) fun (sum3, l19) =>
      bif (O .lt 12622780800 sum3) then
        (some (0, 0, ([] : List (Int × Int)), 9))
      else
        Option.bind (m_granule_Of O origin_1 sum3 l19) fun (n43, n44, l20, n45) =>
        (some (n43, n44, l20, n45))
def m_group_Fiscal_L1 (O : Ops) (pattern_1 : List Int) : (Int × List Int) → Option ((Int × List Int) ⊕ ((Unit) ⊕ (List Int))) := fun (x55, l16) =>
  bif (O .lt x55 (O .ofNat (O .len .i1 pattern_1))) then
    grd (okIdx x55 ((O .len .i1 pattern_1))) <|
    grd (okKin ((O .toNat x55)) ((O .len .i1 pattern_1))) <|
    Option.bind (
      bif (O .lt (O .get .i1 pattern_1 (O .toNat x55)) 1) then
        (some true)
      else
        (some (O .lt 60 (O .get .i1 pattern_1 (O .toNat x55)))) : Option ((Bool))) fun x57 =>
    bif x57 then
      (some (Sum.inr (Sum.inl ())))
    else
      grd (okI .i64 ((O .mul 7 (O .get .i1 pattern_1 (O .toNat x55))))) <|
      grd (okRoom ((O .len .i1 l16))) <|
      grd (okRoom ((O .len .i1 [(O .mul 7 (O .get .i1 pattern_1 (O .toNat x55)))]))) <|
      grd (okI .i64 ((O .add x55 1))) <|
      (some (Sum.inl ((O .add x55 1), (O .app .i1 l16 [(O .mul 7 (O .get .i1 pattern_1 (O .toNat x55)))]))))
  else
    (some (Sum.inr (Sum.inr l16)))
def m_group_Fiscal (O : Ops) (origin_1 : Int) (pattern_1 : List Int) : Option (Int × Int × List (Int × Int) × Int) :=
  Option.bind (loop (m_group_Fiscal_L1 O pattern_1) (0, ([] : List Int))) fun e => match e with
  | .inl _ =>
    (some (0, 0, ([] : List (Int × Int)), 1))
  | .inr (l17) =>
    Option.bind (m_group_Custom O origin_1 l17) fun (n46, n47, l21, n48) =>
    (some (n46, n47, l21, n48))
def m_ref12_Same_L1 (O : Ops) (a_1 : List (Int × Int)) (b_1 : List (Int × Int)) : (Int) → Option ((Int) ⊕ ((Unit) ⊕ (Unit))) := fun i2 =>
  bif (O .lt i2 (O .ofNat (O .len .i2 a_1))) then
    Option.bind (
      bif (O .not (O .eq ((O .get .i2 a_1 (O .toNat i2))).1 ((O .get .i2 b_1 (O .toNat i2))).1)) then
        grd (okIdx i2 ((O .len .i2 a_1))) <|
        grd (okKin ((O .toNat i2)) ((O .len .i2 a_1))) <|
        grd (okIdx i2 ((O .len .i2 b_1))) <|
        grd (okKin ((O .toNat i2)) ((O .len .i2 b_1))) <|
        (some true)
      else
        grd (okIdx i2 ((O .len .i2 a_1))) <|
        grd (okKin ((O .toNat i2)) ((O .len .i2 a_1))) <|
        grd (okIdx i2 ((O .len .i2 b_1))) <|
        grd (okKin ((O .toNat i2)) ((O .len .i2 b_1))) <|
        (some (O .not (O .eq ((O .get .i2 a_1 (O .toNat i2))).2 ((O .get .i2 b_1 (O .toNat i2))).2))) : Option ((Bool))) fun x67 =>
    bif x67 then
      (some (Sum.inr (Sum.inl ())))
    else
      grd (okI .i64 ((O .add i2 1))) <|
      (some (Sum.inl (O .add i2 1)))
  else
    (some (Sum.inr (Sum.inr ())))
def m_ref12_Same (O : Ops) (a_1 : List (Int × Int)) (b_1 : List (Int × Int)) : Option (Bool) :=
  bif (O .not (O .eq (O .ofNat (O .len .i2 a_1)) (O .ofNat (O .len .i2 b_1)))) then
    (some false)
  else
    Option.bind (loop (m_ref12_Same_L1 O a_1 b_1) 0) fun e => match e with
    | .inl _ =>
      (some false)
    | .inr (_) =>
      (some true)
def m_ref16_Same (O : Ops) (a_1 : Int) (a_2 : Int) (b_1 : Int) (b_2 : Int) (a_3 : List (Int × Int)) (b_3 : List (Int × Int)) : Option (Bool) :=
  Option.bind (
    bif (O .eq a_1 b_1) then
      bif (O .eq a_2 b_2) then
        Option.bind (m_ref12_Same O a_3 b_3) fun b15 =>
        (some b15)
      else
        (some false)
    else
      (some false) : Option ((Bool))) fun x70 =>
  (some x70)
def m_slices_Equal_L1 (O : Ops) (s1_1 : List (Int × Int)) (s2_1 : List (Int × Int)) : (Int) → Option ((Int) ⊕ ((Unit) ⊕ (Unit))) := fun x71 =>
  bif (O .lt x71 (O .ofNat (O .len .i2 s1_1))) then
    grd (okIdx x71 ((O .len .i2 s1_1))) <|
    grd (okKin ((O .toNat x71)) ((O .len .i2 s1_1))) <|
    grd (okIdx x71 ((O .len .i2 s2_1))) <|
    grd (okKin ((O .toNat x71)) ((O .len .i2 s2_1))) <|
    bif (O .not (O .and (O .eq ((O .get .i2 s1_1 (O .toNat x71))).1 ((O .get .i2 s2_1 (O .toNat x71))).1) (O .eq ((O .get .i2 s1_1 (O .toNat x71))).2 ((O .get .i2 s2_1 (O .toNat x71))).2))) then
      (some (Sum.inr (Sum.inl ())))
    else
      grd (okI .i64 ((O .add x71 1))) <|
      (some (Sum.inl (O .add x71 1)))
  else
    (some (Sum.inr (Sum.inr ())))
def m_slices_Equal (O : Ops) (s1_1 : List (Int × Int)) (s2_1 : List (Int × Int)) : Option (Bool) :=
  bif (O .not (O .eq (O .ofNat (O .len .i2 s1_1)) (O .ofNat (O .len .i2 s2_1)))) then
    (some false)
  else
    Option.bind (loop (m_slices_Equal_L1 O s1_1 s2_1) 0) fun e => match e with
    | .inl _ =>
      (some false)
    | .inr (_) =>
      (some true)
def m_law16_awake (O : Ops) : Option (Bool) :=
  Option.bind (m_law16_days O) fun (n1, n2, l1) =>
  Option.bind (m_group_Groups O n1 n2 4 7 l1) fun (n39, n40, l15, n41) =>
  Option.bind (m_group_Fiscal O 0 ([4, 4, 5])) fun (_, n50, l22, n51) =>
  Option.bind (
    bif (O .eq n41 0) then
      Option.bind (m_ref16_Same O n39 n40 4 7 l15 ([(0, 7)])) fun b16 =>
      bif b16 then
        bif (O .eq n51 0) then
          bif (O .eq n50 91) then
            Option.bind (m_slices_Equal O l22 ([(0, 28), (28, 56), (56, 91)])) fun b17 =>
            (some b17)
          else
            (some false)
        else
          (some false)
      else
        (some false)
    else
      (some false) : Option ((Bool))) fun x76 =>
  (some x76)
def m_law16_great_1 (O : Ops) (_c_1 : Int) (_c_2 : Int) (c_3 : List (Int × Int)) : Option (Bool) :=
  (some (O .lt 40 (O .ofNat (O .len .i2 c_3))))
def m_slices_IndexFunc_2 (O : Ops) (s_1 : Int) (s_2 : Int) (s_3 : List (Int × Int)) : Option (Int) :=
  Option.bind (m_law16_great_1 O s_1 s_2 s_3) fun b19 =>
  bif b19 then
    (some 0)
  else
    grd (okI .i64 ((O .add 0 1))) <|
    (some (-1))
def m_slices_ContainsFunc_2 (O : Ops) (s_1 : Int) (s_2 : Int) (s_3 : List (Int × Int)) : Option (Bool) :=
  Option.bind (m_slices_IndexFunc_2 O s_1 s_2 s_3) fun n52 =>
  (some (O .le 0 n52))
def m_law16_great (O : Ops) (l_1 : Int) (l_2 : Int) (l_3 : List (Int × Int)) : Option (Bool) :=
  Option.bind (m_slices_ContainsFunc_2 O l_1 l_2 l_3) fun b20 =>
  (some b20)
def m_runs_Valid_L1 (O : Ops) (l_1 : List (Int × Int)) : (Int) → Option ((Int) ⊕ ((Unit) ⊕ (Unit))) := fun x79 =>
  bif (O .lt x79 (O .ofNat (O .len .i2 l_1))) then
    grd (okIdx x79 ((O .len .i2 l_1))) <|
    grd (okKin ((O .toNat x79)) ((O .len .i2 l_1))) <|
    Option.bind (
      Option.bind (m_interval_Valid O (((O .get .i2 l_1 (O .toNat x79))).1) (((O .get .i2 l_1 (O .toNat x79))).2)) fun b23 =>
      bif (O .not b23) then
        (some true)
      else
        bif (O .lt 0 x79) then
          grd (okI .i64 ((O .sub x79 1))) <|
          grd (okIdx ((O .sub x79 1)) ((O .len .i2 l_1))) <|
          grd (okKin ((O .toNat (O .sub x79 1))) ((O .len .i2 l_1))) <|
          (some (O .le ((O .get .i2 l_1 (O .toNat x79))).1 ((O .get .i2 l_1 (O .toNat (O .sub x79 1)))).2))
        else
          (some false) : Option ((Bool))) fun x82 =>
    bif x82 then
      (some (Sum.inr (Sum.inl ())))
    else
      grd (okI .i64 ((O .add x79 1))) <|
      (some (Sum.inl (O .add x79 1)))
  else
    (some (Sum.inr (Sum.inr ())))
def m_runs_Valid (O : Ops) (l_1 : List (Int × Int)) : Option (Bool) :=
  bif (O .lt 2000 (O .ofNat (O .len .i2 l_1))) then
    (some false)
  else
    Option.bind (loop (m_runs_Valid_L1 O l_1) 0) fun e => match e with
    | .inl _ =>
      (some false)
    | .inr (_) =>
      (some true)
def m_periodic_inside (O : Ops) (period_1 : Int) (l_1 : List (Int × Int)) : Option (Bool) :=
  Option.bind (
    Option.bind (m_runs_Valid O l_1) fun b24 =>
    bif b24 then
      bif (O .eq (O .ofNat (O .len .i2 l_1)) 0) then
        (some true)
      else
        bif (O .le 0 ((O .get .i2 l_1 (O .toNat 0))).1) then
          grd (okIdx 0 ((O .len .i2 l_1))) <|
          grd (okKin ((O .toNat 0)) ((O .len .i2 l_1))) <|
          grd (okI .i64 ((O .sub (O .ofNat (O .len .i2 l_1)) 1))) <|
          grd (okIdx ((O .sub (O .ofNat (O .len .i2 l_1)) 1)) ((O .len .i2 l_1))) <|
          grd (okKin ((O .toNat (O .sub (O .ofNat (O .len .i2 l_1)) 1))) ((O .len .i2 l_1))) <|
          (some (O .le ((O .get .i2 l_1 (O .toNat (O .sub (O .ofNat (O .len .i2 l_1)) 1)))).2 period_1))
        else
          grd (okIdx 0 ((O .len .i2 l_1))) <|
          grd (okKin ((O .toNat 0)) ((O .len .i2 l_1))) <|
          (some false)
    else
      (some false) : Option ((Bool))) fun x86 =>
  (some x86)
def m_periodic_repeats_L1 (O : Ops) (l_1 : List (Int × Int)) (period_1 : Int) : (Int × List Int) → Option ((Int × List Int) ⊕ (List Int)) := fun (x90, l29) =>
  bif (O .lt x90 (O .ofNat (O .len .i2 l_1))) then
    grd (okIdx x90 ((O .len .i2 l_1))) <|
    grd (okKin ((O .toNat x90)) ((O .len .i2 l_1))) <|
    Option.bind (
      bif (O .lt 0 ((O .get .i2 l_1 (O .toNat x90))).1) then
        (some true)
      else
        grd (okI .i64 ((O .sub (O .ofNat (O .len .i2 l_1)) 1))) <|
        grd (okIdx ((O .sub (O .ofNat (O .len .i2 l_1)) 1)) ((O .len .i2 l_1))) <|
        grd (okKin ((O .toNat (O .sub (O .ofNat (O .len .i2 l_1)) 1))) ((O .len .i2 l_1))) <|
        (some (O .lt ((O .get .i2 l_1 (O .toNat (O .sub (O .ofNat (O .len .i2 l_1)) 1)))).2 period_1)) : Option ((Bool))) fun x92 =>
    Option.bind (
      bif x92 then
        grd (okRoom ((O .len .i1 l29))) <|
        grd (okRoom ((O .len .i1 [((O .get .i2 l_1 (O .toNat x90))).1]))) <|
        (some (O .app .i1 l29 [((O .get .i2 l_1 (O .toNat x90))).1]))
      else
        (some l29) : Option ((List Int))) fun l31 =>
    Option.bind (
      bif (O .lt ((O .get .i2 l_1 (O .toNat x90))).2 period_1) then
        grd (okRoom ((O .len .i1 l31))) <|
        grd (okRoom ((O .len .i1 [((O .get .i2 l_1 (O .toNat x90))).2]))) <|
        (some (O .app .i1 l31 [((O .get .i2 l_1 (O .toNat x90))).2]))
      else
        grd (okIdx 0 ((O .len .i2 l_1))) <|
        grd (okKin ((O .toNat 0)) ((O .len .i2 l_1))) <|
        Option.bind (
          bif (O .lt 0 ((O .get .i2 l_1 (O .toNat 0))).1) then
            grd (okRoom ((O .len .i1 l31))) <|
            grd (okRoom ((O .len .i1 [0]))) <|
            (some (O .app .i1 l31 [0]))
          else
            (some l31) : Option ((List Int))) fun l33 =>
        (some l33) : Option ((List Int))) fun l35 =>
    grd (okI .i64 ((O .add x90 1))) <|
    (some (Sum.inl ((O .add x90 1), l35)))
  else
    (some (Sum.inr l29))
def m_periodic_repeats_L2 (O : Ops) (l37 : List Int) (period_1 : Int) (q_1 : Int) : (Int) → Option ((Int) ⊕ ((Unit) ⊕ (Unit))) := fun x93 =>
  bif (O .lt x93 (O .ofNat (O .len .i1 l37))) then
    grd (okIdx x93 ((O .len .i1 l37))) <|
    grd (okKin ((O .toNat x93)) ((O .len .i1 l37))) <|
    grd (okI .i64 ((O .add (O .get .i1 l37 (O .toNat x93)) q_1))) <|
    Option.bind (
      bif (O .le period_1 (O .add (O .get .i1 l37 (O .toNat x93)) q_1)) then
        grd (okI .i64 ((O .sub (O .add (O .get .i1 l37 (O .toNat x93)) q_1) period_1))) <|
        (some (O .sub (O .add (O .get .i1 l37 (O .toNat x93)) q_1) period_1))
      else
        (some (O .add (O .get .i1 l37 (O .toNat x93)) q_1)) : Option ((Int))) fun y3 =>
    grd (okI .i64 ((O .add x93 (O .quo (O .mul (O .ofNat (O .len .i1 l37)) q_1) period_1)))) <|
    grd (okNz ((O .ofNat (O .len .i1 l37)))) <|
    grd (okIdx ((O .rem (O .add x93 (O .quo (O .mul (O .ofNat (O .len .i1 l37)) q_1) period_1)) (O .ofNat (O .len .i1 l37)))) ((O .len .i1 l37))) <|
    grd (okKin ((O .toNat (O .rem (O .add x93 (O .quo (O .mul (O .ofNat (O .len .i1 l37)) q_1) period_1)) (O .ofNat (O .len .i1 l37))))) ((O .len .i1 l37))) <|
    bif (O .not (O .eq (O .get .i1 l37 (O .toNat (O .rem (O .add x93 (O .quo (O .mul (O .ofNat (O .len .i1 l37)) q_1) period_1)) (O .ofNat (O .len .i1 l37))))) y3)) then
      (some (Sum.inr (Sum.inl ())))
    else
      grd (okI .i64 ((O .add x93 1))) <|
      (some (Sum.inl (O .add x93 1)))
  else
    (some (Sum.inr (Sum.inr ())))
def m_periodic_repeats (O : Ops) (period_1 : Int) (q_1 : Int) (l_1 : List (Int × Int)) : Option (Bool) :=
  Option.bind (loop (m_periodic_repeats_L1 O l_1 period_1) (0, ([] : List Int))) fun l36 =>
  Option.bind (m_sortI O l36) fun l37 =>
  bif (O .eq (O .ofNat (O .len .i1 l37)) 0) then
    (some true)
  else
    grd (okI .i64 ((O .mul (O .ofNat (O .len .i1 l37)) q_1))) <|
    grd (okNz period_1) <|
    grd (okI .i64 ((O .quo (O .mul (O .ofNat (O .len .i1 l37)) q_1) period_1))) <|
    grd (okI .i64 ((O .mul (O .quo (O .mul (O .ofNat (O .len .i1 l37)) q_1) period_1) period_1))) <|
    bif (O .not (O .eq (O .mul (O .quo (O .mul (O .ofNat (O .len .i1 l37)) q_1) period_1) period_1) (O .mul (O .ofNat (O .len .i1 l37)) q_1))) then
      (some false)
    else
      grd (okNz 2) <|
      bif (O .not (O .eq (O .rem (O .quo (O .mul (O .ofNat (O .len .i1 l37)) q_1) period_1) 2) 0)) then
        (some false)
      else
        Option.bind (loop (m_periodic_repeats_L2 O l37 period_1 q_1) 0) fun e => match e with
        | .inl _ =>
          (some false)
        | .inr (_) =>
          (some true)
def m_periodic_least_L1 (O : Ops) (l_1 : List (Int × Int)) (period_1 : Int) : (Int × Int) → Option ((Int × Int) ⊕ (Int)) := fun (best1, q3) =>
  grd (okNz q3) <|
  grd (okI .i64 ((O .quo period_1 q3))) <|
  bif (O .le q3 (O .quo period_1 q3)) then
    bif (O .not (O .eq (O .rem period_1 q3) 0)) then
      grd (okI .i64 ((O .add q3 1))) <|
      (some (Sum.inl (best1, (O .add q3 1))))
    else
      Option.bind (m_periodic_repeats O period_1 q3 l_1) fun b26 =>
      bif b26 then
        (some (Sum.inr q3))
      else
        Option.bind (m_periodic_repeats O period_1 ((O .quo period_1 q3)) l_1) fun b27 =>
        Option.bind (
          bif b27 then
            (some (O .quo period_1 q3))
          else
            (some best1) : Option ((Int))) fun best3 =>
        grd (okI .i64 ((O .add q3 1))) <|
        (some (Sum.inl (best3, (O .add q3 1))))
  else
    (some (Sum.inr best1))
def m_periodic_least_L2 (O : Ops) (best5 : Int) (l_1 : List (Int × Int)) : (Int × List (Int × Int)) → Option ((Int × List (Int × Int)) ⊕ (List (Int × Int))) := fun (x95, l40) =>
  bif (O .lt x95 (O .ofNat (O .len .i2 l_1))) then
    grd (okIdx x95 ((O .len .i2 l_1))) <|
    grd (okKin ((O .toNat x95)) ((O .len .i2 l_1))) <|
    Option.bind (
      bif (O .lt ((O .get .i2 l_1 (O .toNat x95))).1 best5) then
        grd (okRoom ((O .len .i2 l40))) <|
        grd (okRoom ((O .len .i2 [(((O .get .i2 l_1 (O .toNat x95))).1, (O .min ((O .get .i2 l_1 (O .toNat x95))).2 best5))]))) <|
        (some (O .app .i2 l40 [(((O .get .i2 l_1 (O .toNat x95))).1, (O .min ((O .get .i2 l_1 (O .toNat x95))).2 best5))]))
      else
        (some l40) : Option ((List (Int × Int)))) fun l42 =>
    grd (okI .i64 ((O .add x95 1))) <|
    (some (Sum.inl ((O .add x95 1), l42)))
  else
    (some (Sum.inr l40))
def m_periodic_least (O : Ops) (period_1 : Int) (l_1 : List (Int × Int)) : Option (Int × List (Int × Int)) :=
  Option.bind (loop (m_periodic_least_L1 O l_1 period_1) (period_1, 1)) fun best5 =>
  Option.bind (loop (m_periodic_least_L2 O best5 l_1) (0, ([] : List (Int × Int)))) fun l43 =>
  (some (best5, l43))
def m_periodic_Valid (O : Ops) (p_1 : Int) (p_2 : List (Int × Int)) : Option (Bool) :=
  Option.bind (
    bif (O .le 1 p_1) then
      bif (O .le p_1 12622780800) then
        Option.bind (m_periodic_inside O p_1 p_2) fun b25 =>
        bif b25 then
          Option.bind (m_periodic_least O p_1 p_2) fun (n53, _) =>
          (some (O .eq n53 p_1))
        else
          (some false)
      else
        (some false)
    else
      (some false) : Option ((Bool))) fun x99 =>
  (some x99)
def m_integer_Lcm (O : Ops) (a_1 : Int) (b_1 : Int) : Option (Int × Int) :=
  Option.bind (
    bif (O .lt a_1 1) then
      (some true)
    else
      (some (O .lt b_1 1)) : Option ((Bool))) fun x103 =>
  bif x103 then
    (some (0, 2))
  else
    Option.bind (m_integer_Gcd O a_1 b_1) fun n54 =>
    grd (okNz n54) <|
    grd (okI .i64 ((O .quo b_1 n54))) <|
    Option.bind (m_integer_Mul O a_1 ((O .quo b_1 n54))) fun (n55, n56) =>
    (some (n55, n56))
def m_group_common (O : Ops) (a_1 : Int) (b_1 : Int) : Option (Int × Int) :=
  Option.bind (m_integer_Lcm O a_1 b_1) fun (n57, n58) =>
  Option.bind (
    bif (O .not (O .eq n58 0)) then
      (some true)
    else
      (some (O .lt 12622780800 n57)) : Option ((Bool))) fun x105 =>
  bif x105 then
    (some (0, 9))
  else
    (some (n57, 0))
def m_runs_Measure_L1 (O : Ops) (a_1 : List (Int × Int)) : (Int × Int) → Option ((Int × Int) ⊕ (Int)) := fun (n66, x109) =>
  bif (O .lt x109 (O .ofNat (O .len .i2 a_1))) then
    grd (okIdx x109 ((O .len .i2 a_1))) <|
    grd (okKin ((O .toNat x109)) ((O .len .i2 a_1))) <|
    grd (okI .i64 ((O .sub ((O .get .i2 a_1 (O .toNat x109))).2 ((O .get .i2 a_1 (O .toNat x109))).1))) <|
    grd (okI .i64 ((O .add n66 (O .sub ((O .get .i2 a_1 (O .toNat x109))).2 ((O .get .i2 a_1 (O .toNat x109))).1)))) <|
    grd (okI .i64 ((O .add x109 1))) <|
    (some (Sum.inl ((O .add n66 (O .sub ((O .get .i2 a_1 (O .toNat x109))).2 ((O .get .i2 a_1 (O .toNat x109))).1)), (O .add x109 1))))
  else
    (some (Sum.inr n66))
def m_runs_Measure (O : Ops) (a_1 : List (Int × Int)) : Option (Int) :=
  Option.bind (m_runs_Valid O a_1) fun b31 =>
  bif (O .not b31) then
    (some 0)
  else
    Option.bind (loop (m_runs_Measure_L1 O a_1) (0, 0)) fun n67 =>
    (some n67)
def m_runs_Rank_L1 (O : Ops) (a_1 : List (Int × Int)) (x_1 : Int) : (Int × Int) → Option ((Int × Int) ⊕ (Int)) := fun (n69, x110) =>
  bif (O .lt x110 (O .ofNat (O .len .i2 a_1))) then
    grd (okIdx x110 ((O .len .i2 a_1))) <|
    grd (okKin ((O .toNat x110)) ((O .len .i2 a_1))) <|
    Option.bind (
      bif (O .lt ((O .get .i2 a_1 (O .toNat x110))).1 x_1) then
        grd (okI .i64 ((O .sub (O .min ((O .get .i2 a_1 (O .toNat x110))).2 x_1) ((O .get .i2 a_1 (O .toNat x110))).1))) <|
        grd (okI .i64 ((O .add n69 (O .sub (O .min ((O .get .i2 a_1 (O .toNat x110))).2 x_1) ((O .get .i2 a_1 (O .toNat x110))).1)))) <|
        (some (O .add n69 (O .sub (O .min ((O .get .i2 a_1 (O .toNat x110))).2 x_1) ((O .get .i2 a_1 (O .toNat x110))).1)))
      else
        (some n69) : Option ((Int))) fun n71 =>
    grd (okI .i64 ((O .add x110 1))) <|
    (some (Sum.inl (n71, (O .add x110 1))))
  else
    (some (Sum.inr n69))
def m_runs_Rank (O : Ops) (x_1 : Int) (a_1 : List (Int × Int)) : Option (Int) :=
  Option.bind (m_runs_Valid O a_1) fun b32 =>
  bif (O .not b32) then
    (some 0)
  else
    Option.bind (loop (m_runs_Rank_L1 O a_1 x_1) (0, 0)) fun n72 =>
    (some n72)
def m_periodic_below (O : Ops) (p_1 : Int) (x_1 : Int) (p_2 : List (Int × Int)) : Option (Int) :=
  Option.bind (m_integer_Div O x_1 p_1) fun (n63, n64, _) =>
  Option.bind (m_runs_Measure O p_2) fun n68 =>
  grd (okI .i64 ((O .mul n63 n68))) <|
  Option.bind (m_runs_Rank O n64 p_2) fun n73 =>
  grd (okI .i64 ((O .add (O .mul n63 n68) n73))) <|
  (some (O .add (O .mul n63 n68) n73))
def m_periodic_Count (O : Ops) (p_1 : Int) (in_1 : Int) (in_2 : Int) (p_2 : List (Int × Int)) : Option (Int × Int) :=
  Option.bind (
    Option.bind (m_periodic_Valid O p_1 p_2) fun b29 =>
    bif (O .not b29) then
      (some true)
    else
      Option.bind (m_interval_Valid O in_1 in_2) fun b30 =>
      (some (O .not b30)) : Option ((Bool))) fun x108 =>
  bif x108 then
    (some (0, 1))
  else
    Option.bind (m_periodic_below O p_1 in_2 p_2) fun n74 =>
    Option.bind (m_periodic_below O p_1 in_1 p_2) fun n75 =>
    grd (okI .i64 ((O .sub n74 n75))) <|
    (some ((O .sub n74 n75), 0))
def m_group_Restrict_1 (O : Ops) (k_1 : Int) (x_1 : Int) (x_2 : Int) (x_3 : Int) (x_4 : List (Int × Int)) (x_5 : List (Int × Int)) : Option (Int × Int × Bool) :=
  Option.bind (m_group_at O x_1 x_2 k_1 x_4) fun (n61, n62) =>
  Option.bind (m_periodic_Count O x_3 n61 n62 x_5) fun (n76, n77) =>
  Option.bind (
    bif (O .eq n77 0) then
      grd (okI .i64 ((O .sub n62 n61))) <|
      (some (O .eq n76 (O .sub n62 n61)))
    else
      (some false) : Option ((Bool))) fun x112 =>
  (some (n61, n62, x112))
def m_group_collect_2_L1 (O : Ops) (c_1 : Int) (c_2 : Int) (c_3 : Int) (c_4 : List (Int × Int)) (c_5 : List (Int × Int)) (n_1 : Int) : (Int × List (Int × Int)) → Option ((Int × List (Int × Int)) ⊕ (List (Int × Int))) := fun (x113, l47) =>
  bif (O .lt x113 n_1) then
    Option.bind (m_group_Restrict_1 O x113 c_1 c_2 c_3 c_4 c_5) fun (n80, n81, b34) =>
    Option.bind (
      bif b34 then
        grd (okRoom ((O .len .i2 l47))) <|
        grd (okRoom ((O .len .i2 [(n80, n81)]))) <|
        (some (O .app .i2 l47 [(n80, n81)]))
      else
        (some l47) : Option ((List (Int × Int)))) fun l49 =>
    grd (okI .i64 ((O .add x113 1))) <|
    (some (Sum.inl ((O .add x113 1), l49)))
  else
    (some (Sum.inr l47))
def m_group_collect_2 (O : Ops) (period_1 : Int) (n_1 : Int) (c_1 : Int) (c_2 : Int) (c_3 : Int) (c_4 : List (Int × Int)) (c_5 : List (Int × Int)) : Option (Int × Int × List (Int × Int) × Int) :=
  Option.bind (loop (m_group_collect_2_L1 O c_1 c_2 c_3 c_4 c_5 n_1) (0, ([] : List (Int × Int)))) fun l50 =>
  bif (O .eq (O .ofNat (O .len .i2 l50)) 0) then
    (some (0, 0, ([] : List (Int × Int)), 7))
  else
    Option.bind (m_group_made O period_1 l50) fun (n82, n83, l51, n84) =>
    (some (n82, n83, l51, n84))
def m_group_Restrict (O : Ops) (c_1 : Int) (c_2 : Int) (p_1 : Int) (c_3 : List (Int × Int)) (p_2 : List (Int × Int)) : Option (Int × Int × List (Int × Int) × Int) :=
  Option.bind (
    Option.bind (m_granule_Valid O c_1 c_2 c_3) fun b22 =>
    bif (O .not b22) then
      (some true)
    else
      Option.bind (m_periodic_Valid O p_1 p_2) fun b28 =>
      (some (O .not b28)) : Option ((Bool))) fun x101 =>
  bif x101 then
    (some (0, 0, ([] : List (Int × Int)), 1))
  else
    Option.bind (m_group_common O c_2 p_1) fun (n59, n60) =>
    bif (O .not (O .eq n60 0)) then
      (some (0, 0, ([] : List (Int × Int)), n60))
    else
      grd (okNz c_2) <|
      grd (okI .i64 ((O .quo n59 c_2))) <|
      grd (okI .i64 ((O .mul (O .ofNat (O .len .i2 c_3)) (O .quo n59 c_2)))) <|
      bif (O .lt 5000 (O .mul (O .ofNat (O .len .i2 c_3)) (O .quo n59 c_2))) then
        (some (0, 0, ([] : List (Int × Int)), 5))
      else
        Option.bind (m_group_collect_2 O n59 ((O .mul (O .ofNat (O .len .i2 c_3)) (O .quo n59 c_2))) c_1 c_2 p_1 c_3 p_2) fun (n85, n86, l52, n87) =>
        (some (n85, n86, l52, n87))
def m_ref16_repeats_L1 (O : Ops) (d_1 : Int) (l_1 : List (Int × Int)) (part_1 : Int) : (Int) → Option ((Int) ⊕ ((Unit) ⊕ (Unit))) := fun i4 =>
  bif (O .lt i4 (O .ofNat (O .len .i2 l_1))) then
    Option.bind (
      bif (O .not (O .eq ((O .get .i2 l_1 (O .toNat i4))).1 (O .add ((O .get .i2 l_1 (O .toNat (O .sub i4 d_1)))).1 part_1))) then
        grd (okIdx i4 ((O .len .i2 l_1))) <|
        grd (okKin ((O .toNat i4)) ((O .len .i2 l_1))) <|
        grd (okI .i64 ((O .sub i4 d_1))) <|
        grd (okIdx ((O .sub i4 d_1)) ((O .len .i2 l_1))) <|
        grd (okKin ((O .toNat (O .sub i4 d_1))) ((O .len .i2 l_1))) <|
        grd (okI .i64 ((O .add ((O .get .i2 l_1 (O .toNat (O .sub i4 d_1)))).1 part_1))) <|
        (some true)
      else
        grd (okIdx i4 ((O .len .i2 l_1))) <|
        grd (okKin ((O .toNat i4)) ((O .len .i2 l_1))) <|
        grd (okI .i64 ((O .sub i4 d_1))) <|
        grd (okIdx ((O .sub i4 d_1)) ((O .len .i2 l_1))) <|
        grd (okKin ((O .toNat (O .sub i4 d_1))) ((O .len .i2 l_1))) <|
        grd (okI .i64 ((O .add ((O .get .i2 l_1 (O .toNat (O .sub i4 d_1)))).1 part_1))) <|
        grd (okI .i64 ((O .add ((O .get .i2 l_1 (O .toNat (O .sub i4 d_1)))).2 part_1))) <|
        (some (O .not (O .eq ((O .get .i2 l_1 (O .toNat i4))).2 (O .add ((O .get .i2 l_1 (O .toNat (O .sub i4 d_1)))).2 part_1)))) : Option ((Bool))) fun x120 =>
    bif x120 then
      (some (Sum.inr (Sum.inl ())))
    else
      grd (okI .i64 ((O .add i4 1))) <|
      (some (Sum.inl (O .add i4 1)))
  else
    (some (Sum.inr (Sum.inr ())))
def m_ref16_repeats (O : Ops) (part_1 : Int) (d_1 : Int) (l_1 : List (Int × Int)) : Option (Bool) :=
  Option.bind (loop (m_ref16_repeats_L1 O d_1 l_1 part_1) d_1) fun e => match e with
  | .inl _ =>
    (some false)
  | .inr (_) =>
    (some true)
def m_ref16_least_L1 (O : Ops) (l_1 : List (Int × Int)) (period_1 : Int) : (Int) → Option ((Int) ⊕ ((Int) ⊕ (Unit))) := fun d1 =>
  bif (O .lt d1 (O .ofNat (O .len .i2 l_1))) then
    Option.bind (
      bif (O .eq (O .rem (O .ofNat (O .len .i2 l_1)) d1) 0) then
        bif (O .eq (O .rem period_1 (O .quo (O .ofNat (O .len .i2 l_1)) d1)) 0) then
          grd (okNz d1) <|
          grd (okI .i64 ((O .quo (O .ofNat (O .len .i2 l_1)) d1))) <|
          grd (okNz ((O .quo (O .ofNat (O .len .i2 l_1)) d1))) <|
          grd (okI .i64 ((O .quo period_1 (O .quo (O .ofNat (O .len .i2 l_1)) d1)))) <|
          Option.bind (m_ref16_repeats O ((O .quo period_1 (O .quo (O .ofNat (O .len .i2 l_1)) d1))) d1 l_1) fun b35 =>
          (some b35)
        else
          grd (okNz d1) <|
          grd (okI .i64 ((O .quo (O .ofNat (O .len .i2 l_1)) d1))) <|
          grd (okNz ((O .quo (O .ofNat (O .len .i2 l_1)) d1))) <|
          (some false)
      else
        grd (okNz d1) <|
        (some false) : Option ((Bool))) fun x123 =>
    bif x123 then
      (some (Sum.inr (Sum.inl d1)))
    else
      grd (okI .i64 ((O .add d1 1))) <|
      (some (Sum.inl (O .add d1 1)))
  else
    (some (Sum.inr (Sum.inr ())))
def m_ref16_least (O : Ops) (period_1 : Int) (l_1 : List (Int × Int)) : Option (Int) :=
  Option.bind (loop (m_ref16_least_L1 O l_1 period_1) 1) fun e => match e with
  | .inl x124 =>
    (some x124)
  | .inr (_) =>
    (some (O .ofNat (O .len .i2 l_1)))
def m_ref16_Valid_L1 (O : Ops) (c_2 : Int) (c_3 : List (Int × Int)) : (Int) → Option ((Int) ⊕ ((Unit) ⊕ (Unit))) := fun i3 =>
  bif (O .lt i3 (O .ofNat (O .len .i2 c_3))) then
    Option.bind (
      bif (O .le ((O .get .i2 c_3 (O .toNat i3))).2 ((O .get .i2 c_3 (O .toNat i3))).1) then
        grd (okIdx i3 ((O .len .i2 c_3))) <|
        grd (okKin ((O .toNat i3)) ((O .len .i2 c_3))) <|
        (some true)
      else
        bif (O .lt ((O .get .i2 c_3 (O .toNat i3))).1 0) then
          grd (okIdx i3 ((O .len .i2 c_3))) <|
          grd (okKin ((O .toNat i3)) ((O .len .i2 c_3))) <|
          (some true)
        else
          bif (O .lt c_2 ((O .get .i2 c_3 (O .toNat i3))).2) then
            grd (okIdx i3 ((O .len .i2 c_3))) <|
            grd (okKin ((O .toNat i3)) ((O .len .i2 c_3))) <|
            (some true)
          else
            bif (O .lt 0 i3) then
              grd (okIdx i3 ((O .len .i2 c_3))) <|
              grd (okKin ((O .toNat i3)) ((O .len .i2 c_3))) <|
              grd (okI .i64 ((O .sub i3 1))) <|
              grd (okIdx ((O .sub i3 1)) ((O .len .i2 c_3))) <|
              grd (okKin ((O .toNat (O .sub i3 1))) ((O .len .i2 c_3))) <|
              (some (O .lt ((O .get .i2 c_3 (O .toNat i3))).1 ((O .get .i2 c_3 (O .toNat (O .sub i3 1)))).2))
            else
              grd (okIdx i3 ((O .len .i2 c_3))) <|
              grd (okKin ((O .toNat i3)) ((O .len .i2 c_3))) <|
              (some false) : Option ((Bool))) fun x118 =>
    bif x118 then
      (some (Sum.inr (Sum.inl ())))
    else
      grd (okI .i64 ((O .add i3 1))) <|
      (some (Sum.inl (O .add i3 1)))
  else
    (some (Sum.inr (Sum.inr ())))
def m_ref16_Valid (O : Ops) (c_1 : Int) (c_2 : Int) (c_3 : List (Int × Int)) : Option (Bool) :=
  Option.bind (
    bif (O .lt (O .ofNat (O .len .i2 c_3)) 1) then
      (some true)
    else
      bif (O .lt 5000 (O .ofNat (O .len .i2 c_3))) then
        (some true)
      else
        bif (O .lt c_2 1) then
          (some true)
        else
          bif (O .lt 12622780800 c_2) then
            (some true)
          else
            bif (O .lt 2199023255552 c_1) then
              (some true)
            else
              bif (O .lt c_1 (-2199023255552)) then
                (some true)
              else
                grd (okIdx 0 ((O .len .i2 c_3))) <|
                grd (okKin ((O .toNat 0)) ((O .len .i2 c_3))) <|
                (some (O .not (O .eq ((O .get .i2 c_3 (O .toNat 0))).1 0))) : Option ((Bool))) fun x115 =>
  bif x115 then
    (some false)
  else
    Option.bind (loop (m_ref16_Valid_L1 O c_2 c_3) 0) fun e => match e with
    | .inl _ =>
      (some false)
    | .inr (_) =>
      Option.bind (m_ref16_least O c_2 c_3) fun n91 =>
      (some (O .eq n91 (O .ofNat (O .len .i2 c_3))))
def m_ref12_Number (O : Ops) (x_1 : Int) : Option (Bool) :=
  Option.bind (
    bif (O .le (-4398046511104) x_1) then
      (some (O .le x_1 4398046511104))
    else
      (some false) : Option ((Bool))) fun x126 =>
  (some x126)
def m_ref12_Span (O : Ops) (s_1 : Int) (s_2 : Int) : Option (Bool) :=
  Option.bind (
    Option.bind (m_ref12_Number O s_1) fun b37 =>
    bif b37 then
      Option.bind (m_ref12_Number O s_2) fun b38 =>
      bif b38 then
        (some (O .lt s_1 s_2))
      else
        (some false)
    else
      (some false) : Option ((Bool))) fun x129 =>
  (some x129)
def m_ref12_Spans_L1 (O : Ops) (l_1 : List (Int × Int)) : (Int) → Option ((Int) ⊕ ((Unit) ⊕ (Unit))) := fun i5 =>
  bif (O .lt i5 (O .ofNat (O .len .i2 l_1))) then
    grd (okIdx i5 ((O .len .i2 l_1))) <|
    grd (okKin ((O .toNat i5)) ((O .len .i2 l_1))) <|
    Option.bind (m_ref12_Span O (((O .get .i2 l_1 (O .toNat i5))).1) (((O .get .i2 l_1 (O .toNat i5))).2)) fun b39 =>
    bif (O .not b39) then
      (some (Sum.inr (Sum.inl ())))
    else
      grd (okI .i64 ((O .add i5 1))) <|
      (some (Sum.inl (O .add i5 1)))
  else
    (some (Sum.inr (Sum.inr ())))
def m_ref12_Spans (O : Ops) (l_1 : List (Int × Int)) : Option (Bool) :=
  Option.bind (loop (m_ref12_Spans_L1 O l_1) 0) fun e => match e with
  | .inl _ =>
    (some false)
  | .inr (_) =>
    (some true)
def m_ref12_Valid_L1 (O : Ops) (l_1 : List (Int × Int)) : (Int) → Option ((Int) ⊕ ((Unit) ⊕ (Unit))) := fun i6 =>
  bif (O .lt i6 (O .ofNat (O .len .i2 l_1))) then
    grd (okI .i64 ((O .sub i6 1))) <|
    grd (okIdx ((O .sub i6 1)) ((O .len .i2 l_1))) <|
    grd (okKin ((O .toNat (O .sub i6 1))) ((O .len .i2 l_1))) <|
    grd (okIdx i6 ((O .len .i2 l_1))) <|
    grd (okKin ((O .toNat i6)) ((O .len .i2 l_1))) <|
    bif (O .le ((O .get .i2 l_1 (O .toNat i6))).1 ((O .get .i2 l_1 (O .toNat (O .sub i6 1)))).2) then
      (some (Sum.inr (Sum.inl ())))
    else
      grd (okI .i64 ((O .add i6 1))) <|
      (some (Sum.inl (O .add i6 1)))
  else
    (some (Sum.inr (Sum.inr ())))
def m_ref12_Valid (O : Ops) (l_1 : List (Int × Int)) : Option (Bool) :=
  Option.bind (
    bif (O .lt 2000 (O .ofNat (O .len .i2 l_1))) then
      (some true)
    else
      Option.bind (m_ref12_Spans O l_1) fun b40 =>
      (some (O .not b40)) : Option ((Bool))) fun x131 =>
  bif x131 then
    (some false)
  else
    Option.bind (loop (m_ref12_Valid_L1 O l_1) 1) fun e => match e with
    | .inl _ =>
      (some false)
    | .inr (_) =>
      (some true)
def m_ref12_Ends_L1 (O : Ops) (i17 : Int) (l68 : List Int) (l_1 : List (Int × Int)) : (Int) → Option ((Int) ⊕ (Int)) := fun i19 =>
  Option.bind (
    bif (O .lt 0 i19) then
      grd (okI .i64 ((O .sub i19 1))) <|
      grd (okIdx ((O .sub i19 1)) ((O .len .i1 l68))) <|
      grd (okKin ((O .toNat (O .sub i19 1))) ((O .len .i1 l68))) <|
      (some (O .le ((O .get .i2 l_1 (O .toNat i17))).1 (O .get .i1 l68 (O .toNat (O .sub i19 1)))))
    else
      (some false) : Option ((Bool))) fun x155 =>
  bif x155 then
    grd (okI .i64 ((O .sub i19 1))) <|
    (some (Sum.inl (O .sub i19 1)))
  else
    (some (Sum.inr i19))
def m_ref12_Ends_L2 (O : Ops) (i17 : Int) (l70 : List Int) (l_1 : List (Int × Int)) : (Int) → Option ((Int) ⊕ (Int)) := fun i22 =>
  Option.bind (
    bif (O .lt 0 i22) then
      grd (okI .i64 ((O .sub i22 1))) <|
      grd (okIdx ((O .sub i22 1)) ((O .len .i1 l70))) <|
      grd (okKin ((O .toNat (O .sub i22 1))) ((O .len .i1 l70))) <|
      (some (O .le ((O .get .i2 l_1 (O .toNat i17))).2 (O .get .i1 l70 (O .toNat (O .sub i22 1)))))
    else
      (some false) : Option ((Bool))) fun x161 =>
  bif x161 then
    grd (okI .i64 ((O .sub i22 1))) <|
    (some (Sum.inl (O .sub i22 1)))
  else
    (some (Sum.inr i22))
def m_ref12_Ends_L3 (O : Ops) (l_1 : List (Int × Int)) : (Int × List Int) → Option ((Int × List Int) ⊕ (List Int)) := fun (i17, l68) =>
  bif (O .lt i17 (O .ofNat (O .len .i2 l_1))) then
    Option.bind (
      grd (okIdx i17 ((O .len .i2 l_1))) <|
      grd (okKin ((O .toNat i17)) ((O .len .i2 l_1))) <|
      Option.bind (loop (m_ref12_Ends_L1 O i17 l68 l_1) (O .ofNat (O .len .i1 l68))) fun i20 =>
      Option.bind (
        bif (O .lt i20 (O .ofNat (O .len .i1 l68))) then
          grd (okIdx i20 ((O .len .i1 l68))) <|
          grd (okKin ((O .toNat i20)) ((O .len .i1 l68))) <|
          (some (O .eq (O .get .i1 l68 (O .toNat i20)) ((O .get .i2 l_1 (O .toNat i17))).1))
        else
          (some false) : Option ((Bool))) fun x157 =>
      bif x157 then
        (some l68)
      else
        grd (okRng i20 ((O .len .i1 l68))) <|
        grd (okRoom ((O .len .i1 []))) <|
        grd (okRoom ((O .len .i1 (O .cut .i1 l68 0 (O .toNat i20))))) <|
        grd (okRoom ((O .len .i1 (O .app .i1 [] (O .cut .i1 l68 0 (O .toNat i20)))))) <|
        grd (okRoom ((O .len .i1 [((O .get .i2 l_1 (O .toNat i17))).1]))) <|
        grd (okRoom ((O .len .i1 (O .app .i1 (O .app .i1 [] (O .cut .i1 l68 0 (O .toNat i20))) [((O .get .i2 l_1 (O .toNat i17))).1])))) <|
        grd (okRoom ((O .len .i1 (O .cut .i1 l68 (O .toNat i20) (O .len .i1 l68))))) <|
        (some (O .app .i1 (O .app .i1 (O .app .i1 [] (O .cut .i1 l68 0 (O .toNat i20))) [((O .get .i2 l_1 (O .toNat i17))).1]) (O .cut .i1 l68 (O .toNat i20) (O .len .i1 l68)))) : Option ((List Int))) fun l70 =>
    Option.bind (
      Option.bind (loop (m_ref12_Ends_L2 O i17 l70 l_1) (O .ofNat (O .len .i1 l70))) fun i23 =>
      Option.bind (
        bif (O .lt i23 (O .ofNat (O .len .i1 l70))) then
          grd (okIdx i23 ((O .len .i1 l70))) <|
          grd (okKin ((O .toNat i23)) ((O .len .i1 l70))) <|
          (some (O .eq (O .get .i1 l70 (O .toNat i23)) ((O .get .i2 l_1 (O .toNat i17))).2))
        else
          (some false) : Option ((Bool))) fun x163 =>
      bif x163 then
        (some l70)
      else
        grd (okRng i23 ((O .len .i1 l70))) <|
        grd (okRoom ((O .len .i1 []))) <|
        grd (okRoom ((O .len .i1 (O .cut .i1 l70 0 (O .toNat i23))))) <|
        grd (okRoom ((O .len .i1 (O .app .i1 [] (O .cut .i1 l70 0 (O .toNat i23)))))) <|
        grd (okRoom ((O .len .i1 [((O .get .i2 l_1 (O .toNat i17))).2]))) <|
        grd (okRoom ((O .len .i1 (O .app .i1 (O .app .i1 [] (O .cut .i1 l70 0 (O .toNat i23))) [((O .get .i2 l_1 (O .toNat i17))).2])))) <|
        grd (okRoom ((O .len .i1 (O .cut .i1 l70 (O .toNat i23) (O .len .i1 l70))))) <|
        (some (O .app .i1 (O .app .i1 (O .app .i1 [] (O .cut .i1 l70 0 (O .toNat i23))) [((O .get .i2 l_1 (O .toNat i17))).2]) (O .cut .i1 l70 (O .toNat i23) (O .len .i1 l70)))) : Option ((List Int))) fun l72 =>
    grd (okI .i64 ((O .add i17 1))) <|
    (some (Sum.inl ((O .add i17 1), l72)))
  else
    (some (Sum.inr l68))
def m_ref12_Ends (O : Ops) (l_1 : List (Int × Int)) : Option (List Int) :=
  Option.bind (loop (m_ref12_Ends_L3 O l_1) (0, ([] : List Int))) fun l73 =>
  (some l73)
def m_ref12_In_L1 (O : Ops) (l_1 : List (Int × Int)) (x_1 : Int) : (Int) → Option ((Int) ⊕ ((Unit) ⊕ (Unit))) := fun i25 =>
  bif (O .lt i25 (O .ofNat (O .len .i2 l_1))) then
    Option.bind (
      bif (O .le ((O .get .i2 l_1 (O .toNat i25))).1 x_1) then
        grd (okIdx i25 ((O .len .i2 l_1))) <|
        grd (okKin ((O .toNat i25)) ((O .len .i2 l_1))) <|
        (some (O .lt x_1 ((O .get .i2 l_1 (O .toNat i25))).2))
      else
        grd (okIdx i25 ((O .len .i2 l_1))) <|
        grd (okKin ((O .toNat i25)) ((O .len .i2 l_1))) <|
        (some false) : Option ((Bool))) fun x165 =>
    bif x165 then
      (some (Sum.inr (Sum.inl ())))
    else
      grd (okI .i64 ((O .add i25 1))) <|
      (some (Sum.inl (O .add i25 1)))
  else
    (some (Sum.inr (Sum.inr ())))
def m_ref12_In (O : Ops) (x_1 : Int) (l_1 : List (Int × Int)) : Option (Bool) :=
  Option.bind (loop (m_ref12_In_L1 O l_1 x_1) 0) fun e => match e with
  | .inl _ =>
    (some true)
  | .inr (_) =>
    (some false)
def m_ref12_keep (O : Ops) (kind_1 : Int) (a_1 : Bool) (b_1 : Bool) : Option (Bool) :=
  Option.bind (
    bif (O .eq kind_1 1) then
      Option.bind (
        bif a_1 then
          (some true)
        else
          (some b_1) : Option ((Bool))) fun x167 =>
      (some (Sum.inl x167))
    else
      Option.bind (
        bif (O .eq kind_1 2) then
          Option.bind (
            bif a_1 then
              (some b_1)
            else
              (some false) : Option ((Bool))) fun x169 =>
          (some (Sum.inl x169))
        else
          bif (O .eq kind_1 3) then
            Option.bind (
              bif a_1 then
                (some (O .not b_1))
              else
                (some false) : Option ((Bool))) fun x171 =>
            (some (Sum.inl x171))
          else
            (some (Sum.inr ())) : Option (((Bool) ⊕ (Unit)))) fun e => match e with
      | .inl x173 =>
        (some (Sum.inl x173))
      | .inr (_) =>
        (some (Sum.inr ())) : Option (((Bool) ⊕ (Unit)))) fun e => match e with
  | .inl x175 =>
    (some x175)
  | .inr (_) =>
    (some (O .not (O .beq a_1 b_1)))
def m_ref12_Combine_L1 (O : Ops) (a_1 : List (Int × Int)) (b_1 : List (Int × Int)) (kind_1 : Int) (l74 : List Int) : (Int × List (Int × Int)) → Option ((Int × List (Int × Int)) ⊕ (List (Int × Int))) := fun (i26, l79) =>
  grd (okI .i64 ((O .add i26 1))) <|
  bif (O .lt (O .add i26 1) (O .ofNat (O .len .i1 l74))) then
    grd (okIdx i26 ((O .len .i1 l74))) <|
    grd (okKin ((O .toNat i26)) ((O .len .i1 l74))) <|
    Option.bind (m_ref12_In O ((O .get .i1 l74 (O .toNat i26))) a_1) fun b45 =>
    Option.bind (m_ref12_In O ((O .get .i1 l74 (O .toNat i26))) b_1) fun b46 =>
    Option.bind (m_ref12_keep O kind_1 b45 b46) fun b47 =>
    Option.bind (
      bif b47 then
        Option.bind (
          grd (okIdx ((O .add i26 1)) ((O .len .i1 l74))) <|
          grd (okKin ((O .toNat (O .add i26 1))) ((O .len .i1 l74))) <|
          Option.bind (
            bif (O .lt 0 (O .ofNat (O .len .i2 l79))) then
              grd (okI .i64 ((O .sub (O .ofNat (O .len .i2 l79)) 1))) <|
              grd (okIdx ((O .sub (O .ofNat (O .len .i2 l79)) 1)) ((O .len .i2 l79))) <|
              grd (okKin ((O .toNat (O .sub (O .ofNat (O .len .i2 l79)) 1))) ((O .len .i2 l79))) <|
              (some (O .eq ((O .get .i2 l79 (O .toNat (O .sub (O .ofNat (O .len .i2 l79)) 1)))).2 (O .get .i1 l74 (O .toNat i26))))
            else
              (some false) : Option ((Bool))) fun x179 =>
          bif x179 then
            grd (okI .i64 ((O .sub (O .ofNat (O .len .i2 l79)) 1))) <|
            grd (okIdx ((O .sub (O .ofNat (O .len .i2 l79)) 1)) ((O .len .i2 l79))) <|
            grd (okKin ((O .toNat (O .sub (O .ofNat (O .len .i2 l79)) 1))) ((O .len .i2 l79))) <|
            (some (O .put .i2 l79 (O .toNat (O .sub (O .ofNat (O .len .i2 l79)) 1)) (((O .get .i2 l79 (O .toNat (O .sub (O .ofNat (O .len .i2 l79)) 1)))).1, (O .get .i1 l74 (O .toNat (O .add i26 1))))))
          else
            grd (okRoom ((O .len .i2 l79))) <|
            grd (okRoom ((O .len .i2 [((O .get .i1 l74 (O .toNat i26)), (O .get .i1 l74 (O .toNat (O .add i26 1))))]))) <|
            (some (O .app .i2 l79 [((O .get .i1 l74 (O .toNat i26)), (O .get .i1 l74 (O .toNat (O .add i26 1))))])) : Option ((List (Int × Int)))) fun l81 =>
        (some l81)
      else
        (some l79) : Option ((List (Int × Int)))) fun l83 =>
    (some (Sum.inl ((O .add i26 1), l83)))
  else
    (some (Sum.inr l79))
def m_ref12_Combine (O : Ops) (kind_1 : Int) (a_1 : List (Int × Int)) (b_1 : List (Int × Int)) : Option (List (Int × Int)) :=
  grd (okRoom ((O .len .i2 []))) <|
  grd (okRoom ((O .len .i2 a_1))) <|
  grd (okRoom ((O .len .i2 (O .app .i2 [] a_1)))) <|
  grd (okRoom ((O .len .i2 b_1))) <|
  Option.bind (m_ref12_Ends O ((O .app .i2 (O .app .i2 [] a_1) b_1))) fun l74 =>
  Option.bind (loop (m_ref12_Combine_L1 O a_1 b_1 kind_1 l74) (0, ([] : List (Int × Int)))) fun l84 =>
  (some l84)
def m_ref16_again_L1 (O : Ops) (p_1 : Int) (p_2 : List (Int × Int)) (part_1 : Int) : (Int × List (Int × Int)) → Option ((Int × List (Int × Int)) ⊕ (List (Int × Int))) := fun (i9, l58) =>
  bif (O .lt i9 (O .ofNat (O .len .i2 p_2))) then
    grd (okIdx i9 ((O .len .i2 p_2))) <|
    grd (okKin ((O .toNat i9)) ((O .len .i2 p_2))) <|
    grd (okI .i64 ((O .add ((O .get .i2 p_2 (O .toNat i9))).1 part_1))) <|
    grd (okI .i64 ((O .add ((O .get .i2 p_2 (O .toNat i9))).2 part_1))) <|
    Option.bind (
      bif (O .le (O .add ((O .get .i2 p_2 (O .toNat i9))).2 part_1) p_1) then
        grd (okRoom ((O .len .i2 l58))) <|
        grd (okRoom ((O .len .i2 [((O .add ((O .get .i2 p_2 (O .toNat i9))).1 part_1), (O .add ((O .get .i2 p_2 (O .toNat i9))).2 part_1))]))) <|
        (some (O .app .i2 l58 [((O .add ((O .get .i2 p_2 (O .toNat i9))).1 part_1), (O .add ((O .get .i2 p_2 (O .toNat i9))).2 part_1))]))
      else
        Option.bind (
          bif (O .le p_1 (O .add ((O .get .i2 p_2 (O .toNat i9))).1 part_1)) then
            grd (okI .i64 ((O .sub (O .add ((O .get .i2 p_2 (O .toNat i9))).1 part_1) p_1))) <|
            grd (okI .i64 ((O .sub (O .add ((O .get .i2 p_2 (O .toNat i9))).2 part_1) p_1))) <|
            grd (okRoom ((O .len .i2 l58))) <|
            grd (okRoom ((O .len .i2 [((O .sub (O .add ((O .get .i2 p_2 (O .toNat i9))).1 part_1) p_1), (O .sub (O .add ((O .get .i2 p_2 (O .toNat i9))).2 part_1) p_1))]))) <|
            (some (O .app .i2 l58 [((O .sub (O .add ((O .get .i2 p_2 (O .toNat i9))).1 part_1) p_1), (O .sub (O .add ((O .get .i2 p_2 (O .toNat i9))).2 part_1) p_1))]))
          else
            grd (okRoom ((O .len .i2 l58))) <|
            grd (okRoom ((O .len .i2 [((O .add ((O .get .i2 p_2 (O .toNat i9))).1 part_1), p_1)]))) <|
            grd (okI .i64 ((O .sub (O .add ((O .get .i2 p_2 (O .toNat i9))).2 part_1) p_1))) <|
            grd (okRoom ((O .len .i2 (O .app .i2 l58 [((O .add ((O .get .i2 p_2 (O .toNat i9))).1 part_1), p_1)])))) <|
            grd (okRoom ((O .len .i2 [(0, (O .sub (O .add ((O .get .i2 p_2 (O .toNat i9))).2 part_1) p_1))]))) <|
            (some (O .app .i2 (O .app .i2 l58 [((O .add ((O .get .i2 p_2 (O .toNat i9))).1 part_1), p_1)]) [(0, (O .sub (O .add ((O .get .i2 p_2 (O .toNat i9))).2 part_1) p_1))])) : Option ((List (Int × Int)))) fun l60 =>
        (some l60) : Option ((List (Int × Int)))) fun l62 =>
    grd (okI .i64 ((O .add i9 1))) <|
    (some (Sum.inl ((O .add i9 1), l62)))
  else
    (some (Sum.inr l58))
def m_ref16_again (O : Ops) (p_1 : Int) (part_1 : Int) (p_2 : List (Int × Int)) : Option (Bool) :=
  Option.bind (loop (m_ref16_again_L1 O p_1 p_2 part_1) (0, ([] : List (Int × Int)))) fun l63 =>
  Option.bind (m_ref12_Combine O 1 l63 (([] : List (Int × Int)))) fun l85 =>
  Option.bind (m_ref12_Same O l85 p_2) fun b48 =>
  (some b48)
def m_ref16_Periodic_L1 (O : Ops) (p_1 : Int) (p_2 : List (Int × Int)) : (Int) → Option ((Int) ⊕ ((Unit) ⊕ (Unit))) := fun i7 =>
  bif (O .lt i7 (O .ofNat (O .len .i2 p_2))) then
    Option.bind (
      bif (O .lt ((O .get .i2 p_2 (O .toNat i7))).1 0) then
        grd (okIdx i7 ((O .len .i2 p_2))) <|
        grd (okKin ((O .toNat i7)) ((O .len .i2 p_2))) <|
        (some true)
      else
        grd (okIdx i7 ((O .len .i2 p_2))) <|
        grd (okKin ((O .toNat i7)) ((O .len .i2 p_2))) <|
        (some (O .lt p_1 ((O .get .i2 p_2 (O .toNat i7))).2)) : Option ((Bool))) fun x135 =>
    bif x135 then
      (some (Sum.inr (Sum.inl ())))
    else
      grd (okI .i64 ((O .add i7 1))) <|
      (some (Sum.inl (O .add i7 1)))
  else
    (some (Sum.inr (Sum.inr ())))
def m_ref16_Periodic_L2 (O : Ops) (p_1 : Int) (p_2 : List (Int × Int)) : (Int) → Option ((Int) ⊕ ((Unit) ⊕ (Unit))) := fun k1 =>
  grd (okI .i64 ((O .mul 2 (O .ofNat (O .len .i2 p_2))))) <|
  grd (okI .i64 ((O .add (O .mul 2 (O .ofNat (O .len .i2 p_2))) 1))) <|
  bif (O .le k1 (O .add (O .mul 2 (O .ofNat (O .len .i2 p_2))) 1)) then
    Option.bind (
      bif (O .eq (O .rem p_1 k1) 0) then
        grd (okNz k1) <|
        grd (okI .i64 ((O .quo p_1 k1))) <|
        Option.bind (m_ref16_again O p_1 ((O .quo p_1 k1)) p_2) fun b49 =>
        (some b49)
      else
        grd (okNz k1) <|
        (some false) : Option ((Bool))) fun x181 =>
    bif x181 then
      (some (Sum.inr (Sum.inl ())))
    else
      grd (okI .i64 ((O .add k1 1))) <|
      (some (Sum.inl (O .add k1 1)))
  else
    (some (Sum.inr (Sum.inr ())))
def m_ref16_Periodic (O : Ops) (p_1 : Int) (p_2 : List (Int × Int)) : Option (Bool) :=
  Option.bind (
    bif (O .lt p_1 1) then
      (some true)
    else
      bif (O .lt 12622780800 p_1) then
        (some true)
      else
        Option.bind (m_ref12_Valid O p_2) fun b41 =>
        (some (O .not b41)) : Option ((Bool))) fun x133 =>
  bif x133 then
    (some false)
  else
    Option.bind (loop (m_ref16_Periodic_L1 O p_1 p_2) 0) fun e => match e with
    | .inl _ =>
      (some false)
    | .inr (_) =>
      Option.bind (
        bif (O .eq (O .ofNat (O .len .i2 p_2)) 0) then
          (some true)
        else
          bif (O .eq (O .ofNat (O .len .i2 p_2)) 1) then
            bif (O .eq ((O .get .i2 p_2 (O .toNat 0))).1 0) then
              grd (okIdx 0 ((O .len .i2 p_2))) <|
              grd (okKin ((O .toNat 0)) ((O .len .i2 p_2))) <|
              (some (O .eq ((O .get .i2 p_2 (O .toNat 0))).2 p_1))
            else
              grd (okIdx 0 ((O .len .i2 p_2))) <|
              grd (okKin ((O .toNat 0)) ((O .len .i2 p_2))) <|
              (some false)
          else
            (some false) : Option ((Bool))) fun x139 =>
      bif x139 then
        (some (O .eq p_1 1))
      else
        Option.bind (loop (m_ref16_Periodic_L2 O p_1 p_2) 2) fun e => match e with
        | .inl _ =>
          (some false)
        | .inr (_) =>
          (some true)
def m_law16_is (O : Ops) (c_1 : Int) (c_2 : Int) (e_1 : Int) (want_1 : Int) (want_2 : Int) (f_1 : Int) (c_3 : List (Int × Int)) (want_3 : List (Int × Int)) : Option (Bool) :=
  Option.bind (
    bif (O .eq e_1 f_1) then
      Option.bind (m_ref16_Same O c_1 c_2 want_1 want_2 c_3 want_3) fun b51 =>
      bif b51 then
        bif (O .not (O .eq e_1 0)) then
          (some true)
        else
          Option.bind (m_ref16_Valid O c_1 c_2 c_3) fun b52 =>
          (some b52)
      else
        (some false)
    else
      (some false) : Option ((Bool))) fun x187 =>
  (some x187)
def m_ref01_Gcd_L1 (O : Ops) : (Int × Int) → Option ((Int × Int) ⊕ ((Unit) ⊕ (Int))) := fun (a1, b54) =>
  bif (O .not (O .eq b54 0)) then
    bif (O .eq b54 (-1)) then
      (some (Sum.inr (Sum.inl ())))
    else
      grd (okNz b54) <|
      (some (Sum.inl (b54, (O .rem a1 b54))))
  else
    (some (Sum.inr (Sum.inr a1)))
def m_ref01_Gcd (O : Ops) (a_1 : Int) (b_1 : Int) : Option (Int) :=
  Option.bind (loop (m_ref01_Gcd_L1 O) (a_1, b_1)) fun e => match e with
  | .inl _ =>
    (some 1)
  | .inr (a2) =>
    bif (O .eq a2 (-9223372036854775808)) then
      (some 0)
    else
      Option.bind (
        bif (O .lt a2 0) then
          grd (okI .i64 ((O .sub 0 a2))) <|
          (some (O .sub 0 a2))
        else
          (some a2) : Option ((Int))) fun a4 =>
      (some a4)
def m_ref16_common (O : Ops) (a_1 : Int) (b_1 : Int) : Option (Int × Int) :=
  Option.bind (m_ref01_Gcd O a_1 b_1) fun n92 =>
  grd (okNz n92) <|
  grd (okI .i64 ((O .quo a_1 n92))) <|
  grd (okNz b_1) <|
  grd (okI .i64 ((O .quo 12622780800 b_1))) <|
  bif (O .lt (O .quo 12622780800 b_1) (O .quo a_1 n92)) then
    (some (0, 9))
  else
    grd (okI .i64 ((O .mul (O .quo a_1 n92) b_1))) <|
    (some ((O .mul (O .quo a_1 n92) b_1), 0))
def m_ref01_Div (O : Ops) (a_1 : Int) (b_1 : Int) : Option (Int × Int × Int) :=
  bif (O .eq b_1 0) then
    (some (0, 0, 10))
  else
    Option.bind (
      bif (O .eq a_1 (-9223372036854775808)) then
        (some (O .eq b_1 (-1)))
      else
        (some false) : Option ((Bool))) fun x189 =>
    bif x189 then
      (some (0, 0, 9))
    else
      grd (okNz b_1) <|
      grd (okI .i64 ((O .quo a_1 b_1))) <|
      Option.bind (
        bif (O .not (O .eq (O .rem a_1 b_1) 0)) then
          (some (O .not (O .beq (O .lt (O .rem a_1 b_1) 0) (O .lt b_1 0))))
        else
          (some false) : Option ((Bool))) fun x191 =>
      Option.bind (
        bif x191 then
          grd (okI .i64 ((O .sub (O .quo a_1 b_1) 1))) <|
          grd (okI .i64 ((O .add (O .rem a_1 b_1) b_1))) <|
          (some ((O .sub (O .quo a_1 b_1) 1), (O .add (O .rem a_1 b_1) b_1)))
        else
          (some ((O .quo a_1 b_1), (O .rem a_1 b_1))) : Option ((Int × Int))) fun (q5, r4) =>
      (some (q5, r4, 0))
def m_ref01_Floor (O : Ops) (a_1 : Int) (b_1 : Int) : Option (Int) :=
  Option.bind (m_ref01_Div O a_1 b_1) fun (n95, _, _) =>
  (some n95)
def m_ref16_Granule (O : Ops) (c_1 : Int) (c_2 : Int) (k_1 : Int) (c_3 : List (Int × Int)) : Option (Int × Int) :=
  Option.bind (m_ref01_Floor O k_1 ((O .ofNat (O .len .i2 c_3)))) fun n98 =>
  grd (okI .i64 ((O .mul (O .ofNat (O .len .i2 c_3)) n98))) <|
  grd (okI .i64 ((O .sub k_1 (O .mul (O .ofNat (O .len .i2 c_3)) n98)))) <|
  grd (okIdx ((O .sub k_1 (O .mul (O .ofNat (O .len .i2 c_3)) n98))) ((O .len .i2 c_3))) <|
  grd (okKin ((O .toNat (O .sub k_1 (O .mul (O .ofNat (O .len .i2 c_3)) n98)))) ((O .len .i2 c_3))) <|
  grd (okI .i64 ((O .mul c_2 n98))) <|
  grd (okI .i64 ((O .add c_1 (O .mul c_2 n98)))) <|
  grd (okI .i64 ((O .add ((O .get .i2 c_3 (O .toNat (O .sub k_1 (O .mul (O .ofNat (O .len .i2 c_3)) n98))))).1 (O .add c_1 (O .mul c_2 n98))))) <|
  grd (okI .i64 ((O .add ((O .get .i2 c_3 (O .toNat (O .sub k_1 (O .mul (O .ofNat (O .len .i2 c_3)) n98))))).2 (O .add c_1 (O .mul c_2 n98))))) <|
  (some ((O .add ((O .get .i2 c_3 (O .toNat (O .sub k_1 (O .mul (O .ofNat (O .len .i2 c_3)) n98))))).1 (O .add c_1 (O .mul c_2 n98))), (O .add ((O .get .i2 c_3 (O .toNat (O .sub k_1 (O .mul (O .ofNat (O .len .i2 c_3)) n98))))).2 (O .add c_1 (O .mul c_2 n98)))))
def m_ref16_covered_L1 (O : Ops) (at2 : Int) (p_2 : List (Int × Int)) : (Int × Int) → Option ((Int × Int) ⊕ (Int)) := fun (to8, i29) =>
  bif (O .lt i29 (O .ofNat (O .len .i2 p_2))) then
    Option.bind (
      bif (O .le ((O .get .i2 p_2 (O .toNat i29))).1 at2) then
        grd (okIdx i29 ((O .len .i2 p_2))) <|
        grd (okKin ((O .toNat i29)) ((O .len .i2 p_2))) <|
        (some (O .lt at2 ((O .get .i2 p_2 (O .toNat i29))).2))
      else
        grd (okIdx i29 ((O .len .i2 p_2))) <|
        grd (okKin ((O .toNat i29)) ((O .len .i2 p_2))) <|
        (some false) : Option ((Bool))) fun x200 =>
    Option.bind (
      bif x200 then
        (some ((O .get .i2 p_2 (O .toNat i29))).2)
      else
        (some to8) : Option ((Int))) fun to10 =>
    grd (okI .i64 ((O .add i29 1))) <|
    (some (Sum.inl (to10, (O .add i29 1))))
  else
    (some (Sum.inr to8))
def m_ref16_covered_L2 (O : Ops) (p_1 : Int) (p_2 : List (Int × Int)) : (Int × Int) → Option ((Int × Int) ⊕ ((Unit) ⊕ (Unit))) := fun (at2, rest2) =>
  bif (O .lt 0 rest2) then
    Option.bind (loop (m_ref16_covered_L1 O at2 p_2) (at2, 0)) fun to11 =>
    bif (O .eq to11 at2) then
      (some (Sum.inr (Sum.inl ())))
    else
      grd (okI .i64 ((O .sub to11 at2))) <|
      grd (okI .i64 ((O .sub rest2 (O .sub to11 at2)))) <|
      grd (okNz p_1) <|
      (some (Sum.inl ((O .rem to11 p_1), (O .sub rest2 (O .sub to11 at2)))))
  else
    (some (Sum.inr (Sum.inr ())))
def m_ref16_covered (O : Ops) (p_1 : Int) (s_1 : Int) (s_2 : Int) (p_2 : List (Int × Int)) : Option (Bool) :=
  Option.bind (
    bif (O .eq (O .ofNat (O .len .i2 p_2)) 1) then
      bif (O .eq ((O .get .i2 p_2 (O .toNat 0))).1 0) then
        grd (okIdx 0 ((O .len .i2 p_2))) <|
        grd (okKin ((O .toNat 0)) ((O .len .i2 p_2))) <|
        (some (O .eq ((O .get .i2 p_2 (O .toNat 0))).2 p_1))
      else
        grd (okIdx 0 ((O .len .i2 p_2))) <|
        grd (okKin ((O .toNat 0)) ((O .len .i2 p_2))) <|
        (some false)
    else
      (some false) : Option ((Bool))) fun x194 =>
  bif x194 then
    (some true)
  else
    Option.bind (m_ref01_Floor O s_1 p_1) fun n101 =>
    grd (okI .i64 ((O .mul p_1 n101))) <|
    grd (okI .i64 ((O .sub s_1 (O .mul p_1 n101)))) <|
    grd (okI .i64 ((O .sub s_2 s_1))) <|
    Option.bind (loop (m_ref16_covered_L2 O p_1 p_2) ((O .sub s_1 (O .mul p_1 n101)), (O .sub s_2 s_1))) fun e => match e with
    | .inl _ =>
      (some false)
    | .inr (_) =>
      (some true)
def m_ref16_Make_L1 (O : Ops) (l_1 : List (Int × Int)) : (Int × List (Int × Int)) → Option ((Int × List (Int × Int)) ⊕ (List (Int × Int))) := fun (i31, l92) =>
  bif (O .lt i31 (O .ofNat (O .len .i2 l_1))) then
    grd (okIdx i31 ((O .len .i2 l_1))) <|
    grd (okKin ((O .toNat i31)) ((O .len .i2 l_1))) <|
    grd (okI .i64 ((O .sub ((O .get .i2 l_1 (O .toNat i31))).1 ((O .get .i2 l_1 (O .toNat 0))).1))) <|
    grd (okI .i64 ((O .sub ((O .get .i2 l_1 (O .toNat i31))).2 ((O .get .i2 l_1 (O .toNat 0))).1))) <|
    grd (okRoom ((O .len .i2 l92))) <|
    grd (okRoom ((O .len .i2 [((O .sub ((O .get .i2 l_1 (O .toNat i31))).1 ((O .get .i2 l_1 (O .toNat 0))).1), (O .sub ((O .get .i2 l_1 (O .toNat i31))).2 ((O .get .i2 l_1 (O .toNat 0))).1))]))) <|
    grd (okI .i64 ((O .add i31 1))) <|
    (some (Sum.inl ((O .add i31 1), (O .app .i2 l92 [((O .sub ((O .get .i2 l_1 (O .toNat i31))).1 ((O .get .i2 l_1 (O .toNat 0))).1), (O .sub ((O .get .i2 l_1 (O .toNat i31))).2 ((O .get .i2 l_1 (O .toNat 0))).1))]))))
  else
    (some (Sum.inr l92))
def m_ref16_Make (O : Ops) (period_1 : Int) (l_1 : List (Int × Int)) : Option (Int × Int × List (Int × Int) × Int) :=
  grd (okIdx 0 ((O .len .i2 l_1))) <|
  grd (okKin ((O .toNat 0)) ((O .len .i2 l_1))) <|
  Option.bind (
    bif (O .lt 2199023255552 ((O .get .i2 l_1 (O .toNat 0))).1) then
      (some true)
    else
      (some (O .lt ((O .get .i2 l_1 (O .toNat 0))).1 (-2199023255552))) : Option ((Bool))) fun x202 =>
  bif x202 then
    (some (0, 0, ([] : List (Int × Int)), 2))
  else
    Option.bind (loop (m_ref16_Make_L1 O l_1) (0, ([] : List (Int × Int)))) fun l93 =>
    Option.bind (m_ref16_least O period_1 l93) fun n108 =>
    grd (okNz n108) <|
    grd (okI .i64 ((O .quo (O .ofNat (O .len .i2 l93)) n108))) <|
    grd (okNz ((O .quo (O .ofNat (O .len .i2 l93)) n108))) <|
    grd (okI .i64 ((O .quo period_1 (O .quo (O .ofNat (O .len .i2 l93)) n108)))) <|
    grd (okRng n108 ((O .len .i2 l93))) <|
    (some (((O .get .i2 l_1 (O .toNat 0))).1, (O .quo period_1 (O .quo (O .ofNat (O .len .i2 l93)) n108)), (O .cut .i2 l93 0 (O .toNat n108)), 0))
def m_ref16_Restrict_L1 (O : Ops) (c_1 : Int) (c_2 : Int) (c_3 : List (Int × Int)) (n93 : Int) (p_1 : Int) (p_2 : List (Int × Int)) : (Int × List (Int × Int)) → Option ((Int × List (Int × Int)) ⊕ (List (Int × Int))) := fun (k3, l88) =>
  bif (O .lt k3 (O .mul (O .ofNat (O .len .i2 c_3)) (O .quo n93 c_2))) then
    Option.bind (m_ref16_Granule O c_1 c_2 k3 c_3) fun (n104, n105) =>
    Option.bind (m_ref16_covered O p_1 n104 n105 p_2) fun b56 =>
    Option.bind (
      bif b56 then
        Option.bind (m_ref16_Granule O c_1 c_2 k3 c_3) fun (n106, n107) =>
        grd (okRoom ((O .len .i2 l88))) <|
        grd (okRoom ((O .len .i2 [(n106, n107)]))) <|
        (some (O .app .i2 l88 [(n106, n107)]))
      else
        (some l88) : Option ((List (Int × Int)))) fun l90 =>
    grd (okI .i64 ((O .add k3 1))) <|
    (some (Sum.inl ((O .add k3 1), l90)))
  else
    (some (Sum.inr l88))
def m_ref16_Restrict (O : Ops) (c_1 : Int) (c_2 : Int) (p_1 : Int) (c_3 : List (Int × Int)) (p_2 : List (Int × Int)) : Option (Int × Int × List (Int × Int) × Int) :=
  Option.bind (m_ref16_common O c_2 p_1) fun (n93, n94) =>
  bif (O .not (O .eq n94 0)) then
    (some (0, 0, ([] : List (Int × Int)), n94))
  else
    grd (okNz c_2) <|
    grd (okI .i64 ((O .quo n93 c_2))) <|
    grd (okI .i64 ((O .mul (O .ofNat (O .len .i2 c_3)) (O .quo n93 c_2)))) <|
    bif (O .lt 5000 (O .mul (O .ofNat (O .len .i2 c_3)) (O .quo n93 c_2))) then
      (some (0, 0, ([] : List (Int × Int)), 5))
    else
      Option.bind (loop (m_ref16_Restrict_L1 O c_1 c_2 c_3 n93 p_1 p_2) (0, ([] : List (Int × Int)))) fun l91 =>
      bif (O .eq (O .ofNat (O .len .i2 l91)) 0) then
        (some (0, 0, ([] : List (Int × Int)), 7))
      else
        Option.bind (m_ref16_Make O n93 l91) fun (n109, n110, l94, n111) =>
        (some (n109, n110, l94, n111))
def m_law16_GroupRestricts (O : Ops) (c_1 : Int) (c_2 : Int) (p_1 : Int) (c_3 : List (Int × Int)) (p_2 : List (Int × Int)) : Option (Bool) :=
  Option.bind (m_law16_awake O) fun b18 =>
  bif (O .not b18) then
    (some false)
  else
    Option.bind (
      Option.bind (m_law16_great O c_1 c_2 c_3) fun b21 =>
      bif b21 then
        (some true)
      else
        (some (O .lt 40 (O .ofNat (O .len .i2 p_2)))) : Option ((Bool))) fun x78 =>
    bif x78 then
      (some true)
    else
      Option.bind (m_group_Restrict O c_1 c_2 p_1 c_3 p_2) fun (n88, n89, l53, n90) =>
      Option.bind (
        Option.bind (m_ref16_Valid O c_1 c_2 c_3) fun b36 =>
        bif (O .not b36) then
          (some true)
        else
          Option.bind (m_ref16_Periodic O p_1 p_2) fun b50 =>
          (some (O .not b50)) : Option ((Bool))) fun x183 =>
      bif x183 then
        Option.bind (m_law16_is O n88 n89 n90 0 0 1 l53 (([] : List (Int × Int)))) fun b53 =>
        (some b53)
      else
        Option.bind (m_ref16_Restrict O c_1 c_2 p_1 c_3 p_2) fun (n112, n113, l95, n114) =>
        Option.bind (m_law16_is O n88 n89 n90 n112 n113 n114 l53 l95) fun b57 =>
        (some b57)
def m_slices_IndexFunc_3 (O : Ops) (s_1 : Int) (s_2 : Int) (s_3 : Int) (s_4 : Int) (s_5 : List (Int × Int)) (s_6 : List (Int × Int)) : Option (Int) :=
  Option.bind (m_law16_great_1 O s_1 s_2 s_5) fun b59 =>
  bif b59 then
    (some 0)
  else
    grd (okI .i64 ((O .add 0 1))) <|
    Option.bind (m_law16_great_1 O s_3 s_4 s_6) fun b60 =>
    bif b60 then
      (some 1)
    else
      grd (okI .i64 ((O .add 1 1))) <|
      (some (-1))
def m_slices_ContainsFunc_3 (O : Ops) (s_1 : Int) (s_2 : Int) (s_3 : Int) (s_4 : Int) (s_5 : List (Int × Int)) (s_6 : List (Int × Int)) : Option (Bool) :=
  Option.bind (m_slices_IndexFunc_3 O s_1 s_2 s_3 s_4 s_5 s_6) fun n115 =>
  (some (O .le 0 n115))
def m_law16_great_2 (O : Ops) (l_1 : Int) (l_2 : Int) (l_3 : Int) (l_4 : Int) (l_5 : List (Int × Int)) (l_6 : List (Int × Int)) : Option (Bool) :=
  Option.bind (m_slices_ContainsFunc_3 O l_1 l_2 l_3 l_4 l_5 l_6) fun b61 =>
  (some b61)
def m_law16_few_L1 (O : Ops) : (Int × Int) → Option ((Int × Int) ⊕ (Int)) := fun (g1, h1) =>
  bif (O .not (O .eq h1 0)) then
    grd (okNz h1) <|
    (some (Sum.inl (h1, (O .rem g1 h1))))
  else
    (some (Sum.inr g1))
def m_law16_few (O : Ops) (_a_1 : Int) (a_2 : Int) (_b_1 : Int) (b_2 : Int) (a_3 : List (Int × Int)) (b_3 : List (Int × Int)) : Option (Bool) :=
  Option.bind (loop (m_law16_few_L1 O) (a_2, b_2)) fun g2 =>
  grd (okNz g2) <|
  grd (okI .i64 ((O .quo a_2 g2))) <|
  grd (okNz b_2) <|
  grd (okI .i64 ((O .quo 12622780800 b_2))) <|
  bif (O .lt (O .quo 12622780800 b_2) (O .quo a_2 g2)) then
    (some true)
  else
    grd (okI .i64 ((O .quo b_2 g2))) <|
    grd (okI .i64 ((O .mul (O .quo b_2 g2) (O .ofNat (O .len .i2 a_3))))) <|
    grd (okI .i64 ((O .mul (O .quo a_2 g2) (O .ofNat (O .len .i2 b_3))))) <|
    Option.bind (
      bif (O .le (O .mul (O .quo b_2 g2) (O .ofNat (O .len .i2 a_3))) 400) then
        bif (O .le (O .mul (O .quo a_2 g2) (O .ofNat (O .len .i2 b_3))) 400) then
          (some true)
        else
          bif (O .lt 5000 (O .mul (O .quo b_2 g2) (O .ofNat (O .len .i2 a_3)))) then
            (some true)
          else
            (some (O .lt 5000 (O .mul (O .quo a_2 g2) (O .ofNat (O .len .i2 b_3)))))
      else
        bif (O .lt 5000 (O .mul (O .quo b_2 g2) (O .ofNat (O .len .i2 a_3)))) then
          (some true)
        else
          (some (O .lt 5000 (O .mul (O .quo a_2 g2) (O .ofNat (O .len .i2 b_3))))) : Option ((Bool))) fun x206 =>
    (some x206)
def m_granule_at (O : Ops) (c_1 : Int) (c_2 : Int) (k_1 : Int) (c_3 : List (Int × Int)) : Option (Int × Int) :=
  Option.bind (m_integer_Floor O k_1 ((O .ofNat (O .len .i2 c_3)))) fun n123 =>
  grd (okI .i64 ((O .mul c_2 n123))) <|
  grd (okI .i64 ((O .add c_1 (O .mul c_2 n123)))) <|
  grd (okI .i64 ((O .mul (O .ofNat (O .len .i2 c_3)) n123))) <|
  grd (okI .i64 ((O .sub k_1 (O .mul (O .ofNat (O .len .i2 c_3)) n123)))) <|
  grd (okIdx ((O .sub k_1 (O .mul (O .ofNat (O .len .i2 c_3)) n123))) ((O .len .i2 c_3))) <|
  grd (okKin ((O .toNat (O .sub k_1 (O .mul (O .ofNat (O .len .i2 c_3)) n123)))) ((O .len .i2 c_3))) <|
  grd (okI .i64 ((O .add ((O .get .i2 c_3 (O .toNat (O .sub k_1 (O .mul (O .ofNat (O .len .i2 c_3)) n123))))).1 (O .add c_1 (O .mul c_2 n123))))) <|
  grd (okI .i64 ((O .add ((O .get .i2 c_3 (O .toNat (O .sub k_1 (O .mul (O .ofNat (O .len .i2 c_3)) n123))))).2 (O .add c_1 (O .mul c_2 n123))))) <|
  (some ((O .add ((O .get .i2 c_3 (O .toNat (O .sub k_1 (O .mul (O .ofNat (O .len .i2 c_3)) n123))))).1 (O .add c_1 (O .mul c_2 n123))), (O .add ((O .get .i2 c_3 (O .toNat (O .sub k_1 (O .mul (O .ofNat (O .len .i2 c_3)) n123))))).2 (O .add c_1 (O .mul c_2 n123)))))
def m_granule_Span (O : Ops) (c_1 : Int) (c_2 : Int) (k_1 : Int) (c_3 : List (Int × Int)) : Option (Int × Int × Int) :=
  Option.bind (m_granule_Valid O c_1 c_2 c_3) fun b66 =>
  bif (O .not b66) then
    (some (0, 0, 1))
  else
    Option.bind (m_integer_Floor O k_1 ((O .ofNat (O .len .i2 c_3)))) fun n122 =>
    Option.bind (
      bif (O .lt (O .quo 8796093022208 c_2) n122) then
        grd (okNz c_2) <|
        grd (okI .i64 ((O .quo 8796093022208 c_2))) <|
        (some true)
      else
        grd (okNz c_2) <|
        grd (okI .i64 ((O .quo 8796093022208 c_2))) <|
        grd (okI .i64 ((O .quo (-8796093022208) c_2))) <|
        grd (okI .i64 ((O .sub (O .quo (-8796093022208) c_2) 1))) <|
        (some (O .lt n122 (O .sub (O .quo (-8796093022208) c_2) 1))) : Option ((Bool))) fun x210 =>
    bif x210 then
      (some (0, 0, 2))
    else
      Option.bind (m_granule_at O c_1 c_2 k_1 c_3) fun (n124, n125) =>
      Option.bind (
        Option.bind (m_granule_line O n124) fun b67 =>
        bif (O .not b67) then
          (some true)
        else
          Option.bind (m_granule_line O n125) fun b68 =>
          (some (O .not b68)) : Option ((Bool))) fun x212 =>
      bif x212 then
        (some (0, 0, 2))
      else
        (some (n124, n125, 0))
def m_granule_Near_1 (O : Ops) (i_1 : Int) (_x_1 : Int) (_x_2 : Int) (x_3 : Int) (x_4 : List (Int × Int)) : Option (Bool) :=
  grd (okIdx i_1 ((O .len .i2 x_4))) <|
  grd (okKin ((O .toNat i_1)) ((O .len .i2 x_4))) <|
  (some (O .lt x_3 ((O .get .i2 x_4 (O .toNat i_1))).1))
def m_sort_Search_L1 (O : Ops) (c_1 : Int) (c_2 : Int) (c_3 : Int) (c_4 : List (Int × Int)) : (Int × Int) → Option ((Int × Int) ⊕ (Int)) := fun (i32, j1) =>
  bif (O .lt i32 j1) then
    grd (okI .i64 ((O .add i32 j1))) <|
    grd (okI .u64 ((O .add i32 j1))) <|
    grd (okIdx 1 65) <|
    grd (okI .i64 ((O .shr (O .add i32 j1) 1))) <|
    Option.bind (m_granule_Near_1 O ((O .shr (O .add i32 j1) 1)) c_1 c_2 c_3 c_4) fun b73 =>
    Option.bind (
      bif (O .not b73) then
        grd (okI .i64 ((O .add (O .shr (O .add i32 j1) 1) 1))) <|
        (some ((O .add (O .shr (O .add i32 j1) 1) 1), j1))
      else
        (some (i32, (O .shr (O .add i32 j1) 1))) : Option ((Int × Int))) fun (i34, j3) =>
    (some (Sum.inl (i34, j3)))
  else
    (some (Sum.inr i32))
def m_sort_Search (O : Ops) (n_1 : Int) (c_1 : Int) (c_2 : Int) (c_3 : Int) (c_4 : List (Int × Int)) : Option (Int) :=
  Option.bind (loop (m_sort_Search_L1 O c_1 c_2 c_3 c_4) (0, n_1)) fun i35 =>
  (some i35)
def m_granule_Near (O : Ops) (c_1 : Int) (c_2 : Int) (x_1 : Int) (c_3 : List (Int × Int)) : Option (Int) :=
  Option.bind (
    Option.bind (m_granule_Valid O c_1 c_2 c_3) fun b71 =>
    bif (O .not b71) then
      (some true)
    else
      Option.bind (m_granule_line O x_1) fun b72 =>
      (some (O .not b72)) : Option ((Bool))) fun x216 =>
  bif x216 then
    (some 0)
  else
    grd (okI .i64 ((O .sub x_1 c_1))) <|
    Option.bind (m_integer_Floor O ((O .sub x_1 c_1)) c_2) fun n129 =>
    grd (okI .i64 ((O .mul c_2 n129))) <|
    grd (okI .i64 ((O .sub (O .sub x_1 c_1) (O .mul c_2 n129)))) <|
    Option.bind (m_sort_Search O ((O .ofNat (O .len .i2 c_3))) c_1 c_2 ((O .sub (O .sub x_1 c_1) (O .mul c_2 n129))) c_3) fun n130 =>
    grd (okI .i64 ((O .mul (O .ofNat (O .len .i2 c_3)) n129))) <|
    grd (okI .i64 ((O .add (O .mul (O .ofNat (O .len .i2 c_3)) n129) n130))) <|
    grd (okI .i64 ((O .sub (O .add (O .mul (O .ofNat (O .len .i2 c_3)) n129) n130) 1))) <|
    (some (O .sub (O .add (O .mul (O .ofNat (O .len .i2 c_3)) n129) n130) 1))
def m_granule_Find (O : Ops) (c_1 : Int) (c_2 : Int) (x_1 : Int) (c_3 : List (Int × Int)) : Option (Int × Bool) :=
  Option.bind (
    Option.bind (m_granule_Valid O c_1 c_2 c_3) fun b69 =>
    bif (O .not b69) then
      (some true)
    else
      Option.bind (m_granule_line O x_1) fun b70 =>
      (some (O .not b70)) : Option ((Bool))) fun x214 =>
  bif x214 then
    (some (0, false))
  else
    Option.bind (m_granule_Near O c_1 c_2 x_1 c_3) fun n131 =>
    Option.bind (m_granule_at O c_1 c_2 n131 c_3) fun (_, n133) =>
    bif (O .le n133 x_1) then
      (some (0, false))
    else
      (some (n131, true))
def m_law16_GroupKeeps_1 (O : Ops) (x_1 : Int) (x_2 : Int) (x_3 : List (Int × Int)) (x_4 : Int) (x_5 : Int) (x_6 : Int) (x_7 : List (Int × Int)) : Option (Bool) :=
  Option.bind (m_granule_Span O x_1 x_2 x_4 x_3) fun (n126, n127, n128) =>
  bif (O .not (O .eq n128 0)) then
    (some true)
  else
    Option.bind (m_granule_Find O x_5 x_6 n126 x_7) fun (n134, b74) =>
    Option.bind (m_granule_Span O x_5 x_6 n134 x_7) fun (n135, n136, n137) =>
    Option.bind (
      bif b74 then
        bif (O .eq n137 0) then
          (some (O .and (O .eq n126 n135) (O .eq n127 n136)))
        else
          (some false)
      else
        (some false) : Option ((Bool))) fun x219 =>
    (some x219)
def m_group_Inside_1 (O : Ops) (l_1 : Int) (x_1 : Int) (x_2 : Int) (x_3 : Int) (x_4 : Int) (x_5 : Int) (x_6 : List (Int × Int)) (x_7 : List (Int × Int)) : Option (Int × Int × Bool) :=
  Option.bind (m_group_at O x_1 x_2 l_1 x_6) fun (n140, n141) =>
  grd (okI .i64 ((O .sub n140 1))) <|
  grd (okI .i64 ((O .sub n141 1))) <|
  Option.bind (m_granule_Near O x_3 x_4 ((O .sub n140 1)) x_7) fun n142 =>
  grd (okI .i64 ((O .add n142 1))) <|
  Option.bind (m_granule_Near O x_3 x_4 ((O .sub n141 1)) x_7) fun n143 =>
  Option.bind (m_group_at O x_3 x_4 n143 x_7) fun (_, n145) =>
  Option.bind (
    bif (O .lt n141 n145) then
      grd (okI .i64 ((O .sub n143 1))) <|
      (some (O .sub n143 1))
    else
      (some n143) : Option ((Int))) fun last2 =>
  grd (okI .i64 ((O .sub last2 (O .add n142 1)))) <|
  grd (okI .i64 ((O .add (O .sub last2 (O .add n142 1)) 1))) <|
  Option.bind (
    bif (O .lt 0 x_5) then
      (some (O .le x_5 (O .add (O .sub last2 (O .add n142 1)) 1)))
    else
      (some false) : Option ((Bool))) fun x228 =>
  Option.bind (
    bif x228 then
      grd (okI .i64 ((O .add (O .add n142 1) x_5))) <|
      grd (okI .i64 ((O .sub (O .add (O .add n142 1) x_5) 1))) <|
      Option.bind (m_group_at O x_3 x_4 ((O .sub (O .add (O .add n142 1) x_5) 1)) x_7) fun (n146, n147) =>
      (some (Sum.inl (n146, n147)))
    else
      Option.bind (
        bif (O .lt x_5 0) then
          grd (okI .i64 ((O .sub 0 (O .add (O .sub last2 (O .add n142 1)) 1)))) <|
          (some (O .le (O .sub 0 (O .add (O .sub last2 (O .add n142 1)) 1)) x_5))
        else
          (some false) : Option ((Bool))) fun x230 =>
      bif x230 then
        grd (okI .i64 ((O .add last2 x_5))) <|
        grd (okI .i64 ((O .add (O .add last2 x_5) 1))) <|
        Option.bind (m_group_at O x_3 x_4 ((O .add (O .add last2 x_5) 1)) x_7) fun (n148, n149) =>
        (some (Sum.inl (n148, n149)))
      else
        (some (Sum.inr ())) : Option (((Int × Int) ⊕ (Unit)))) fun e => match e with
  | .inl (x233, x234) =>
    (some (x233, x234, true))
  | .inr (_) =>
    (some (0, 0, false))
def m_group_collect_3_L1 (O : Ops) (c_1 : Int) (c_2 : Int) (c_3 : Int) (c_4 : Int) (c_5 : Int) (c_6 : List (Int × Int)) (c_7 : List (Int × Int)) (n_1 : Int) : (Int × List (Int × Int)) → Option ((Int × List (Int × Int)) ⊕ (List (Int × Int))) := fun (x235, l100) =>
  bif (O .lt x235 n_1) then
    Option.bind (m_group_Inside_1 O x235 c_1 c_2 c_3 c_4 c_5 c_6 c_7) fun (n152, n153, b80) =>
    Option.bind (
      bif b80 then
        grd (okRoom ((O .len .i2 l100))) <|
        grd (okRoom ((O .len .i2 [(n152, n153)]))) <|
        (some (O .app .i2 l100 [(n152, n153)]))
      else
        (some l100) : Option ((List (Int × Int)))) fun l102 =>
    grd (okI .i64 ((O .add x235 1))) <|
    (some (Sum.inl ((O .add x235 1), l102)))
  else
    (some (Sum.inr l100))
def m_group_collect_3 (O : Ops) (period_1 : Int) (n_1 : Int) (c_1 : Int) (c_2 : Int) (c_3 : Int) (c_4 : Int) (c_5 : Int) (c_6 : List (Int × Int)) (c_7 : List (Int × Int)) : Option (Int × Int × List (Int × Int) × Int) :=
  Option.bind (loop (m_group_collect_3_L1 O c_1 c_2 c_3 c_4 c_5 c_6 c_7 n_1) (0, ([] : List (Int × Int)))) fun l103 =>
  bif (O .eq (O .ofNat (O .len .i2 l103)) 0) then
    (some (0, 0, ([] : List (Int × Int)), 7))
  else
    Option.bind (m_group_made O period_1 l103) fun (n154, n155, l104, n156) =>
    (some (n154, n155, l104, n156))
def m_group_Inside (O : Ops) (c_1 : Int) (c_2 : Int) (in_1 : Int) (in_2 : Int) (m_1 : Int) (c_3 : List (Int × Int)) (in_3 : List (Int × Int)) : Option (Int × Int × List (Int × Int) × Int) :=
  Option.bind (
    Option.bind (m_granule_Valid O c_1 c_2 c_3) fun b77 =>
    bif (O .not b77) then
      (some true)
    else
      Option.bind (m_granule_Valid O in_1 in_2 in_3) fun b78 =>
      bif (O .not b78) then
        (some true)
      else
        (some (O .eq m_1 0)) : Option ((Bool))) fun x223 =>
  bif x223 then
    (some (0, 0, ([] : List (Int × Int)), 1))
  else
    Option.bind (m_group_common O c_2 in_2) fun (n138, n139) =>
    bif (O .not (O .eq n139 0)) then
      (some (0, 0, ([] : List (Int × Int)), n139))
    else
      grd (okNz in_2) <|
      grd (okI .i64 ((O .quo n138 in_2))) <|
      grd (okI .i64 ((O .mul (O .ofNat (O .len .i2 in_3)) (O .quo n138 in_2)))) <|
      Option.bind (
        bif (O .lt 5000 (O .mul (O .ofNat (O .len .i2 in_3)) (O .quo n138 in_2))) then
          (some true)
        else
          grd (okNz c_2) <|
          grd (okI .i64 ((O .quo n138 c_2))) <|
          grd (okI .i64 ((O .mul (O .ofNat (O .len .i2 c_3)) (O .quo n138 c_2)))) <|
          (some (O .lt 5000 (O .mul (O .ofNat (O .len .i2 c_3)) (O .quo n138 c_2)))) : Option ((Bool))) fun x225 =>
      bif x225 then
        (some (0, 0, ([] : List (Int × Int)), 5))
      else
        Option.bind (m_group_collect_3 O n138 ((O .mul (O .ofNat (O .len .i2 in_3)) (O .quo n138 in_2))) in_1 in_2 c_1 c_2 m_1 in_3 c_3) fun (n157, n158, l105, n159) =>
        (some (n157, n158, l105, n159))
def m_law16_GroupKeeps (O : Ops) (c_1 : Int) (c_2 : Int) (in_1 : Int) (in_2 : Int) (p_1 : Int) (m_1 : Int) (k_1 : Int) (c_3 : List (Int × Int)) (in_3 : List (Int × Int)) (p_2 : List (Int × Int)) : Option (Bool) :=
  Option.bind (m_law16_awake O) fun b58 =>
  bif (O .not b58) then
    (some false)
  else
    Option.bind (
      Option.bind (m_law16_great_2 O c_1 c_2 in_1 in_2 c_3 in_3) fun b62 =>
      bif b62 then
        (some true)
      else
        bif (O .lt 40 (O .ofNat (O .len .i2 p_2))) then
          (some true)
        else
          Option.bind (m_granule_Valid O c_1 c_2 c_3) fun b63 =>
          bif (O .not b63) then
            (some true)
          else
            Option.bind (m_granule_Valid O in_1 in_2 in_3) fun b64 =>
            bif (O .not b64) then
              (some true)
            else
              bif (O .lt k_1 (-1000)) then
                (some true)
              else
                bif (O .lt 1000 k_1) then
                  (some true)
                else
                  Option.bind (m_law16_few O c_1 c_2 in_1 in_2 c_3 in_3) fun b65 =>
                  (some (O .not b65)) : Option ((Bool))) fun x208 =>
    bif x208 then
      (some true)
    else
      Option.bind (m_group_Restrict O c_1 c_2 p_1 c_3 p_2) fun (n116, n117, l96, n118) =>
      Option.bind (
        bif (O .eq n118 0) then
          Option.bind (m_group_Restrict O n116 n117 p_1 l96 p_2) fun (n119, n120, l97, n121) =>
          Option.bind (
            Option.bind (m_law16_GroupKeeps_1 O n116 n117 l96 k_1 c_1 c_2 c_3) fun b75 =>
            bif (O .not b75) then
              (some true)
            else
              bif (O .not (O .eq n121 0)) then
                (some true)
              else
                Option.bind (m_ref16_Same O n116 n117 n119 n120 l96 l97) fun b76 =>
                (some (O .not b76)) : Option ((Bool))) fun x221 =>
          bif x221 then
            (some (Sum.inl ()))
          else
            (some (Sum.inr ()))
        else
          (some (Sum.inr ())) : Option (((Unit) ⊕ (Unit)))) fun e => match e with
      | .inl _ =>
        (some false)
      | .inr (_) =>
        Option.bind (m_group_Inside O c_1 c_2 in_1 in_2 m_1 c_3 in_3) fun (n160, n161, l106, n162) =>
        Option.bind (
          bif (O .not (O .eq n162 0)) then
            (some true)
          else
            Option.bind (m_law16_GroupKeeps_1 O n160 n161 l106 k_1 c_1 c_2 c_3) fun b81 =>
            (some b81) : Option ((Bool))) fun x237 =>
        (some x237)
end Go.Proofs.Ytebkfbkgmbgobaa
