/-
  Models of functions (printed by lift.py).
-/
import Derived.Test.YtoklfjkanipjkaaSrtM
namespace Go.Proofs.Ytoklfjkanipjkaa
open Go.RowKit
set_option maxRecDepth 100000

def m_law16_days (O : Ops) : Option (Int × Int × List (Int × Int)) :=
  (some (0, 1, [(0, 1)]))
def m_granule_half (O : Ops) (x_1 : Int) : Option (Bool) :=
  Option.bind (
    bif (O .le (-2199023255552) x_1) then
      (some (O .le x_1 2199023255552))
    else
      (some false) : Option ((Bool))) fun x2 =>
  (some x2)
def m_interval_line (O : Ops) (x_1 : Int) : Option (Bool) :=
  Option.bind (
    bif (O .le (-4398046511104) x_1) then
      (some (O .le x_1 4398046511104))
    else
      (some false) : Option ((Bool))) fun x5 =>
  (some x5)
def m_interval_Valid (O : Ops) (s_1 : Int) (s_2 : Int) : Option (Bool) :=
  Option.bind (
    Option.bind (m_interval_line O s_1) fun b2 =>
    bif b2 then
      Option.bind (m_interval_line O s_2) fun b3 =>
      bif b3 then
        (some (O .lt s_1 s_2))
      else
        (some false)
    else
      (some false) : Option ((Bool))) fun x8 =>
  (some x8)
def m_granule_ascending_L1 (O : Ops) (l_1 : List (Int × Int)) : (Int) → Option ((Int) ⊕ ((Unit) ⊕ (Unit))) := fun x3 =>
  bif (O .lt x3 (O .ofNat (O .len .i2 l_1))) then
    grd (okIdx x3 ((O .len .i2 l_1))) <|
    grd (okKin ((O .toNat x3)) ((O .len .i2 l_1))) <|
    Option.bind (
      Option.bind (m_interval_Valid O (((O .get .i2 l_1 (O .toNat x3))).1) (((O .get .i2 l_1 (O .toNat x3))).2)) fun b4 =>
      bif (O .not b4) then
        (some true)
      else
        bif (O .lt 0 x3) then
          grd (okI .i64 ((O .sub x3 1))) <|
          grd (okIdx ((O .sub x3 1)) ((O .len .i2 l_1))) <|
          grd (okKin ((O .toNat (O .sub x3 1))) ((O .len .i2 l_1))) <|
          (some (O .lt ((O .get .i2 l_1 (O .toNat x3))).1 ((O .get .i2 l_1 (O .toNat (O .sub x3 1)))).2))
        else
          (some false) : Option ((Bool))) fun x11 =>
    bif x11 then
      (some (Sum.inr (Sum.inl ())))
    else
      grd (okI .i64 ((O .add x3 1))) <|
      (some (Sum.inl (O .add x3 1)))
  else
    (some (Sum.inr (Sum.inr ())))
def m_granule_ascending (O : Ops) (l_1 : List (Int × Int)) : Option (Bool) :=
  Option.bind (loop (m_granule_ascending_L1 O l_1) 0) fun e => match e with
  | .inl _ =>
    (some false)
  | .inr (_) =>
    (some (O .lt 0 (O .ofNat (O .len .i2 l_1))))
def m_granule_least_L1 (O : Ops) (l_1 : List (Int × Int)) (m1 : Int) (period_1 : Int) : (Bool × Int) → Option ((Bool × Int) ⊕ (Bool)) := fun (same1, i1) =>
  Option.bind (
    bif (O .lt (O .add i1 m1) (O .ofNat (O .len .i2 l_1))) then
      grd (okI .i64 ((O .add i1 m1))) <|
      (some same1)
    else
      grd (okI .i64 ((O .add i1 m1))) <|
      (some false) : Option ((Bool))) fun x17 =>
  bif x17 then
    grd (okIdx ((O .add i1 m1)) ((O .len .i2 l_1))) <|
    grd (okKin ((O .toNat (O .add i1 m1))) ((O .len .i2 l_1))) <|
    grd (okIdx i1 ((O .len .i2 l_1))) <|
    grd (okKin ((O .toNat i1)) ((O .len .i2 l_1))) <|
    grd (okI .i64 ((O .add ((O .get .i2 l_1 (O .toNat i1))).1 (O .quo period_1 (O .quo (O .ofNat (O .len .i2 l_1)) m1))))) <|
    grd (okI .i64 ((O .add ((O .get .i2 l_1 (O .toNat i1))).2 (O .quo period_1 (O .quo (O .ofNat (O .len .i2 l_1)) m1))))) <|
    grd (okI .i64 ((O .add i1 1))) <|
    (some (Sum.inl ((O .and (O .eq ((O .get .i2 l_1 (O .toNat (O .add i1 m1)))).1 (O .add ((O .get .i2 l_1 (O .toNat i1))).1 (O .quo period_1 (O .quo (O .ofNat (O .len .i2 l_1)) m1)))) (O .eq ((O .get .i2 l_1 (O .toNat (O .add i1 m1)))).2 (O .add ((O .get .i2 l_1 (O .toNat i1))).2 (O .quo period_1 (O .quo (O .ofNat (O .len .i2 l_1)) m1))))), (O .add i1 1))))
  else
    (some (Sum.inr same1))
def m_granule_least_L2 (O : Ops) (l_1 : List (Int × Int)) (period_1 : Int) : (Int) → Option ((Int) ⊕ ((Int) ⊕ (Unit))) := fun m1 =>
  bif (O .lt m1 (O .ofNat (O .len .i2 l_1))) then
    Option.bind (
      bif (O .not (O .eq (O .rem (O .ofNat (O .len .i2 l_1)) m1) 0)) then
        grd (okNz m1) <|
        (some true)
      else
        grd (okNz m1) <|
        grd (okI .i64 ((O .quo (O .ofNat (O .len .i2 l_1)) m1))) <|
        grd (okNz ((O .quo (O .ofNat (O .len .i2 l_1)) m1))) <|
        (some (O .not (O .eq (O .rem period_1 (O .quo (O .ofNat (O .len .i2 l_1)) m1)) 0))) : Option ((Bool))) fun x15 =>
    bif x15 then
      grd (okI .i64 ((O .add m1 1))) <|
      (some (Sum.inl (O .add m1 1)))
    else
      grd (okI .i64 ((O .quo (O .ofNat (O .len .i2 l_1)) m1))) <|
      grd (okNz ((O .quo (O .ofNat (O .len .i2 l_1)) m1))) <|
      grd (okI .i64 ((O .quo period_1 (O .quo (O .ofNat (O .len .i2 l_1)) m1)))) <|
      Option.bind (loop (m_granule_least_L1 O l_1 m1 period_1) (true, 0)) fun same2 =>
      bif same2 then
        (some (Sum.inr (Sum.inl m1)))
      else
        grd (okI .i64 ((O .add m1 1))) <|
        (some (Sum.inl (O .add m1 1)))
  else
    (some (Sum.inr (Sum.inr ())))
def m_granule_least (O : Ops) (period_1 : Int) (l_1 : List (Int × Int)) : Option (Int) :=
  Option.bind (loop (m_granule_least_L2 O l_1 period_1) 1) fun e => match e with
  | .inl x18 =>
    (some x18)
  | .inr (_) =>
    (some (O .ofNat (O .len .i2 l_1)))
def m_granule_Valid (O : Ops) (c_1 : Int) (c_2 : Int) (c_3 : List (Int × Int)) : Option (Bool) :=
  Option.bind (
    bif (O .lt (O .ofNat (O .len .i2 c_3)) 1) then
      (some true)
    else
      bif (O .lt 5000 (O .ofNat (O .len .i2 c_3))) then
        (some true)
      else
        bif (O .lt c_2 1) then
          (some true)
        else
          bif (O .lt 12622780800 c_2) then
            (some true)
          else
            Option.bind (m_granule_half O c_1) fun b1 =>
            bif (O .not b1) then
              (some true)
            else
              Option.bind (m_granule_ascending O c_3) fun b5 =>
              bif (O .not b5) then
                (some true)
              else
                bif (O .not (O .eq ((O .get .i2 c_3 (O .toNat 0))).1 0)) then
                  grd (okIdx 0 ((O .len .i2 c_3))) <|
                  grd (okKin ((O .toNat 0)) ((O .len .i2 c_3))) <|
                  (some true)
                else
                  grd (okIdx 0 ((O .len .i2 c_3))) <|
                  grd (okKin ((O .toNat 0)) ((O .len .i2 c_3))) <|
                  grd (okI .i64 ((O .sub (O .ofNat (O .len .i2 c_3)) 1))) <|
                  grd (okIdx ((O .sub (O .ofNat (O .len .i2 c_3)) 1)) ((O .len .i2 c_3))) <|
                  grd (okKin ((O .toNat (O .sub (O .ofNat (O .len .i2 c_3)) 1))) ((O .len .i2 c_3))) <|
                  (some (O .lt c_2 ((O .get .i2 c_3 (O .toNat (O .sub (O .ofNat (O .len .i2 c_3)) 1)))).2)) : Option ((Bool))) fun x13 =>
  bif x13 then
    (some false)
  else
    Option.bind (m_granule_least O c_2 c_3) fun n3 =>
    (some (O .eq n3 (O .ofNat (O .len .i2 c_3))))
def m_integer_size (O : Ops) (a_1 : Int) : Option (Int) :=
  bif (O .lt a_1 0) then
    grd (okI .u64 a_1) <|
    grd (okI .u64 ((O .sub 0 a_1))) <|
    (some (O .sub 0 a_1))
  else
    grd (okI .u64 a_1) <|
    (some a_1)
def m_integer_signed (O : Ops) (m_1 : Int) (neg_1 : Bool) : Option (Int × Bool) :=
  Option.bind (
    bif neg_1 then
      (some (true, (O .le m_1 9223372036854775808)))
    else
      (some (false, false)) : Option ((Bool × Bool))) fun (neg2, x24) =>
  Option.bind (
    bif x24 then
      grd (okI .u64 ((O .sub 0 m_1))) <|
      grd (okI .i64 ((O .sub 0 m_1))) <|
      (some (Sum.inl (O .sub 0 m_1)))
    else
      Option.bind (
        bif (O .not neg2) then
          (some (O .le m_1 9223372036854775807))
        else
          (some false) : Option ((Bool))) fun x26 =>
      bif x26 then
        grd (okI .i64 m_1) <|
        (some (Sum.inl m_1))
      else
        (some (Sum.inr ())) : Option (((Int) ⊕ (Unit)))) fun e => match e with
  | .inl x28 =>
    (some (x28, true))
  | .inr (_) =>
    (some (0, false))
def m_integer_Gcd_L1 (O : Ops) : (Int × Int) → Option ((Int × Int) ⊕ (Int)) := fun (x21, y1) =>
  bif (O .not (O .eq y1 0)) then
    grd (okNz y1) <|
    (some (Sum.inl (y1, (O .rem x21 y1))))
  else
    (some (Sum.inr x21))
def m_integer_Gcd (O : Ops) (a_1 : Int) (b_1 : Int) : Option (Int) :=
  Option.bind (m_integer_size O a_1) fun n4 =>
  Option.bind (m_integer_size O b_1) fun n5 =>
  Option.bind (loop (m_integer_Gcd_L1 O) (n4, n5)) fun x22 =>
  Option.bind (m_integer_signed O x22 false) fun (n6, _) =>
  (some n6)
def m_group_blocks (O : Ops) (c_1 : Int) (c_2 : Int) (m_1 : Int) (c_3 : List (Int × Int)) : Option (Int × Int × Int) :=
  Option.bind (m_integer_Gcd O ((O .ofNat (O .len .i2 c_3))) m_1) fun n7 =>
  grd (okNz n7) <|
  grd (okI .i64 ((O .quo m_1 n7))) <|
  Option.bind (m_integer_Mul O c_2 ((O .quo m_1 n7))) fun (n8, n9) =>
  Option.bind (
    bif (O .not (O .eq n9 0)) then
      (some true)
    else
      (some (O .lt 12622780800 n8)) : Option ((Bool))) fun x30 =>
  bif x30 then
    (some (0, 0, 9))
  else
    grd (okI .i64 ((O .quo (O .ofNat (O .len .i2 c_3)) n7))) <|
    (some (n8, (O .quo (O .ofNat (O .len .i2 c_3)) n7), 0))
def m_integer_Div (O : Ops) (a_1 : Int) (b_1 : Int) : Option (Int × Int × Int) :=
  Option.bind (
    bif (O .eq b_1 0) then
      (some (Sum.inl 10))
    else
      Option.bind (
        bif (O .eq a_1 (-9223372036854775808)) then
          (some (O .eq b_1 (-1)))
        else
          (some false) : Option ((Bool))) fun x35 =>
      bif x35 then
        (some (Sum.inl 9))
      else
        (some (Sum.inr ())) : Option (((Int) ⊕ (Unit)))) fun e => match e with
  | .inl x37 =>
    (some (0, 0, x37))
  | .inr (_) =>
    grd (okNz b_1) <|
    grd (okI .i64 ((O .quo a_1 b_1))) <|
    Option.bind (
      bif (O .not (O .eq (O .rem a_1 b_1) 0)) then
        (some (O .not (O .beq (O .lt (O .rem a_1 b_1) 0) (O .lt b_1 0))))
      else
        (some false) : Option ((Bool))) fun x39 =>
    Option.bind (
      bif x39 then
        grd (okI .i64 ((O .sub (O .quo a_1 b_1) 1))) <|
        grd (okI .i64 ((O .add (O .rem a_1 b_1) b_1))) <|
        (some ((O .sub (O .quo a_1 b_1) 1), (O .add (O .rem a_1 b_1) b_1)))
      else
        (some ((O .quo a_1 b_1), (O .rem a_1 b_1))) : Option ((Int × Int))) fun (q2, r2) =>
    (some (q2, r2, 0))
def m_integer_Mod (O : Ops) (a_1 : Int) (b_1 : Int) : Option (Int) :=
  Option.bind (m_integer_Div O a_1 b_1) fun (_, n14, _) =>
  (some n14)
def m_integer_Floor (O : Ops) (a_1 : Int) (b_1 : Int) : Option (Int) :=
  Option.bind (m_integer_Div O a_1 b_1) fun (n17, _, _) =>
  (some n17)
def m_group_at (O : Ops) (c_1 : Int) (c_2 : Int) (k_1 : Int) (c_3 : List (Int × Int)) : Option (Int × Int) :=
  Option.bind (m_integer_Mod O k_1 ((O .ofNat (O .len .i2 c_3)))) fun n16 =>
  grd (okIdx n16 ((O .len .i2 c_3))) <|
  grd (okKin ((O .toNat n16)) ((O .len .i2 c_3))) <|
  Option.bind (m_integer_Floor O k_1 ((O .ofNat (O .len .i2 c_3)))) fun n20 =>
  grd (okI .i64 ((O .mul c_2 n20))) <|
  grd (okI .i64 ((O .add c_1 (O .mul c_2 n20)))) <|
  grd (okI .i64 ((O .add ((O .get .i2 c_3 (O .toNat n16))).1 (O .add c_1 (O .mul c_2 n20))))) <|
  grd (okI .i64 ((O .add ((O .get .i2 c_3 (O .toNat n16))).2 (O .add c_1 (O .mul c_2 n20))))) <|
  (some ((O .add ((O .get .i2 c_3 (O .toNat n16))).1 (O .add c_1 (O .mul c_2 n20))), (O .add ((O .get .i2 c_3 (O .toNat n16))).2 (O .add c_1 (O .mul c_2 n20)))))
def m_group_Groups_1 (O : Ops) (j_1 : Int) (x_1 : Int) (x_2 : Int) (x_3 : Int) (x_4 : Int) (x_5 : List (Int × Int)) : Option (Int × Int × Bool) :=
  grd (okI .i64 ((O .mul j_1 x_4))) <|
  grd (okI .i64 ((O .add x_3 (O .mul j_1 x_4)))) <|
  grd (okI .i64 ((O .add j_1 1))) <|
  grd (okI .i64 ((O .mul (O .add j_1 1) x_4))) <|
  grd (okI .i64 ((O .add x_3 (O .mul (O .add j_1 1) x_4)))) <|
  grd (okI .i64 ((O .sub (O .add x_3 (O .mul (O .add j_1 1) x_4)) 1))) <|
  Option.bind (m_group_at O x_1 x_2 ((O .add x_3 (O .mul j_1 x_4))) x_5) fun (n21, _) =>
  Option.bind (m_group_at O x_1 x_2 ((O .sub (O .add x_3 (O .mul (O .add j_1 1) x_4)) 1)) x_5) fun (_, n24) =>
  (some (n21, n24, true))
def m_granule_line (O : Ops) (x_1 : Int) : Option (Bool) :=
  Option.bind (
    bif (O .le (-4398046511104) x_1) then
      (some (O .le x_1 4398046511104))
    else
      (some false) : Option ((Bool))) fun x46 =>
  (some x46)
def m_granule_Of_L1 (O : Ops) (l_1 : List (Int × Int)) : (Int × List (Int × Int)) → Option ((Int × List (Int × Int)) ⊕ (List (Int × Int))) := fun (x51, l10) =>
  bif (O .lt x51 (O .ofNat (O .len .i2 l_1))) then
    grd (okIdx x51 ((O .len .i2 l_1))) <|
    grd (okKin ((O .toNat x51)) ((O .len .i2 l_1))) <|
    grd (okI .i64 ((O .sub ((O .get .i2 l_1 (O .toNat x51))).1 ((O .get .i2 l_1 (O .toNat 0))).1))) <|
    grd (okI .i64 ((O .sub ((O .get .i2 l_1 (O .toNat x51))).2 ((O .get .i2 l_1 (O .toNat 0))).1))) <|
    grd (okRoom ((O .len .i2 l10))) <|
    grd (okRoom ((O .len .i2 [((O .sub ((O .get .i2 l_1 (O .toNat x51))).1 ((O .get .i2 l_1 (O .toNat 0))).1), (O .sub ((O .get .i2 l_1 (O .toNat x51))).2 ((O .get .i2 l_1 (O .toNat 0))).1))]))) <|
    grd (okI .i64 ((O .add x51 1))) <|
    (some (Sum.inl ((O .add x51 1), (O .app .i2 l10 [((O .sub ((O .get .i2 l_1 (O .toNat x51))).1 ((O .get .i2 l_1 (O .toNat 0))).1), (O .sub ((O .get .i2 l_1 (O .toNat x51))).2 ((O .get .i2 l_1 (O .toNat 0))).1))]))))
  else
    (some (Sum.inr l10))
def m_granule_Of (O : Ops) (origin_1 : Int) (period_1 : Int) (l_1 : List (Int × Int)) : Option (Int × Int × List (Int × Int) × Int) :=
  Option.bind (
    bif (O .lt period_1 1) then
      (some true)
    else
      bif (O .lt 12622780800 period_1) then
        (some true)
      else
        Option.bind (m_granule_ascending O l_1) fun b10 =>
        bif (O .not b10) then
          (some true)
        else
          grd (okI .i64 ((O .sub (O .ofNat (O .len .i2 l_1)) 1))) <|
          grd (okIdx ((O .sub (O .ofNat (O .len .i2 l_1)) 1)) ((O .len .i2 l_1))) <|
          grd (okKin ((O .toNat (O .sub (O .ofNat (O .len .i2 l_1)) 1))) ((O .len .i2 l_1))) <|
          grd (okIdx 0 ((O .len .i2 l_1))) <|
          grd (okKin ((O .toNat 0)) ((O .len .i2 l_1))) <|
          grd (okI .i64 ((O .sub ((O .get .i2 l_1 (O .toNat (O .sub (O .ofNat (O .len .i2 l_1)) 1)))).2 ((O .get .i2 l_1 (O .toNat 0))).1))) <|
          (some (O .lt period_1 (O .sub ((O .get .i2 l_1 (O .toNat (O .sub (O .ofNat (O .len .i2 l_1)) 1)))).2 ((O .get .i2 l_1 (O .toNat 0))).1))) : Option ((Bool))) fun x44 =>
  bif x44 then
    (some (0, 0, ([] : List (Int × Int)), 1))
  else
    bif (O .lt 5000 (O .ofNat (O .len .i2 l_1))) then
      (some (0, 0, ([] : List (Int × Int)), 5))
    else
      grd (okIdx 0 ((O .len .i2 l_1))) <|
      grd (okKin ((O .toNat 0)) ((O .len .i2 l_1))) <|
      Option.bind (
        Option.bind (m_granule_line O origin_1) fun b11 =>
        bif (O .not b11) then
          (some true)
        else
          grd (okI .i64 ((O .add origin_1 ((O .get .i2 l_1 (O .toNat 0))).1))) <|
          Option.bind (m_granule_half O ((O .add origin_1 ((O .get .i2 l_1 (O .toNat 0))).1))) fun b12 =>
          (some (O .not b12)) : Option ((Bool))) fun x48 =>
      bif x48 then
        (some (0, 0, ([] : List (Int × Int)), 2))
      else
        grd (okI .i64 ((O .add origin_1 ((O .get .i2 l_1 (O .toNat 0))).1))) <|
        Option.bind (loop (m_granule_Of_L1 O l_1) (0, ([] : List (Int × Int)))) fun l11 =>
        Option.bind (m_granule_least O period_1 l11) fun n29 =>
        grd (okNz n29) <|
        grd (okI .i64 ((O .quo (O .ofNat (O .len .i2 l11)) n29))) <|
        grd (okNz ((O .quo (O .ofNat (O .len .i2 l11)) n29))) <|
        grd (okI .i64 ((O .quo period_1 (O .quo (O .ofNat (O .len .i2 l11)) n29)))) <|
        grd (okRng n29 ((O .len .i2 l11))) <|
        grd (okRng n29 ((O .toNat n29))) <|
        (some ((O .add origin_1 ((O .get .i2 l_1 (O .toNat 0))).1), (O .quo period_1 (O .quo (O .ofNat (O .len .i2 l11)) n29)), (O .cut .i2 l11 0 (O .toNat n29)), 0))
def m_group_made_L1 (O : Ops) (l_1 : List (Int × Int)) : (Int × List (Int × Int)) → Option ((Int × List (Int × Int)) ⊕ (List (Int × Int))) := fun (x42, l8) =>
  bif (O .lt x42 (O .ofNat (O .len .i2 l_1))) then
    grd (okIdx x42 ((O .len .i2 l_1))) <|
    grd (okKin ((O .toNat x42)) ((O .len .i2 l_1))) <|
    grd (okI .i64 ((O .sub ((O .get .i2 l_1 (O .toNat x42))).1 ((O .get .i2 l_1 (O .toNat 0))).1))) <|
    grd (okI .i64 ((O .sub ((O .get .i2 l_1 (O .toNat x42))).2 ((O .get .i2 l_1 (O .toNat 0))).1))) <|
    grd (okRoom ((O .len .i2 l8))) <|
    grd (okRoom ((O .len .i2 [((O .sub ((O .get .i2 l_1 (O .toNat x42))).1 ((O .get .i2 l_1 (O .toNat 0))).1), (O .sub ((O .get .i2 l_1 (O .toNat x42))).2 ((O .get .i2 l_1 (O .toNat 0))).1))]))) <|
    grd (okI .i64 ((O .add x42 1))) <|
    (some (Sum.inl ((O .add x42 1), (O .app .i2 l8 [((O .sub ((O .get .i2 l_1 (O .toNat x42))).1 ((O .get .i2 l_1 (O .toNat 0))).1), (O .sub ((O .get .i2 l_1 (O .toNat x42))).2 ((O .get .i2 l_1 (O .toNat 0))).1))]))))
  else
    (some (Sum.inr l8))
def m_group_made (O : Ops) (period_1 : Int) (l_1 : List (Int × Int)) : Option (Int × Int × List (Int × Int) × Int) :=
  grd (okIdx 0 ((O .len .i2 l_1))) <|
  grd (okKin ((O .toNat 0)) ((O .len .i2 l_1))) <|
  grd (okRng ((O .ofNat (O .len .i2 l_1))) ((O .toNat (O .ofNat (O .len .i2 l_1))))) <|
  grd (okRng 0 ((O .toNat (O .ofNat (O .len .i2 l_1))))) <|
  grd (okRoom ((O .toNat (O .ofNat (O .len .i2 l_1))))) <|
  Option.bind (loop (m_group_made_L1 O l_1) (0, (O .rep .i2 (O .toNat 0)))) fun l9 =>
  Option.bind (m_granule_Of O (((O .get .i2 l_1 (O .toNat 0))).1) period_1 l9) fun (n30, n31, l12, n32) =>
  (some (n30, n31, l12, n32))
def m_group_collect_L1 (O : Ops) (c_1 : Int) (c_2 : Int) (c_3 : Int) (c_4 : Int) (c_5 : List (Int × Int)) (n_1 : Int) : (Int × List (Int × Int)) → Option ((Int × List (Int × Int)) ⊕ (List (Int × Int))) := fun (x40, l4) =>
  bif (O .lt x40 n_1) then
    Option.bind (m_group_Groups_1 O x40 c_1 c_2 c_3 c_4 c_5) fun (n27, n28, b9) =>
    Option.bind (
      bif b9 then
        grd (okRoom ((O .len .i2 l4))) <|
        grd (okRoom ((O .len .i2 [(n27, n28)]))) <|
        (some (O .app .i2 l4 [(n27, n28)]))
      else
        (some l4) : Option ((List (Int × Int)))) fun l6 =>
    grd (okI .i64 ((O .add x40 1))) <|
    (some (Sum.inl ((O .add x40 1), l6)))
  else
    (some (Sum.inr l4))
def m_group_collect (O : Ops) (period_1 : Int) (n_1 : Int) (c_1 : Int) (c_2 : Int) (c_3 : Int) (c_4 : Int) (c_5 : List (Int × Int)) : Option (Int × Int × List (Int × Int) × Int) :=
  Option.bind (loop (m_group_collect_L1 O c_1 c_2 c_3 c_4 c_5 n_1) (0, ([] : List (Int × Int)))) fun l7 =>
  bif (O .eq (O .ofNat (O .len .i2 l7)) 0) then
    (some (0, 0, ([] : List (Int × Int)), 7))
  else
    Option.bind (m_group_made O period_1 l7) fun (n33, n34, l13, n35) =>
    (some (n33, n34, l13, n35))
def m_group_Groups (O : Ops) (c_1 : Int) (c_2 : Int) (first_1 : Int) (m_1 : Int) (c_3 : List (Int × Int)) : Option (Int × Int × List (Int × Int) × Int) :=
  Option.bind (
    Option.bind (m_granule_Valid O c_1 c_2 c_3) fun b6 =>
    bif (O .not b6) then
      (some true)
    else
      bif (O .lt m_1 1) then
        (some true)
      else
        bif (O .lt 12622780800 m_1) then
          (some true)
        else
          bif (O .lt first_1 (-268435456)) then
            (some true)
          else
            (some (O .lt 268435456 first_1)) : Option ((Bool))) fun x20 =>
  bif x20 then
    (some (0, 0, ([] : List (Int × Int)), 1))
  else
    Option.bind (m_group_blocks O c_1 c_2 m_1 c_3) fun (n10, n11, n12) =>
    Option.bind (
      bif (O .not (O .eq n12 0)) then
        (some (Sum.inl n12))
      else
        bif (O .lt 5000 n11) then
          (some (Sum.inl 5))
        else
          (some (Sum.inr ())) : Option (((Int) ⊕ (Unit)))) fun e => match e with
    | .inl x32 =>
      (some (0, 0, ([] : List (Int × Int)), x32))
    | .inr (_) =>
      Option.bind (m_group_collect O n10 n11 c_1 c_2 first_1 m_1 c_3) fun (n36, n37, l14, n38) =>
      (some (n36, n37, l14, n38))
def m_group_Custom_1 (O : Ops) (n_1 : Int) : Option (Bool) :=
  Option.bind (
    bif (O .lt n_1 1) then
      (some true)
    else
      (some (O .lt 12622780800 n_1)) : Option ((Bool))) fun x60 =>
  (some x60)
def m_slices_IndexFunc_L1 (O : Ops) (s_1 : List Int) : (Int) → Option ((Int) ⊕ ((Int) ⊕ (Unit))) := fun x58 =>
  bif (O .lt x58 (O .ofNat (O .len .i1 s_1))) then
    grd (okIdx x58 ((O .len .i1 s_1))) <|
    grd (okKin ((O .toNat x58)) ((O .len .i1 s_1))) <|
    Option.bind (m_group_Custom_1 O ((O .get .i1 s_1 (O .toNat x58)))) fun b13 =>
    bif b13 then
      (some (Sum.inr (Sum.inl x58)))
    else
      grd (okI .i64 ((O .add x58 1))) <|
      (some (Sum.inl (O .add x58 1)))
  else
    (some (Sum.inr (Sum.inr ())))
def m_slices_IndexFunc (O : Ops) (s_1 : List Int) : Option (Int) :=
  Option.bind (loop (m_slices_IndexFunc_L1 O s_1) 0) fun e => match e with
  | .inl x61 =>
    (some x61)
  | .inr (_) =>
    (some (-1))
def m_slices_ContainsFunc (O : Ops) (s_1 : List Int) : Option (Bool) :=
  Option.bind (m_slices_IndexFunc O s_1) fun n42 =>
  (some (O .le 0 n42))
def m_group_Custom_L1 (O : Ops) (lengths_1 : List Int) : (Int × Int × List (Int × Int)) → Option ((Int × Int × List (Int × Int)) ⊕ (Int × List (Int × Int))) := fun (sum2, x65, l18) =>
  bif (O .lt x65 (O .ofNat (O .len .i1 lengths_1))) then
    grd (okIdx x65 ((O .len .i1 lengths_1))) <|
    grd (okKin ((O .toNat x65)) ((O .len .i1 lengths_1))) <|
    grd (okI .i64 ((O .add sum2 (O .get .i1 lengths_1 (O .toNat x65))))) <|
    grd (okRoom ((O .len .i2 l18))) <|
    grd (okRoom ((O .len .i2 [(sum2, (O .add sum2 (O .get .i1 lengths_1 (O .toNat x65))))]))) <|
    grd (okI .i64 ((O .add x65 1))) <|
    (some (Sum.inl ((O .add sum2 (O .get .i1 lengths_1 (O .toNat x65))), (O .add x65 1), (O .app .i2 l18 [(sum2, (O .add sum2 (O .get .i1 lengths_1 (O .toNat x65))))]))))
  else
    (some (Sum.inr (sum2, l18)))
def m_group_Custom (O : Ops) (origin_1 : Int) (lengths_1 : List Int) : Option (Int × Int × List (Int × Int) × Int) :=
  Option.bind (
    bif (O .eq (O .ofNat (O .len .i1 lengths_1)) 0) then
      (some true)
    else
      Option.bind (m_slices_ContainsFunc O lengths_1) fun b14 =>
      (some b14) : Option ((Bool))) fun x63 =>
  bif x63 then
    (some (0, 0, ([] : List (Int × Int)), 1))
  else
    bif (O .lt 5000 (O .ofNat (O .len .i1 lengths_1))) then
      (some (0, 0, ([] : List (Int × Int)), 5))
    else
      Option.bind (loop (m_group_Custom_L1 O lengths_1) (0, 0, ([] : List (Int × Int)))) fun (sum3, l19) =>
      bif (O .lt 12622780800 sum3) then
        (some (0, 0, ([] : List (Int × Int)), 9))
      else
        Option.bind (m_granule_Of O origin_1 sum3 l19) fun (n43, n44, l20, n45) =>
        (some (n43, n44, l20, n45))
def m_group_Fiscal_L1 (O : Ops) (pattern_1 : List Int) : (Int × List Int) → Option ((Int × List Int) ⊕ ((Unit) ⊕ (List Int))) := fun (x55, l16) =>
  bif (O .lt x55 (O .ofNat (O .len .i1 pattern_1))) then
    grd (okIdx x55 ((O .len .i1 pattern_1))) <|
    grd (okKin ((O .toNat x55)) ((O .len .i1 pattern_1))) <|
    Option.bind (
      bif (O .lt (O .get .i1 pattern_1 (O .toNat x55)) 1) then
        (some true)
      else
        (some (O .lt 60 (O .get .i1 pattern_1 (O .toNat x55)))) : Option ((Bool))) fun x57 =>
    bif x57 then
      (some (Sum.inr (Sum.inl ())))
    else
      grd (okI .i64 ((O .mul 7 (O .get .i1 pattern_1 (O .toNat x55))))) <|
      grd (okRoom ((O .len .i1 l16))) <|
      grd (okRoom ((O .len .i1 [(O .mul 7 (O .get .i1 pattern_1 (O .toNat x55)))]))) <|
      grd (okI .i64 ((O .add x55 1))) <|
      (some (Sum.inl ((O .add x55 1), (O .app .i1 l16 [(O .mul 7 (O .get .i1 pattern_1 (O .toNat x55)))]))))
  else
    (some (Sum.inr (Sum.inr l16)))
def m_group_Fiscal (O : Ops) (origin_1 : Int) (pattern_1 : List Int) : Option (Int × Int × List (Int × Int) × Int) :=
  Option.bind (loop (m_group_Fiscal_L1 O pattern_1) (0, ([] : List Int))) fun e => match e with
  | .inl _ =>
    (some (0, 0, ([] : List (Int × Int)), 1))
  | .inr (l17) =>
    Option.bind (m_group_Custom O origin_1 l17) fun (n46, n47, l21, n48) =>
    (some (n46, n47, l21, n48))
def m_ref12_Same_L1 (O : Ops) (a_1 : List (Int × Int)) (b_1 : List (Int × Int)) : (Int) → Option ((Int) ⊕ ((Unit) ⊕ (Unit))) := fun i2 =>
  bif (O .lt i2 (O .ofNat (O .len .i2 a_1))) then
    Option.bind (
      bif (O .not (O .eq ((O .get .i2 a_1 (O .toNat i2))).1 ((O .get .i2 b_1 (O .toNat i2))).1)) then
        grd (okIdx i2 ((O .len .i2 a_1))) <|
        grd (okKin ((O .toNat i2)) ((O .len .i2 a_1))) <|
        grd (okIdx i2 ((O .len .i2 b_1))) <|
        grd (okKin ((O .toNat i2)) ((O .len .i2 b_1))) <|
        (some true)
      else
        grd (okIdx i2 ((O .len .i2 a_1))) <|
        grd (okKin ((O .toNat i2)) ((O .len .i2 a_1))) <|
        grd (okIdx i2 ((O .len .i2 b_1))) <|
        grd (okKin ((O .toNat i2)) ((O .len .i2 b_1))) <|
        (some (O .not (O .eq ((O .get .i2 a_1 (O .toNat i2))).2 ((O .get .i2 b_1 (O .toNat i2))).2))) : Option ((Bool))) fun x67 =>
    bif x67 then
      (some (Sum.inr (Sum.inl ())))
    else
      grd (okI .i64 ((O .add i2 1))) <|
      (some (Sum.inl (O .add i2 1)))
  else
    (some (Sum.inr (Sum.inr ())))
def m_ref12_Same (O : Ops) (a_1 : List (Int × Int)) (b_1 : List (Int × Int)) : Option (Bool) :=
  bif (O .not (O .eq (O .ofNat (O .len .i2 a_1)) (O .ofNat (O .len .i2 b_1)))) then
    (some false)
  else
    Option.bind (loop (m_ref12_Same_L1 O a_1 b_1) 0) fun e => match e with
    | .inl _ =>
      (some false)
    | .inr (_) =>
      (some true)
def m_ref16_Same (O : Ops) (a_1 : Int) (a_2 : Int) (b_1 : Int) (b_2 : Int) (a_3 : List (Int × Int)) (b_3 : List (Int × Int)) : Option (Bool) :=
  Option.bind (
    bif (O .eq a_1 b_1) then
      bif (O .eq a_2 b_2) then
        Option.bind (m_ref12_Same O a_3 b_3) fun b15 =>
        (some b15)
      else
        (some false)
    else
      (some false) : Option ((Bool))) fun x70 =>
  (some x70)
def m_slices_Equal_L1 (O : Ops) (s1_1 : List (Int × Int)) (s2_1 : List (Int × Int)) : (Int) → Option ((Int) ⊕ ((Unit) ⊕ (Unit))) := fun x71 =>
  bif (O .lt x71 (O .ofNat (O .len .i2 s1_1))) then
    grd (okIdx x71 ((O .len .i2 s1_1))) <|
    grd (okKin ((O .toNat x71)) ((O .len .i2 s1_1))) <|
    grd (okIdx x71 ((O .len .i2 s2_1))) <|
    grd (okKin ((O .toNat x71)) ((O .len .i2 s2_1))) <|
    bif (O .not (O .and (O .eq ((O .get .i2 s1_1 (O .toNat x71))).1 ((O .get .i2 s2_1 (O .toNat x71))).1) (O .eq ((O .get .i2 s1_1 (O .toNat x71))).2 ((O .get .i2 s2_1 (O .toNat x71))).2))) then
      (some (Sum.inr (Sum.inl ())))
    else
      grd (okI .i64 ((O .add x71 1))) <|
      (some (Sum.inl (O .add x71 1)))
  else
    (some (Sum.inr (Sum.inr ())))
def m_slices_Equal (O : Ops) (s1_1 : List (Int × Int)) (s2_1 : List (Int × Int)) : Option (Bool) :=
  bif (O .not (O .eq (O .ofNat (O .len .i2 s1_1)) (O .ofNat (O .len .i2 s2_1)))) then
    (some false)
  else
    Option.bind (loop (m_slices_Equal_L1 O s1_1 s2_1) 0) fun e => match e with
    | .inl _ =>
      (some false)
    | .inr (_) =>
      (some true)
def m_law16_awake (O : Ops) : Option (Bool) :=
  Option.bind (m_law16_days O) fun (n1, n2, l1) =>
  Option.bind (m_group_Groups O n1 n2 4 7 l1) fun (n39, n40, l15, n41) =>
  Option.bind (m_group_Fiscal O 0 ([4, 4, 5])) fun (_, n50, l22, n51) =>
  Option.bind (
    bif (O .eq n41 0) then
      Option.bind (m_ref16_Same O n39 n40 4 7 l15 ([(0, 7)])) fun b16 =>
      bif b16 then
        bif (O .eq n51 0) then
          bif (O .eq n50 91) then
            Option.bind (m_slices_Equal O l22 ([(0, 28), (28, 56), (56, 91)])) fun b17 =>
            (some b17)
          else
            (some false)
        else
          (some false)
      else
        (some false)
    else
      (some false) : Option ((Bool))) fun x76 =>
  (some x76)
def m_law16_great_1 (O : Ops) (c_1 : Int) (c_2 : Int) (c_3 : List (Int × Int)) : Option (Bool) :=
  (some (O .lt 40 (O .ofNat (O .len .i2 c_3))))
def m_slices_IndexFunc_2 (O : Ops) (s_1 : Int) (s_2 : Int) (s_3 : List (Int × Int)) : Option (Int) :=
  Option.bind (m_law16_great_1 O s_1 s_2 s_3) fun b19 =>
  bif b19 then
    (some 0)
  else
    grd (okI .i64 ((O .add 0 1))) <|
    (some (-1))
def m_slices_ContainsFunc_2 (O : Ops) (s_1 : Int) (s_2 : Int) (s_3 : List (Int × Int)) : Option (Bool) :=
  Option.bind (m_slices_IndexFunc_2 O s_1 s_2 s_3) fun n52 =>
  (some (O .le 0 n52))
def m_law16_great (O : Ops) (l_1 : Int) (l_2 : Int) (l_3 : List (Int × Int)) : Option (Bool) :=
  Option.bind (m_slices_ContainsFunc_2 O l_1 l_2 l_3) fun b20 =>
  (some b20)
def m_ref16_repeats_L1 (O : Ops) (d_1 : Int) (l_1 : List (Int × Int)) (part_1 : Int) : (Int) → Option ((Int) ⊕ ((Unit) ⊕ (Unit))) := fun i4 =>
  bif (O .lt i4 (O .ofNat (O .len .i2 l_1))) then
    Option.bind (
      bif (O .not (O .eq ((O .get .i2 l_1 (O .toNat i4))).1 (O .add ((O .get .i2 l_1 (O .toNat (O .sub i4 d_1)))).1 part_1))) then
        grd (okIdx i4 ((O .len .i2 l_1))) <|
        grd (okKin ((O .toNat i4)) ((O .len .i2 l_1))) <|
        grd (okI .i64 ((O .sub i4 d_1))) <|
        grd (okIdx ((O .sub i4 d_1)) ((O .len .i2 l_1))) <|
        grd (okKin ((O .toNat (O .sub i4 d_1))) ((O .len .i2 l_1))) <|
        grd (okI .i64 ((O .add ((O .get .i2 l_1 (O .toNat (O .sub i4 d_1)))).1 part_1))) <|
        (some true)
      else
        grd (okIdx i4 ((O .len .i2 l_1))) <|
        grd (okKin ((O .toNat i4)) ((O .len .i2 l_1))) <|
        grd (okI .i64 ((O .sub i4 d_1))) <|
        grd (okIdx ((O .sub i4 d_1)) ((O .len .i2 l_1))) <|
        grd (okKin ((O .toNat (O .sub i4 d_1))) ((O .len .i2 l_1))) <|
        grd (okI .i64 ((O .add ((O .get .i2 l_1 (O .toNat (O .sub i4 d_1)))).1 part_1))) <|
        grd (okI .i64 ((O .add ((O .get .i2 l_1 (O .toNat (O .sub i4 d_1)))).2 part_1))) <|
        (some (O .not (O .eq ((O .get .i2 l_1 (O .toNat i4))).2 (O .add ((O .get .i2 l_1 (O .toNat (O .sub i4 d_1)))).2 part_1)))) : Option ((Bool))) fun x83 =>
    bif x83 then
      (some (Sum.inr (Sum.inl ())))
    else
      grd (okI .i64 ((O .add i4 1))) <|
      (some (Sum.inl (O .add i4 1)))
  else
    (some (Sum.inr (Sum.inr ())))
def m_ref16_repeats (O : Ops) (part_1 : Int) (d_1 : Int) (l_1 : List (Int × Int)) : Option (Bool) :=
  Option.bind (loop (m_ref16_repeats_L1 O d_1 l_1 part_1) d_1) fun e => match e with
  | .inl _ =>
    (some false)
  | .inr (_) =>
    (some true)
def m_ref16_least_L1 (O : Ops) (l_1 : List (Int × Int)) (period_1 : Int) : (Int) → Option ((Int) ⊕ ((Int) ⊕ (Unit))) := fun d1 =>
  bif (O .lt d1 (O .ofNat (O .len .i2 l_1))) then
    Option.bind (
      bif (O .eq (O .rem (O .ofNat (O .len .i2 l_1)) d1) 0) then
        bif (O .eq (O .rem period_1 (O .quo (O .ofNat (O .len .i2 l_1)) d1)) 0) then
          grd (okNz d1) <|
          grd (okI .i64 ((O .quo (O .ofNat (O .len .i2 l_1)) d1))) <|
          grd (okNz ((O .quo (O .ofNat (O .len .i2 l_1)) d1))) <|
          grd (okI .i64 ((O .quo period_1 (O .quo (O .ofNat (O .len .i2 l_1)) d1)))) <|
          Option.bind (m_ref16_repeats O ((O .quo period_1 (O .quo (O .ofNat (O .len .i2 l_1)) d1))) d1 l_1) fun b22 =>
          (some b22)
        else
          grd (okNz d1) <|
          grd (okI .i64 ((O .quo (O .ofNat (O .len .i2 l_1)) d1))) <|
          grd (okNz ((O .quo (O .ofNat (O .len .i2 l_1)) d1))) <|
          (some false)
      else
        grd (okNz d1) <|
        (some false) : Option ((Bool))) fun x86 =>
    bif x86 then
      (some (Sum.inr (Sum.inl d1)))
    else
      grd (okI .i64 ((O .add d1 1))) <|
      (some (Sum.inl (O .add d1 1)))
  else
    (some (Sum.inr (Sum.inr ())))
def m_ref16_least (O : Ops) (period_1 : Int) (l_1 : List (Int × Int)) : Option (Int) :=
  Option.bind (loop (m_ref16_least_L1 O l_1 period_1) 1) fun e => match e with
  | .inl x87 =>
    (some x87)
  | .inr (_) =>
    (some (O .ofNat (O .len .i2 l_1)))
def m_ref16_Valid_L1 (O : Ops) (c_2 : Int) (c_3 : List (Int × Int)) : (Int) → Option ((Int) ⊕ ((Unit) ⊕ (Unit))) := fun i3 =>
  bif (O .lt i3 (O .ofNat (O .len .i2 c_3))) then
    Option.bind (
      bif (O .le ((O .get .i2 c_3 (O .toNat i3))).2 ((O .get .i2 c_3 (O .toNat i3))).1) then
        grd (okIdx i3 ((O .len .i2 c_3))) <|
        grd (okKin ((O .toNat i3)) ((O .len .i2 c_3))) <|
        (some true)
      else
        bif (O .lt ((O .get .i2 c_3 (O .toNat i3))).1 0) then
          grd (okIdx i3 ((O .len .i2 c_3))) <|
          grd (okKin ((O .toNat i3)) ((O .len .i2 c_3))) <|
          (some true)
        else
          bif (O .lt c_2 ((O .get .i2 c_3 (O .toNat i3))).2) then
            grd (okIdx i3 ((O .len .i2 c_3))) <|
            grd (okKin ((O .toNat i3)) ((O .len .i2 c_3))) <|
            (some true)
          else
            bif (O .lt 0 i3) then
              grd (okIdx i3 ((O .len .i2 c_3))) <|
              grd (okKin ((O .toNat i3)) ((O .len .i2 c_3))) <|
              grd (okI .i64 ((O .sub i3 1))) <|
              grd (okIdx ((O .sub i3 1)) ((O .len .i2 c_3))) <|
              grd (okKin ((O .toNat (O .sub i3 1))) ((O .len .i2 c_3))) <|
              (some (O .lt ((O .get .i2 c_3 (O .toNat i3))).1 ((O .get .i2 c_3 (O .toNat (O .sub i3 1)))).2))
            else
              grd (okIdx i3 ((O .len .i2 c_3))) <|
              grd (okKin ((O .toNat i3)) ((O .len .i2 c_3))) <|
              (some false) : Option ((Bool))) fun x81 =>
    bif x81 then
      (some (Sum.inr (Sum.inl ())))
    else
      grd (okI .i64 ((O .add i3 1))) <|
      (some (Sum.inl (O .add i3 1)))
  else
    (some (Sum.inr (Sum.inr ())))
def m_ref16_Valid (O : Ops) (c_1 : Int) (c_2 : Int) (c_3 : List (Int × Int)) : Option (Bool) :=
  Option.bind (
    bif (O .lt (O .ofNat (O .len .i2 c_3)) 1) then
      (some true)
    else
      bif (O .lt 5000 (O .ofNat (O .len .i2 c_3))) then
        (some true)
      else
        bif (O .lt c_2 1) then
          (some true)
        else
          bif (O .lt 12622780800 c_2) then
            (some true)
          else
            bif (O .lt 2199023255552 c_1) then
              (some true)
            else
              bif (O .lt c_1 (-2199023255552)) then
                (some true)
              else
                grd (okIdx 0 ((O .len .i2 c_3))) <|
                grd (okKin ((O .toNat 0)) ((O .len .i2 c_3))) <|
                (some (O .not (O .eq ((O .get .i2 c_3 (O .toNat 0))).1 0))) : Option ((Bool))) fun x78 =>
  bif x78 then
    (some false)
  else
    Option.bind (loop (m_ref16_Valid_L1 O c_2 c_3) 0) fun e => match e with
    | .inl _ =>
      (some false)
    | .inr (_) =>
      Option.bind (m_ref16_least O c_2 c_3) fun n56 =>
      (some (O .eq n56 (O .ofNat (O .len .i2 c_3))))
def m_law16_is (O : Ops) (c_1 : Int) (c_2 : Int) (e_1 : Int) (want_1 : Int) (want_2 : Int) (f_1 : Int) (c_3 : List (Int × Int)) (want_3 : List (Int × Int)) : Option (Bool) :=
  Option.bind (
    bif (O .eq e_1 f_1) then
      Option.bind (m_ref16_Same O c_1 c_2 want_1 want_2 c_3 want_3) fun b24 =>
      bif b24 then
        bif (O .not (O .eq e_1 0)) then
          (some true)
        else
          Option.bind (m_ref16_Valid O c_1 c_2 c_3) fun b25 =>
          (some b25)
      else
        (some false)
    else
      (some false) : Option ((Bool))) fun x91 =>
  (some x91)
def m_ref01_Gcd_L1 (O : Ops) : (Int × Int) → Option ((Int × Int) ⊕ ((Unit) ⊕ (Int))) := fun (a1, b27) =>
  bif (O .not (O .eq b27 0)) then
    bif (O .eq b27 (-1)) then
      (some (Sum.inr (Sum.inl ())))
    else
      grd (okNz b27) <|
      (some (Sum.inl (b27, (O .rem a1 b27))))
  else
    (some (Sum.inr (Sum.inr a1)))
def m_ref01_Gcd (O : Ops) (a_1 : Int) (b_1 : Int) : Option (Int) :=
  Option.bind (loop (m_ref01_Gcd_L1 O) (a_1, b_1)) fun e => match e with
  | .inl _ =>
    (some 1)
  | .inr (a2) =>
    bif (O .eq a2 (-9223372036854775808)) then
      (some 0)
    else
      Option.bind (
        bif (O .lt a2 0) then
          grd (okI .i64 ((O .sub 0 a2))) <|
          (some (O .sub 0 a2))
        else
          (some a2) : Option ((Int))) fun a4 =>
      (some a4)
def m_ref01_Div (O : Ops) (a_1 : Int) (b_1 : Int) : Option (Int × Int × Int) :=
  bif (O .eq b_1 0) then
    (some (0, 0, 10))
  else
    Option.bind (
      bif (O .eq a_1 (-9223372036854775808)) then
        (some (O .eq b_1 (-1)))
      else
        (some false) : Option ((Bool))) fun x95 =>
    bif x95 then
      (some (0, 0, 9))
    else
      grd (okNz b_1) <|
      grd (okI .i64 ((O .quo a_1 b_1))) <|
      Option.bind (
        bif (O .not (O .eq (O .rem a_1 b_1) 0)) then
          (some (O .not (O .beq (O .lt (O .rem a_1 b_1) 0) (O .lt b_1 0))))
        else
          (some false) : Option ((Bool))) fun x97 =>
      Option.bind (
        bif x97 then
          grd (okI .i64 ((O .sub (O .quo a_1 b_1) 1))) <|
          grd (okI .i64 ((O .add (O .rem a_1 b_1) b_1))) <|
          (some ((O .sub (O .quo a_1 b_1) 1), (O .add (O .rem a_1 b_1) b_1)))
        else
          (some ((O .quo a_1 b_1), (O .rem a_1 b_1))) : Option ((Int × Int))) fun (q4, r4) =>
      (some (q4, r4, 0))
def m_ref01_Floor (O : Ops) (a_1 : Int) (b_1 : Int) : Option (Int) :=
  Option.bind (m_ref01_Div O a_1 b_1) fun (n58, _, _) =>
  (some n58)
def m_ref16_Granule (O : Ops) (c_1 : Int) (c_2 : Int) (k_1 : Int) (c_3 : List (Int × Int)) : Option (Int × Int) :=
  Option.bind (m_ref01_Floor O k_1 ((O .ofNat (O .len .i2 c_3)))) fun n61 =>
  grd (okI .i64 ((O .mul (O .ofNat (O .len .i2 c_3)) n61))) <|
  grd (okI .i64 ((O .sub k_1 (O .mul (O .ofNat (O .len .i2 c_3)) n61)))) <|
  grd (okIdx ((O .sub k_1 (O .mul (O .ofNat (O .len .i2 c_3)) n61))) ((O .len .i2 c_3))) <|
  grd (okKin ((O .toNat (O .sub k_1 (O .mul (O .ofNat (O .len .i2 c_3)) n61)))) ((O .len .i2 c_3))) <|
  grd (okI .i64 ((O .mul c_2 n61))) <|
  grd (okI .i64 ((O .add c_1 (O .mul c_2 n61)))) <|
  grd (okI .i64 ((O .add ((O .get .i2 c_3 (O .toNat (O .sub k_1 (O .mul (O .ofNat (O .len .i2 c_3)) n61))))).1 (O .add c_1 (O .mul c_2 n61))))) <|
  grd (okI .i64 ((O .add ((O .get .i2 c_3 (O .toNat (O .sub k_1 (O .mul (O .ofNat (O .len .i2 c_3)) n61))))).2 (O .add c_1 (O .mul c_2 n61))))) <|
  (some ((O .add ((O .get .i2 c_3 (O .toNat (O .sub k_1 (O .mul (O .ofNat (O .len .i2 c_3)) n61))))).1 (O .add c_1 (O .mul c_2 n61))), (O .add ((O .get .i2 c_3 (O .toNat (O .sub k_1 (O .mul (O .ofNat (O .len .i2 c_3)) n61))))).2 (O .add c_1 (O .mul c_2 n61)))))
def m_ref16_Make_L1 (O : Ops) (l_1 : List (Int × Int)) : (Int × List (Int × Int)) → Option ((Int × List (Int × Int)) ⊕ (List (Int × Int))) := fun (i6, l26) =>
  bif (O .lt i6 (O .ofNat (O .len .i2 l_1))) then
    grd (okIdx i6 ((O .len .i2 l_1))) <|
    grd (okKin ((O .toNat i6)) ((O .len .i2 l_1))) <|
    grd (okI .i64 ((O .sub ((O .get .i2 l_1 (O .toNat i6))).1 ((O .get .i2 l_1 (O .toNat 0))).1))) <|
    grd (okI .i64 ((O .sub ((O .get .i2 l_1 (O .toNat i6))).2 ((O .get .i2 l_1 (O .toNat 0))).1))) <|
    grd (okRoom ((O .len .i2 l26))) <|
    grd (okRoom ((O .len .i2 [((O .sub ((O .get .i2 l_1 (O .toNat i6))).1 ((O .get .i2 l_1 (O .toNat 0))).1), (O .sub ((O .get .i2 l_1 (O .toNat i6))).2 ((O .get .i2 l_1 (O .toNat 0))).1))]))) <|
    grd (okI .i64 ((O .add i6 1))) <|
    (some (Sum.inl ((O .add i6 1), (O .app .i2 l26 [((O .sub ((O .get .i2 l_1 (O .toNat i6))).1 ((O .get .i2 l_1 (O .toNat 0))).1), (O .sub ((O .get .i2 l_1 (O .toNat i6))).2 ((O .get .i2 l_1 (O .toNat 0))).1))]))))
  else
    (some (Sum.inr l26))
def m_ref16_Make (O : Ops) (period_1 : Int) (l_1 : List (Int × Int)) : Option (Int × Int × List (Int × Int) × Int) :=
  grd (okIdx 0 ((O .len .i2 l_1))) <|
  grd (okKin ((O .toNat 0)) ((O .len .i2 l_1))) <|
  Option.bind (
    bif (O .lt 2199023255552 ((O .get .i2 l_1 (O .toNat 0))).1) then
      (some true)
    else
      (some (O .lt ((O .get .i2 l_1 (O .toNat 0))).1 (-2199023255552))) : Option ((Bool))) fun x99 =>
  bif x99 then
    (some (0, 0, ([] : List (Int × Int)), 2))
  else
    Option.bind (loop (m_ref16_Make_L1 O l_1) (0, ([] : List (Int × Int)))) fun l27 =>
    Option.bind (m_ref16_least O period_1 l27) fun n70 =>
    grd (okNz n70) <|
    grd (okI .i64 ((O .quo (O .ofNat (O .len .i2 l27)) n70))) <|
    grd (okNz ((O .quo (O .ofNat (O .len .i2 l27)) n70))) <|
    grd (okI .i64 ((O .quo period_1 (O .quo (O .ofNat (O .len .i2 l27)) n70)))) <|
    grd (okRng n70 ((O .len .i2 l27))) <|
    (some (((O .get .i2 l_1 (O .toNat 0))).1, (O .quo period_1 (O .quo (O .ofNat (O .len .i2 l27)) n70)), (O .cut .i2 l27 0 (O .toNat n70)), 0))
def m_ref16_Groups_L1 (O : Ops) (c_1 : Int) (c_2 : Int) (c_3 : List (Int × Int)) (first_1 : Int) (m_1 : Int) (n57 : Int) : (Int × List (Int × Int)) → Option ((Int × List (Int × Int)) ⊕ (List (Int × Int))) := fun (j2, l24) =>
  bif (O .lt j2 (O .quo (O .ofNat (O .len .i2 c_3)) n57)) then
    grd (okI .i64 ((O .mul j2 m_1))) <|
    grd (okI .i64 ((O .add first_1 (O .mul j2 m_1)))) <|
    grd (okI .i64 ((O .add j2 1))) <|
    grd (okI .i64 ((O .mul (O .add j2 1) m_1))) <|
    grd (okI .i64 ((O .add first_1 (O .mul (O .add j2 1) m_1)))) <|
    grd (okI .i64 ((O .sub (O .add first_1 (O .mul (O .add j2 1) m_1)) 1))) <|
    Option.bind (m_ref16_Granule O c_1 c_2 ((O .add first_1 (O .mul j2 m_1))) c_3) fun (n66, _) =>
    Option.bind (m_ref16_Granule O c_1 c_2 ((O .sub (O .add first_1 (O .mul (O .add j2 1) m_1)) 1)) c_3) fun (_, n69) =>
    grd (okRoom ((O .len .i2 l24))) <|
    grd (okRoom ((O .len .i2 [(n66, n69)]))) <|
    (some (Sum.inl ((O .add j2 1), (O .app .i2 l24 [(n66, n69)]))))
  else
    (some (Sum.inr l24))
def m_ref16_Groups (O : Ops) (c_1 : Int) (c_2 : Int) (first_1 : Int) (m_1 : Int) (c_3 : List (Int × Int)) : Option (Int × Int × List (Int × Int) × Int) :=
  Option.bind (
    bif (O .lt m_1 1) then
      (some true)
    else
      bif (O .lt 12622780800 m_1) then
        (some true)
      else
        bif (O .lt 268435456 first_1) then
          (some true)
        else
          (some (O .lt first_1 (-268435456))) : Option ((Bool))) fun x93 =>
  bif x93 then
    (some (0, 0, ([] : List (Int × Int)), 1))
  else
    Option.bind (m_ref01_Gcd O ((O .ofNat (O .len .i2 c_3))) m_1) fun n57 =>
    grd (okNz n57) <|
    grd (okI .i64 ((O .quo m_1 n57))) <|
    grd (okNz c_2) <|
    grd (okI .i64 ((O .quo 12622780800 c_2))) <|
    bif (O .lt (O .quo 12622780800 c_2) (O .quo m_1 n57)) then
      (some (0, 0, ([] : List (Int × Int)), 9))
    else
      grd (okI .i64 ((O .quo (O .ofNat (O .len .i2 c_3)) n57))) <|
      bif (O .lt 5000 (O .quo (O .ofNat (O .len .i2 c_3)) n57)) then
        (some (0, 0, ([] : List (Int × Int)), 5))
      else
        Option.bind (loop (m_ref16_Groups_L1 O c_1 c_2 c_3 first_1 m_1 n57) (0, ([] : List (Int × Int)))) fun l25 =>
        grd (okI .i64 ((O .mul c_2 (O .quo m_1 n57)))) <|
        Option.bind (m_ref16_Make O ((O .mul c_2 (O .quo m_1 n57))) l25) fun (n71, n72, l28, n73) =>
        (some (n71, n72, l28, n73))
def m_law16_GroupGroups (O : Ops) (c_1 : Int) (c_2 : Int) (first_1 : Int) (m_1 : Int) (c_3 : List (Int × Int)) : Option (Bool) :=
  Option.bind (m_law16_awake O) fun b18 =>
  bif (O .not b18) then
    (some false)
  else
    Option.bind (m_law16_great O c_1 c_2 c_3) fun b21 =>
    bif b21 then
      (some true)
    else
      Option.bind (m_group_Groups O c_1 c_2 first_1 m_1 c_3) fun (n53, n54, l23, n55) =>
      Option.bind (m_ref16_Valid O c_1 c_2 c_3) fun b23 =>
      bif (O .not b23) then
        Option.bind (m_law16_is O n53 n54 n55 0 0 1 l23 (([] : List (Int × Int)))) fun b26 =>
        (some b26)
      else
        Option.bind (m_ref16_Groups O c_1 c_2 first_1 m_1 c_3) fun (n74, n75, l29, n76) =>
        Option.bind (m_law16_is O n53 n54 n55 n74 n75 n76 l23 l29) fun b28 =>
        (some b28)
def m_group_Split_1 (O : Ops) (s_1 : Int) (s_2 : Int) (x_1 : Int) : Option (Bool) :=
  grd (okI .i64 ((O .sub s_2 s_1))) <|
  grd (okNz x_1) <|
  (some (O .not (O .eq (O .rem (O .sub s_2 s_1) x_1) 0)))
def m_slices_IndexFunc_3_L1 (O : Ops) (c_1 : Int) (s_1 : List (Int × Int)) : (Int) → Option ((Int) ⊕ ((Int) ⊕ (Unit))) := fun x102 =>
  bif (O .lt x102 (O .ofNat (O .len .i2 s_1))) then
    grd (okIdx x102 ((O .len .i2 s_1))) <|
    grd (okKin ((O .toNat x102)) ((O .len .i2 s_1))) <|
    Option.bind (m_group_Split_1 O (((O .get .i2 s_1 (O .toNat x102))).1) (((O .get .i2 s_1 (O .toNat x102))).2) c_1) fun b32 =>
    bif b32 then
      (some (Sum.inr (Sum.inl x102)))
    else
      grd (okI .i64 ((O .add x102 1))) <|
      (some (Sum.inl (O .add x102 1)))
  else
    (some (Sum.inr (Sum.inr ())))
def m_slices_IndexFunc_3 (O : Ops) (s_1 : List (Int × Int)) (c_1 : Int) : Option (Int) :=
  Option.bind (loop (m_slices_IndexFunc_3_L1 O c_1 s_1) 0) fun e => match e with
  | .inl x103 =>
    (some x103)
  | .inr (_) =>
    (some (-1))
def m_slices_ContainsFunc_3 (O : Ops) (s_1 : List (Int × Int)) (c_1 : Int) : Option (Bool) :=
  Option.bind (m_slices_IndexFunc_3 O s_1 c_1) fun n77 =>
  (some (O .le 0 n77))
def m_group_Split_2 (O : Ops) (i_1 : Int) (x_1 : Int) (x_2 : Int) (x_3 : Int) (x_4 : List (Int × Int)) : Option (Int × Int × Bool) :=
  grd (okNz x_3) <|
  grd (okI .i64 ((O .quo i_1 x_3))) <|
  Option.bind (m_group_at O x_1 x_2 ((O .quo i_1 x_3)) x_4) fun (n78, n79) =>
  grd (okI .i64 ((O .sub n79 n78))) <|
  grd (okI .i64 ((O .quo (O .sub n79 n78) x_3))) <|
  grd (okI .i64 ((O .mul (O .rem i_1 x_3) (O .quo (O .sub n79 n78) x_3)))) <|
  grd (okI .i64 ((O .add n78 (O .mul (O .rem i_1 x_3) (O .quo (O .sub n79 n78) x_3))))) <|
  grd (okI .i64 ((O .add (O .rem i_1 x_3) 1))) <|
  grd (okI .i64 ((O .mul (O .add (O .rem i_1 x_3) 1) (O .quo (O .sub n79 n78) x_3)))) <|
  grd (okI .i64 ((O .add n78 (O .mul (O .add (O .rem i_1 x_3) 1) (O .quo (O .sub n79 n78) x_3))))) <|
  (some ((O .add n78 (O .mul (O .rem i_1 x_3) (O .quo (O .sub n79 n78) x_3))), (O .add n78 (O .mul (O .add (O .rem i_1 x_3) 1) (O .quo (O .sub n79 n78) x_3))), true))
def m_group_collect_2_L1 (O : Ops) (c_1 : Int) (c_2 : Int) (c_3 : Int) (c_4 : List (Int × Int)) (n_1 : Int) : (Int × List (Int × Int)) → Option ((Int × List (Int × Int)) ⊕ (List (Int × Int))) := fun (x109, l32) =>
  bif (O .lt x109 n_1) then
    Option.bind (m_group_Split_2 O x109 c_1 c_2 c_3 c_4) fun (n82, n83, b35) =>
    Option.bind (
      bif b35 then
        grd (okRoom ((O .len .i2 l32))) <|
        grd (okRoom ((O .len .i2 [(n82, n83)]))) <|
        (some (O .app .i2 l32 [(n82, n83)]))
      else
        (some l32) : Option ((List (Int × Int)))) fun l34 =>
    grd (okI .i64 ((O .add x109 1))) <|
    (some (Sum.inl ((O .add x109 1), l34)))
  else
    (some (Sum.inr l32))
def m_group_collect_2 (O : Ops) (period_1 : Int) (n_1 : Int) (c_1 : Int) (c_2 : Int) (c_3 : Int) (c_4 : List (Int × Int)) : Option (Int × Int × List (Int × Int) × Int) :=
  Option.bind (loop (m_group_collect_2_L1 O c_1 c_2 c_3 c_4 n_1) (0, ([] : List (Int × Int)))) fun l35 =>
  bif (O .eq (O .ofNat (O .len .i2 l35)) 0) then
    (some (0, 0, ([] : List (Int × Int)), 7))
  else
    Option.bind (m_group_made O period_1 l35) fun (n84, n85, l36, n86) =>
    (some (n84, n85, l36, n86))
def m_group_Split (O : Ops) (c_1 : Int) (c_2 : Int) (m_1 : Int) (c_3 : List (Int × Int)) : Option (Int × Int × List (Int × Int) × Int) :=
  Option.bind (
    Option.bind (m_granule_Valid O c_1 c_2 c_3) fun b31 =>
    bif (O .not b31) then
      (some true)
    else
      bif (O .lt m_1 1) then
        (some true)
      else
        (some (O .lt 5000 m_1)) : Option ((Bool))) fun x101 =>
  Option.bind (
    bif x101 then
      (some (Sum.inl 1))
    else
      grd (okI .i64 ((O .mul (O .ofNat (O .len .i2 c_3)) m_1))) <|
      Option.bind (
        bif (O .lt 5000 (O .mul (O .ofNat (O .len .i2 c_3)) m_1)) then
          (some (Sum.inl 5))
        else
          Option.bind (m_slices_ContainsFunc_3 O c_3 m_1) fun b33 =>
          bif b33 then
            (some (Sum.inl 6))
          else
            (some (Sum.inr ())) : Option (((Int) ⊕ (Unit)))) fun e => match e with
      | .inl x105 =>
        (some (Sum.inl x105))
      | .inr (_) =>
        (some (Sum.inr ())) : Option (((Int) ⊕ (Unit)))) fun e => match e with
  | .inl x107 =>
    (some (0, 0, ([] : List (Int × Int)), x107))
  | .inr (_) =>
    Option.bind (m_group_collect_2 O c_2 ((O .mul (O .ofNat (O .len .i2 c_3)) m_1)) c_1 c_2 m_1 c_3) fun (n87, n88, l37, n89) =>
    (some (n87, n88, l37, n89))
def m_ref16_Split_L1 (O : Ops) (m_1 : Int) (n95 : Int) (n96 : Int) : (Int × List (Int × Int)) → Option ((Int × List (Int × Int)) ⊕ (List (Int × Int))) := fun (i10, l42) =>
  bif (O .lt i10 m_1) then
    grd (okI .i64 ((O .mul (O .quo (O .sub n96 n95) m_1) i10))) <|
    grd (okI .i64 ((O .add n95 (O .mul (O .quo (O .sub n96 n95) m_1) i10)))) <|
    grd (okI .i64 ((O .add i10 1))) <|
    grd (okI .i64 ((O .mul (O .quo (O .sub n96 n95) m_1) (O .add i10 1)))) <|
    grd (okI .i64 ((O .add n95 (O .mul (O .quo (O .sub n96 n95) m_1) (O .add i10 1))))) <|
    grd (okRoom ((O .len .i2 l42))) <|
    grd (okRoom ((O .len .i2 [((O .add n95 (O .mul (O .quo (O .sub n96 n95) m_1) i10)), (O .add n95 (O .mul (O .quo (O .sub n96 n95) m_1) (O .add i10 1))))]))) <|
    (some (Sum.inl ((O .add i10 1), (O .app .i2 l42 [((O .add n95 (O .mul (O .quo (O .sub n96 n95) m_1) i10)), (O .add n95 (O .mul (O .quo (O .sub n96 n95) m_1) (O .add i10 1))))]))))
  else
    (some (Sum.inr l42))
def m_ref16_Split_L2 (O : Ops) (c_1 : Int) (c_2 : Int) (c_3 : List (Int × Int)) (m_1 : Int) : (Int × List (Int × Int)) → Option ((Int × List (Int × Int)) ⊕ ((Unit) ⊕ (List (Int × Int)))) := fun (k2, l41) =>
  bif (O .lt k2 (O .ofNat (O .len .i2 c_3))) then
    Option.bind (m_ref16_Granule O c_1 c_2 k2 c_3) fun (n95, n96) =>
    grd (okI .i64 ((O .sub n96 n95))) <|
    grd (okNz m_1) <|
    grd (okI .i64 ((O .quo (O .sub n96 n95) m_1))) <|
    grd (okI .i64 ((O .mul (O .quo (O .sub n96 n95) m_1) m_1))) <|
    bif (O .not (O .eq (O .mul (O .quo (O .sub n96 n95) m_1) m_1) (O .sub n96 n95))) then
      (some (Sum.inr (Sum.inl ())))
    else
      Option.bind (loop (m_ref16_Split_L1 O m_1 n95 n96) (0, l41)) fun l43 =>
      grd (okI .i64 ((O .add k2 1))) <|
      (some (Sum.inl ((O .add k2 1), l43)))
  else
    (some (Sum.inr (Sum.inr l41)))
def m_ref16_Split (O : Ops) (c_1 : Int) (c_2 : Int) (m_1 : Int) (c_3 : List (Int × Int)) : Option (Int × Int × List (Int × Int) × Int) :=
  Option.bind (
    bif (O .lt m_1 1) then
      (some true)
    else
      (some (O .lt 5000 m_1)) : Option ((Bool))) fun x111 =>
  bif x111 then
    (some (0, 0, ([] : List (Int × Int)), 1))
  else
    grd (okI .i64 ((O .mul (O .ofNat (O .len .i2 c_3)) m_1))) <|
    bif (O .lt 5000 (O .mul (O .ofNat (O .len .i2 c_3)) m_1)) then
      (some (0, 0, ([] : List (Int × Int)), 5))
    else
      Option.bind (loop (m_ref16_Split_L2 O c_1 c_2 c_3 m_1) (0, ([] : List (Int × Int)))) fun e => match e with
      | .inl _ =>
        (some (0, 0, ([] : List (Int × Int)), 6))
      | .inr (l44) =>
        Option.bind (m_ref16_Make O c_2 l44) fun (n97, n98, l45, n99) =>
        (some (n97, n98, l45, n99))
def m_law16_GroupSplits (O : Ops) (c_1 : Int) (c_2 : Int) (m_1 : Int) (c_3 : List (Int × Int)) : Option (Bool) :=
  Option.bind (m_law16_awake O) fun b29 =>
  bif (O .not b29) then
    (some false)
  else
    Option.bind (m_law16_great O c_1 c_2 c_3) fun b30 =>
    bif b30 then
      (some true)
    else
      Option.bind (m_group_Split O c_1 c_2 m_1 c_3) fun (n90, n91, l38, n92) =>
      Option.bind (m_ref16_Valid O c_1 c_2 c_3) fun b36 =>
      bif (O .not b36) then
        Option.bind (m_law16_is O n90 n91 n92 0 0 1 l38 (([] : List (Int × Int)))) fun b37 =>
        (some b37)
      else
        Option.bind (m_ref16_Split O c_1 c_2 m_1 c_3) fun (n100, n101, l46, n102) =>
        Option.bind (m_law16_is O n90 n91 n92 n100 n101 n102 l38 l46) fun b38 =>
        (some b38)
def m_group_Pick_1 (O : Ops) (i_1 : Int) (x_1 : Int) (x_2 : Int) (x_3 : Int) (x_4 : List (Int × Int)) (x_5 : List Int) : Option (Int × Int × Bool) :=
  grd (okNz ((O .ofNat (O .len .i1 x_5)))) <|
  grd (okI .i64 ((O .quo i_1 (O .ofNat (O .len .i1 x_5))))) <|
  grd (okI .i64 ((O .mul (O .quo i_1 (O .ofNat (O .len .i1 x_5))) x_3))) <|
  grd (okIdx ((O .rem i_1 (O .ofNat (O .len .i1 x_5)))) ((O .len .i1 x_5))) <|
  grd (okKin ((O .toNat (O .rem i_1 (O .ofNat (O .len .i1 x_5))))) ((O .len .i1 x_5))) <|
  grd (okI .i64 ((O .add (O .mul (O .quo i_1 (O .ofNat (O .len .i1 x_5))) x_3) (O .get .i1 x_5 (O .toNat (O .rem i_1 (O .ofNat (O .len .i1 x_5)))))))) <|
  Option.bind (m_group_at O x_1 x_2 ((O .add (O .mul (O .quo i_1 (O .ofNat (O .len .i1 x_5))) x_3) (O .get .i1 x_5 (O .toNat (O .rem i_1 (O .ofNat (O .len .i1 x_5))))))) x_4) fun (n106, n107) =>
  (some (n106, n107, true))
def m_group_collect_3_L1 (O : Ops) (c_1 : Int) (c_2 : Int) (c_3 : Int) (c_4 : List (Int × Int)) (c_5 : List Int) (n_1 : Int) : (Int × List (Int × Int)) → Option ((Int × List (Int × Int)) ⊕ (List (Int × Int))) := fun (x123, l49) =>
  bif (O .lt x123 n_1) then
    Option.bind (m_group_Pick_1 O x123 c_1 c_2 c_3 c_4 c_5) fun (n110, n111, b43) =>
    Option.bind (
      bif b43 then
        grd (okRoom ((O .len .i2 l49))) <|
        grd (okRoom ((O .len .i2 [(n110, n111)]))) <|
        (some (O .app .i2 l49 [(n110, n111)]))
      else
        (some l49) : Option ((List (Int × Int)))) fun l51 =>
    grd (okI .i64 ((O .add x123 1))) <|
    (some (Sum.inl ((O .add x123 1), l51)))
  else
    (some (Sum.inr l49))
def m_group_collect_3 (O : Ops) (period_1 : Int) (n_1 : Int) (c_1 : Int) (c_2 : Int) (c_3 : Int) (c_4 : List (Int × Int)) (c_5 : List Int) : Option (Int × Int × List (Int × Int) × Int) :=
  Option.bind (loop (m_group_collect_3_L1 O c_1 c_2 c_3 c_4 c_5 n_1) (0, ([] : List (Int × Int)))) fun l52 =>
  bif (O .eq (O .ofNat (O .len .i2 l52)) 0) then
    (some (0, 0, ([] : List (Int × Int)), 7))
  else
    Option.bind (m_group_made O period_1 l52) fun (n112, n113, l53, n114) =>
    (some (n112, n113, l53, n114))
def m_group_Pick_L1 (O : Ops) (ks_1 : List Int) (m_1 : Int) : (Int) → Option ((Int) ⊕ ((Unit) ⊕ (Unit))) := fun x116 =>
  bif (O .lt x116 (O .ofNat (O .len .i1 ks_1))) then
    grd (okIdx x116 ((O .len .i1 ks_1))) <|
    grd (okKin ((O .toNat x116)) ((O .len .i1 ks_1))) <|
    Option.bind (
      bif (O .lt (O .get .i1 ks_1 (O .toNat x116)) 0) then
        (some true)
      else
        bif (O .le m_1 (O .get .i1 ks_1 (O .toNat x116))) then
          (some true)
        else
          bif (O .lt 0 x116) then
            grd (okI .i64 ((O .sub x116 1))) <|
            grd (okIdx ((O .sub x116 1)) ((O .len .i1 ks_1))) <|
            grd (okKin ((O .toNat (O .sub x116 1))) ((O .len .i1 ks_1))) <|
            (some (O .le (O .get .i1 ks_1 (O .toNat x116)) (O .get .i1 ks_1 (O .toNat (O .sub x116 1)))))
          else
            (some false) : Option ((Bool))) fun x119 =>
    bif x119 then
      (some (Sum.inr (Sum.inl ())))
    else
      grd (okI .i64 ((O .add x116 1))) <|
      (some (Sum.inl (O .add x116 1)))
  else
    (some (Sum.inr (Sum.inr ())))
def m_group_Pick (O : Ops) (c_1 : Int) (c_2 : Int) (m_1 : Int) (c_3 : List (Int × Int)) (ks_1 : List Int) : Option (Int × Int × List (Int × Int) × Int) :=
  Option.bind (
    Option.bind (m_granule_Valid O c_1 c_2 c_3) fun b41 =>
    bif (O .not b41) then
      (some true)
    else
      bif (O .lt m_1 1) then
        (some true)
      else
        bif (O .lt 12622780800 m_1) then
          (some true)
        else
          (some (O .eq (O .ofNat (O .len .i1 ks_1)) 0)) : Option ((Bool))) fun x115 =>
  bif x115 then
    (some (0, 0, ([] : List (Int × Int)), 1))
  else
    Option.bind (loop (m_group_Pick_L1 O ks_1 m_1) 0) fun e => match e with
    | .inl _ =>
      (some (0, 0, ([] : List (Int × Int)), 1))
    | .inr (_) =>
      Option.bind (m_group_blocks O c_1 c_2 m_1 c_3) fun (n103, n104, n105) =>
      Option.bind (
        bif (O .not (O .eq n105 0)) then
          (some (Sum.inl n105))
        else
          grd (okI .i64 ((O .mul n104 (O .ofNat (O .len .i1 ks_1))))) <|
          bif (O .lt 5000 (O .mul n104 (O .ofNat (O .len .i1 ks_1)))) then
            (some (Sum.inl 5))
          else
            (some (Sum.inr ())) : Option (((Int) ⊕ (Unit)))) fun e => match e with
      | .inl x121 =>
        (some (0, 0, ([] : List (Int × Int)), x121))
      | .inr (_) =>
        Option.bind (m_group_collect_3 O n103 ((O .mul n104 (O .ofNat (O .len .i1 ks_1)))) c_1 c_2 m_1 c_3 ks_1) fun (n115, n116, l54, n117) =>
        (some (n115, n116, l54, n117))
def m_ref16_Pick_L1 (O : Ops) (ks_1 : List Int) (m_1 : Int) : (Int) → Option ((Int) ⊕ ((Unit) ⊕ (Unit))) := fun i11 =>
  bif (O .lt i11 (O .ofNat (O .len .i1 ks_1))) then
    Option.bind (
      bif (O .lt (O .get .i1 ks_1 (O .toNat i11)) 0) then
        grd (okIdx i11 ((O .len .i1 ks_1))) <|
        grd (okKin ((O .toNat i11)) ((O .len .i1 ks_1))) <|
        (some true)
      else
        bif (O .le m_1 (O .get .i1 ks_1 (O .toNat i11))) then
          grd (okIdx i11 ((O .len .i1 ks_1))) <|
          grd (okKin ((O .toNat i11)) ((O .len .i1 ks_1))) <|
          (some true)
        else
          bif (O .lt 0 i11) then
            grd (okIdx i11 ((O .len .i1 ks_1))) <|
            grd (okKin ((O .toNat i11)) ((O .len .i1 ks_1))) <|
            grd (okI .i64 ((O .sub i11 1))) <|
            grd (okIdx ((O .sub i11 1)) ((O .len .i1 ks_1))) <|
            grd (okKin ((O .toNat (O .sub i11 1))) ((O .len .i1 ks_1))) <|
            (some (O .le (O .get .i1 ks_1 (O .toNat i11)) (O .get .i1 ks_1 (O .toNat (O .sub i11 1)))))
          else
            grd (okIdx i11 ((O .len .i1 ks_1))) <|
            grd (okKin ((O .toNat i11)) ((O .len .i1 ks_1))) <|
            (some false) : Option ((Bool))) fun x128 =>
    bif x128 then
      (some (Sum.inr (Sum.inl ())))
    else
      grd (okI .i64 ((O .add i11 1))) <|
      (some (Sum.inl (O .add i11 1)))
  else
    (some (Sum.inr (Sum.inr ())))
def m_ref16_Pick_L2 (O : Ops) (b47 : Int) (c_1 : Int) (c_2 : Int) (c_3 : List (Int × Int)) (ks_1 : List Int) (m_1 : Int) : (Int × List (Int × Int)) → Option ((Int × List (Int × Int)) ⊕ (List (Int × Int))) := fun (i15, l59) =>
  bif (O .lt i15 (O .ofNat (O .len .i1 ks_1))) then
    grd (okI .i64 ((O .mul b47 m_1))) <|
    grd (okIdx i15 ((O .len .i1 ks_1))) <|
    grd (okKin ((O .toNat i15)) ((O .len .i1 ks_1))) <|
    grd (okI .i64 ((O .add (O .mul b47 m_1) (O .get .i1 ks_1 (O .toNat i15))))) <|
    Option.bind (m_ref16_Granule O c_1 c_2 ((O .add (O .mul b47 m_1) (O .get .i1 ks_1 (O .toNat i15)))) c_3) fun (n128, n129) =>
    grd (okRoom ((O .len .i2 l59))) <|
    grd (okRoom ((O .len .i2 [(n128, n129)]))) <|
    grd (okI .i64 ((O .add i15 1))) <|
    (some (Sum.inl ((O .add i15 1), (O .app .i2 l59 [(n128, n129)]))))
  else
    (some (Sum.inr l59))
def m_ref16_Pick_L3 (O : Ops) (c_1 : Int) (c_2 : Int) (c_3 : List (Int × Int)) (ks_1 : List Int) (m_1 : Int) (n121 : Int) : (Int × List (Int × Int)) → Option ((Int × List (Int × Int)) ⊕ (List (Int × Int))) := fun (b47, l58) =>
  bif (O .lt b47 (O .quo (O .ofNat (O .len .i2 c_3)) n121)) then
    Option.bind (loop (m_ref16_Pick_L2 O b47 c_1 c_2 c_3 ks_1 m_1) (0, l58)) fun l60 =>
    grd (okI .i64 ((O .add b47 1))) <|
    (some (Sum.inl ((O .add b47 1), l60)))
  else
    (some (Sum.inr l58))
def m_ref16_Pick (O : Ops) (c_1 : Int) (c_2 : Int) (m_1 : Int) (c_3 : List (Int × Int)) (ks_1 : List Int) : Option (Int × Int × List (Int × Int) × Int) :=
  Option.bind (
    bif (O .lt m_1 1) then
      (some true)
    else
      bif (O .lt 12622780800 m_1) then
        (some true)
      else
        (some (O .eq (O .ofNat (O .len .i1 ks_1)) 0)) : Option ((Bool))) fun x125 =>
  bif x125 then
    (some (0, 0, ([] : List (Int × Int)), 1))
  else
    Option.bind (loop (m_ref16_Pick_L1 O ks_1 m_1) 0) fun e => match e with
    | .inl _ =>
      (some (0, 0, ([] : List (Int × Int)), 1))
    | .inr (_) =>
      Option.bind (m_ref01_Gcd O ((O .ofNat (O .len .i2 c_3))) m_1) fun n121 =>
      grd (okNz n121) <|
      grd (okI .i64 ((O .quo m_1 n121))) <|
      grd (okNz c_2) <|
      grd (okI .i64 ((O .quo 12622780800 c_2))) <|
      bif (O .lt (O .quo 12622780800 c_2) (O .quo m_1 n121)) then
        (some (0, 0, ([] : List (Int × Int)), 9))
      else
        grd (okI .i64 ((O .quo (O .ofNat (O .len .i2 c_3)) n121))) <|
        grd (okI .i64 ((O .mul (O .quo (O .ofNat (O .len .i2 c_3)) n121) (O .ofNat (O .len .i1 ks_1))))) <|
        bif (O .lt 5000 (O .mul (O .quo (O .ofNat (O .len .i2 c_3)) n121) (O .ofNat (O .len .i1 ks_1)))) then
          (some (0, 0, ([] : List (Int × Int)), 5))
        else
          Option.bind (loop (m_ref16_Pick_L3 O c_1 c_2 c_3 ks_1 m_1 n121) (0, ([] : List (Int × Int)))) fun l61 =>
          grd (okI .i64 ((O .mul c_2 (O .quo m_1 n121)))) <|
          Option.bind (m_ref16_Make O ((O .mul c_2 (O .quo m_1 n121))) l61) fun (n130, n131, l62, n132) =>
          (some (n130, n131, l62, n132))
def m_law16_GroupPicks (O : Ops) (c_1 : Int) (c_2 : Int) (m_1 : Int) (c_3 : List (Int × Int)) (ks_1 : List Int) : Option (Bool) :=
  Option.bind (m_law16_awake O) fun b39 =>
  bif (O .not b39) then
    (some false)
  else
    Option.bind (
      Option.bind (m_law16_great O c_1 c_2 c_3) fun b40 =>
      bif b40 then
        (some true)
      else
        (some (O .lt 40 (O .ofNat (O .len .i1 ks_1)))) : Option ((Bool))) fun x113 =>
    bif x113 then
      (some true)
    else
      Option.bind (m_group_Pick O c_1 c_2 m_1 c_3 ks_1) fun (n118, n119, l55, n120) =>
      Option.bind (m_ref16_Valid O c_1 c_2 c_3) fun b44 =>
      bif (O .not b44) then
        Option.bind (m_law16_is O n118 n119 n120 0 0 1 l55 (([] : List (Int × Int)))) fun b45 =>
        (some b45)
      else
        Option.bind (m_ref16_Pick O c_1 c_2 m_1 c_3 ks_1) fun (n133, n134, l63, n135) =>
        Option.bind (m_law16_is O n118 n119 n120 n133 n134 n135 l55 l63) fun b48 =>
        (some b48)
def m_ref16_Custom_L1 (O : Ops) (lengths_1 : List Int) : (Int) → Option ((Int) ⊕ ((Unit) ⊕ (Unit))) := fun i16 =>
  bif (O .lt i16 (O .ofNat (O .len .i1 lengths_1))) then
    Option.bind (
      bif (O .lt (O .get .i1 lengths_1 (O .toNat i16)) 1) then
        grd (okIdx i16 ((O .len .i1 lengths_1))) <|
        grd (okKin ((O .toNat i16)) ((O .len .i1 lengths_1))) <|
        (some true)
      else
        grd (okIdx i16 ((O .len .i1 lengths_1))) <|
        grd (okKin ((O .toNat i16)) ((O .len .i1 lengths_1))) <|
        (some (O .lt 12622780800 (O .get .i1 lengths_1 (O .toNat i16)))) : Option ((Bool))) fun x132 =>
    bif x132 then
      (some (Sum.inr (Sum.inl ())))
    else
      grd (okI .i64 ((O .add i16 1))) <|
      (some (Sum.inl (O .add i16 1)))
  else
    (some (Sum.inr (Sum.inr ())))
def m_ref16_Custom_L2 (O : Ops) (lengths_1 : List Int) : (Int × Int) → Option ((Int × Int) ⊕ (Int)) := fun (sum4, i17) =>
  bif (O .lt i17 (O .ofNat (O .len .i1 lengths_1))) then
    grd (okIdx i17 ((O .len .i1 lengths_1))) <|
    grd (okKin ((O .toNat i17)) ((O .len .i1 lengths_1))) <|
    grd (okI .i64 ((O .add sum4 (O .get .i1 lengths_1 (O .toNat i17))))) <|
    grd (okI .i64 ((O .add i17 1))) <|
    (some (Sum.inl ((O .add sum4 (O .get .i1 lengths_1 (O .toNat i17))), (O .add i17 1))))
  else
    (some (Sum.inr sum4))
def m_ref16_Custom_L3 (O : Ops) (lengths_1 : List Int) : (Int × Int × List (Int × Int)) → Option ((Int × Int × List (Int × Int)) ⊕ (List (Int × Int))) := fun (at2, i19, l65) =>
  bif (O .lt i19 (O .ofNat (O .len .i1 lengths_1))) then
    grd (okIdx i19 ((O .len .i1 lengths_1))) <|
    grd (okKin ((O .toNat i19)) ((O .len .i1 lengths_1))) <|
    grd (okI .i64 ((O .add at2 (O .get .i1 lengths_1 (O .toNat i19))))) <|
    grd (okRoom ((O .len .i2 l65))) <|
    grd (okRoom ((O .len .i2 [(at2, (O .add at2 (O .get .i1 lengths_1 (O .toNat i19))))]))) <|
    grd (okI .i64 ((O .add i19 1))) <|
    (some (Sum.inl ((O .add at2 (O .get .i1 lengths_1 (O .toNat i19))), (O .add i19 1), (O .app .i2 l65 [(at2, (O .add at2 (O .get .i1 lengths_1 (O .toNat i19))))]))))
  else
    (some (Sum.inr l65))
def m_ref16_Custom (O : Ops) (origin_1 : Int) (lengths_1 : List Int) : Option (Int × Int × List (Int × Int) × Int) :=
  bif (O .eq (O .ofNat (O .len .i1 lengths_1)) 0) then
    (some (0, 0, ([] : List (Int × Int)), 1))
  else
    Option.bind (loop (m_ref16_Custom_L1 O lengths_1) 0) fun e => match e with
    | .inl _ =>
      (some (0, 0, ([] : List (Int × Int)), 1))
    | .inr (_) =>
      bif (O .lt 5000 (O .ofNat (O .len .i1 lengths_1))) then
        (some (0, 0, ([] : List (Int × Int)), 5))
      else
        Option.bind (loop (m_ref16_Custom_L2 O lengths_1) (0, 0)) fun sum5 =>
        bif (O .lt 12622780800 sum5) then
          (some (0, 0, ([] : List (Int × Int)), 9))
        else
          Option.bind (
            bif (O .lt 2199023255552 origin_1) then
              (some true)
            else
              (some (O .lt origin_1 (-2199023255552))) : Option ((Bool))) fun x134 =>
          bif x134 then
            (some (0, 0, ([] : List (Int × Int)), 2))
          else
            Option.bind (loop (m_ref16_Custom_L3 O lengths_1) (origin_1, 0, ([] : List (Int × Int)))) fun l66 =>
            Option.bind (m_ref16_Make O sum5 l66) fun (n139, n140, l67, n141) =>
            (some (n139, n140, l67, n141))
def m_ref16_Fiscal_L1 (O : Ops) (pattern_1 : List Int) : (Int × List Int) → Option ((Int × List Int) ⊕ ((Unit) ⊕ (List Int))) := fun (i21, l70) =>
  bif (O .lt i21 (O .ofNat (O .len .i1 pattern_1))) then
    Option.bind (
      bif (O .lt (O .get .i1 pattern_1 (O .toNat i21)) 1) then
        grd (okIdx i21 ((O .len .i1 pattern_1))) <|
        grd (okKin ((O .toNat i21)) ((O .len .i1 pattern_1))) <|
        (some true)
      else
        grd (okIdx i21 ((O .len .i1 pattern_1))) <|
        grd (okKin ((O .toNat i21)) ((O .len .i1 pattern_1))) <|
        (some (O .lt 60 (O .get .i1 pattern_1 (O .toNat i21)))) : Option ((Bool))) fun x138 =>
    bif x138 then
      (some (Sum.inr (Sum.inl ())))
    else
      grd (okI .i64 ((O .mul 7 (O .get .i1 pattern_1 (O .toNat i21))))) <|
      grd (okRoom ((O .len .i1 l70))) <|
      grd (okRoom ((O .len .i1 [(O .mul 7 (O .get .i1 pattern_1 (O .toNat i21)))]))) <|
      grd (okI .i64 ((O .add i21 1))) <|
      (some (Sum.inl ((O .add i21 1), (O .app .i1 l70 [(O .mul 7 (O .get .i1 pattern_1 (O .toNat i21)))]))))
  else
    (some (Sum.inr (Sum.inr l70)))
def m_ref16_Fiscal (O : Ops) (origin_1 : Int) (pattern_1 : List Int) : Option (Int × Int × List (Int × Int) × Int) :=
  Option.bind (loop (m_ref16_Fiscal_L1 O pattern_1) (0, ([] : List Int))) fun e => match e with
  | .inl _ =>
    (some (0, 0, ([] : List (Int × Int)), 1))
  | .inr (l71) =>
    Option.bind (m_ref16_Custom O origin_1 l71) fun (n148, n149, l72, n150) =>
    (some (n148, n149, l72, n150))
def m_group_Fill_1 (O : Ops) (k_1 : Int) (x_1 : Int) (x_2 : Int) (x_3 : List (Int × Int)) : Option (Int × Int × Bool) :=
  grd (okI .i64 ((O .add k_1 1))) <|
  Option.bind (m_group_at O x_1 x_2 k_1 x_3) fun (n154, _) =>
  Option.bind (m_group_at O x_1 x_2 ((O .add k_1 1)) x_3) fun (n156, _) =>
  (some (n154, n156, true))
def m_group_collect_4_L1 (O : Ops) (c_1 : Int) (c_2 : Int) (c_3 : List (Int × Int)) (n_1 : Int) : (Int × List (Int × Int)) → Option ((Int × List (Int × Int)) ⊕ (List (Int × Int))) := fun (x140, l76) =>
  bif (O .lt x140 n_1) then
    Option.bind (m_group_Fill_1 O x140 c_1 c_2 c_3) fun (n160, n161, b53) =>
    Option.bind (
      bif b53 then
        grd (okRoom ((O .len .i2 l76))) <|
        grd (okRoom ((O .len .i2 [(n160, n161)]))) <|
        (some (O .app .i2 l76 [(n160, n161)]))
      else
        (some l76) : Option ((List (Int × Int)))) fun l78 =>
    grd (okI .i64 ((O .add x140 1))) <|
    (some (Sum.inl ((O .add x140 1), l78)))
  else
    (some (Sum.inr l76))
def m_group_collect_4 (O : Ops) (period_1 : Int) (n_1 : Int) (c_1 : Int) (c_2 : Int) (c_3 : List (Int × Int)) : Option (Int × Int × List (Int × Int) × Int) :=
  Option.bind (loop (m_group_collect_4_L1 O c_1 c_2 c_3 n_1) (0, ([] : List (Int × Int)))) fun l79 =>
  bif (O .eq (O .ofNat (O .len .i2 l79)) 0) then
    (some (0, 0, ([] : List (Int × Int)), 7))
  else
    Option.bind (m_group_made O period_1 l79) fun (n162, n163, l80, n164) =>
    (some (n162, n163, l80, n164))
def m_group_Fill (O : Ops) (c_1 : Int) (c_2 : Int) (c_3 : List (Int × Int)) : Option (Int × Int × List (Int × Int) × Int) :=
  Option.bind (m_granule_Valid O c_1 c_2 c_3) fun b51 =>
  bif (O .not b51) then
    (some (0, 0, ([] : List (Int × Int)), 1))
  else
    Option.bind (m_group_collect_4 O c_2 ((O .ofNat (O .len .i2 c_3))) c_1 c_2 c_3) fun (n165, n166, l81, n167) =>
    (some (n165, n166, l81, n167))
def m_ref16_Fill_L1 (O : Ops) (c_1 : Int) (c_2 : Int) (c_3 : List (Int × Int)) : (Int × List (Int × Int)) → Option ((Int × List (Int × Int)) ⊕ (List (Int × Int))) := fun (k4, l83) =>
  bif (O .lt k4 (O .ofNat (O .len .i2 c_3))) then
    grd (okI .i64 ((O .add k4 1))) <|
    Option.bind (m_ref16_Granule O c_1 c_2 k4 c_3) fun (n175, _) =>
    Option.bind (m_ref16_Granule O c_1 c_2 ((O .add k4 1)) c_3) fun (n177, _) =>
    grd (okRoom ((O .len .i2 l83))) <|
    grd (okRoom ((O .len .i2 [(n175, n177)]))) <|
    (some (Sum.inl ((O .add k4 1), (O .app .i2 l83 [(n175, n177)]))))
  else
    (some (Sum.inr l83))
def m_ref16_Fill (O : Ops) (c_1 : Int) (c_2 : Int) (c_3 : List (Int × Int)) : Option (Int × Int × List (Int × Int) × Int) :=
  Option.bind (loop (m_ref16_Fill_L1 O c_1 c_2 c_3) (0, ([] : List (Int × Int)))) fun l84 =>
  Option.bind (m_ref16_Make O c_2 l84) fun (n179, n180, l85, n181) =>
  (some (n179, n180, l85, n181))
def m_granule_Gapless_L1 (O : Ops) (c_2 : Int) (c_3 : List (Int × Int)) : (Int) → Option ((Int) ⊕ ((Unit) ⊕ (Unit))) := fun x143 =>
  bif (O .lt x143 (O .ofNat (O .len .i2 c_3))) then
    grd (okIdx x143 ((O .len .i2 c_3))) <|
    grd (okKin ((O .toNat x143)) ((O .len .i2 c_3))) <|
    grd (okI .i64 ((O .add x143 1))) <|
    Option.bind (
      bif (O .lt (O .add x143 1) (O .ofNat (O .len .i2 c_3))) then
        grd (okIdx ((O .add x143 1)) ((O .len .i2 c_3))) <|
        grd (okKin ((O .toNat (O .add x143 1))) ((O .len .i2 c_3))) <|
        (some ((O .get .i2 c_3 (O .toNat (O .add x143 1)))).1)
      else
        (some c_2) : Option ((Int))) fun next2 =>
    bif (O .not (O .eq ((O .get .i2 c_3 (O .toNat x143))).2 next2)) then
      (some (Sum.inr (Sum.inl ())))
    else
      (some (Sum.inl (O .add x143 1)))
  else
    (some (Sum.inr (Sum.inr ())))
def m_granule_Gapless (O : Ops) (c_1 : Int) (c_2 : Int) (c_3 : List (Int × Int)) : Option (Bool) :=
  Option.bind (m_granule_Valid O c_1 c_2 c_3) fun b59 =>
  bif (O .not b59) then
    (some false)
  else
    Option.bind (loop (m_granule_Gapless_L1 O c_2 c_3) 0) fun e => match e with
    | .inl _ =>
      (some false)
    | .inr (_) =>
      (some true)
def m_law16_GroupCustoms (O : Ops) (c_1 : Int) (c_2 : Int) (origin_1 : Int) (c_3 : List (Int × Int)) (lengths_1 : List Int) (pattern_1 : List Int) : Option (Bool) :=
  Option.bind (m_law16_awake O) fun b49 =>
  bif (O .not b49) then
    (some false)
  else
    Option.bind (
      Option.bind (m_law16_great O c_1 c_2 c_3) fun b50 =>
      bif b50 then
        (some true)
      else
        bif (O .lt 40 (O .ofNat (O .len .i1 lengths_1))) then
          (some true)
        else
          (some (O .lt 40 (O .ofNat (O .len .i1 pattern_1)))) : Option ((Bool))) fun x130 =>
    bif x130 then
      (some true)
    else
      Option.bind (m_group_Custom O origin_1 lengths_1) fun (n136, n137, l64, n138) =>
      Option.bind (m_ref16_Custom O origin_1 lengths_1) fun (n142, n143, l68, n144) =>
      Option.bind (m_group_Fiscal O origin_1 pattern_1) fun (n145, n146, l69, n147) =>
      Option.bind (m_ref16_Fiscal O origin_1 pattern_1) fun (n151, n152, l73, n153) =>
      Option.bind (m_group_Fill O c_1 c_2 c_3) fun (n168, n169, l82, n170) =>
      Option.bind (
        Option.bind (m_law16_is O n136 n137 n138 n142 n143 n144 l64 l68) fun b54 =>
        bif (O .not b54) then
          (some true)
        else
          Option.bind (m_law16_is O n145 n146 n147 n151 n152 n153 l69 l73) fun b55 =>
          (some (O .not b55)) : Option ((Bool))) fun x142 =>
      bif x142 then
        (some false)
      else
        Option.bind (m_ref16_Valid O c_1 c_2 c_3) fun b56 =>
        bif (O .not b56) then
          Option.bind (m_law16_is O n168 n169 n170 0 0 1 l82 (([] : List (Int × Int)))) fun b57 =>
          (some b57)
        else
          Option.bind (m_ref16_Fill O c_1 c_2 c_3) fun (n182, n183, l86, n184) =>
          Option.bind (
            Option.bind (m_law16_is O n168 n169 n170 n182 n183 n184 l82 l86) fun b58 =>
            bif b58 then
              bif (O .eq n170 0) then
                Option.bind (m_granule_Gapless O n168 n169 l82) fun b60 =>
                (some b60)
              else
                (some false)
            else
              (some false) : Option ((Bool))) fun x146 =>
          (some x146)
def m_law16_GroupUndone_L1 (O : Ops) (m_1 : Int) : (Int × List Int) → Option ((Int × List Int) ⊕ (List Int)) := fun (x152, l88) =>
  bif (O .lt x152 m_1) then
    grd (okRoom ((O .len .i1 l88))) <|
    grd (okRoom ((O .len .i1 [x152]))) <|
    grd (okI .i64 ((O .add x152 1))) <|
    (some (Sum.inl ((O .add x152 1), (O .app .i1 l88 [x152]))))
  else
    (some (Sum.inr l88))
def m_law16_GroupUndone (O : Ops) (c_1 : Int) (c_2 : Int) (m_1 : Int) (n_1 : Int) (c_3 : List (Int × Int)) : Option (Bool) :=
  Option.bind (m_law16_awake O) fun b61 =>
  bif (O .not b61) then
    (some false)
  else
    Option.bind (
      Option.bind (m_law16_great O c_1 c_2 c_3) fun b62 =>
      bif b62 then
        (some true)
      else
        Option.bind (m_granule_Valid O c_1 c_2 c_3) fun b63 =>
        bif (O .not b63) then
          (some true)
        else
          bif (O .lt m_1 1) then
            (some true)
          else
            bif (O .lt 50 m_1) then
              (some true)
            else
              bif (O .lt n_1 1) then
                (some true)
              else
                (some (O .lt 50 n_1)) : Option ((Bool))) fun x148 =>
    bif x148 then
      (some true)
    else
      Option.bind (m_group_Groups O c_1 c_2 0 1 c_3) fun (n185, n186, l87, n187) =>
      Option.bind (
        bif (O .not (O .eq n187 0)) then
          (some true)
        else
          Option.bind (m_ref16_Same O n185 n186 c_1 c_2 l87 c_3) fun b64 =>
          (some (O .not b64)) : Option ((Bool))) fun x150 =>
      bif x150 then
        (some false)
      else
        Option.bind (loop (m_law16_GroupUndone_L1 O m_1) (0, ([] : List Int))) fun l89 =>
        Option.bind (m_group_Pick O c_1 c_2 m_1 c_3 l89) fun (n188, n189, l90, n190) =>
        Option.bind (
          bif (O .eq n190 0) then
            Option.bind (m_ref16_Same O n188 n189 c_1 c_2 l90 c_3) fun b65 =>
            (some (O .not b65))
          else
            (some false) : Option ((Bool))) fun x154 =>
        bif x154 then
          (some false)
        else
          Option.bind (m_group_Split O c_1 c_2 m_1 c_3) fun (n191, n192, l91, n193) =>
          Option.bind (
            bif (O .eq n193 0) then
              Option.bind (m_group_Groups O n191 n192 0 m_1 l91) fun (n194, n195, l92, n196) =>
              Option.bind (
                bif (O .not (O .eq n196 0)) then
                  (some true)
                else
                  Option.bind (m_ref16_Same O n194 n195 c_1 c_2 l92 c_3) fun b66 =>
                  (some (O .not b66)) : Option ((Bool))) fun x156 =>
              bif x156 then
                (some (Sum.inl ()))
              else
                (some (Sum.inr ()))
            else
              (some (Sum.inr ())) : Option (((Unit) ⊕ (Unit)))) fun e => match e with
          | .inl _ =>
            (some false)
          | .inr (_) =>
            Option.bind (m_group_Groups O c_1 c_2 0 m_1 c_3) fun (n197, n198, l93, n199) =>
            Option.bind (m_group_Groups O n197 n198 0 n_1 l93) fun (n200, n201, l94, n202) =>
            grd (okI .i64 ((O .mul m_1 n_1))) <|
            Option.bind (m_group_Groups O c_1 c_2 0 ((O .mul m_1 n_1)) c_3) fun (n203, n204, l95, n205) =>
            Option.bind (
              bif (O .not (O .eq n199 0)) then
                (some true)
              else
                bif (O .not (O .eq n202 0)) then
                  (some true)
                else
                  bif (O .not (O .eq n205 0)) then
                    (some true)
                  else
                    Option.bind (m_ref16_Same O n200 n201 n203 n204 l94 l95) fun b67 =>
                    (some b67) : Option ((Bool))) fun x158 =>
            (some x158)
def m_granule_at (O : Ops) (c_1 : Int) (c_2 : Int) (k_1 : Int) (c_3 : List (Int × Int)) : Option (Int × Int) :=
  Option.bind (m_integer_Floor O k_1 ((O .ofNat (O .len .i2 c_3)))) fun n210 =>
  grd (okI .i64 ((O .mul c_2 n210))) <|
  grd (okI .i64 ((O .add c_1 (O .mul c_2 n210)))) <|
  grd (okI .i64 ((O .mul (O .ofNat (O .len .i2 c_3)) n210))) <|
  grd (okI .i64 ((O .sub k_1 (O .mul (O .ofNat (O .len .i2 c_3)) n210)))) <|
  grd (okIdx ((O .sub k_1 (O .mul (O .ofNat (O .len .i2 c_3)) n210))) ((O .len .i2 c_3))) <|
  grd (okKin ((O .toNat (O .sub k_1 (O .mul (O .ofNat (O .len .i2 c_3)) n210)))) ((O .len .i2 c_3))) <|
  grd (okI .i64 ((O .add ((O .get .i2 c_3 (O .toNat (O .sub k_1 (O .mul (O .ofNat (O .len .i2 c_3)) n210))))).1 (O .add c_1 (O .mul c_2 n210))))) <|
  grd (okI .i64 ((O .add ((O .get .i2 c_3 (O .toNat (O .sub k_1 (O .mul (O .ofNat (O .len .i2 c_3)) n210))))).2 (O .add c_1 (O .mul c_2 n210))))) <|
  (some ((O .add ((O .get .i2 c_3 (O .toNat (O .sub k_1 (O .mul (O .ofNat (O .len .i2 c_3)) n210))))).1 (O .add c_1 (O .mul c_2 n210))), (O .add ((O .get .i2 c_3 (O .toNat (O .sub k_1 (O .mul (O .ofNat (O .len .i2 c_3)) n210))))).2 (O .add c_1 (O .mul c_2 n210)))))
def m_granule_Span (O : Ops) (c_1 : Int) (c_2 : Int) (k_1 : Int) (c_3 : List (Int × Int)) : Option (Int × Int × Int) :=
  Option.bind (m_granule_Valid O c_1 c_2 c_3) fun b70 =>
  bif (O .not b70) then
    (some (0, 0, 1))
  else
    Option.bind (m_integer_Floor O k_1 ((O .ofNat (O .len .i2 c_3)))) fun n209 =>
    Option.bind (
      bif (O .lt (O .quo 8796093022208 c_2) n209) then
        grd (okNz c_2) <|
        grd (okI .i64 ((O .quo 8796093022208 c_2))) <|
        (some true)
      else
        grd (okNz c_2) <|
        grd (okI .i64 ((O .quo 8796093022208 c_2))) <|
        grd (okI .i64 ((O .quo (-8796093022208) c_2))) <|
        grd (okI .i64 ((O .sub (O .quo (-8796093022208) c_2) 1))) <|
        (some (O .lt n209 (O .sub (O .quo (-8796093022208) c_2) 1))) : Option ((Bool))) fun x162 =>
    bif x162 then
      (some (0, 0, 2))
    else
      Option.bind (m_granule_at O c_1 c_2 k_1 c_3) fun (n211, n212) =>
      Option.bind (
        Option.bind (m_granule_line O n211) fun b71 =>
        bif (O .not b71) then
          (some true)
        else
          Option.bind (m_granule_line O n212) fun b72 =>
          (some (O .not b72)) : Option ((Bool))) fun x164 =>
      bif x164 then
        (some (0, 0, 2))
      else
        (some (n211, n212, 0))
def m_law16_GroupHulls (O : Ops) (c_1 : Int) (c_2 : Int) (first_1 : Int) (m_1 : Int) (j_1 : Int) (c_3 : List (Int × Int)) : Option (Bool) :=
  Option.bind (m_law16_awake O) fun b68 =>
  bif (O .not b68) then
    (some false)
  else
    Option.bind (
      Option.bind (m_law16_great O c_1 c_2 c_3) fun b69 =>
      bif b69 then
        (some true)
      else
        bif (O .lt m_1 1) then
          (some true)
        else
          bif (O .lt 100 m_1) then
            (some true)
          else
            bif (O .lt first_1 (-100000)) then
              (some true)
            else
              bif (O .lt 100000 first_1) then
                (some true)
              else
                bif (O .lt j_1 (-1000)) then
                  (some true)
                else
                  (some (O .lt 1000 j_1)) : Option ((Bool))) fun x160 =>
    bif x160 then
      (some true)
    else
      Option.bind (m_group_Groups O c_1 c_2 first_1 m_1 c_3) fun (n206, n207, l96, n208) =>
      bif (O .not (O .eq n208 0)) then
        (some true)
      else
        Option.bind (m_granule_Span O n206 n207 j_1 l96) fun (n213, n214, n215) =>
        grd (okI .i64 ((O .mul j_1 m_1))) <|
        grd (okI .i64 ((O .add first_1 (O .mul j_1 m_1)))) <|
        Option.bind (m_granule_Span O c_1 c_2 ((O .add first_1 (O .mul j_1 m_1))) c_3) fun (n216, _, n218) =>
        grd (okI .i64 ((O .add j_1 1))) <|
        grd (okI .i64 ((O .mul (O .add j_1 1) m_1))) <|
        grd (okI .i64 ((O .add first_1 (O .mul (O .add j_1 1) m_1)))) <|
        grd (okI .i64 ((O .sub (O .add first_1 (O .mul (O .add j_1 1) m_1)) 1))) <|
        Option.bind (m_granule_Span O c_1 c_2 ((O .sub (O .add first_1 (O .mul (O .add j_1 1) m_1)) 1)) c_3) fun (_, n220, n221) =>
        Option.bind (
          bif (O .not (O .eq n218 0)) then
            (some (O .not (O .beq (O .not (O .eq n215 0)) true)))
          else
            (some (O .not (O .beq (O .not (O .eq n215 0)) (O .not (O .eq n221 0))))) : Option ((Bool))) fun x166 =>
        bif x166 then
          (some false)
        else
          Option.bind (
            bif (O .eq n215 0) then
              bif (O .not (O .eq n213 n216)) then
                (some true)
              else
                (some (O .not (O .eq n214 n220)))
            else
              (some false) : Option ((Bool))) fun x169 =>
          bif x169 then
            (some false)
          else
            grd (okI .i64 ((O .sub m_1 1))) <|
            Option.bind (m_group_Pick O c_1 c_2 m_1 c_3 ([(O .sub m_1 1)])) fun (n222, n223, l97, n224) =>
            bif (O .not (O .eq n224 0)) then
              (some true)
            else
              Option.bind (m_granule_Span O n222 n223 j_1 l97) fun (n225, n226, n227) =>
              grd (okI .i64 ((O .sub (O .mul (O .add j_1 1) m_1) 1))) <|
              Option.bind (m_granule_Span O c_1 c_2 ((O .sub (O .mul (O .add j_1 1) m_1) 1)) c_3) fun (n228, n229, n230) =>
              Option.bind (
                bif (O .eq n227 n230) then
                  (some (O .and (O .eq n225 n228) (O .eq n226 n229)))
                else
                  (some false) : Option ((Bool))) fun x171 =>
              (some x171)
def m_slices_IndexFunc_4 (O : Ops) (s_1 : Int) (s_2 : Int) (s_3 : Int) (s_4 : Int) (s_5 : List (Int × Int)) (s_6 : List (Int × Int)) : Option (Int) :=
  Option.bind (m_law16_great_1 O s_1 s_2 s_5) fun b74 =>
  bif b74 then
    (some 0)
  else
    grd (okI .i64 ((O .add 0 1))) <|
    Option.bind (m_law16_great_1 O s_3 s_4 s_6) fun b75 =>
    bif b75 then
      (some 1)
    else
      grd (okI .i64 ((O .add 1 1))) <|
      (some (-1))
def m_slices_ContainsFunc_4 (O : Ops) (s_1 : Int) (s_2 : Int) (s_3 : Int) (s_4 : Int) (s_5 : List (Int × Int)) (s_6 : List (Int × Int)) : Option (Bool) :=
  Option.bind (m_slices_IndexFunc_4 O s_1 s_2 s_3 s_4 s_5 s_6) fun n231 =>
  (some (O .le 0 n231))
def m_law16_great_2 (O : Ops) (l_1 : Int) (l_2 : Int) (l_3 : Int) (l_4 : Int) (l_5 : List (Int × Int)) (l_6 : List (Int × Int)) : Option (Bool) :=
  Option.bind (m_slices_ContainsFunc_4 O l_1 l_2 l_3 l_4 l_5 l_6) fun b76 =>
  (some b76)
def m_integer_Lcm (O : Ops) (a_1 : Int) (b_1 : Int) : Option (Int × Int) :=
  Option.bind (
    bif (O .lt a_1 1) then
      (some true)
    else
      (some (O .lt b_1 1)) : Option ((Bool))) fun x177 =>
  bif x177 then
    (some (0, 2))
  else
    Option.bind (m_integer_Gcd O a_1 b_1) fun n232 =>
    grd (okNz n232) <|
    grd (okI .i64 ((O .quo b_1 n232))) <|
    Option.bind (m_integer_Mul O a_1 ((O .quo b_1 n232))) fun (n233, n234) =>
    (some (n233, n234))
def m_group_common (O : Ops) (a_1 : Int) (b_1 : Int) : Option (Int × Int) :=
  Option.bind (m_integer_Lcm O a_1 b_1) fun (n235, n236) =>
  Option.bind (
    bif (O .not (O .eq n236 0)) then
      (some true)
    else
      (some (O .lt 12622780800 n235)) : Option ((Bool))) fun x179 =>
  bif x179 then
    (some (0, 9))
  else
    (some (n235, 0))
def m_granule_Near_1 (O : Ops) (i_1 : Int) (x_1 : Int) (x_2 : Int) (x_3 : Int) (x_4 : List (Int × Int)) : Option (Bool) :=
  grd (okIdx i_1 ((O .len .i2 x_4))) <|
  grd (okKin ((O .toNat i_1)) ((O .len .i2 x_4))) <|
  (some (O .lt x_3 ((O .get .i2 x_4 (O .toNat i_1))).1))
def m_sort_Search_L1 (O : Ops) (c_1 : Int) (c_2 : Int) (c_3 : Int) (c_4 : List (Int × Int)) : (Int × Int) → Option ((Int × Int) ⊕ (Int)) := fun (i22, j3) =>
  bif (O .lt i22 j3) then
    grd (okI .i64 ((O .add i22 j3))) <|
    grd (okI .u64 ((O .add i22 j3))) <|
    grd (okIdx 1 65) <|
    grd (okI .i64 ((O .shr (O .add i22 j3) 1))) <|
    Option.bind (m_granule_Near_1 O ((O .shr (O .add i22 j3) 1)) c_1 c_2 c_3 c_4) fun b84 =>
    Option.bind (
      bif (O .not b84) then
        grd (okI .i64 ((O .add (O .shr (O .add i22 j3) 1) 1))) <|
        (some ((O .add (O .shr (O .add i22 j3) 1) 1), j3))
      else
        (some (i22, (O .shr (O .add i22 j3) 1))) : Option ((Int × Int))) fun (i24, j5) =>
    (some (Sum.inl (i24, j5)))
  else
    (some (Sum.inr i22))
def m_sort_Search (O : Ops) (n_1 : Int) (c_1 : Int) (c_2 : Int) (c_3 : Int) (c_4 : List (Int × Int)) : Option (Int) :=
  Option.bind (loop (m_sort_Search_L1 O c_1 c_2 c_3 c_4) (0, n_1)) fun i25 =>
  (some i25)
def m_granule_Near (O : Ops) (c_1 : Int) (c_2 : Int) (x_1 : Int) (c_3 : List (Int × Int)) : Option (Int) :=
  Option.bind (
    Option.bind (m_granule_Valid O c_1 c_2 c_3) fun b82 =>
    bif (O .not b82) then
      (some true)
    else
      Option.bind (m_granule_line O x_1) fun b83 =>
      (some (O .not b83)) : Option ((Bool))) fun x184 =>
  bif x184 then
    (some 0)
  else
    grd (okI .i64 ((O .sub x_1 c_1))) <|
    Option.bind (m_integer_Floor O ((O .sub x_1 c_1)) c_2) fun n241 =>
    grd (okI .i64 ((O .mul c_2 n241))) <|
    grd (okI .i64 ((O .sub (O .sub x_1 c_1) (O .mul c_2 n241)))) <|
    Option.bind (m_sort_Search O ((O .ofNat (O .len .i2 c_3))) c_1 c_2 ((O .sub (O .sub x_1 c_1) (O .mul c_2 n241))) c_3) fun n242 =>
    grd (okI .i64 ((O .mul (O .ofNat (O .len .i2 c_3)) n241))) <|
    grd (okI .i64 ((O .add (O .mul (O .ofNat (O .len .i2 c_3)) n241) n242))) <|
    grd (okI .i64 ((O .sub (O .add (O .mul (O .ofNat (O .len .i2 c_3)) n241) n242) 1))) <|
    (some (O .sub (O .add (O .mul (O .ofNat (O .len .i2 c_3)) n241) n242) 1))
def m_group_Inside_1 (O : Ops) (l_1 : Int) (x_1 : Int) (x_2 : Int) (x_3 : Int) (x_4 : Int) (x_5 : Int) (x_6 : List (Int × Int)) (x_7 : List (Int × Int)) : Option (Int × Int × Bool) :=
  Option.bind (m_group_at O x_1 x_2 l_1 x_6) fun (n239, n240) =>
  grd (okI .i64 ((O .sub n239 1))) <|
  grd (okI .i64 ((O .sub n240 1))) <|
  Option.bind (m_granule_Near O x_3 x_4 ((O .sub n239 1)) x_7) fun n243 =>
  grd (okI .i64 ((O .add n243 1))) <|
  Option.bind (m_granule_Near O x_3 x_4 ((O .sub n240 1)) x_7) fun n244 =>
  Option.bind (m_group_at O x_3 x_4 n244 x_7) fun (_, n246) =>
  Option.bind (
    bif (O .lt n240 n246) then
      grd (okI .i64 ((O .sub n244 1))) <|
      (some (O .sub n244 1))
    else
      (some n244) : Option ((Int))) fun last2 =>
  grd (okI .i64 ((O .sub last2 (O .add n243 1)))) <|
  grd (okI .i64 ((O .add (O .sub last2 (O .add n243 1)) 1))) <|
  Option.bind (
    bif (O .lt 0 x_5) then
      (some (O .le x_5 (O .add (O .sub last2 (O .add n243 1)) 1)))
    else
      (some false) : Option ((Bool))) fun x186 =>
  Option.bind (
    bif x186 then
      grd (okI .i64 ((O .add (O .add n243 1) x_5))) <|
      grd (okI .i64 ((O .sub (O .add (O .add n243 1) x_5) 1))) <|
      Option.bind (m_group_at O x_3 x_4 ((O .sub (O .add (O .add n243 1) x_5) 1)) x_7) fun (n247, n248) =>
      (some (Sum.inl (n247, n248)))
    else
      Option.bind (
        bif (O .lt x_5 0) then
          grd (okI .i64 ((O .sub 0 (O .add (O .sub last2 (O .add n243 1)) 1)))) <|
          (some (O .le (O .sub 0 (O .add (O .sub last2 (O .add n243 1)) 1)) x_5))
        else
          (some false) : Option ((Bool))) fun x188 =>
      bif x188 then
        grd (okI .i64 ((O .add last2 x_5))) <|
        grd (okI .i64 ((O .add (O .add last2 x_5) 1))) <|
        Option.bind (m_group_at O x_3 x_4 ((O .add (O .add last2 x_5) 1)) x_7) fun (n249, n250) =>
        (some (Sum.inl (n249, n250)))
      else
        (some (Sum.inr ())) : Option (((Int × Int) ⊕ (Unit)))) fun e => match e with
  | .inl (x191, x192) =>
    (some (x191, x192, true))
  | .inr (_) =>
    (some (0, 0, false))
def m_group_collect_5_L1 (O : Ops) (c_1 : Int) (c_2 : Int) (c_3 : Int) (c_4 : Int) (c_5 : Int) (c_6 : List (Int × Int)) (c_7 : List (Int × Int)) (n_1 : Int) : (Int × List (Int × Int)) → Option ((Int × List (Int × Int)) ⊕ (List (Int × Int))) := fun (x193, l100) =>
  bif (O .lt x193 n_1) then
    Option.bind (m_group_Inside_1 O x193 c_1 c_2 c_3 c_4 c_5 c_6 c_7) fun (n253, n254, b86) =>
    Option.bind (
      bif b86 then
        grd (okRoom ((O .len .i2 l100))) <|
        grd (okRoom ((O .len .i2 [(n253, n254)]))) <|
        (some (O .app .i2 l100 [(n253, n254)]))
      else
        (some l100) : Option ((List (Int × Int)))) fun l102 =>
    grd (okI .i64 ((O .add x193 1))) <|
    (some (Sum.inl ((O .add x193 1), l102)))
  else
    (some (Sum.inr l100))
def m_group_collect_5 (O : Ops) (period_1 : Int) (n_1 : Int) (c_1 : Int) (c_2 : Int) (c_3 : Int) (c_4 : Int) (c_5 : Int) (c_6 : List (Int × Int)) (c_7 : List (Int × Int)) : Option (Int × Int × List (Int × Int) × Int) :=
  Option.bind (loop (m_group_collect_5_L1 O c_1 c_2 c_3 c_4 c_5 c_6 c_7 n_1) (0, ([] : List (Int × Int)))) fun l103 =>
  bif (O .eq (O .ofNat (O .len .i2 l103)) 0) then
    (some (0, 0, ([] : List (Int × Int)), 7))
  else
    Option.bind (m_group_made O period_1 l103) fun (n255, n256, l104, n257) =>
    (some (n255, n256, l104, n257))
def m_group_Inside (O : Ops) (c_1 : Int) (c_2 : Int) (in_1 : Int) (in_2 : Int) (m_1 : Int) (c_3 : List (Int × Int)) (in_3 : List (Int × Int)) : Option (Int × Int × List (Int × Int) × Int) :=
  Option.bind (
    Option.bind (m_granule_Valid O c_1 c_2 c_3) fun b80 =>
    bif (O .not b80) then
      (some true)
    else
      Option.bind (m_granule_Valid O in_1 in_2 in_3) fun b81 =>
      bif (O .not b81) then
        (some true)
      else
        (some (O .eq m_1 0)) : Option ((Bool))) fun x175 =>
  bif x175 then
    (some (0, 0, ([] : List (Int × Int)), 1))
  else
    Option.bind (m_group_common O c_2 in_2) fun (n237, n238) =>
    bif (O .not (O .eq n238 0)) then
      (some (0, 0, ([] : List (Int × Int)), n238))
    else
      grd (okNz in_2) <|
      grd (okI .i64 ((O .quo n237 in_2))) <|
      grd (okI .i64 ((O .mul (O .ofNat (O .len .i2 in_3)) (O .quo n237 in_2)))) <|
      Option.bind (
        bif (O .lt 5000 (O .mul (O .ofNat (O .len .i2 in_3)) (O .quo n237 in_2))) then
          (some true)
        else
          grd (okNz c_2) <|
          grd (okI .i64 ((O .quo n237 c_2))) <|
          grd (okI .i64 ((O .mul (O .ofNat (O .len .i2 c_3)) (O .quo n237 c_2)))) <|
          (some (O .lt 5000 (O .mul (O .ofNat (O .len .i2 c_3)) (O .quo n237 c_2)))) : Option ((Bool))) fun x181 =>
      bif x181 then
        (some (0, 0, ([] : List (Int × Int)), 5))
      else
        Option.bind (m_group_collect_5 O n237 ((O .mul (O .ofNat (O .len .i2 in_3)) (O .quo n237 in_2))) in_1 in_2 c_1 c_2 m_1 in_3 c_3) fun (n258, n259, l105, n260) =>
        (some (n258, n259, l105, n260))
def m_law16_few_L1 (O : Ops) : (Int × Int) → Option ((Int × Int) ⊕ (Int)) := fun (g1, h1) =>
  bif (O .not (O .eq h1 0)) then
    grd (okNz h1) <|
    (some (Sum.inl (h1, (O .rem g1 h1))))
  else
    (some (Sum.inr g1))
def m_law16_few (O : Ops) (a_1 : Int) (a_2 : Int) (b_1 : Int) (b_2 : Int) (a_3 : List (Int × Int)) (b_3 : List (Int × Int)) : Option (Bool) :=
  Option.bind (loop (m_law16_few_L1 O) (a_2, b_2)) fun g2 =>
  grd (okNz g2) <|
  grd (okI .i64 ((O .quo a_2 g2))) <|
  grd (okNz b_2) <|
  grd (okI .i64 ((O .quo 12622780800 b_2))) <|
  bif (O .lt (O .quo 12622780800 b_2) (O .quo a_2 g2)) then
    (some true)
  else
    grd (okI .i64 ((O .quo b_2 g2))) <|
    grd (okI .i64 ((O .mul (O .quo b_2 g2) (O .ofNat (O .len .i2 a_3))))) <|
    grd (okI .i64 ((O .mul (O .quo a_2 g2) (O .ofNat (O .len .i2 b_3))))) <|
    Option.bind (
      bif (O .le (O .mul (O .quo b_2 g2) (O .ofNat (O .len .i2 a_3))) 400) then
        bif (O .le (O .mul (O .quo a_2 g2) (O .ofNat (O .len .i2 b_3))) 400) then
          (some true)
        else
          bif (O .lt 5000 (O .mul (O .quo b_2 g2) (O .ofNat (O .len .i2 a_3)))) then
            (some true)
          else
            (some (O .lt 5000 (O .mul (O .quo a_2 g2) (O .ofNat (O .len .i2 b_3)))))
      else
        bif (O .lt 5000 (O .mul (O .quo b_2 g2) (O .ofNat (O .len .i2 a_3)))) then
          (some true)
        else
          (some (O .lt 5000 (O .mul (O .quo a_2 g2) (O .ofNat (O .len .i2 b_3))))) : Option ((Bool))) fun x197 =>
    (some x197)
def m_ref16_common (O : Ops) (a_1 : Int) (b_1 : Int) : Option (Int × Int) :=
  Option.bind (m_ref01_Gcd O a_1 b_1) fun n267 =>
  grd (okNz n267) <|
  grd (okI .i64 ((O .quo a_1 n267))) <|
  grd (okNz b_1) <|
  grd (okI .i64 ((O .quo 12622780800 b_1))) <|
  bif (O .lt (O .quo 12622780800 b_1) (O .quo a_1 n267)) then
    (some (0, 9))
  else
    grd (okI .i64 ((O .mul (O .quo a_1 n267) b_1))) <|
    (some ((O .mul (O .quo a_1 n267) b_1), 0))
def m_ref16_within_L1 (O : Ops) (c_1 : Int) (c_2 : Int) (c_3 : List (Int × Int)) (s_1 : Int) (s_2 : Int) : (Int × List (Int × Int)) → Option ((Int × List (Int × Int)) ⊕ (List (Int × Int))) := fun (k7, l110) =>
  Option.bind (m_ref16_Granule O c_1 c_2 k7 c_3) fun (n277, _) =>
  bif (O .lt n277 s_2) then
    Option.bind (m_ref16_Granule O c_1 c_2 k7 c_3) fun (n279, n280) =>
    Option.bind (
      bif (O .le s_1 n279) then
        (some (O .le n280 s_2))
      else
        (some false) : Option ((Bool))) fun x203 =>
    Option.bind (
      bif x203 then
        grd (okRoom ((O .len .i2 l110))) <|
        grd (okRoom ((O .len .i2 [(n279, n280)]))) <|
        (some (O .app .i2 l110 [(n279, n280)]))
      else
        (some l110) : Option ((List (Int × Int)))) fun l112 =>
    grd (okI .i64 ((O .add k7 1))) <|
    (some (Sum.inl ((O .add k7 1), l112)))
  else
    (some (Sum.inr l110))
def m_ref16_within (O : Ops) (c_1 : Int) (c_2 : Int) (s_1 : Int) (s_2 : Int) (c_3 : List (Int × Int)) : Option (List (Int × Int)) :=
  grd (okI .i64 ((O .sub s_1 c_1))) <|
  Option.bind (m_ref01_Floor O ((O .sub s_1 c_1)) c_2) fun n272 =>
  grd (okI .i64 ((O .sub n272 1))) <|
  grd (okI .i64 ((O .mul (O .ofNat (O .len .i2 c_3)) (O .sub n272 1)))) <|
  Option.bind (loop (m_ref16_within_L1 O c_1 c_2 c_3 s_1 s_2) ((O .mul (O .ofNat (O .len .i2 c_3)) (O .sub n272 1)), ([] : List (Int × Int)))) fun l113 =>
  (some l113)
def m_ref16_Inside_L1 (O : Ops) (c_1 : Int) (c_2 : Int) (c_3 : List (Int × Int)) (in_1 : Int) (in_2 : Int) (in_3 : List (Int × Int)) (n268 : Int) (number_1 : Int) : (Int × List (Int × Int)) → Option ((Int × List (Int × Int)) ⊕ (List (Int × Int))) := fun (k8, l119) =>
  grd (okNz in_2) <|
  grd (okI .i64 ((O .quo n268 in_2))) <|
  grd (okI .i64 ((O .mul (O .ofNat (O .len .i2 in_3)) (O .quo n268 in_2)))) <|
  bif (O .lt k8 (O .mul (O .ofNat (O .len .i2 in_3)) (O .quo n268 in_2))) then
    Option.bind (m_ref16_Granule O in_1 in_2 k8 in_3) fun (n281, n282) =>
    Option.bind (m_ref16_within O c_1 c_2 n281 n282 c_3) fun l120 =>
    Option.bind (
      bif (O .lt 0 number_1) then
        (some (O .le number_1 (O .ofNat (O .len .i2 l120))))
      else
        (some false) : Option ((Bool))) fun x209 =>
    Option.bind (
      bif x209 then
        grd (okI .i64 ((O .sub number_1 1))) <|
        grd (okIdx ((O .sub number_1 1)) ((O .len .i2 l120))) <|
        grd (okKin ((O .toNat (O .sub number_1 1))) ((O .len .i2 l120))) <|
        grd (okRoom ((O .len .i2 l119))) <|
        grd (okRoom ((O .len .i2 [(((O .get .i2 l120 (O .toNat (O .sub number_1 1)))).1, ((O .get .i2 l120 (O .toNat (O .sub number_1 1)))).2)]))) <|
        (some (O .app .i2 l119 [(((O .get .i2 l120 (O .toNat (O .sub number_1 1)))).1, ((O .get .i2 l120 (O .toNat (O .sub number_1 1)))).2)]))
      else
        (some l119) : Option ((List (Int × Int)))) fun l122 =>
    Option.bind (
      bif (O .lt number_1 0) then
        grd (okI .i64 ((O .sub 0 (O .ofNat (O .len .i2 l120))))) <|
        (some (O .le (O .sub 0 (O .ofNat (O .len .i2 l120))) number_1))
      else
        (some false) : Option ((Bool))) fun x211 =>
    Option.bind (
      bif x211 then
        grd (okI .i64 ((O .add (O .ofNat (O .len .i2 l120)) number_1))) <|
        grd (okIdx ((O .add (O .ofNat (O .len .i2 l120)) number_1)) ((O .len .i2 l120))) <|
        grd (okKin ((O .toNat (O .add (O .ofNat (O .len .i2 l120)) number_1))) ((O .len .i2 l120))) <|
        grd (okRoom ((O .len .i2 l122))) <|
        grd (okRoom ((O .len .i2 [(((O .get .i2 l120 (O .toNat (O .add (O .ofNat (O .len .i2 l120)) number_1)))).1, ((O .get .i2 l120 (O .toNat (O .add (O .ofNat (O .len .i2 l120)) number_1)))).2)]))) <|
        (some (O .app .i2 l122 [(((O .get .i2 l120 (O .toNat (O .add (O .ofNat (O .len .i2 l120)) number_1)))).1, ((O .get .i2 l120 (O .toNat (O .add (O .ofNat (O .len .i2 l120)) number_1)))).2)]))
      else
        (some l122) : Option ((List (Int × Int)))) fun l124 =>
    grd (okI .i64 ((O .add k8 1))) <|
    (some (Sum.inl ((O .add k8 1), l124)))
  else
    (some (Sum.inr l119))
def m_ref16_Inside (O : Ops) (c_1 : Int) (c_2 : Int) (in_1 : Int) (in_2 : Int) (number_1 : Int) (c_3 : List (Int × Int)) (in_3 : List (Int × Int)) : Option (Int × Int × List (Int × Int) × Int) :=
  bif (O .eq number_1 0) then
    (some (0, 0, ([] : List (Int × Int)), 1))
  else
    Option.bind (m_ref16_common O c_2 in_2) fun (n268, n269) =>
    bif (O .not (O .eq n269 0)) then
      (some (0, 0, ([] : List (Int × Int)), n269))
    else
      Option.bind (
        bif (O .lt 5000 (O .mul (O .ofNat (O .len .i2 c_3)) (O .quo n268 c_2))) then
          grd (okNz c_2) <|
          grd (okI .i64 ((O .quo n268 c_2))) <|
          grd (okI .i64 ((O .mul (O .ofNat (O .len .i2 c_3)) (O .quo n268 c_2)))) <|
          (some true)
        else
          grd (okNz c_2) <|
          grd (okI .i64 ((O .quo n268 c_2))) <|
          grd (okI .i64 ((O .mul (O .ofNat (O .len .i2 c_3)) (O .quo n268 c_2)))) <|
          grd (okNz in_2) <|
          grd (okI .i64 ((O .quo n268 in_2))) <|
          grd (okI .i64 ((O .mul (O .ofNat (O .len .i2 in_3)) (O .quo n268 in_2)))) <|
          (some (O .lt 5000 (O .mul (O .ofNat (O .len .i2 in_3)) (O .quo n268 in_2)))) : Option ((Bool))) fun x199 =>
      bif x199 then
        (some (0, 0, ([] : List (Int × Int)), 5))
      else
        Option.bind (loop (m_ref16_Inside_L1 O c_1 c_2 c_3 in_1 in_2 in_3 n268 number_1) (0, ([] : List (Int × Int)))) fun l125 =>
        bif (O .eq (O .ofNat (O .len .i2 l125)) 0) then
          (some (0, 0, ([] : List (Int × Int)), 7))
        else
          Option.bind (m_ref16_Make O n268 l125) fun (n283, n284, l126, n285) =>
          (some (n283, n284, l126, n285))
def m_law16_GroupInside (O : Ops) (c_1 : Int) (c_2 : Int) (in_1 : Int) (in_2 : Int) (m_1 : Int) (c_3 : List (Int × Int)) (in_3 : List (Int × Int)) : Option (Bool) :=
  Option.bind (m_law16_awake O) fun b73 =>
  bif (O .not b73) then
    (some false)
  else
    Option.bind (m_law16_great_2 O c_1 c_2 in_1 in_2 c_3 in_3) fun b77 =>
    bif b77 then
      (some true)
    else
      Option.bind (
        Option.bind (m_ref16_Valid O c_1 c_2 c_3) fun b78 =>
        bif (O .not b78) then
          (some true)
        else
          Option.bind (m_ref16_Valid O in_1 in_2 in_3) fun b79 =>
          (some (O .not b79)) : Option ((Bool))) fun x173 =>
      bif x173 then
        Option.bind (m_group_Inside O c_1 c_2 in_1 in_2 m_1 c_3 in_3) fun (n261, n262, l106, n263) =>
        Option.bind (m_law16_is O n261 n262 n263 0 0 1 l106 (([] : List (Int × Int)))) fun b87 =>
        (some b87)
      else
        Option.bind (m_law16_few O c_1 c_2 in_1 in_2 c_3 in_3) fun b88 =>
        bif (O .not b88) then
          (some true)
        else
          Option.bind (m_group_Inside O c_1 c_2 in_1 in_2 m_1 c_3 in_3) fun (n264, n265, l107, n266) =>
          Option.bind (m_ref16_Inside O c_1 c_2 in_1 in_2 m_1 c_3 in_3) fun (n286, n287, l127, n288) =>
          Option.bind (m_law16_is O n264 n265 n266 n286 n287 n288 l107 l127) fun b89 =>
          (some b89)
def m_group_Merge_L1 (O : Ops) (a_1 : Int) (a_2 : Int) (a_3 : List (Int × Int)) (n289 : Int) (n291 : Int) (n293 : Int) : (Int × List (Int × Int)) → Option ((Int × List (Int × Int)) ⊕ (List (Int × Int))) := fun (x217, l128) =>
  bif (O .lt x217 (O .mul (O .ofNat (O .len .i2 a_3)) (O .quo n289 a_2))) then
    Option.bind (m_group_at O a_1 a_2 x217 a_3) fun (n298, n299) =>
    grd (okI .i64 ((O .sub n298 (O .min n291 n293)))) <|
    Option.bind (m_integer_Mod O ((O .sub n298 (O .min n291 n293))) n289) fun n300 =>
    grd (okI .i64 ((O .add (O .min n291 n293) n300))) <|
    grd (okI .i64 ((O .add (O .add (O .min n291 n293) n300) n299))) <|
    grd (okI .i64 ((O .sub (O .add (O .add (O .min n291 n293) n300) n299) n298))) <|
    grd (okRoom ((O .len .i2 l128))) <|
    grd (okRoom ((O .len .i2 [((O .add (O .min n291 n293) n300), (O .sub (O .add (O .add (O .min n291 n293) n300) n299) n298))]))) <|
    grd (okI .i64 ((O .add x217 1))) <|
    (some (Sum.inl ((O .add x217 1), (O .app .i2 l128 [((O .add (O .min n291 n293) n300), (O .sub (O .add (O .add (O .min n291 n293) n300) n299) n298))]))))
  else
    (some (Sum.inr l128))
def m_group_Merge_L2 (O : Ops) (b_1 : Int) (b_2 : Int) (b_3 : List (Int × Int)) (n289 : Int) (n291 : Int) (n293 : Int) : (Int × List (Int × Int)) → Option ((Int × List (Int × Int)) ⊕ (List (Int × Int))) := fun (x219, l130) =>
  bif (O .lt x219 (O .mul (O .ofNat (O .len .i2 b_3)) (O .quo n289 b_2))) then
    Option.bind (m_group_at O b_1 b_2 x219 b_3) fun (n304, n305) =>
    grd (okI .i64 ((O .sub n304 (O .min n291 n293)))) <|
    Option.bind (m_integer_Mod O ((O .sub n304 (O .min n291 n293))) n289) fun n306 =>
    grd (okI .i64 ((O .add (O .min n291 n293) n306))) <|
    grd (okI .i64 ((O .add (O .add (O .min n291 n293) n306) n305))) <|
    grd (okI .i64 ((O .sub (O .add (O .add (O .min n291 n293) n306) n305) n304))) <|
    grd (okRoom ((O .len .i2 l130))) <|
    grd (okRoom ((O .len .i2 [((O .add (O .min n291 n293) n306), (O .sub (O .add (O .add (O .min n291 n293) n306) n305) n304))]))) <|
    grd (okI .i64 ((O .add x219 1))) <|
    (some (Sum.inl ((O .add x219 1), (O .app .i2 l130 [((O .add (O .min n291 n293) n306), (O .sub (O .add (O .add (O .min n291 n293) n306) n305) n304))]))))
  else
    (some (Sum.inr l130))
def m_group_Merge_L3 (O : Ops) (l132 : List (Int × Int)) (n289 : Int) : (Int) → Option ((Int) ⊕ ((Unit) ⊕ (Unit))) := fun x221 =>
  bif (O .lt x221 (O .ofNat (O .len .i2 l132))) then
    grd (okIdx x221 ((O .len .i2 l132))) <|
    grd (okKin ((O .toNat x221)) ((O .len .i2 l132))) <|
    grd (okIdx 0 ((O .len .i2 l132))) <|
    grd (okKin ((O .toNat 0)) ((O .len .i2 l132))) <|
    grd (okI .i64 ((O .add ((O .get .i2 l132 (O .toNat 0))).1 n289))) <|
    grd (okI .i64 ((O .add x221 1))) <|
    Option.bind (
      bif (O .lt (O .add x221 1) (O .ofNat (O .len .i2 l132))) then
        grd (okIdx ((O .add x221 1)) ((O .len .i2 l132))) <|
        grd (okKin ((O .toNat (O .add x221 1))) ((O .len .i2 l132))) <|
        (some ((O .get .i2 l132 (O .toNat (O .add x221 1)))).1)
      else
        (some (O .add ((O .get .i2 l132 (O .toNat 0))).1 n289)) : Option ((Int))) fun next6 =>
    bif (O .lt next6 ((O .get .i2 l132 (O .toNat x221))).2) then
      (some (Sum.inr (Sum.inl ())))
    else
      (some (Sum.inl (O .add x221 1)))
  else
    (some (Sum.inr (Sum.inr ())))
def m_group_Merge (O : Ops) (a_1 : Int) (a_2 : Int) (b_1 : Int) (b_2 : Int) (a_3 : List (Int × Int)) (b_3 : List (Int × Int)) : Option (Int × Int × List (Int × Int) × Int) :=
  Option.bind (
    Option.bind (m_granule_Valid O a_1 a_2 a_3) fun b94 =>
    bif (O .not b94) then
      (some true)
    else
      Option.bind (m_granule_Valid O b_1 b_2 b_3) fun b95 =>
      (some (O .not b95)) : Option ((Bool))) fun x215 =>
  bif x215 then
    (some (0, 0, ([] : List (Int × Int)), 1))
  else
    Option.bind (m_group_common O a_2 b_2) fun (n289, n290) =>
    bif (O .not (O .eq n290 0)) then
      (some (0, 0, ([] : List (Int × Int)), n290))
    else
      Option.bind (m_group_at O a_1 a_2 0 a_3) fun (n291, _) =>
      Option.bind (m_group_at O b_1 b_2 0 b_3) fun (n293, _) =>
      grd (okNz a_2) <|
      grd (okI .i64 ((O .quo n289 a_2))) <|
      grd (okI .i64 ((O .mul (O .ofNat (O .len .i2 a_3)) (O .quo n289 a_2)))) <|
      grd (okI .i64 ((O .add (O .ofNat (O .len .i2 [])) (O .mul (O .ofNat (O .len .i2 a_3)) (O .quo n289 a_2))))) <|
      bif (O .lt 5000 (O .add (O .ofNat (O .len .i2 [])) (O .mul (O .ofNat (O .len .i2 a_3)) (O .quo n289 a_2)))) then
        (some (0, 0, ([] : List (Int × Int)), 5))
      else
        Option.bind (loop (m_group_Merge_L1 O a_1 a_2 a_3 n289 n291 n293) (0, ([] : List (Int × Int)))) fun l129 =>
        grd (okI .i64 ((O .add 0 1))) <|
        grd (okNz b_2) <|
        grd (okI .i64 ((O .quo n289 b_2))) <|
        grd (okI .i64 ((O .mul (O .ofNat (O .len .i2 b_3)) (O .quo n289 b_2)))) <|
        grd (okI .i64 ((O .add (O .ofNat (O .len .i2 l129)) (O .mul (O .ofNat (O .len .i2 b_3)) (O .quo n289 b_2))))) <|
        bif (O .lt 5000 (O .add (O .ofNat (O .len .i2 l129)) (O .mul (O .ofNat (O .len .i2 b_3)) (O .quo n289 b_2)))) then
          (some (0, 0, ([] : List (Int × Int)), 5))
        else
          Option.bind (loop (m_group_Merge_L2 O b_1 b_2 b_3 n289 n291 n293) (0, l129)) fun l131 =>
          grd (okI .i64 ((O .add 1 1))) <|
          Option.bind (m_sortSp O l131) fun l132 =>
          Option.bind (loop (m_group_Merge_L3 O l132 n289) 0) fun e => match e with
          | .inl _ =>
            (some (0, 0, ([] : List (Int × Int)), 6))
          | .inr (_) =>
            Option.bind (m_group_made O n289 l132) fun (n307, n308, l133, n309) =>
            (some (n307, n308, l133, n309))
def m_ref16_start_L1 (O : Ops) (c_1 : Int) (c_2 : Int) (c_3 : List (Int × Int)) (x_1 : Int) : (Int) → Option ((Int) ⊕ (Int)) := fun k9 =>
  Option.bind (m_ref16_Granule O c_1 c_2 k9 c_3) fun (n328, _) =>
  bif (O .lt n328 x_1) then
    grd (okI .i64 ((O .add k9 1))) <|
    (some (Sum.inl (O .add k9 1)))
  else
    (some (Sum.inr k9))
def m_ref16_start (O : Ops) (c_1 : Int) (c_2 : Int) (x_1 : Int) (c_3 : List (Int × Int)) : Option (Int) :=
  grd (okI .i64 ((O .sub x_1 c_1))) <|
  Option.bind (m_ref01_Floor O ((O .sub x_1 c_1)) c_2) fun n327 =>
  grd (okI .i64 ((O .sub n327 1))) <|
  grd (okI .i64 ((O .mul (O .ofNat (O .len .i2 c_3)) (O .sub n327 1)))) <|
  Option.bind (loop (m_ref16_start_L1 O c_1 c_2 c_3 x_1) (O .mul (O .ofNat (O .len .i2 c_3)) (O .sub n327 1))) fun k10 =>
  (some k10)
def m_ref16_Merge_L1 (O : Ops) (a_1 : Int) (a_2 : Int) (a_3 : List (Int × Int)) (b_1 : Int) (b_2 : Int) (b_3 : List (Int × Int)) (n319 : Int) : (Int × Int × List (Int × Int)) → Option ((Int × Int × List (Int × Int)) ⊕ ((Unit) ⊕ (List (Int × Int)))) := fun (i29, k14, l139) =>
  bif (O .lt (O .ofNat (O .len .i2 l139)) (O .add (O .mul (O .ofNat (O .len .i2 a_3)) (O .quo n319 a_2)) (O .mul (O .ofNat (O .len .i2 b_3)) (O .quo n319 b_2)))) then
    Option.bind (m_ref16_Granule O a_1 a_2 i29 a_3) fun (n336, n337) =>
    Option.bind (m_ref16_Granule O b_1 b_2 k14 b_3) fun (n338, n339) =>
    Option.bind (
      bif (O .lt n336 n339) then
        (some (O .lt n338 n337))
      else
        (some false) : Option ((Bool))) fun x225 =>
    bif x225 then
      (some (Sum.inr (Sum.inl ())))
    else
      Option.bind (
        bif (O .lt n336 n338) then
          grd (okRoom ((O .len .i2 l139))) <|
          grd (okRoom ((O .len .i2 [(n336, n337)]))) <|
          grd (okI .i64 ((O .add i29 1))) <|
          (some ((O .add i29 1), k14, (O .app .i2 l139 [(n336, n337)])))
        else
          grd (okRoom ((O .len .i2 l139))) <|
          grd (okRoom ((O .len .i2 [(n338, n339)]))) <|
          grd (okI .i64 ((O .add k14 1))) <|
          (some (i29, (O .add k14 1), (O .app .i2 l139 [(n338, n339)]))) : Option ((Int × Int × List (Int × Int)))) fun (i31, k16, l141) =>
      (some (Sum.inl (i31, k16, l141)))
  else
    (some (Sum.inr (Sum.inr l139)))
def m_ref16_Merge (O : Ops) (a_1 : Int) (a_2 : Int) (b_1 : Int) (b_2 : Int) (a_3 : List (Int × Int)) (b_3 : List (Int × Int)) : Option (Int × Int × List (Int × Int) × Int) :=
  Option.bind (m_ref16_common O a_2 b_2) fun (n319, n320) =>
  bif (O .not (O .eq n320 0)) then
    (some (0, 0, ([] : List (Int × Int)), n320))
  else
    grd (okNz a_2) <|
    grd (okI .i64 ((O .quo n319 a_2))) <|
    grd (okI .i64 ((O .mul (O .ofNat (O .len .i2 a_3)) (O .quo n319 a_2)))) <|
    grd (okNz b_2) <|
    grd (okI .i64 ((O .quo n319 b_2))) <|
    grd (okI .i64 ((O .mul (O .ofNat (O .len .i2 b_3)) (O .quo n319 b_2)))) <|
    grd (okI .i64 ((O .add (O .mul (O .ofNat (O .len .i2 a_3)) (O .quo n319 a_2)) (O .mul (O .ofNat (O .len .i2 b_3)) (O .quo n319 b_2))))) <|
    bif (O .lt 5000 (O .add (O .mul (O .ofNat (O .len .i2 a_3)) (O .quo n319 a_2)) (O .mul (O .ofNat (O .len .i2 b_3)) (O .quo n319 b_2)))) then
      (some (0, 0, ([] : List (Int × Int)), 5))
    else
      Option.bind (m_ref16_Granule O a_1 a_2 0 a_3) fun (n321, _) =>
      Option.bind (m_ref16_Granule O b_1 b_2 0 b_3) fun (n323, _) =>
      Option.bind (
        bif (O .lt n323 n321) then
          Option.bind (m_ref16_Granule O b_1 b_2 0 b_3) fun (n325, _) =>
          (some n325)
        else
          (some n321) : Option ((Int))) fun from2 =>
      Option.bind (m_ref16_start O a_1 a_2 from2 a_3) fun n330 =>
      Option.bind (m_ref16_start O b_1 b_2 from2 b_3) fun n331 =>
      Option.bind (loop (m_ref16_Merge_L1 O a_1 a_2 a_3 b_1 b_2 b_3 n319) (n330, n331, ([] : List (Int × Int)))) fun e => match e with
      | .inl _ =>
        (some (0, 0, ([] : List (Int × Int)), 6))
      | .inr (l142) =>
        grd (okI .i64 ((O .sub (O .ofNat (O .len .i2 l142)) 1))) <|
        grd (okIdx ((O .sub (O .ofNat (O .len .i2 l142)) 1)) ((O .len .i2 l142))) <|
        grd (okKin ((O .toNat (O .sub (O .ofNat (O .len .i2 l142)) 1))) ((O .len .i2 l142))) <|
        grd (okIdx 0 ((O .len .i2 l142))) <|
        grd (okKin ((O .toNat 0)) ((O .len .i2 l142))) <|
        grd (okI .i64 ((O .add ((O .get .i2 l142 (O .toNat 0))).1 n319))) <|
        bif (O .lt (O .add ((O .get .i2 l142 (O .toNat 0))).1 n319) ((O .get .i2 l142 (O .toNat (O .sub (O .ofNat (O .len .i2 l142)) 1)))).2) then
          (some (0, 0, ([] : List (Int × Int)), 6))
        else
          Option.bind (m_ref16_Make O n319 l142) fun (n340, n341, l143, n342) =>
          (some (n340, n341, l143, n342))
def m_law16_GroupMerges (O : Ops) (a_1 : Int) (a_2 : Int) (b_1 : Int) (b_2 : Int) (a_3 : List (Int × Int)) (b_3 : List (Int × Int)) : Option (Bool) :=
  Option.bind (m_law16_awake O) fun b90 =>
  bif (O .not b90) then
    (some false)
  else
    Option.bind (m_law16_great_2 O a_1 a_2 b_1 b_2 a_3 b_3) fun b91 =>
    bif b91 then
      (some true)
    else
      Option.bind (
        Option.bind (m_ref16_Valid O a_1 a_2 a_3) fun b92 =>
        bif (O .not b92) then
          (some true)
        else
          Option.bind (m_ref16_Valid O b_1 b_2 b_3) fun b93 =>
          (some (O .not b93)) : Option ((Bool))) fun x213 =>
      bif x213 then
        Option.bind (m_group_Merge O a_1 a_2 b_1 b_2 a_3 b_3) fun (n310, n311, l134, n312) =>
        Option.bind (m_law16_is O n310 n311 n312 0 0 1 l134 (([] : List (Int × Int)))) fun b96 =>
        (some b96)
      else
        Option.bind (m_law16_few O a_1 a_2 b_1 b_2 a_3 b_3) fun b97 =>
        bif (O .not b97) then
          (some true)
        else
          Option.bind (m_group_Merge O a_1 a_2 b_1 b_2 a_3 b_3) fun (n313, n314, l135, n315) =>
          Option.bind (m_group_Merge O b_1 b_2 a_1 a_2 b_3 a_3) fun (n316, n317, l136, n318) =>
          Option.bind (m_ref16_Merge O a_1 a_2 b_1 b_2 a_3 b_3) fun (n343, n344, l144, n345) =>
          Option.bind (
            Option.bind (m_law16_is O n313 n314 n315 n343 n344 n345 l135 l144) fun b98 =>
            bif b98 then
              Option.bind (m_law16_is O n316 n317 n318 n343 n344 n345 l136 l144) fun b99 =>
              (some b99)
            else
              (some false) : Option ((Bool))) fun x227 =>
          (some x227)
end Go.Proofs.Ytoklfjkanipjkaa
