/-
  Models of functions (printed by lift.py).
-/
import Derived.Test.YtfhfifcfkimgpaaManM2
namespace Go.Proofs.Ytfhfifcfkimgpaa
open Go.RowKit
set_option maxRecDepth 100000

def m_interval_line (O : Ops) (x_1 : Int) : Option (Bool) :=
  Option.bind (
    bif (O .le (-4398046511104) x_1) then
      (some (O .le x_1 4398046511104))
    else
      (some false) : Option ((Bool))) fun x3 =>
  (some x3)
def m_interval_Valid (O : Ops) (s_1 : Int) (s_2 : Int) : Option (Bool) :=
  Option.bind (
    Option.bind (m_interval_line O s_1) fun b1 =>
    bif b1 then
      Option.bind (m_interval_line O s_2) fun b2 =>
      bif b2 then
        (some (O .lt s_1 s_2))
      else
        (some false)
    else
      (some false) : Option ((Bool))) fun x6 =>
  (some x6)
def m_periodic_Of_1 (O : Ops) (s_1 : Int) (s_2 : Int) : Option (Bool) :=
  Option.bind (m_interval_Valid O s_1 s_2) fun b3 =>
  (some (O .not b3))
def m_slices_IndexFunc_L1 (O : Ops) (s_1 : List (Int × Int)) : (Int) → Option ((Int) ⊕ ((Int) ⊕ (Unit))) := fun x1 =>
  bif (O .lt x1 (O .ofNat (O .len .i2 s_1))) then
    grd (okIdx x1 ((O .len .i2 s_1))) <|
    grd (okKin ((O .toNat x1)) ((O .len .i2 s_1))) <|
    Option.bind (m_periodic_Of_1 O (((O .get .i2 s_1 (O .toNat x1))).1) (((O .get .i2 s_1 (O .toNat x1))).2)) fun b4 =>
    bif b4 then
      (some (Sum.inr (Sum.inl x1)))
    else
      grd (okI .i64 ((O .add x1 1))) <|
      (some (Sum.inl (O .add x1 1)))
  else
    (some (Sum.inr (Sum.inr ())))
def m_slices_IndexFunc (O : Ops) (s_1 : List (Int × Int)) : Option (Int) :=
  Option.bind (loop (m_slices_IndexFunc_L1 O s_1) 0) fun e => match e with
  | .inl x7 =>
    (some x7)
  | .inr (_) =>
    (some (-1))
def m_slices_ContainsFunc (O : Ops) (s_1 : List (Int × Int)) : Option (Bool) :=
  Option.bind (m_slices_IndexFunc O s_1) fun n1 =>
  (some (O .le 0 n1))
def m_integer_Div (O : Ops) (a_1 : Int) (b_1 : Int) : Option (Int × Int × Int) :=
  Option.bind (
    bif (O .eq b_1 0) then
      (some (Sum.inl 10))
    else
      Option.bind (
        bif (O .eq a_1 (-9223372036854775808)) then
          (some (O .eq b_1 (-1)))
        else
          (some false) : Option ((Bool))) fun x12 =>
      bif x12 then
        (some (Sum.inl 9))
      else
        (some (Sum.inr ())) : Option (((Int) ⊕ (Unit)))) fun e => match e with
  | .inl x14 =>
    (some (0, 0, x14))
  | .inr (_) =>
    grd (okNz b_1) <|
    grd (okI .i64 ((O .quo a_1 b_1))) <|
    Option.bind (
      bif (O .not (O .eq (O .rem a_1 b_1) 0)) then
        (some (O .not (O .beq (O .lt (O .rem a_1 b_1) 0) (O .lt b_1 0))))
      else
        (some false) : Option ((Bool))) fun x16 =>
    Option.bind (
      bif x16 then
        grd (okI .i64 ((O .sub (O .quo a_1 b_1) 1))) <|
        grd (okI .i64 ((O .add (O .rem a_1 b_1) b_1))) <|
        (some ((O .sub (O .quo a_1 b_1) 1), (O .add (O .rem a_1 b_1) b_1)))
      else
        (some ((O .quo a_1 b_1), (O .rem a_1 b_1))) : Option ((Int × Int))) fun (q2, r2) =>
    (some (q2, r2, 0))
def m_integer_Mod (O : Ops) (a_1 : Int) (b_1 : Int) : Option (Int) :=
  Option.bind (m_integer_Div O a_1 b_1) fun (_, n3, _) =>
  (some n3)
def m_periodic_fold_L1 (O : Ops) (l_1 : List (Int × Int)) (period_1 : Int) : (Int × List (Int × Int)) → Option ((Int × List (Int × Int)) ⊕ ((Unit) ⊕ (List (Int × Int)))) := fun (x17, l3) =>
  bif (O .lt x17 (O .ofNat (O .len .i2 l_1))) then
    grd (okIdx x17 ((O .len .i2 l_1))) <|
    grd (okKin ((O .toNat x17)) ((O .len .i2 l_1))) <|
    grd (okI .i64 ((O .sub ((O .get .i2 l_1 (O .toNat x17))).2 ((O .get .i2 l_1 (O .toNat x17))).1))) <|
    bif (O .le period_1 (O .sub ((O .get .i2 l_1 (O .toNat x17))).2 ((O .get .i2 l_1 (O .toNat x17))).1)) then
      (some (Sum.inr (Sum.inl ())))
    else
      Option.bind (m_integer_Mod O (((O .get .i2 l_1 (O .toNat x17))).1) period_1) fun n6 =>
      grd (okI .i64 ((O .add n6 ((O .get .i2 l_1 (O .toNat x17))).2))) <|
      grd (okI .i64 ((O .sub (O .add n6 ((O .get .i2 l_1 (O .toNat x17))).2) ((O .get .i2 l_1 (O .toNat x17))).1))) <|
      grd (okRoom ((O .len .i2 l3))) <|
      grd (okRoom ((O .len .i2 [(n6, (O .min (O .sub (O .add n6 ((O .get .i2 l_1 (O .toNat x17))).2) ((O .get .i2 l_1 (O .toNat x17))).1) period_1))]))) <|
      Option.bind (
        bif (O .lt period_1 (O .sub (O .add n6 ((O .get .i2 l_1 (O .toNat x17))).2) ((O .get .i2 l_1 (O .toNat x17))).1)) then
          grd (okI .i64 ((O .sub (O .sub (O .add n6 ((O .get .i2 l_1 (O .toNat x17))).2) ((O .get .i2 l_1 (O .toNat x17))).1) period_1))) <|
          grd (okRoom ((O .len .i2 (O .app .i2 l3 [(n6, (O .min (O .sub (O .add n6 ((O .get .i2 l_1 (O .toNat x17))).2) ((O .get .i2 l_1 (O .toNat x17))).1) period_1))])))) <|
          grd (okRoom ((O .len .i2 [(0, (O .sub (O .sub (O .add n6 ((O .get .i2 l_1 (O .toNat x17))).2) ((O .get .i2 l_1 (O .toNat x17))).1) period_1))]))) <|
          (some (O .app .i2 (O .app .i2 l3 [(n6, (O .min (O .sub (O .add n6 ((O .get .i2 l_1 (O .toNat x17))).2) ((O .get .i2 l_1 (O .toNat x17))).1) period_1))]) [(0, (O .sub (O .sub (O .add n6 ((O .get .i2 l_1 (O .toNat x17))).2) ((O .get .i2 l_1 (O .toNat x17))).1) period_1))]))
        else
          (some (O .app .i2 l3 [(n6, (O .min (O .sub (O .add n6 ((O .get .i2 l_1 (O .toNat x17))).2) ((O .get .i2 l_1 (O .toNat x17))).1) period_1))])) : Option ((List (Int × Int)))) fun l5 =>
      grd (okI .i64 ((O .add x17 1))) <|
      (some (Sum.inl ((O .add x17 1), l5)))
  else
    (some (Sum.inr (Sum.inr l3)))
def m_periodic_fold_L2 (O : Ops) (l7 : List (Int × Int)) : (Int × List (Int × Int)) → Option ((Int × List (Int × Int)) ⊕ (List (Int × Int))) := fun (x21, l10) =>
  bif (O .lt x21 (O .ofNat (O .len .i2 l7))) then
    grd (okIdx x21 ((O .len .i2 l7))) <|
    grd (okKin ((O .toNat x21)) ((O .len .i2 l7))) <|
    Option.bind (
      bif (O .lt 0 (O .ofNat (O .len .i2 l10))) then
        grd (okI .i64 ((O .sub (O .ofNat (O .len .i2 l10)) 1))) <|
        grd (okIdx ((O .sub (O .ofNat (O .len .i2 l10)) 1)) ((O .len .i2 l10))) <|
        grd (okKin ((O .toNat (O .sub (O .ofNat (O .len .i2 l10)) 1))) ((O .len .i2 l10))) <|
        (some (O .le ((O .get .i2 l7 (O .toNat x21))).1 ((O .get .i2 l10 (O .toNat (O .sub (O .ofNat (O .len .i2 l10)) 1)))).2))
      else
        (some false) : Option ((Bool))) fun x23 =>
    Option.bind (
      bif x23 then
        grd (okI .i64 ((O .sub (O .ofNat (O .len .i2 l10)) 1))) <|
        grd (okIdx ((O .sub (O .ofNat (O .len .i2 l10)) 1)) ((O .len .i2 l10))) <|
        grd (okKin ((O .toNat (O .sub (O .ofNat (O .len .i2 l10)) 1))) ((O .len .i2 l10))) <|
        (some (O .put .i2 l10 (O .toNat (O .sub (O .ofNat (O .len .i2 l10)) 1)) (((O .get .i2 l10 (O .toNat (O .sub (O .ofNat (O .len .i2 l10)) 1)))).1, (O .max ((O .get .i2 l10 (O .toNat (O .sub (O .ofNat (O .len .i2 l10)) 1)))).2 ((O .get .i2 l7 (O .toNat x21))).2))))
      else
        grd (okRoom ((O .len .i2 l10))) <|
        grd (okRoom ((O .len .i2 [(((O .get .i2 l7 (O .toNat x21))).1, ((O .get .i2 l7 (O .toNat x21))).2)]))) <|
        (some (O .app .i2 l10 [(((O .get .i2 l7 (O .toNat x21))).1, ((O .get .i2 l7 (O .toNat x21))).2)])) : Option ((List (Int × Int)))) fun l12 =>
    grd (okI .i64 ((O .add x21 1))) <|
    (some (Sum.inl ((O .add x21 1), l12)))
  else
    (some (Sum.inr l10))
def m_periodic_fold (O : Ops) (period_1 : Int) (l_1 : List (Int × Int)) : Option (List (Int × Int)) :=
  Option.bind (loop (m_periodic_fold_L1 O l_1 period_1) (0, ([] : List (Int × Int)))) fun e => match e with
  | .inl _ =>
    (some [(0, period_1)])
  | .inr (l6) =>
    Option.bind (m_sortSp O l6) fun l7 =>
    Option.bind (loop (m_periodic_fold_L2 O l7) (0, ([] : List (Int × Int)))) fun l13 =>
    (some l13)
def m_periodic_repeats_L1 (O : Ops) (l_1 : List (Int × Int)) (period_1 : Int) : (Int × List Int) → Option ((Int × List Int) ⊕ (List Int)) := fun (x27, l21) =>
  bif (O .lt x27 (O .ofNat (O .len .i2 l_1))) then
    grd (okIdx x27 ((O .len .i2 l_1))) <|
    grd (okKin ((O .toNat x27)) ((O .len .i2 l_1))) <|
    Option.bind (
      bif (O .lt 0 ((O .get .i2 l_1 (O .toNat x27))).1) then
        (some true)
      else
        grd (okI .i64 ((O .sub (O .ofNat (O .len .i2 l_1)) 1))) <|
        grd (okIdx ((O .sub (O .ofNat (O .len .i2 l_1)) 1)) ((O .len .i2 l_1))) <|
        grd (okKin ((O .toNat (O .sub (O .ofNat (O .len .i2 l_1)) 1))) ((O .len .i2 l_1))) <|
        (some (O .lt ((O .get .i2 l_1 (O .toNat (O .sub (O .ofNat (O .len .i2 l_1)) 1)))).2 period_1)) : Option ((Bool))) fun x29 =>
    Option.bind (
      bif x29 then
        grd (okRoom ((O .len .i1 l21))) <|
        grd (okRoom ((O .len .i1 [((O .get .i2 l_1 (O .toNat x27))).1]))) <|
        (some (O .app .i1 l21 [((O .get .i2 l_1 (O .toNat x27))).1]))
      else
        (some l21) : Option ((List Int))) fun l23 =>
    Option.bind (
      bif (O .lt ((O .get .i2 l_1 (O .toNat x27))).2 period_1) then
        grd (okRoom ((O .len .i1 l23))) <|
        grd (okRoom ((O .len .i1 [((O .get .i2 l_1 (O .toNat x27))).2]))) <|
        (some (O .app .i1 l23 [((O .get .i2 l_1 (O .toNat x27))).2]))
      else
        grd (okIdx 0 ((O .len .i2 l_1))) <|
        grd (okKin ((O .toNat 0)) ((O .len .i2 l_1))) <|
        Option.bind (
          bif (O .lt 0 ((O .get .i2 l_1 (O .toNat 0))).1) then
            grd (okRoom ((O .len .i1 l23))) <|
            grd (okRoom ((O .len .i1 [0]))) <|
            (some (O .app .i1 l23 [0]))
          else
            (some l23) : Option ((List Int))) fun l25 =>
        (some l25) : Option ((List Int))) fun l27 =>
    grd (okI .i64 ((O .add x27 1))) <|
    (some (Sum.inl ((O .add x27 1), l27)))
  else
    (some (Sum.inr l21))
def m_periodic_repeats_L2 (O : Ops) (l29 : List Int) (period_1 : Int) (q_1 : Int) : (Int) → Option ((Int) ⊕ ((Unit) ⊕ (Unit))) := fun x30 =>
  bif (O .lt x30 (O .ofNat (O .len .i1 l29))) then
    grd (okIdx x30 ((O .len .i1 l29))) <|
    grd (okKin ((O .toNat x30)) ((O .len .i1 l29))) <|
    grd (okI .i64 ((O .add (O .get .i1 l29 (O .toNat x30)) q_1))) <|
    Option.bind (
      bif (O .le period_1 (O .add (O .get .i1 l29 (O .toNat x30)) q_1)) then
        grd (okI .i64 ((O .sub (O .add (O .get .i1 l29 (O .toNat x30)) q_1) period_1))) <|
        (some (O .sub (O .add (O .get .i1 l29 (O .toNat x30)) q_1) period_1))
      else
        (some (O .add (O .get .i1 l29 (O .toNat x30)) q_1)) : Option ((Int))) fun y2 =>
    grd (okI .i64 ((O .add x30 (O .quo (O .mul (O .ofNat (O .len .i1 l29)) q_1) period_1)))) <|
    grd (okNz ((O .ofNat (O .len .i1 l29)))) <|
    grd (okIdx ((O .rem (O .add x30 (O .quo (O .mul (O .ofNat (O .len .i1 l29)) q_1) period_1)) (O .ofNat (O .len .i1 l29)))) ((O .len .i1 l29))) <|
    grd (okKin ((O .toNat (O .rem (O .add x30 (O .quo (O .mul (O .ofNat (O .len .i1 l29)) q_1) period_1)) (O .ofNat (O .len .i1 l29))))) ((O .len .i1 l29))) <|
    bif (O .not (O .eq (O .get .i1 l29 (O .toNat (O .rem (O .add x30 (O .quo (O .mul (O .ofNat (O .len .i1 l29)) q_1) period_1)) (O .ofNat (O .len .i1 l29))))) y2)) then
      (some (Sum.inr (Sum.inl ())))
    else
      grd (okI .i64 ((O .add x30 1))) <|
      (some (Sum.inl (O .add x30 1)))
  else
    (some (Sum.inr (Sum.inr ())))
def m_periodic_repeats (O : Ops) (period_1 : Int) (q_1 : Int) (l_1 : List (Int × Int)) : Option (Bool) :=
  Option.bind (loop (m_periodic_repeats_L1 O l_1 period_1) (0, ([] : List Int))) fun l28 =>
  Option.bind (m_sortI O l28) fun l29 =>
  bif (O .eq (O .ofNat (O .len .i1 l29)) 0) then
    (some true)
  else
    grd (okI .i64 ((O .mul (O .ofNat (O .len .i1 l29)) q_1))) <|
    grd (okNz period_1) <|
    grd (okI .i64 ((O .quo (O .mul (O .ofNat (O .len .i1 l29)) q_1) period_1))) <|
    grd (okI .i64 ((O .mul (O .quo (O .mul (O .ofNat (O .len .i1 l29)) q_1) period_1) period_1))) <|
    bif (O .not (O .eq (O .mul (O .quo (O .mul (O .ofNat (O .len .i1 l29)) q_1) period_1) period_1) (O .mul (O .ofNat (O .len .i1 l29)) q_1))) then
      (some false)
    else
      grd (okNz 2) <|
      bif (O .not (O .eq (O .rem (O .quo (O .mul (O .ofNat (O .len .i1 l29)) q_1) period_1) 2) 0)) then
        (some false)
      else
        Option.bind (loop (m_periodic_repeats_L2 O l29 period_1 q_1) 0) fun e => match e with
        | .inl _ =>
          (some false)
        | .inr (_) =>
          (some true)
def m_periodic_least_L1 (O : Ops) (l_1 : List (Int × Int)) (period_1 : Int) : (Int × Int) → Option ((Int × Int) ⊕ (Int)) := fun (best1, q3) =>
  grd (okNz q3) <|
  grd (okI .i64 ((O .quo period_1 q3))) <|
  bif (O .le q3 (O .quo period_1 q3)) then
    bif (O .not (O .eq (O .rem period_1 q3) 0)) then
      grd (okI .i64 ((O .add q3 1))) <|
      (some (Sum.inl (best1, (O .add q3 1))))
    else
      Option.bind (m_periodic_repeats O period_1 q3 l_1) fun b6 =>
      bif b6 then
        (some (Sum.inr q3))
      else
        Option.bind (m_periodic_repeats O period_1 ((O .quo period_1 q3)) l_1) fun b7 =>
        Option.bind (
          bif b7 then
            (some (O .quo period_1 q3))
          else
            (some best1) : Option ((Int))) fun best3 =>
        grd (okI .i64 ((O .add q3 1))) <|
        (some (Sum.inl (best3, (O .add q3 1))))
  else
    (some (Sum.inr best1))
def m_periodic_least_L2 (O : Ops) (best5 : Int) (l_1 : List (Int × Int)) : (Int × List (Int × Int)) → Option ((Int × List (Int × Int)) ⊕ (List (Int × Int))) := fun (x32, l32) =>
  bif (O .lt x32 (O .ofNat (O .len .i2 l_1))) then
    grd (okIdx x32 ((O .len .i2 l_1))) <|
    grd (okKin ((O .toNat x32)) ((O .len .i2 l_1))) <|
    Option.bind (
      bif (O .lt ((O .get .i2 l_1 (O .toNat x32))).1 best5) then
        grd (okRoom ((O .len .i2 l32))) <|
        grd (okRoom ((O .len .i2 [(((O .get .i2 l_1 (O .toNat x32))).1, (O .min ((O .get .i2 l_1 (O .toNat x32))).2 best5))]))) <|
        (some (O .app .i2 l32 [(((O .get .i2 l_1 (O .toNat x32))).1, (O .min ((O .get .i2 l_1 (O .toNat x32))).2 best5))]))
      else
        (some l32) : Option ((List (Int × Int)))) fun l34 =>
    grd (okI .i64 ((O .add x32 1))) <|
    (some (Sum.inl ((O .add x32 1), l34)))
  else
    (some (Sum.inr l32))
def m_periodic_least (O : Ops) (period_1 : Int) (l_1 : List (Int × Int)) : Option (Int × List (Int × Int)) :=
  Option.bind (loop (m_periodic_least_L1 O l_1 period_1) (period_1, 1)) fun best5 =>
  Option.bind (loop (m_periodic_least_L2 O best5 l_1) (0, ([] : List (Int × Int)))) fun l35 =>
  (some (best5, l35))
def m_periodic_limited (O : Ops) (period_1 : Int) (l_1 : List (Int × Int)) : Option (Int × List (Int × Int) × Int) :=
  Option.bind (m_periodic_least O period_1 l_1) fun (n7, l36) =>
  bif (O .lt 2000 (O .ofNat (O .len .i2 l36))) then
    (some (0, ([] : List (Int × Int)), 5))
  else
    (some (n7, l36, 0))
def m_periodic_Of (O : Ops) (period_1 : Int) (l_1 : List (Int × Int)) : Option (Int × List (Int × Int) × Int) :=
  Option.bind (
    bif (O .lt period_1 1) then
      (some true)
    else
      bif (O .lt 12622780800 period_1) then
        (some true)
      else
        Option.bind (m_slices_ContainsFunc O l_1) fun b5 =>
        (some b5) : Option ((Bool))) fun x9 =>
  bif x9 then
    (some (0, ([] : List (Int × Int)), 1))
  else
    bif (O .lt 2000 (O .ofNat (O .len .i2 l_1))) then
      (some (0, ([] : List (Int × Int)), 5))
    else
      Option.bind (m_periodic_fold O period_1 l_1) fun l14 =>
      Option.bind (m_periodic_limited O period_1 l14) fun (n8, l37, n9) =>
      (some (n8, l37, n9))
def m_law13_set (_O : Ops) (period_1 : Int) (_l_1 : List (Int × Int)) : Option (Int) :=
  (some period_1)
def m_runs_Valid_L1 (O : Ops) (l_1 : List (Int × Int)) : (Int) → Option ((Int) ⊕ ((Unit) ⊕ (Unit))) := fun x33 =>
  bif (O .lt x33 (O .ofNat (O .len .i2 l_1))) then
    grd (okIdx x33 ((O .len .i2 l_1))) <|
    grd (okKin ((O .toNat x33)) ((O .len .i2 l_1))) <|
    Option.bind (
      Option.bind (m_interval_Valid O (((O .get .i2 l_1 (O .toNat x33))).1) (((O .get .i2 l_1 (O .toNat x33))).2)) fun b8 =>
      bif (O .not b8) then
        (some true)
      else
        bif (O .lt 0 x33) then
          grd (okI .i64 ((O .sub x33 1))) <|
          grd (okIdx ((O .sub x33 1)) ((O .len .i2 l_1))) <|
          grd (okKin ((O .toNat (O .sub x33 1))) ((O .len .i2 l_1))) <|
          (some (O .le ((O .get .i2 l_1 (O .toNat x33))).1 ((O .get .i2 l_1 (O .toNat (O .sub x33 1)))).2))
        else
          (some false) : Option ((Bool))) fun x36 =>
    bif x36 then
      (some (Sum.inr (Sum.inl ())))
    else
      grd (okI .i64 ((O .add x33 1))) <|
      (some (Sum.inl (O .add x33 1)))
  else
    (some (Sum.inr (Sum.inr ())))
def m_runs_Valid (O : Ops) (l_1 : List (Int × Int)) : Option (Bool) :=
  bif (O .lt 2000 (O .ofNat (O .len .i2 l_1))) then
    (some false)
  else
    Option.bind (loop (m_runs_Valid_L1 O l_1) 0) fun e => match e with
    | .inl _ =>
      (some false)
    | .inr (_) =>
      (some true)
def m_periodic_inside (O : Ops) (period_1 : Int) (l_1 : List (Int × Int)) : Option (Bool) :=
  Option.bind (
    Option.bind (m_runs_Valid O l_1) fun b9 =>
    bif b9 then
      bif (O .eq (O .ofNat (O .len .i2 l_1)) 0) then
        (some true)
      else
        bif (O .le 0 ((O .get .i2 l_1 (O .toNat 0))).1) then
          grd (okIdx 0 ((O .len .i2 l_1))) <|
          grd (okKin ((O .toNat 0)) ((O .len .i2 l_1))) <|
          grd (okI .i64 ((O .sub (O .ofNat (O .len .i2 l_1)) 1))) <|
          grd (okIdx ((O .sub (O .ofNat (O .len .i2 l_1)) 1)) ((O .len .i2 l_1))) <|
          grd (okKin ((O .toNat (O .sub (O .ofNat (O .len .i2 l_1)) 1))) ((O .len .i2 l_1))) <|
          (some (O .le ((O .get .i2 l_1 (O .toNat (O .sub (O .ofNat (O .len .i2 l_1)) 1)))).2 period_1))
        else
          grd (okIdx 0 ((O .len .i2 l_1))) <|
          grd (okKin ((O .toNat 0)) ((O .len .i2 l_1))) <|
          (some false)
    else
      (some false) : Option ((Bool))) fun x40 =>
  (some x40)
def m_periodic_Valid (O : Ops) (p_1 : Int) (p_2 : List (Int × Int)) : Option (Bool) :=
  Option.bind (
    bif (O .le 1 p_1) then
      bif (O .le p_1 12622780800) then
        Option.bind (m_periodic_inside O p_1 p_2) fun b10 =>
        bif b10 then
          Option.bind (m_periodic_least O p_1 p_2) fun (n14, _) =>
          (some (O .eq n14 p_1))
        else
          (some false)
      else
        (some false)
    else
      (some false) : Option ((Bool))) fun x44 =>
  (some x44)
def m_integer_size (O : Ops) (a_1 : Int) : Option (Int) :=
  bif (O .lt a_1 0) then
    grd (okI .u64 a_1) <|
    grd (okI .u64 ((O .sub 0 a_1))) <|
    (some (O .sub 0 a_1))
  else
    grd (okI .u64 a_1) <|
    (some a_1)
def m_integer_signed (O : Ops) (m_1 : Int) (neg_1 : Bool) : Option (Int × Bool) :=
  Option.bind (
    bif neg_1 then
      (some (true, (O .le m_1 9223372036854775808)))
    else
      (some (false, false)) : Option ((Bool × Bool))) fun (neg2, x52) =>
  Option.bind (
    bif x52 then
      grd (okI .u64 ((O .sub 0 m_1))) <|
      grd (okI .i64 ((O .sub 0 m_1))) <|
      (some (Sum.inl (O .sub 0 m_1)))
    else
      Option.bind (
        bif (O .not neg2) then
          (some (O .le m_1 9223372036854775807))
        else
          (some false) : Option ((Bool))) fun x54 =>
      bif x54 then
        grd (okI .i64 m_1) <|
        (some (Sum.inl m_1))
      else
        (some (Sum.inr ())) : Option (((Int) ⊕ (Unit)))) fun e => match e with
  | .inl x56 =>
    (some (x56, true))
  | .inr (_) =>
    (some (0, false))
def m_integer_Gcd_L1 (O : Ops) : (Int × Int) → Option ((Int × Int) ⊕ (Int)) := fun (x49, y3) =>
  bif (O .not (O .eq y3 0)) then
    grd (okNz y3) <|
    (some (Sum.inl (y3, (O .rem x49 y3))))
  else
    (some (Sum.inr x49))
def m_integer_Gcd (O : Ops) (a_1 : Int) (b_1 : Int) : Option (Int) :=
  Option.bind (m_integer_size O a_1) fun n15 =>
  Option.bind (m_integer_size O b_1) fun n16 =>
  Option.bind (loop (m_integer_Gcd_L1 O) (n15, n16)) fun x50 =>
  Option.bind (m_integer_signed O x50 false) fun (n17, _) =>
  (some n17)
def m_integer_Lcm (O : Ops) (a_1 : Int) (b_1 : Int) : Option (Int × Int) :=
  Option.bind (
    bif (O .lt a_1 1) then
      (some true)
    else
      (some (O .lt b_1 1)) : Option ((Bool))) fun x48 =>
  bif x48 then
    (some (0, 2))
  else
    Option.bind (m_integer_Gcd O a_1 b_1) fun n18 =>
    grd (okNz n18) <|
    grd (okI .i64 ((O .quo b_1 n18))) <|
    Option.bind (m_integer_Mul O a_1 ((O .quo b_1 n18))) fun (n19, n20) =>
    (some (n19, n20))
def m_periodic_spread_L1 (O : Ops) (at2 : Int) (p_2 : List (Int × Int)) : (Int × List (Int × Int)) → Option ((Int × List (Int × Int)) ⊕ (List (Int × Int))) := fun (x66, l45) =>
  bif (O .lt x66 (O .ofNat (O .len .i2 p_2))) then
    grd (okIdx x66 ((O .len .i2 p_2))) <|
    grd (okKin ((O .toNat x66)) ((O .len .i2 p_2))) <|
    grd (okI .i64 ((O .add ((O .get .i2 p_2 (O .toNat x66))).1 at2))) <|
    grd (okI .i64 ((O .add ((O .get .i2 p_2 (O .toNat x66))).2 at2))) <|
    grd (okRoom ((O .len .i2 l45))) <|
    grd (okRoom ((O .len .i2 [((O .add ((O .get .i2 p_2 (O .toNat x66))).1 at2), (O .add ((O .get .i2 p_2 (O .toNat x66))).2 at2))]))) <|
    grd (okI .i64 ((O .add x66 1))) <|
    (some (Sum.inl ((O .add x66 1), (O .app .i2 l45 [((O .add ((O .get .i2 p_2 (O .toNat x66))).1 at2), (O .add ((O .get .i2 p_2 (O .toNat x66))).2 at2))]))))
  else
    (some (Sum.inr l45))
def m_periodic_spread_L2 (O : Ops) (m_1 : Int) (p_1 : Int) (p_2 : List (Int × Int)) : (Int × List (Int × Int)) → Option ((Int × List (Int × Int)) ⊕ (List (Int × Int))) := fun (at2, l44) =>
  Option.bind (
    bif (O .lt at2 m_1) then
      (some (O .lt 0 (O .ofNat (O .len .i2 p_2))))
    else
      (some false) : Option ((Bool))) fun x64 =>
  bif x64 then
    Option.bind (loop (m_periodic_spread_L1 O at2 p_2) (0, l44)) fun l46 =>
    grd (okI .i64 ((O .add at2 p_1))) <|
    (some (Sum.inl ((O .add at2 p_1), l46)))
  else
    (some (Sum.inr l44))
def m_periodic_spread_L3 (O : Ops) (l48 : List (Int × Int)) : (Int × List (Int × Int)) → Option ((Int × List (Int × Int)) ⊕ (List (Int × Int))) := fun (x70, l51) =>
  bif (O .lt x70 (O .ofNat (O .len .i2 l48))) then
    grd (okIdx x70 ((O .len .i2 l48))) <|
    grd (okKin ((O .toNat x70)) ((O .len .i2 l48))) <|
    Option.bind (
      bif (O .lt 0 (O .ofNat (O .len .i2 l51))) then
        grd (okI .i64 ((O .sub (O .ofNat (O .len .i2 l51)) 1))) <|
        grd (okIdx ((O .sub (O .ofNat (O .len .i2 l51)) 1)) ((O .len .i2 l51))) <|
        grd (okKin ((O .toNat (O .sub (O .ofNat (O .len .i2 l51)) 1))) ((O .len .i2 l51))) <|
        (some (O .le ((O .get .i2 l48 (O .toNat x70))).1 ((O .get .i2 l51 (O .toNat (O .sub (O .ofNat (O .len .i2 l51)) 1)))).2))
      else
        (some false) : Option ((Bool))) fun x72 =>
    Option.bind (
      bif x72 then
        grd (okI .i64 ((O .sub (O .ofNat (O .len .i2 l51)) 1))) <|
        grd (okIdx ((O .sub (O .ofNat (O .len .i2 l51)) 1)) ((O .len .i2 l51))) <|
        grd (okKin ((O .toNat (O .sub (O .ofNat (O .len .i2 l51)) 1))) ((O .len .i2 l51))) <|
        (some (O .put .i2 l51 (O .toNat (O .sub (O .ofNat (O .len .i2 l51)) 1)) (((O .get .i2 l51 (O .toNat (O .sub (O .ofNat (O .len .i2 l51)) 1)))).1, (O .max ((O .get .i2 l51 (O .toNat (O .sub (O .ofNat (O .len .i2 l51)) 1)))).2 ((O .get .i2 l48 (O .toNat x70))).2))))
      else
        grd (okRoom ((O .len .i2 l51))) <|
        grd (okRoom ((O .len .i2 [(((O .get .i2 l48 (O .toNat x70))).1, ((O .get .i2 l48 (O .toNat x70))).2)]))) <|
        (some (O .app .i2 l51 [(((O .get .i2 l48 (O .toNat x70))).1, ((O .get .i2 l48 (O .toNat x70))).2)])) : Option ((List (Int × Int)))) fun l53 =>
    grd (okI .i64 ((O .add x70 1))) <|
    (some (Sum.inl ((O .add x70 1), l53)))
  else
    (some (Sum.inr l51))
def m_periodic_spread (O : Ops) (p_1 : Int) (m_1 : Int) (p_2 : List (Int × Int)) : Option (List (Int × Int)) :=
  Option.bind (
    bif (O .eq p_1 1) then
      bif (O .eq (O .ofNat (O .len .i2 p_2)) 0) then
        (some (Sum.inl ([] : List (Int × Int))))
      else
        (some (Sum.inl [(0, m_1)]))
    else
      (some (Sum.inr ())) : Option (((List (Int × Int)) ⊕ (Unit)))) fun e => match e with
  | .inl l41 =>
    (some l41)
  | .inr (_) =>
    Option.bind (loop (m_periodic_spread_L2 O m_1 p_1 p_2) (0, ([] : List (Int × Int)))) fun l47 =>
    Option.bind (m_sortSp O l47) fun l48 =>
    Option.bind (loop (m_periodic_spread_L3 O l48) (0, ([] : List (Int × Int)))) fun l54 =>
    (some l54)
def m_periodic_combine_1 (O : Ops) (n_1 : Int) (l_1 : List (Int × Int)) : Option (Int × Bool) :=
  grd (okNz 2) <|
  grd (okI .i64 ((O .quo n_1 2))) <|
  bif (O .le (O .ofNat (O .len .i2 l_1)) (O .quo n_1 2)) then
    (some (0, false))
  else
    bif (O .eq (O .rem n_1 2) 0) then
      grd (okIdx ((O .quo n_1 2)) ((O .len .i2 l_1))) <|
      grd (okKin ((O .toNat (O .quo n_1 2))) ((O .len .i2 l_1))) <|
      (some (((O .get .i2 l_1 (O .toNat (O .quo n_1 2)))).1, true))
    else
      grd (okIdx ((O .quo n_1 2)) ((O .len .i2 l_1))) <|
      grd (okKin ((O .toNat (O .quo n_1 2))) ((O .len .i2 l_1))) <|
      (some (((O .get .i2 l_1 (O .toNat (O .quo n_1 2)))).2, true))
def m_periodic_Union_1 (_O : Ops) (a_1 : Bool) (b_1 : Bool) : Option (Bool) :=
  Option.bind (
    bif a_1 then
      (some true)
    else
      (some b_1) : Option ((Bool))) fun x79 =>
  (some x79)
def m_periodic_combine_L1 (O : Ops) (a_1 : List (Int × Int)) (b_1 : List (Int × Int)) : (Int × Int × List (Int × Int)) → Option ((Int × Int × List (Int × Int)) ⊕ (List (Int × Int))) := fun (i4, k4, l61) =>
  Option.bind (m_periodic_combine_1 O i4 a_1) fun (n25, b18) =>
  Option.bind (m_periodic_combine_1 O k4 b_1) fun (n26, b19) =>
  Option.bind (
    bif (O .not b18) then
      (some (O .not b19))
    else
      (some false) : Option ((Bool))) fun x89 =>
  bif x89 then
    (some (Sum.inr l61))
  else
    Option.bind (
      bif (O .not b18) then
        (some (b19, true))
      else
        bif b19 then
          (some (true, (O .lt n26 n25)))
        else
          (some (false, false)) : Option ((Bool × Bool))) fun (is6, x92) =>
    Option.bind (
      bif x92 then
        (some n26)
      else
        (some n25) : Option ((Int))) fun at6 =>
    grd (okNz 2) <|
    Option.bind (m_periodic_Union_1 O ((O .eq (O .rem i4 2) 1)) ((O .eq (O .rem k4 2) 1))) fun b20 =>
    Option.bind (
      bif b18 then
        (some (O .eq n25 at6))
      else
        (some false) : Option ((Bool))) fun x94 =>
    Option.bind (
      bif x94 then
        grd (okI .i64 ((O .add i4 1))) <|
        (some (O .add i4 1))
      else
        (some i4) : Option ((Int))) fun i6 =>
    Option.bind (
      bif is6 then
        (some (O .eq n26 at6))
      else
        (some false) : Option ((Bool))) fun x96 =>
    Option.bind (
      bif x96 then
        grd (okI .i64 ((O .add k4 1))) <|
        (some (O .add k4 1))
      else
        (some k4) : Option ((Int))) fun k6 =>
    Option.bind (m_periodic_Union_1 O ((O .eq (O .rem i6 2) 1)) ((O .eq (O .rem k6 2) 1))) fun b21 =>
    Option.bind (
      bif (O .not b20) then
        (some b21)
      else
        (some false) : Option ((Bool))) fun x98 =>
    Option.bind (
      bif x98 then
        grd (okRoom ((O .len .i2 l61))) <|
        grd (okRoom ((O .len .i2 [(at6, 0)]))) <|
        (some (O .app .i2 l61 [(at6, 0)]))
      else
        Option.bind (
          bif b20 then
            (some (O .not b21))
          else
            (some false) : Option ((Bool))) fun x100 =>
        Option.bind (
          bif x100 then
            grd (okI .i64 ((O .sub (O .ofNat (O .len .i2 l61)) 1))) <|
            grd (okIdx ((O .sub (O .ofNat (O .len .i2 l61)) 1)) ((O .len .i2 l61))) <|
            grd (okKin ((O .toNat (O .sub (O .ofNat (O .len .i2 l61)) 1))) ((O .len .i2 l61))) <|
            (some (O .put .i2 l61 (O .toNat (O .sub (O .ofNat (O .len .i2 l61)) 1)) (((O .get .i2 l61 (O .toNat (O .sub (O .ofNat (O .len .i2 l61)) 1)))).1, at6)))
          else
            (some l61) : Option ((List (Int × Int)))) fun l63 =>
        (some l63) : Option ((List (Int × Int)))) fun l65 =>
    (some (Sum.inl (i6, k6, l65)))
def m_periodic_combine (O : Ops) (a_1 : List (Int × Int)) (b_1 : List (Int × Int)) : Option (List (Int × Int)) :=
  Option.bind (loop (m_periodic_combine_L1 O a_1 b_1) (0, 0, ([] : List (Int × Int)))) fun l66 =>
  (some l66)
def m_periodic_both (O : Ops) (a_1 : Int) (b_1 : Int) (a_2 : List (Int × Int)) (b_2 : List (Int × Int)) : Option (Int × List (Int × Int) × Int) :=
  Option.bind (
    Option.bind (m_periodic_Valid O a_1 a_2) fun b11 =>
    bif (O .not b11) then
      (some true)
    else
      Option.bind (m_periodic_Valid O b_1 b_2) fun b12 =>
      (some (O .not b12)) : Option ((Bool))) fun x46 =>
  bif x46 then
    (some (0, ([] : List (Int × Int)), 1))
  else
    Option.bind (m_integer_Lcm O a_1 b_1) fun (n21, n22) =>
    Option.bind (
      bif (O .not (O .eq n22 0)) then
        (some true)
      else
        (some (O .lt 12622780800 n21)) : Option ((Bool))) fun x58 =>
    bif x58 then
      (some (0, ([] : List (Int × Int)), 9))
    else
      grd (okNz a_1) <|
      grd (okI .i64 ((O .quo n21 a_1))) <|
      grd (okI .i64 ((O .mul (O .quo n21 a_1) (O .ofNat (O .len .i2 a_2))))) <|
      grd (okNz b_1) <|
      grd (okI .i64 ((O .quo n21 b_1))) <|
      grd (okI .i64 ((O .mul (O .quo n21 b_1) (O .ofNat (O .len .i2 b_2))))) <|
      grd (okI .i64 ((O .add (O .mul (O .quo n21 a_1) (O .ofNat (O .len .i2 a_2))) (O .mul (O .quo n21 b_1) (O .ofNat (O .len .i2 b_2)))))) <|
      bif (O .lt 2000 (O .add (O .mul (O .quo n21 a_1) (O .ofNat (O .len .i2 a_2))) (O .mul (O .quo n21 b_1) (O .ofNat (O .len .i2 b_2))))) then
        (some (0, ([] : List (Int × Int)), 5))
      else
        Option.bind (m_periodic_spread O a_1 n21 a_2) fun l55 =>
        Option.bind (m_periodic_spread O b_1 n21 b_2) fun l56 =>
        Option.bind (m_periodic_combine O l55 l56) fun l67 =>
        Option.bind (m_periodic_limited O n21 l67) fun (n27, l68, n28) =>
        (some (n27, l68, n28))
def m_periodic_Union (O : Ops) (a_1 : Int) (b_1 : Int) (a_2 : List (Int × Int)) (b_2 : List (Int × Int)) : Option (Int × List (Int × Int) × Int) :=
  Option.bind (m_periodic_both O a_1 b_1 a_2 b_2) fun (n29, l69, n30) =>
  (some (n29, l69, n30))
def m_ref13_Same_L1 (O : Ops) (a_1 : List (Int × Int)) (b_1 : List (Int × Int)) : (Int) → Option ((Int) ⊕ ((Unit) ⊕ (Unit))) := fun i7 =>
  bif (O .lt i7 (O .ofNat (O .len .i2 a_1))) then
    grd (okIdx i7 ((O .len .i2 a_1))) <|
    grd (okKin ((O .toNat i7)) ((O .len .i2 a_1))) <|
    grd (okIdx i7 ((O .len .i2 b_1))) <|
    grd (okKin ((O .toNat i7)) ((O .len .i2 b_1))) <|
    bif (O .not (O .and (O .eq ((O .get .i2 a_1 (O .toNat i7))).1 ((O .get .i2 b_1 (O .toNat i7))).1) (O .eq ((O .get .i2 a_1 (O .toNat i7))).2 ((O .get .i2 b_1 (O .toNat i7))).2))) then
      (some (Sum.inr (Sum.inl ())))
    else
      grd (okI .i64 ((O .add i7 1))) <|
      (some (Sum.inl (O .add i7 1)))
  else
    (some (Sum.inr (Sum.inr ())))
def m_ref13_Same (O : Ops) (a_1 : List (Int × Int)) (b_1 : List (Int × Int)) : Option (Bool) :=
  bif (O .not (O .eq (O .ofNat (O .len .i2 a_1)) (O .ofNat (O .len .i2 b_1)))) then
    (some false)
  else
    Option.bind (loop (m_ref13_Same_L1 O a_1 b_1) 0) fun e => match e with
    | .inl _ =>
      (some false)
    | .inr (_) =>
      (some true)
def m_ref13_Equal (O : Ops) (a_1 : Int) (b_1 : Int) (a_2 : List (Int × Int)) (b_2 : List (Int × Int)) : Option (Bool) :=
  Option.bind (
    bif (O .eq a_1 b_1) then
      Option.bind (m_ref13_Same O a_2 b_2) fun b22 =>
      (some b22)
    else
      (some false) : Option ((Bool))) fun x102 =>
  (some x102)
def m_law13_awake (O : Ops) : Option (Bool) :=
  Option.bind (m_periodic_Of O 14 ([(0, 2), (7, 9)])) fun (n10, l38, n11) =>
  Option.bind (m_law13_set O 2 ([(0, 1)])) fun n12 =>
  Option.bind (m_law13_set O 3 ([(0, 1)])) fun n13 =>
  Option.bind (m_periodic_Union O n12 n13 ([(0, 1)]) ([(0, 1)])) fun (n31, l70, n32) =>
  Option.bind (
    bif (O .eq n11 0) then
      Option.bind (m_law13_set O 7 ([(0, 2)])) fun n33 =>
      Option.bind (m_ref13_Equal O n10 n33 l38 ([(0, 2)])) fun b23 =>
      bif b23 then
        bif (O .eq n32 0) then
          Option.bind (m_law13_set O 6 ([(0, 1), (2, 5)])) fun n34 =>
          Option.bind (m_ref13_Equal O n31 n34 l70 ([(0, 1), (2, 5)])) fun b24 =>
          (some b24)
        else
          (some false)
      else
        (some false)
    else
      (some false) : Option ((Bool))) fun x106 =>
  (some x106)
def m_ref13_Span (O : Ops) (s_1 : Int) (s_2 : Int) : Option (Bool) :=
  Option.bind (
    bif (O .le (-4398046511104) s_1) then
      bif (O .le s_2 4398046511104) then
        (some (O .lt s_1 s_2))
      else
        (some false)
    else
      (some false) : Option ((Bool))) fun x113 =>
  (some x113)
def m_ref01_Div (O : Ops) (a_1 : Int) (b_1 : Int) : Option (Int × Int × Int) :=
  bif (O .eq b_1 0) then
    (some (0, 0, 10))
  else
    Option.bind (
      bif (O .eq a_1 (-9223372036854775808)) then
        (some (O .eq b_1 (-1)))
      else
        (some false) : Option ((Bool))) fun x115 =>
    bif x115 then
      (some (0, 0, 9))
    else
      grd (okNz b_1) <|
      grd (okI .i64 ((O .quo a_1 b_1))) <|
      Option.bind (
        bif (O .not (O .eq (O .rem a_1 b_1) 0)) then
          (some (O .not (O .beq (O .lt (O .rem a_1 b_1) 0) (O .lt b_1 0))))
        else
          (some false) : Option ((Bool))) fun x117 =>
      Option.bind (
        bif x117 then
          grd (okI .i64 ((O .sub (O .quo a_1 b_1) 1))) <|
          grd (okI .i64 ((O .add (O .rem a_1 b_1) b_1))) <|
          (some ((O .sub (O .quo a_1 b_1) 1), (O .add (O .rem a_1 b_1) b_1)))
        else
          (some ((O .quo a_1 b_1), (O .rem a_1 b_1))) : Option ((Int × Int))) fun (q5, r4) =>
      (some (q5, r4, 0))
def m_ref01_Mod (O : Ops) (a_1 : Int) (b_1 : Int) : Option (Int) :=
  Option.bind (m_ref01_Div O a_1 b_1) fun (_, n38, _) =>
  (some n38)
def m_ref13_ends_L1 (O : Ops) (a_1 : List (Int × Int)) : (Int × List Int) → Option ((Int × List Int) ⊕ (List Int)) := fun (i13, l84) =>
  bif (O .lt i13 (O .ofNat (O .len .i2 a_1))) then
    grd (okIdx i13 ((O .len .i2 a_1))) <|
    grd (okKin ((O .toNat i13)) ((O .len .i2 a_1))) <|
    grd (okRoom ((O .len .i1 l84))) <|
    grd (okRoom ((O .len .i1 [((O .get .i2 a_1 (O .toNat i13))).1, ((O .get .i2 a_1 (O .toNat i13))).2]))) <|
    grd (okI .i64 ((O .add i13 1))) <|
    (some (Sum.inl ((O .add i13 1), (O .app .i1 l84 [((O .get .i2 a_1 (O .toNat i13))).1, ((O .get .i2 a_1 (O .toNat i13))).2]))))
  else
    (some (Sum.inr l84))
def m_ref13_ends_L2 (O : Ops) (b_1 : List (Int × Int)) : (Int × List Int) → Option ((Int × List Int) ⊕ (List Int)) := fun (i15, l86) =>
  bif (O .lt i15 (O .ofNat (O .len .i2 b_1))) then
    grd (okIdx i15 ((O .len .i2 b_1))) <|
    grd (okKin ((O .toNat i15)) ((O .len .i2 b_1))) <|
    grd (okRoom ((O .len .i1 l86))) <|
    grd (okRoom ((O .len .i1 [((O .get .i2 b_1 (O .toNat i15))).1, ((O .get .i2 b_1 (O .toNat i15))).2]))) <|
    grd (okI .i64 ((O .add i15 1))) <|
    (some (Sum.inl ((O .add i15 1), (O .app .i1 l86 [((O .get .i2 b_1 (O .toNat i15))).1, ((O .get .i2 b_1 (O .toNat i15))).2]))))
  else
    (some (Sum.inr l86))
def m_ref13_ends_L3 (O : Ops) (l85 : List Int) (l87 : List Int) : (Int × Int × List Int) → Option ((Int × Int × List Int) ⊕ (List Int)) := fun (i19, k10, l90) =>
  Option.bind (
    bif (O .lt i19 (O .ofNat (O .len .i1 l85))) then
      (some true)
    else
      (some (O .lt k10 (O .ofNat (O .len .i1 l87)))) : Option ((Bool))) fun x124 =>
  bif x124 then
    Option.bind (
      bif (O .eq k10 (O .ofNat (O .len .i1 l87))) then
        (some true)
      else
        bif (O .lt i19 (O .ofNat (O .len .i1 l85))) then
          grd (okIdx i19 ((O .len .i1 l85))) <|
          grd (okKin ((O .toNat i19)) ((O .len .i1 l85))) <|
          grd (okIdx k10 ((O .len .i1 l87))) <|
          grd (okKin ((O .toNat k10)) ((O .len .i1 l87))) <|
          (some (O .le (O .get .i1 l85 (O .toNat i19)) (O .get .i1 l87 (O .toNat k10))))
        else
          (some false) : Option ((Bool))) fun x127 =>
    Option.bind (
      bif x127 then
        grd (okIdx i19 ((O .len .i1 l85))) <|
        grd (okKin ((O .toNat i19)) ((O .len .i1 l85))) <|
        grd (okRoom ((O .len .i1 l90))) <|
        grd (okRoom ((O .len .i1 [(O .get .i1 l85 (O .toNat i19))]))) <|
        grd (okI .i64 ((O .add i19 1))) <|
        (some ((O .add i19 1), k10, (O .app .i1 l90 [(O .get .i1 l85 (O .toNat i19))])))
      else
        grd (okIdx k10 ((O .len .i1 l87))) <|
        grd (okKin ((O .toNat k10)) ((O .len .i1 l87))) <|
        grd (okRoom ((O .len .i1 l90))) <|
        grd (okRoom ((O .len .i1 [(O .get .i1 l87 (O .toNat k10))]))) <|
        grd (okI .i64 ((O .add k10 1))) <|
        (some (i19, (O .add k10 1), (O .app .i1 l90 [(O .get .i1 l87 (O .toNat k10))]))) : Option ((Int × Int × List Int))) fun (i21, k12, l92) =>
    (some (Sum.inl (i21, k12, l92)))
  else
    (some (Sum.inr l90))
def m_ref13_ends (O : Ops) (a_1 : List (Int × Int)) (b_1 : List (Int × Int)) : Option (List Int) :=
  Option.bind (loop (m_ref13_ends_L1 O a_1) (0, ([] : List Int))) fun l85 =>
  Option.bind (loop (m_ref13_ends_L2 O b_1) (0, ([] : List Int))) fun l87 =>
  Option.bind (loop (m_ref13_ends_L3 O l85 l87) (0, 0, ([] : List Int))) fun l93 =>
  (some l93)
def m_ref13_rule (O : Ops) (kind_1 : Int) (a_1 : Bool) (b_1 : Bool) : Option (Bool) :=
  bif (O .eq kind_1 0) then
    Option.bind (
      bif a_1 then
        (some true)
      else
        (some b_1) : Option ((Bool))) fun x135 =>
    (some x135)
  else
    bif (O .eq kind_1 1) then
      Option.bind (
        bif a_1 then
          (some b_1)
        else
          (some false) : Option ((Bool))) fun x137 =>
      (some x137)
    else
      Option.bind (
        bif a_1 then
          (some (O .not b_1))
        else
          (some false) : Option ((Bool))) fun x139 =>
      (some x139)
def m_ref13_Lists_L1 (O : Ops) (a_1 : List (Int × Int)) (c2 : Int) (l94 : List Int) : (Int) → Option ((Int) ⊕ (Int)) := fun i27 =>
  Option.bind (
    bif (O .lt i27 (O .ofNat (O .len .i2 a_1))) then
      grd (okIdx i27 ((O .len .i2 a_1))) <|
      grd (okKin ((O .toNat i27)) ((O .len .i2 a_1))) <|
      (some (O .le ((O .get .i2 a_1 (O .toNat i27))).2 (O .get .i1 l94 (O .toNat c2))))
    else
      (some false) : Option ((Bool))) fun x147 =>
  bif x147 then
    grd (okI .i64 ((O .add i27 1))) <|
    (some (Sum.inl (O .add i27 1)))
  else
    (some (Sum.inr i27))
def m_ref13_Lists_L2 (O : Ops) (b_1 : List (Int × Int)) (c2 : Int) (l94 : List Int) : (Int) → Option ((Int) ⊕ (Int)) := fun k17 =>
  Option.bind (
    bif (O .lt k17 (O .ofNat (O .len .i2 b_1))) then
      grd (okIdx k17 ((O .len .i2 b_1))) <|
      grd (okKin ((O .toNat k17)) ((O .len .i2 b_1))) <|
      (some (O .le ((O .get .i2 b_1 (O .toNat k17))).2 (O .get .i1 l94 (O .toNat c2))))
    else
      (some false) : Option ((Bool))) fun x149 =>
  bif x149 then
    grd (okI .i64 ((O .add k17 1))) <|
    (some (Sum.inl (O .add k17 1)))
  else
    (some (Sum.inr k17))
def m_ref13_Lists_L3 (O : Ops) (a_1 : List (Int × Int)) (b_1 : List (Int × Int)) (kind_1 : Int) (l94 : List Int) : (Int × Int × Int × List (Int × Int)) → Option ((Int × Int × Int × List (Int × Int)) ⊕ (List (Int × Int))) := fun (i26, k16, c2, l97) =>
  grd (okI .i64 ((O .add c2 1))) <|
  bif (O .lt (O .add c2 1) (O .ofNat (O .len .i1 l94))) then
    grd (okIdx c2 ((O .len .i1 l94))) <|
    grd (okKin ((O .toNat c2)) ((O .len .i1 l94))) <|
    grd (okIdx ((O .add c2 1)) ((O .len .i1 l94))) <|
    grd (okKin ((O .toNat (O .add c2 1))) ((O .len .i1 l94))) <|
    bif (O .eq (O .get .i1 l94 (O .toNat c2)) (O .get .i1 l94 (O .toNat (O .add c2 1)))) then
      (some (Sum.inl (i26, k16, (O .add c2 1), l97)))
    else
      Option.bind (loop (m_ref13_Lists_L1 O a_1 c2 l94) i26) fun i28 =>
      Option.bind (loop (m_ref13_Lists_L2 O b_1 c2 l94) k16) fun k18 =>
      Option.bind (
        bif (O .lt i28 (O .ofNat (O .len .i2 a_1))) then
          bif (O .lt k18 (O .ofNat (O .len .i2 b_1))) then
            grd (okIdx i28 ((O .len .i2 a_1))) <|
            grd (okKin ((O .toNat i28)) ((O .len .i2 a_1))) <|
            grd (okIdx k18 ((O .len .i2 b_1))) <|
            grd (okKin ((O .toNat k18)) ((O .len .i2 b_1))) <|
            Option.bind (m_ref13_rule O kind_1 ((O .le ((O .get .i2 a_1 (O .toNat i28))).1 (O .get .i1 l94 (O .toNat c2)))) ((O .le ((O .get .i2 b_1 (O .toNat k18))).1 (O .get .i1 l94 (O .toNat c2))))) fun b32 =>
            (some (O .not b32))
          else
            grd (okIdx i28 ((O .len .i2 a_1))) <|
            grd (okKin ((O .toNat i28)) ((O .len .i2 a_1))) <|
            Option.bind (m_ref13_rule O kind_1 ((O .le ((O .get .i2 a_1 (O .toNat i28))).1 (O .get .i1 l94 (O .toNat c2)))) false) fun b33 =>
            (some (O .not b33))
        else
          bif (O .lt k18 (O .ofNat (O .len .i2 b_1))) then
            grd (okIdx k18 ((O .len .i2 b_1))) <|
            grd (okKin ((O .toNat k18)) ((O .len .i2 b_1))) <|
            Option.bind (m_ref13_rule O kind_1 false ((O .le ((O .get .i2 b_1 (O .toNat k18))).1 (O .get .i1 l94 (O .toNat c2))))) fun b34 =>
            (some (O .not b34))
          else
            Option.bind (m_ref13_rule O kind_1 false false) fun b35 =>
            (some (O .not b35)) : Option ((Bool))) fun x153 =>
      bif x153 then
        (some (Sum.inl (i28, k18, (O .add c2 1), l97)))
      else
        Option.bind (
          bif (O .lt 0 (O .ofNat (O .len .i2 l97))) then
            grd (okI .i64 ((O .sub (O .ofNat (O .len .i2 l97)) 1))) <|
            grd (okIdx ((O .sub (O .ofNat (O .len .i2 l97)) 1)) ((O .len .i2 l97))) <|
            grd (okKin ((O .toNat (O .sub (O .ofNat (O .len .i2 l97)) 1))) ((O .len .i2 l97))) <|
            (some (O .eq ((O .get .i2 l97 (O .toNat (O .sub (O .ofNat (O .len .i2 l97)) 1)))).2 (O .get .i1 l94 (O .toNat c2))))
          else
            (some false) : Option ((Bool))) fun x155 =>
        Option.bind (
          bif x155 then
            grd (okI .i64 ((O .sub (O .ofNat (O .len .i2 l97)) 1))) <|
            grd (okIdx ((O .sub (O .ofNat (O .len .i2 l97)) 1)) ((O .len .i2 l97))) <|
            grd (okKin ((O .toNat (O .sub (O .ofNat (O .len .i2 l97)) 1))) ((O .len .i2 l97))) <|
            (some (O .put .i2 l97 (O .toNat (O .sub (O .ofNat (O .len .i2 l97)) 1)) (((O .get .i2 l97 (O .toNat (O .sub (O .ofNat (O .len .i2 l97)) 1)))).1, (O .get .i1 l94 (O .toNat (O .add c2 1))))))
          else
            grd (okRoom ((O .len .i2 l97))) <|
            grd (okRoom ((O .len .i2 [((O .get .i1 l94 (O .toNat c2)), (O .get .i1 l94 (O .toNat (O .add c2 1))))]))) <|
            (some (O .app .i2 l97 [((O .get .i1 l94 (O .toNat c2)), (O .get .i1 l94 (O .toNat (O .add c2 1))))])) : Option ((List (Int × Int)))) fun l99 =>
        (some (Sum.inl (i28, k18, (O .add c2 1), l99)))
  else
    (some (Sum.inr l97))
def m_ref13_Lists (O : Ops) (kind_1 : Int) (a_1 : List (Int × Int)) (b_1 : List (Int × Int)) : Option (List (Int × Int)) :=
  Option.bind (m_ref13_ends O a_1 b_1) fun l94 =>
  Option.bind (loop (m_ref13_Lists_L3 O a_1 b_1 kind_1 l94) (0, 0, 0, ([] : List (Int × Int)))) fun l100 =>
  (some l100)
def m_ref13_rotated_L1 (O : Ops) (l_1 : List (Int × Int)) (n41 : Int) (period_1 : Int) : (Int × List (Int × Int) × List (Int × Int)) → Option ((Int × List (Int × Int) × List (Int × Int)) ⊕ (List (Int × Int) × List (Int × Int))) := fun (i11, l76, l77) =>
  bif (O .lt i11 (O .ofNat (O .len .i2 l_1))) then
    grd (okIdx i11 ((O .len .i2 l_1))) <|
    grd (okKin ((O .toNat i11)) ((O .len .i2 l_1))) <|
    grd (okI .i64 ((O .add ((O .get .i2 l_1 (O .toNat i11))).1 n41))) <|
    grd (okI .i64 ((O .add ((O .get .i2 l_1 (O .toNat i11))).2 n41))) <|
    Option.bind (
      bif (O .lt (O .add ((O .get .i2 l_1 (O .toNat i11))).1 n41) period_1) then
        grd (okRoom ((O .len .i2 l77))) <|
        grd (okRoom ((O .len .i2 [((O .add ((O .get .i2 l_1 (O .toNat i11))).1 n41), (O .min (O .add ((O .get .i2 l_1 (O .toNat i11))).2 n41) period_1))]))) <|
        (some (O .app .i2 l77 [((O .add ((O .get .i2 l_1 (O .toNat i11))).1 n41), (O .min (O .add ((O .get .i2 l_1 (O .toNat i11))).2 n41) period_1))]))
      else
        (some l77) : Option ((List (Int × Int)))) fun l79 =>
    Option.bind (
      bif (O .lt period_1 (O .add ((O .get .i2 l_1 (O .toNat i11))).2 n41)) then
        grd (okI .i64 ((O .sub (O .max (O .add ((O .get .i2 l_1 (O .toNat i11))).1 n41) period_1) period_1))) <|
        grd (okI .i64 ((O .sub (O .add ((O .get .i2 l_1 (O .toNat i11))).2 n41) period_1))) <|
        grd (okRoom ((O .len .i2 l76))) <|
        grd (okRoom ((O .len .i2 [((O .sub (O .max (O .add ((O .get .i2 l_1 (O .toNat i11))).1 n41) period_1) period_1), (O .sub (O .add ((O .get .i2 l_1 (O .toNat i11))).2 n41) period_1))]))) <|
        (some (O .app .i2 l76 [((O .sub (O .max (O .add ((O .get .i2 l_1 (O .toNat i11))).1 n41) period_1) period_1), (O .sub (O .add ((O .get .i2 l_1 (O .toNat i11))).2 n41) period_1))]))
      else
        (some l76) : Option ((List (Int × Int)))) fun l81 =>
    grd (okI .i64 ((O .add i11 1))) <|
    (some (Sum.inl ((O .add i11 1), l81, l79)))
  else
    (some (Sum.inr (l76, l77)))
def m_ref13_rotated (O : Ops) (period_1 : Int) (n_1 : Int) (l_1 : List (Int × Int)) : Option (((Unit) ⊕ (List (Int × Int)))) :=
  Option.bind (m_ref01_Mod O n_1 period_1) fun n41 =>
  bif (O .eq n41 0) then
    (some (Sum.inl ()))
  else
    Option.bind (loop (m_ref13_rotated_L1 O l_1 n41 period_1) (0, ([] : List (Int × Int)), ([] : List (Int × Int)))) fun (l82, l83) =>
    Option.bind (m_ref13_Lists O 0 l82 l83) fun l101 =>
    (some (Sum.inr l101))
def m_ref13_Same_2_L1 (O : Ops) (a_1 : List (Int × Int)) : (Int) → Option ((Int) ⊕ ((Unit) ⊕ (Unit))) := fun i30 =>
  bif (O .lt i30 (O .ofNat (O .len .i2 a_1))) then
    grd (okIdx i30 ((O .len .i2 a_1))) <|
    grd (okKin ((O .toNat i30)) ((O .len .i2 a_1))) <|
    bif (O .not (O .and (O .eq ((O .get .i2 a_1 (O .toNat i30))).1 ((O .get .i2 a_1 (O .toNat i30))).1) (O .eq ((O .get .i2 a_1 (O .toNat i30))).2 ((O .get .i2 a_1 (O .toNat i30))).2))) then
      (some (Sum.inr (Sum.inl ())))
    else
      grd (okI .i64 ((O .add i30 1))) <|
      (some (Sum.inl (O .add i30 1)))
  else
    (some (Sum.inr (Sum.inr ())))
def m_ref13_Same_2 (O : Ops) (a_1 : List (Int × Int)) : Option (Bool) :=
  bif (O .not (O .eq (O .ofNat (O .len .i2 a_1)) (O .ofNat (O .len .i2 a_1)))) then
    (some false)
  else
    Option.bind (loop (m_ref13_Same_2_L1 O a_1) 0) fun e => match e with
    | .inl _ =>
      (some false)
    | .inr (_) =>
      (some true)
def m_ref13_cut_L1 (O : Ops) (l_1 : List (Int × Int)) (period_1 : Int) : (Int × List (Int × Int)) → Option ((Int × List (Int × Int)) ⊕ (List (Int × Int))) := fun (i32, l119) =>
  bif (O .lt i32 (O .ofNat (O .len .i2 l_1))) then
    grd (okIdx i32 ((O .len .i2 l_1))) <|
    grd (okKin ((O .toNat i32)) ((O .len .i2 l_1))) <|
    Option.bind (
      bif (O .lt ((O .get .i2 l_1 (O .toNat i32))).1 period_1) then
        grd (okRoom ((O .len .i2 l119))) <|
        grd (okRoom ((O .len .i2 [(((O .get .i2 l_1 (O .toNat i32))).1, (O .min ((O .get .i2 l_1 (O .toNat i32))).2 period_1))]))) <|
        (some (O .app .i2 l119 [(((O .get .i2 l_1 (O .toNat i32))).1, (O .min ((O .get .i2 l_1 (O .toNat i32))).2 period_1))]))
      else
        (some l119) : Option ((List (Int × Int)))) fun l121 =>
    grd (okI .i64 ((O .add i32 1))) <|
    (some (Sum.inl ((O .add i32 1), l121)))
  else
    (some (Sum.inr l119))
def m_ref13_cut (O : Ops) (period_1 : Int) (l_1 : List (Int × Int)) : Option (Int × List (Int × Int)) :=
  Option.bind (loop (m_ref13_cut_L1 O l_1 period_1) (0, ([] : List (Int × Int)))) fun l122 =>
  (some (period_1, l122))
def m_ref13_Least_L1 (O : Ops) (l_1 : List (Int × Int)) (period_1 : Int) : (Int) → Option ((Int) ⊕ ((Int × List (Int × Int)) ⊕ (Unit))) := fun q6 =>
  grd (okI .i64 ((O .mul q6 q6))) <|
  bif (O .le (O .mul q6 q6) period_1) then
    Option.bind (
      bif (O .eq (O .rem period_1 q6) 0) then
        grd (okNz q6) <|
        Option.bind (m_ref13_rotated O period_1 q6 l_1) fun e => match e with
        | .inl _ =>
          Option.bind (m_ref13_Same_2 O l_1) fun b36 =>
          (some b36)
        | .inr (l116) =>
          Option.bind (m_ref13_Same O l116 l_1) fun b37 =>
          (some b37)
      else
        grd (okNz q6) <|
        (some false) : Option ((Bool))) fun x158 =>
    bif x158 then
      Option.bind (m_ref13_cut O q6 l_1) fun (n43, l123) =>
      (some (Sum.inr (Sum.inl (n43, l123))))
    else
      grd (okI .i64 ((O .add q6 1))) <|
      (some (Sum.inl (O .add q6 1)))
  else
    (some (Sum.inr (Sum.inr ())))
def m_ref13_Least_L2 (O : Ops) (l_1 : List (Int × Int)) (period_1 : Int) : (Int × Int) → Option ((Int × Int) ⊕ (Int)) := fun (best6, q7) =>
  grd (okI .i64 ((O .mul q7 q7))) <|
  bif (O .le (O .mul q7 q7) period_1) then
    Option.bind (
      bif (O .eq (O .rem period_1 q7) 0) then
        grd (okNz q7) <|
        grd (okI .i64 ((O .quo period_1 q7))) <|
        Option.bind (m_ref13_rotated O period_1 ((O .quo period_1 q7)) l_1) fun e => match e with
        | .inl _ =>
          Option.bind (m_ref13_Same_2 O l_1) fun b38 =>
          (some b38)
        | .inr (l125) =>
          Option.bind (m_ref13_Same O l125 l_1) fun b39 =>
          (some b39)
      else
        grd (okNz q7) <|
        (some false) : Option ((Bool))) fun x162 =>
    Option.bind (
      bif x162 then
        grd (okI .i64 ((O .quo period_1 q7))) <|
        (some (O .quo period_1 q7))
      else
        (some best6) : Option ((Int))) fun best8 =>
    grd (okI .i64 ((O .add q7 1))) <|
    (some (Sum.inl (best8, (O .add q7 1))))
  else
    (some (Sum.inr best6))
def m_ref13_Least (O : Ops) (period_1 : Int) (l_1 : List (Int × Int)) : Option (Int × List (Int × Int)) :=
  Option.bind (loop (m_ref13_Least_L1 O l_1 period_1) 1) fun e => match e with
  | .inl (x159, l124) =>
    (some (x159, l124))
  | .inr (_) =>
    Option.bind (loop (m_ref13_Least_L2 O l_1 period_1) (period_1, 1)) fun best9 =>
    Option.bind (m_ref13_cut O best9 l_1) fun (n44, l126) =>
    (some (n44, l126))
def m_ref13_limited (O : Ops) (p_1 : Int) (p_2 : List (Int × Int)) : Option (((Int × Int) ⊕ (Int × Int))) :=
  bif (O .lt 2000 (O .ofNat (O .len .i2 p_2))) then
    (some (Sum.inl (0, 5)))
  else
    (some (Sum.inr (p_1, 0)))
def m_ref13_Of_L1 (O : Ops) (l_1 : List (Int × Int)) : (Int) → Option ((Int) ⊕ ((Unit) ⊕ (Unit))) := fun i8 =>
  bif (O .lt i8 (O .ofNat (O .len .i2 l_1))) then
    grd (okIdx i8 ((O .len .i2 l_1))) <|
    grd (okKin ((O .toNat i8)) ((O .len .i2 l_1))) <|
    Option.bind (m_ref13_Span O (((O .get .i2 l_1 (O .toNat i8))).1) (((O .get .i2 l_1 (O .toNat i8))).2)) fun b27 =>
    bif (O .not b27) then
      (some (Sum.inr (Sum.inl ())))
    else
      grd (okI .i64 ((O .add i8 1))) <|
      (some (Sum.inl (O .add i8 1)))
  else
    (some (Sum.inr (Sum.inr ())))
def m_ref13_Of_L2 (O : Ops) (l_1 : List (Int × Int)) (period_1 : Int) : (Int × List (Int × Int)) → Option ((Int × List (Int × Int)) ⊕ (List (Int × Int))) := fun (i29, l108) =>
  bif (O .lt i29 (O .ofNat (O .len .i2 l_1))) then
    grd (okIdx i29 ((O .len .i2 l_1))) <|
    grd (okKin ((O .toNat i29)) ((O .len .i2 l_1))) <|
    grd (okI .i64 ((O .sub ((O .get .i2 l_1 (O .toNat i29))).2 ((O .get .i2 l_1 (O .toNat i29))).1))) <|
    Option.bind (
      bif (O .lt (O .sub ((O .get .i2 l_1 (O .toNat i29))).2 ((O .get .i2 l_1 (O .toNat i29))).1) period_1) then
        Option.bind (m_ref01_Mod O (((O .get .i2 l_1 (O .toNat i29))).1) period_1) fun n42 =>
        Option.bind (
          Option.bind (m_ref13_rotated O period_1 n42 ([(0, (O .sub ((O .get .i2 l_1 (O .toNat i29))).2 ((O .get .i2 l_1 (O .toNat i29))).1))])) fun e => match e with
          | .inl _ =>
            (some [(0, (O .sub ((O .get .i2 l_1 (O .toNat i29))).2 ((O .get .i2 l_1 (O .toNat i29))).1))])
          | .inr (l109) =>
            (some l109) : Option ((List (Int × Int)))) fun l111 =>
        (some l111)
      else
        (some [(0, period_1)]) : Option ((List (Int × Int)))) fun l113 =>
    Option.bind (m_ref13_Lists O 0 l108 l113) fun l114 =>
    grd (okI .i64 ((O .add i29 1))) <|
    (some (Sum.inl ((O .add i29 1), l114)))
  else
    (some (Sum.inr l108))
def m_ref13_Of (O : Ops) (period_1 : Int) (l_1 : List (Int × Int)) : Option (Int × List (Int × Int) × Int) :=
  Option.bind (
    bif (O .lt period_1 1) then
      (some true)
    else
      (some (O .lt 12622780800 period_1)) : Option ((Bool))) fun x110 =>
  bif x110 then
    (some (0, ([] : List (Int × Int)), 1))
  else
    Option.bind (loop (m_ref13_Of_L1 O l_1) 0) fun e => match e with
    | .inl _ =>
      (some (0, ([] : List (Int × Int)), 1))
    | .inr (_) =>
      bif (O .lt 2000 (O .ofNat (O .len .i2 l_1))) then
        (some (0, ([] : List (Int × Int)), 5))
      else
        Option.bind (loop (m_ref13_Of_L2 O l_1 period_1) (0, ([] : List (Int × Int)))) fun l115 =>
        Option.bind (
          Option.bind (m_ref13_Least O period_1 l115) fun (n45, l127) =>
          Option.bind (m_ref13_limited O n45 l127) fun e => match e with
          | .inl (n46, n47) =>
            (some (Sum.inl (n47, n46)))
          | .inr ((n48, n49)) =>
            (some (Sum.inr (n49, n48, l127))) : Option (((Int × Int) ⊕ (Int × Int × List (Int × Int))))) fun e => match e with
        | .inl (x165, x166) =>
          (some (x166, ([] : List (Int × Int)), x165))
        | .inr ((x167, x168, l128)) =>
          (some (x168, l128, x167))
def m_slices_Equal_L1 (O : Ops) (s1_1 : List (Int × Int)) (s2_1 : List (Int × Int)) : (Int) → Option ((Int) ⊕ ((Unit) ⊕ (Unit))) := fun x169 =>
  bif (O .lt x169 (O .ofNat (O .len .i2 s1_1))) then
    grd (okIdx x169 ((O .len .i2 s1_1))) <|
    grd (okKin ((O .toNat x169)) ((O .len .i2 s1_1))) <|
    grd (okIdx x169 ((O .len .i2 s2_1))) <|
    grd (okKin ((O .toNat x169)) ((O .len .i2 s2_1))) <|
    bif (O .not (O .and (O .eq ((O .get .i2 s1_1 (O .toNat x169))).1 ((O .get .i2 s2_1 (O .toNat x169))).1) (O .eq ((O .get .i2 s1_1 (O .toNat x169))).2 ((O .get .i2 s2_1 (O .toNat x169))).2))) then
      (some (Sum.inr (Sum.inl ())))
    else
      grd (okI .i64 ((O .add x169 1))) <|
      (some (Sum.inl (O .add x169 1)))
  else
    (some (Sum.inr (Sum.inr ())))
def m_slices_Equal (O : Ops) (s1_1 : List (Int × Int)) (s2_1 : List (Int × Int)) : Option (Bool) :=
  bif (O .not (O .eq (O .ofNat (O .len .i2 s1_1)) (O .ofNat (O .len .i2 s2_1)))) then
    (some false)
  else
    Option.bind (loop (m_slices_Equal_L1 O s1_1 s2_1) 0) fun e => match e with
    | .inl _ =>
      (some false)
    | .inr (_) =>
      (some true)
def m_law13_PeriodicOf (O : Ops) (period_1 : Int) (l_1 : List (Int × Int)) : Option (Bool) :=
  Option.bind (
    Option.bind (m_law13_awake O) fun b25 =>
    bif (O .not b25) then
      (some true)
    else
      (some (O .lt 40 (O .ofNat (O .len .i2 l_1)))) : Option ((Bool))) fun x108 =>
  bif x108 then
    Option.bind (m_law13_awake O) fun b26 =>
    (some b26)
  else
    Option.bind (m_periodic_Of O period_1 l_1) fun (n35, l71, n36) =>
    Option.bind (m_ref13_Of O period_1 l_1) fun (n50, l129, n51) =>
    Option.bind (
      bif (O .eq n36 n51) then
        bif (O .eq n35 n50) then
          Option.bind (m_slices_Equal O l71 l129) fun b40 =>
          (some b40)
        else
          (some false)
      else
        (some false) : Option ((Bool))) fun x172 =>
    (some x172)
def m_law13_long (O : Ops) (_p_1 : Int) (p_2 : List (Int × Int)) : Option (Bool) :=
  (some (O .lt 40 (O .ofNat (O .len .i2 p_2))))
def m_ref13_Runs_L1 (O : Ops) (l_1 : List (Int × Int)) : (Int) → Option ((Int) ⊕ ((Unit) ⊕ (Unit))) := fun i33 =>
  bif (O .lt i33 (O .ofNat (O .len .i2 l_1))) then
    Option.bind (
      grd (okIdx i33 ((O .len .i2 l_1))) <|
      grd (okKin ((O .toNat i33)) ((O .len .i2 l_1))) <|
      Option.bind (m_ref13_Span O (((O .get .i2 l_1 (O .toNat i33))).1) (((O .get .i2 l_1 (O .toNat i33))).2)) fun b45 =>
      bif (O .not b45) then
        (some true)
      else
        bif (O .lt 0 i33) then
          grd (okI .i64 ((O .sub i33 1))) <|
          grd (okIdx ((O .sub i33 1)) ((O .len .i2 l_1))) <|
          grd (okKin ((O .toNat (O .sub i33 1))) ((O .len .i2 l_1))) <|
          (some (O .le ((O .get .i2 l_1 (O .toNat i33))).1 ((O .get .i2 l_1 (O .toNat (O .sub i33 1)))).2))
        else
          (some false) : Option ((Bool))) fun x177 =>
    bif x177 then
      (some (Sum.inr (Sum.inl ())))
    else
      grd (okI .i64 ((O .add i33 1))) <|
      (some (Sum.inl (O .add i33 1)))
  else
    (some (Sum.inr (Sum.inr ())))
def m_ref13_Runs (O : Ops) (l_1 : List (Int × Int)) : Option (Bool) :=
  Option.bind (loop (m_ref13_Runs_L1 O l_1) 0) fun e => match e with
  | .inl _ =>
    (some false)
  | .inr (_) =>
    (some true)
def m_ref13_Valid (O : Ops) (p_1 : Int) (p_2 : List (Int × Int)) : Option (Bool) :=
  Option.bind (
    bif (O .lt p_1 1) then
      (some true)
    else
      bif (O .lt 12622780800 p_1) then
        (some true)
      else
        bif (O .lt 2000 (O .ofNat (O .len .i2 p_2))) then
          (some true)
        else
          Option.bind (m_ref13_Runs O p_2) fun b46 =>
          (some (O .not b46)) : Option ((Bool))) fun x179 =>
  bif x179 then
    (some false)
  else
    Option.bind (
      bif (O .lt 0 (O .ofNat (O .len .i2 p_2))) then
        bif (O .lt ((O .get .i2 p_2 (O .toNat 0))).1 0) then
          grd (okIdx 0 ((O .len .i2 p_2))) <|
          grd (okKin ((O .toNat 0)) ((O .len .i2 p_2))) <|
          (some true)
        else
          grd (okIdx 0 ((O .len .i2 p_2))) <|
          grd (okKin ((O .toNat 0)) ((O .len .i2 p_2))) <|
          grd (okI .i64 ((O .sub (O .ofNat (O .len .i2 p_2)) 1))) <|
          grd (okIdx ((O .sub (O .ofNat (O .len .i2 p_2)) 1)) ((O .len .i2 p_2))) <|
          grd (okKin ((O .toNat (O .sub (O .ofNat (O .len .i2 p_2)) 1))) ((O .len .i2 p_2))) <|
          (some (O .lt p_1 ((O .get .i2 p_2 (O .toNat (O .sub (O .ofNat (O .len .i2 p_2)) 1)))).2))
      else
        (some false) : Option ((Bool))) fun x182 =>
    bif x182 then
      (some false)
    else
      Option.bind (m_ref13_Least O p_1 p_2) fun (n52, _) =>
      (some (O .eq n52 p_1))
def m_periodic_has_1 (O : Ops) (_s_1 : Int) (s_2 : Int) (r_1 : Int) : Option (Int) :=
  bif (O .le s_2 r_1) then
    (some (-1))
  else
    (some 1)
def m_slices_BinarySearchFunc_L1 (O : Ops) (target_1 : Int) (x_1 : List (Int × Int)) : (Int × Int) → Option ((Int × Int) ⊕ (Int)) := fun (i34, j1) =>
  bif (O .lt i34 j1) then
    grd (okI .i64 ((O .add i34 j1))) <|
    grd (okI .u64 ((O .add i34 j1))) <|
    grd (okIdx 1 65) <|
    grd (okI .i64 ((O .shr (O .add i34 j1) 1))) <|
    grd (okIdx ((O .shr (O .add i34 j1) 1)) ((O .len .i2 x_1))) <|
    grd (okKin ((O .toNat (O .shr (O .add i34 j1) 1))) ((O .len .i2 x_1))) <|
    Option.bind (m_periodic_has_1 O (((O .get .i2 x_1 (O .toNat (O .shr (O .add i34 j1) 1)))).1) (((O .get .i2 x_1 (O .toNat (O .shr (O .add i34 j1) 1)))).2) target_1) fun n54 =>
    Option.bind (
      bif (O .lt n54 0) then
        grd (okI .i64 ((O .add (O .shr (O .add i34 j1) 1) 1))) <|
        (some ((O .add (O .shr (O .add i34 j1) 1) 1), j1))
      else
        (some (i34, (O .shr (O .add i34 j1) 1))) : Option ((Int × Int))) fun (i36, j3) =>
    (some (Sum.inl (i36, j3)))
  else
    (some (Sum.inr i34))
def m_slices_BinarySearchFunc (O : Ops) (target_1 : Int) (x_1 : List (Int × Int)) : Option (Int × Bool) :=
  Option.bind (loop (m_slices_BinarySearchFunc_L1 O target_1 x_1) (0, (O .ofNat (O .len .i2 x_1)))) fun i37 =>
  Option.bind (
    bif (O .lt i37 (O .ofNat (O .len .i2 x_1))) then
      grd (okIdx i37 ((O .len .i2 x_1))) <|
      grd (okKin ((O .toNat i37)) ((O .len .i2 x_1))) <|
      Option.bind (m_periodic_has_1 O (((O .get .i2 x_1 (O .toNat i37))).1) (((O .get .i2 x_1 (O .toNat i37))).2) target_1) fun n55 =>
      (some (O .eq n55 0))
    else
      (some false) : Option ((Bool))) fun x184 =>
  (some (i37, x184))
def m_periodic_has (O : Ops) (p_1 : Int) (x_1 : Int) (p_2 : List (Int × Int)) : Option (Bool) :=
  Option.bind (m_integer_Mod O x_1 p_1) fun n53 =>
  Option.bind (m_slices_BinarySearchFunc O n53 p_2) fun (n56, _) =>
  Option.bind (
    bif (O .lt n56 (O .ofNat (O .len .i2 p_2))) then
      grd (okIdx n56 ((O .len .i2 p_2))) <|
      grd (okKin ((O .toNat n56)) ((O .len .i2 p_2))) <|
      (some (O .le ((O .get .i2 p_2 (O .toNat n56))).1 n53))
    else
      (some false) : Option ((Bool))) fun x186 =>
  (some x186)
def m_periodic_Has (O : Ops) (p_1 : Int) (x_1 : Int) (p_2 : List (Int × Int)) : Option (Bool) :=
  Option.bind (
    Option.bind (m_periodic_Valid O p_1 p_2) fun b50 =>
    bif b50 then
      Option.bind (m_periodic_has O p_1 x_1 p_2) fun b52 =>
      (some b52)
    else
      (some false) : Option ((Bool))) fun x188 =>
  (some x188)
def m_ref13_Has_L1 (O : Ops) (n57 : Int) (p_2 : List (Int × Int)) : (Int) → Option ((Int) ⊕ ((Unit) ⊕ (Unit))) := fun i38 =>
  bif (O .lt i38 (O .ofNat (O .len .i2 p_2))) then
    Option.bind (
      bif (O .le ((O .get .i2 p_2 (O .toNat i38))).1 n57) then
        grd (okIdx i38 ((O .len .i2 p_2))) <|
        grd (okKin ((O .toNat i38)) ((O .len .i2 p_2))) <|
        (some (O .lt n57 ((O .get .i2 p_2 (O .toNat i38))).2))
      else
        grd (okIdx i38 ((O .len .i2 p_2))) <|
        grd (okKin ((O .toNat i38)) ((O .len .i2 p_2))) <|
        (some false) : Option ((Bool))) fun x190 =>
    bif x190 then
      (some (Sum.inr (Sum.inl ())))
    else
      grd (okI .i64 ((O .add i38 1))) <|
      (some (Sum.inl (O .add i38 1)))
  else
    (some (Sum.inr (Sum.inr ())))
def m_ref13_Has (O : Ops) (p_1 : Int) (x_1 : Int) (p_2 : List (Int × Int)) : Option (Bool) :=
  Option.bind (m_ref01_Mod O x_1 p_1) fun n57 =>
  Option.bind (loop (m_ref13_Has_L1 O n57 p_2) 0) fun e => match e with
  | .inl _ =>
    (some true)
  | .inr (_) =>
    (some false)
def m_runs_Equal (O : Ops) (a_1 : List (Int × Int)) (b_1 : List (Int × Int)) : Option (Bool) :=
  Option.bind (
    Option.bind (m_runs_Valid O a_1) fun b57 =>
    bif b57 then
      Option.bind (m_runs_Valid O b_1) fun b58 =>
      bif b58 then
        Option.bind (m_slices_Equal O a_1 b_1) fun b59 =>
        (some b59)
      else
        (some false)
    else
      (some false) : Option ((Bool))) fun x193 =>
  (some x193)
def m_periodic_Equal (O : Ops) (a_1 : Int) (b_1 : Int) (a_2 : List (Int × Int)) (b_2 : List (Int × Int)) : Option (Bool) :=
  Option.bind (
    Option.bind (m_periodic_Valid O a_1 a_2) fun b55 =>
    bif b55 then
      Option.bind (m_periodic_Valid O b_1 b_2) fun b56 =>
      bif b56 then
        bif (O .eq a_1 b_1) then
          Option.bind (m_runs_Equal O a_2 b_2) fun b60 =>
          (some b60)
        else
          (some false)
      else
        (some false)
    else
      (some false) : Option ((Bool))) fun x197 =>
  (some x197)
def m_law13_PeriodicValid (O : Ops) (p_1 : Int) (q_1 : Int) (x_1 : Int) (p_2 : List (Int × Int)) (q_2 : List (Int × Int)) : Option (Bool) :=
  Option.bind (
    Option.bind (m_law13_awake O) fun b41 =>
    bif (O .not b41) then
      (some true)
    else
      Option.bind (m_law13_long O p_1 p_2) fun b42 =>
      bif b42 then
        (some true)
      else
        Option.bind (m_law13_long O q_1 q_2) fun b43 =>
        (some b43) : Option ((Bool))) fun x174 =>
  bif x174 then
    Option.bind (m_law13_awake O) fun b44 =>
    (some b44)
  else
    Option.bind (m_ref13_Valid O p_1 p_2) fun b47 =>
    Option.bind (m_ref13_Valid O q_1 q_2) fun b48 =>
    Option.bind (
      Option.bind (m_periodic_Valid O p_1 p_2) fun b49 =>
      bif (O .beq b49 b47) then
        Option.bind (m_periodic_Has O p_1 x_1 p_2) fun b53 =>
        bif b47 then
          Option.bind (m_ref13_Has O p_1 x_1 p_2) fun b54 =>
          bif (O .beq b53 b54) then
            Option.bind (m_periodic_Equal O p_1 q_1 p_2 q_2) fun b61 =>
            bif b48 then
              Option.bind (m_ref13_Equal O p_1 q_1 p_2 q_2) fun b62 =>
              (some (O .beq b61 b62))
            else
              (some (O .beq b61 false))
          else
            (some false)
        else
          bif (O .beq b53 false) then
            Option.bind (m_periodic_Equal O p_1 q_1 p_2 q_2) fun b63 =>
            (some (O .beq b63 false))
          else
            (some false)
      else
        (some false) : Option ((Bool))) fun x203 =>
    (some x203)
def m_ref01_Gcd_L1 (O : Ops) : (Int × Int) → Option ((Int × Int) ⊕ ((Unit) ⊕ (Int))) := fun (a1, b70) =>
  bif (O .not (O .eq b70 0)) then
    bif (O .eq b70 (-1)) then
      (some (Sum.inr (Sum.inl ())))
    else
      grd (okNz b70) <|
      (some (Sum.inl (b70, (O .rem a1 b70))))
  else
    (some (Sum.inr (Sum.inr a1)))
def m_ref01_Gcd (O : Ops) (a_1 : Int) (b_1 : Int) : Option (Int) :=
  Option.bind (loop (m_ref01_Gcd_L1 O) (a_1, b_1)) fun e => match e with
  | .inl _ =>
    (some 1)
  | .inr (a2) =>
    bif (O .eq a2 (-9223372036854775808)) then
      (some 0)
    else
      Option.bind (
        bif (O .lt a2 0) then
          grd (okI .i64 ((O .sub 0 a2))) <|
          (some (O .sub 0 a2))
        else
          (some a2) : Option ((Int))) fun a4 =>
      (some a4)
def m_ref01_Lcm (O : Ops) (a_1 : Int) (b_1 : Int) : Option (Int × Int) :=
  Option.bind (
    bif (O .lt a_1 1) then
      (some true)
    else
      (some (O .lt b_1 1)) : Option ((Bool))) fun x209 =>
  bif x209 then
    (some (0, 2))
  else
    Option.bind (m_ref01_Gcd O a_1 b_1) fun n60 =>
    grd (okNz n60) <|
    grd (okI .i64 ((O .quo a_1 n60))) <|
    Option.bind (m_ref01_Mul O ((O .quo a_1 n60)) b_1) fun (n61, n62) =>
    (some (n61, n62))
def m_ref13_Pair (O : Ops) (a_1 : Int) (b_1 : Int) (a_2 : List (Int × Int)) (b_2 : List (Int × Int)) : Option (Int × Int) :=
  Option.bind (m_ref01_Lcm O a_1 b_1) fun (n63, n64) =>
  Option.bind (
    bif (O .not (O .eq n64 0)) then
      (some true)
    else
      (some (O .lt 12622780800 n63)) : Option ((Bool))) fun x211 =>
  bif x211 then
    (some (0, 9))
  else
    grd (okNz a_1) <|
    grd (okI .i64 ((O .quo n63 a_1))) <|
    grd (okI .i64 ((O .mul (O .quo n63 a_1) (O .ofNat (O .len .i2 a_2))))) <|
    grd (okNz b_1) <|
    grd (okI .i64 ((O .quo n63 b_1))) <|
    grd (okI .i64 ((O .mul (O .quo n63 b_1) (O .ofNat (O .len .i2 b_2))))) <|
    grd (okI .i64 ((O .add (O .mul (O .quo n63 a_1) (O .ofNat (O .len .i2 a_2))) (O .mul (O .quo n63 b_1) (O .ofNat (O .len .i2 b_2)))))) <|
    bif (O .lt 2000 (O .add (O .mul (O .quo n63 a_1) (O .ofNat (O .len .i2 a_2))) (O .mul (O .quo n63 b_1) (O .ofNat (O .len .i2 b_2))))) then
      (some (0, 5))
    else
      (some (n63, 0))
def m_ref13_Spread_L1 (O : Ops) (at8 : Int) (p_2 : List (Int × Int)) : (Int × List (Int × Int)) → Option ((Int × List (Int × Int)) ⊕ (List (Int × Int))) := fun (i42, l141) =>
  bif (O .lt i42 (O .ofNat (O .len .i2 p_2))) then
    grd (okIdx i42 ((O .len .i2 p_2))) <|
    grd (okKin ((O .toNat i42)) ((O .len .i2 p_2))) <|
    grd (okI .i64 ((O .add ((O .get .i2 p_2 (O .toNat i42))).1 at8))) <|
    grd (okI .i64 ((O .add ((O .get .i2 p_2 (O .toNat i42))).2 at8))) <|
    Option.bind (
      bif (O .lt 0 (O .ofNat (O .len .i2 l141))) then
        grd (okI .i64 ((O .sub (O .ofNat (O .len .i2 l141)) 1))) <|
        grd (okIdx ((O .sub (O .ofNat (O .len .i2 l141)) 1)) ((O .len .i2 l141))) <|
        grd (okKin ((O .toNat (O .sub (O .ofNat (O .len .i2 l141)) 1))) ((O .len .i2 l141))) <|
        (some (O .eq ((O .get .i2 l141 (O .toNat (O .sub (O .ofNat (O .len .i2 l141)) 1)))).2 (O .add ((O .get .i2 p_2 (O .toNat i42))).1 at8)))
      else
        (some false) : Option ((Bool))) fun x219 =>
    Option.bind (
      bif x219 then
        grd (okI .i64 ((O .sub (O .ofNat (O .len .i2 l141)) 1))) <|
        grd (okIdx ((O .sub (O .ofNat (O .len .i2 l141)) 1)) ((O .len .i2 l141))) <|
        grd (okKin ((O .toNat (O .sub (O .ofNat (O .len .i2 l141)) 1))) ((O .len .i2 l141))) <|
        (some (O .put .i2 l141 (O .toNat (O .sub (O .ofNat (O .len .i2 l141)) 1)) (((O .get .i2 l141 (O .toNat (O .sub (O .ofNat (O .len .i2 l141)) 1)))).1, (O .add ((O .get .i2 p_2 (O .toNat i42))).2 at8))))
      else
        grd (okRoom ((O .len .i2 l141))) <|
        grd (okRoom ((O .len .i2 [((O .add ((O .get .i2 p_2 (O .toNat i42))).1 at8), (O .add ((O .get .i2 p_2 (O .toNat i42))).2 at8))]))) <|
        (some (O .app .i2 l141 [((O .add ((O .get .i2 p_2 (O .toNat i42))).1 at8), (O .add ((O .get .i2 p_2 (O .toNat i42))).2 at8))])) : Option ((List (Int × Int)))) fun l143 =>
    grd (okI .i64 ((O .add i42 1))) <|
    (some (Sum.inl ((O .add i42 1), l143)))
  else
    (some (Sum.inr l141))
def m_ref13_Spread_L2 (O : Ops) (m_1 : Int) (p_1 : Int) (p_2 : List (Int × Int)) : (Int × List (Int × Int)) → Option ((Int × List (Int × Int)) ⊕ (List (Int × Int))) := fun (at8, l138) =>
  bif (O .lt at8 m_1) then
    Option.bind (loop (m_ref13_Spread_L1 O at8 p_2) (0, l138)) fun l144 =>
    grd (okI .i64 ((O .add at8 p_1))) <|
    (some (Sum.inl ((O .add at8 p_1), l144)))
  else
    (some (Sum.inr l138))
def m_ref13_Spread (O : Ops) (p_1 : Int) (m_1 : Int) (p_2 : List (Int × Int)) : Option (List (Int × Int)) :=
  bif (O .eq (O .ofNat (O .len .i2 p_2)) 0) then
    (some ([] : List (Int × Int)))
  else
    bif (O .eq p_1 1) then
      (some [(0, m_1)])
    else
      Option.bind (loop (m_ref13_Spread_L2 O m_1 p_1 p_2) (0, ([] : List (Int × Int)))) fun l145 =>
      (some l145)
def m_ref13_Combine (O : Ops) (a_1 : Int) (b_1 : Int) (kind_1 : Int) (a_2 : List (Int × Int)) (b_2 : List (Int × Int)) : Option (Int × List (Int × Int) × Int) :=
  Option.bind (
    Option.bind (m_ref13_Valid O a_1 a_2) fun b68 =>
    bif (O .not b68) then
      (some true)
    else
      Option.bind (m_ref13_Valid O b_1 b_2) fun b69 =>
      (some (O .not b69)) : Option ((Bool))) fun x207 =>
  bif x207 then
    (some (0, ([] : List (Int × Int)), 1))
  else
    Option.bind (m_ref13_Pair O a_1 b_1 a_2 b_2) fun (n65, n66) =>
    bif (O .not (O .eq n66 0)) then
      (some (0, ([] : List (Int × Int)), n66))
    else
      Option.bind (
        Option.bind (m_ref13_Spread O a_1 n65 a_2) fun l146 =>
        Option.bind (m_ref13_Spread O b_1 n65 b_2) fun l147 =>
        Option.bind (m_ref13_Lists O kind_1 l146 l147) fun l148 =>
        Option.bind (m_ref13_Least O n65 l148) fun (n67, l149) =>
        Option.bind (m_ref13_limited O n67 l149) fun e => match e with
        | .inl (n68, n69) =>
          (some (Sum.inl (n69, n68)))
        | .inr ((n70, n71)) =>
          (some (Sum.inr (n71, n70, l149))) : Option (((Int × Int) ⊕ (Int × Int × List (Int × Int))))) fun e => match e with
      | .inl (x222, x223) =>
        (some (x223, ([] : List (Int × Int)), x222))
      | .inr ((x224, x225, l150)) =>
        (some (x225, l150, x224))
def m_law13_PeriodicCombines_1 (O : Ops) (p_1 : Int) (e_1 : Int) (q_1 : Int) (f_1 : Int) (p_2 : List (Int × Int)) (q_2 : List (Int × Int)) : Option (Bool) :=
  Option.bind (
    bif (O .eq e_1 f_1) then
      bif (O .eq p_1 q_1) then
        Option.bind (m_slices_Equal O p_2 q_2) fun b71 =>
        (some b71)
      else
        (some false)
    else
      (some false) : Option ((Bool))) fun x228 =>
  (some x228)
def m_periodic_Meet_1 (_O : Ops) (a_1 : Bool) (b_1 : Bool) : Option (Bool) :=
  Option.bind (
    bif a_1 then
      (some b_1)
    else
      (some false) : Option ((Bool))) fun x239 =>
  (some x239)
def m_periodic_combine_2_L1 (O : Ops) (a_1 : List (Int × Int)) (b_1 : List (Int × Int)) : (Int × Int × List (Int × Int)) → Option ((Int × Int × List (Int × Int)) ⊕ (List (Int × Int))) := fun (i46, k22, l158) =>
  Option.bind (m_periodic_combine_1 O i46 a_1) fun (n78, b79) =>
  Option.bind (m_periodic_combine_1 O k22 b_1) fun (n79, b80) =>
  Option.bind (
    bif (O .not b79) then
      (some (O .not b80))
    else
      (some false) : Option ((Bool))) fun x249 =>
  bif x249 then
    (some (Sum.inr l158))
  else
    Option.bind (
      bif (O .not b79) then
        (some (b80, true))
      else
        bif b80 then
          (some (true, (O .lt n79 n78)))
        else
          (some (false, false)) : Option ((Bool × Bool))) fun (is12, x252) =>
    Option.bind (
      bif x252 then
        (some n79)
      else
        (some n78) : Option ((Int))) fun at12 =>
    grd (okNz 2) <|
    Option.bind (m_periodic_Meet_1 O ((O .eq (O .rem i46 2) 1)) ((O .eq (O .rem k22 2) 1))) fun b81 =>
    Option.bind (
      bif b79 then
        (some (O .eq n78 at12))
      else
        (some false) : Option ((Bool))) fun x254 =>
    Option.bind (
      bif x254 then
        grd (okI .i64 ((O .add i46 1))) <|
        (some (O .add i46 1))
      else
        (some i46) : Option ((Int))) fun i48 =>
    Option.bind (
      bif is12 then
        (some (O .eq n79 at12))
      else
        (some false) : Option ((Bool))) fun x256 =>
    Option.bind (
      bif x256 then
        grd (okI .i64 ((O .add k22 1))) <|
        (some (O .add k22 1))
      else
        (some k22) : Option ((Int))) fun k24 =>
    Option.bind (m_periodic_Meet_1 O ((O .eq (O .rem i48 2) 1)) ((O .eq (O .rem k24 2) 1))) fun b82 =>
    Option.bind (
      bif (O .not b81) then
        (some b82)
      else
        (some false) : Option ((Bool))) fun x258 =>
    Option.bind (
      bif x258 then
        grd (okRoom ((O .len .i2 l158))) <|
        grd (okRoom ((O .len .i2 [(at12, 0)]))) <|
        (some (O .app .i2 l158 [(at12, 0)]))
      else
        Option.bind (
          bif b81 then
            (some (O .not b82))
          else
            (some false) : Option ((Bool))) fun x260 =>
        Option.bind (
          bif x260 then
            grd (okI .i64 ((O .sub (O .ofNat (O .len .i2 l158)) 1))) <|
            grd (okIdx ((O .sub (O .ofNat (O .len .i2 l158)) 1)) ((O .len .i2 l158))) <|
            grd (okKin ((O .toNat (O .sub (O .ofNat (O .len .i2 l158)) 1))) ((O .len .i2 l158))) <|
            (some (O .put .i2 l158 (O .toNat (O .sub (O .ofNat (O .len .i2 l158)) 1)) (((O .get .i2 l158 (O .toNat (O .sub (O .ofNat (O .len .i2 l158)) 1)))).1, at12)))
          else
            (some l158) : Option ((List (Int × Int)))) fun l160 =>
        (some l160) : Option ((List (Int × Int)))) fun l162 =>
    (some (Sum.inl (i48, k24, l162)))
def m_periodic_combine_2 (O : Ops) (a_1 : List (Int × Int)) (b_1 : List (Int × Int)) : Option (List (Int × Int)) :=
  Option.bind (loop (m_periodic_combine_2_L1 O a_1 b_1) (0, 0, ([] : List (Int × Int)))) fun l163 =>
  (some l163)
def m_periodic_both_2 (O : Ops) (a_1 : Int) (b_1 : Int) (a_2 : List (Int × Int)) (b_2 : List (Int × Int)) : Option (Int × List (Int × Int) × Int) :=
  Option.bind (
    Option.bind (m_periodic_Valid O a_1 a_2) fun b73 =>
    bif (O .not b73) then
      (some true)
    else
      Option.bind (m_periodic_Valid O b_1 b_2) fun b74 =>
      (some (O .not b74)) : Option ((Bool))) fun x230 =>
  bif x230 then
    (some (0, ([] : List (Int × Int)), 1))
  else
    Option.bind (m_integer_Lcm O a_1 b_1) fun (n74, n75) =>
    Option.bind (
      bif (O .not (O .eq n75 0)) then
        (some true)
      else
        (some (O .lt 12622780800 n74)) : Option ((Bool))) fun x232 =>
    bif x232 then
      (some (0, ([] : List (Int × Int)), 9))
    else
      grd (okNz a_1) <|
      grd (okI .i64 ((O .quo n74 a_1))) <|
      grd (okI .i64 ((O .mul (O .quo n74 a_1) (O .ofNat (O .len .i2 a_2))))) <|
      grd (okNz b_1) <|
      grd (okI .i64 ((O .quo n74 b_1))) <|
      grd (okI .i64 ((O .mul (O .quo n74 b_1) (O .ofNat (O .len .i2 b_2))))) <|
      grd (okI .i64 ((O .add (O .mul (O .quo n74 a_1) (O .ofNat (O .len .i2 a_2))) (O .mul (O .quo n74 b_1) (O .ofNat (O .len .i2 b_2)))))) <|
      bif (O .lt 2000 (O .add (O .mul (O .quo n74 a_1) (O .ofNat (O .len .i2 a_2))) (O .mul (O .quo n74 b_1) (O .ofNat (O .len .i2 b_2))))) then
        (some (0, ([] : List (Int × Int)), 5))
      else
        Option.bind (m_periodic_spread O a_1 n74 a_2) fun l152 =>
        Option.bind (m_periodic_spread O b_1 n74 b_2) fun l153 =>
        Option.bind (m_periodic_combine_2 O l152 l153) fun l164 =>
        Option.bind (m_periodic_limited O n74 l164) fun (n80, l165, n81) =>
        (some (n80, l165, n81))
def m_periodic_Meet (O : Ops) (a_1 : Int) (b_1 : Int) (a_2 : List (Int × Int)) (b_2 : List (Int × Int)) : Option (Int × List (Int × Int) × Int) :=
  Option.bind (m_periodic_both_2 O a_1 b_1 a_2 b_2) fun (n82, l166, n83) =>
  (some (n82, l166, n83))
def m_periodic_Minus_1 (O : Ops) (a_1 : Bool) (b_1 : Bool) : Option (Bool) :=
  Option.bind (
    bif a_1 then
      (some (O .not b_1))
    else
      (some false) : Option ((Bool))) fun x271 =>
  (some x271)
def m_periodic_combine_3_L1 (O : Ops) (a_1 : List (Int × Int)) (b_1 : List (Int × Int)) : (Int × Int × List (Int × Int)) → Option ((Int × Int × List (Int × Int)) ⊕ (List (Int × Int))) := fun (i52, k28, l175) =>
  Option.bind (m_periodic_combine_1 O i52 a_1) fun (n92, b90) =>
  Option.bind (m_periodic_combine_1 O k28 b_1) fun (n93, b91) =>
  Option.bind (
    bif (O .not b90) then
      (some (O .not b91))
    else
      (some false) : Option ((Bool))) fun x281 =>
  bif x281 then
    (some (Sum.inr l175))
  else
    Option.bind (
      bif (O .not b90) then
        (some (b91, true))
      else
        bif b91 then
          (some (true, (O .lt n93 n92)))
        else
          (some (false, false)) : Option ((Bool × Bool))) fun (is18, x284) =>
    Option.bind (
      bif x284 then
        (some n93)
      else
        (some n92) : Option ((Int))) fun at16 =>
    grd (okNz 2) <|
    Option.bind (m_periodic_Minus_1 O ((O .eq (O .rem i52 2) 1)) ((O .eq (O .rem k28 2) 1))) fun b92 =>
    Option.bind (
      bif b90 then
        (some (O .eq n92 at16))
      else
        (some false) : Option ((Bool))) fun x286 =>
    Option.bind (
      bif x286 then
        grd (okI .i64 ((O .add i52 1))) <|
        (some (O .add i52 1))
      else
        (some i52) : Option ((Int))) fun i54 =>
    Option.bind (
      bif is18 then
        (some (O .eq n93 at16))
      else
        (some false) : Option ((Bool))) fun x288 =>
    Option.bind (
      bif x288 then
        grd (okI .i64 ((O .add k28 1))) <|
        (some (O .add k28 1))
      else
        (some k28) : Option ((Int))) fun k30 =>
    Option.bind (m_periodic_Minus_1 O ((O .eq (O .rem i54 2) 1)) ((O .eq (O .rem k30 2) 1))) fun b93 =>
    Option.bind (
      bif (O .not b92) then
        (some b93)
      else
        (some false) : Option ((Bool))) fun x290 =>
    Option.bind (
      bif x290 then
        grd (okRoom ((O .len .i2 l175))) <|
        grd (okRoom ((O .len .i2 [(at16, 0)]))) <|
        (some (O .app .i2 l175 [(at16, 0)]))
      else
        Option.bind (
          bif b92 then
            (some (O .not b93))
          else
            (some false) : Option ((Bool))) fun x292 =>
        Option.bind (
          bif x292 then
            grd (okI .i64 ((O .sub (O .ofNat (O .len .i2 l175)) 1))) <|
            grd (okIdx ((O .sub (O .ofNat (O .len .i2 l175)) 1)) ((O .len .i2 l175))) <|
            grd (okKin ((O .toNat (O .sub (O .ofNat (O .len .i2 l175)) 1))) ((O .len .i2 l175))) <|
            (some (O .put .i2 l175 (O .toNat (O .sub (O .ofNat (O .len .i2 l175)) 1)) (((O .get .i2 l175 (O .toNat (O .sub (O .ofNat (O .len .i2 l175)) 1)))).1, at16)))
          else
            (some l175) : Option ((List (Int × Int)))) fun l177 =>
        (some l177) : Option ((List (Int × Int)))) fun l179 =>
    (some (Sum.inl (i54, k30, l179)))
def m_periodic_combine_3 (O : Ops) (a_1 : List (Int × Int)) (b_1 : List (Int × Int)) : Option (List (Int × Int)) :=
  Option.bind (loop (m_periodic_combine_3_L1 O a_1 b_1) (0, 0, ([] : List (Int × Int)))) fun l180 =>
  (some l180)
def m_periodic_both_3 (O : Ops) (a_1 : Int) (b_1 : Int) (a_2 : List (Int × Int)) (b_2 : List (Int × Int)) : Option (Int × List (Int × Int) × Int) :=
  Option.bind (
    Option.bind (m_periodic_Valid O a_1 a_2) fun b84 =>
    bif (O .not b84) then
      (some true)
    else
      Option.bind (m_periodic_Valid O b_1 b_2) fun b85 =>
      (some (O .not b85)) : Option ((Bool))) fun x262 =>
  bif x262 then
    (some (0, ([] : List (Int × Int)), 1))
  else
    Option.bind (m_integer_Lcm O a_1 b_1) fun (n88, n89) =>
    Option.bind (
      bif (O .not (O .eq n89 0)) then
        (some true)
      else
        (some (O .lt 12622780800 n88)) : Option ((Bool))) fun x264 =>
    bif x264 then
      (some (0, ([] : List (Int × Int)), 9))
    else
      grd (okNz a_1) <|
      grd (okI .i64 ((O .quo n88 a_1))) <|
      grd (okI .i64 ((O .mul (O .quo n88 a_1) (O .ofNat (O .len .i2 a_2))))) <|
      grd (okNz b_1) <|
      grd (okI .i64 ((O .quo n88 b_1))) <|
      grd (okI .i64 ((O .mul (O .quo n88 b_1) (O .ofNat (O .len .i2 b_2))))) <|
      grd (okI .i64 ((O .add (O .mul (O .quo n88 a_1) (O .ofNat (O .len .i2 a_2))) (O .mul (O .quo n88 b_1) (O .ofNat (O .len .i2 b_2)))))) <|
      bif (O .lt 2000 (O .add (O .mul (O .quo n88 a_1) (O .ofNat (O .len .i2 a_2))) (O .mul (O .quo n88 b_1) (O .ofNat (O .len .i2 b_2))))) then
        (some (0, ([] : List (Int × Int)), 5))
      else
        Option.bind (m_periodic_spread O a_1 n88 a_2) fun l169 =>
        Option.bind (m_periodic_spread O b_1 n88 b_2) fun l170 =>
        Option.bind (m_periodic_combine_3 O l169 l170) fun l181 =>
        Option.bind (m_periodic_limited O n88 l181) fun (n94, l182, n95) =>
        (some (n94, l182, n95))
def m_periodic_Minus (O : Ops) (a_1 : Int) (b_1 : Int) (a_2 : List (Int × Int)) (b_2 : List (Int × Int)) : Option (Int × List (Int × Int) × Int) :=
  Option.bind (m_periodic_both_3 O a_1 b_1 a_2 b_2) fun (n96, l183, n97) =>
  (some (n96, l183, n97))
def m_periodic_Not_1 (O : Ops) (a_1 : Bool) (b_1 : Bool) : Option (Bool) :=
  Option.bind (
    bif a_1 then
      (some (O .not b_1))
    else
      (some false) : Option ((Bool))) fun x299 =>
  (some x299)
def m_periodic_combine_4_L1 (O : Ops) (a_1 : List (Int × Int)) (b_1 : List (Int × Int)) : (Int × Int × List (Int × Int)) → Option ((Int × Int × List (Int × Int)) ⊕ (List (Int × Int))) := fun (i58, k34, l190) =>
  Option.bind (m_periodic_combine_1 O i58 a_1) fun (n104, b100) =>
  Option.bind (m_periodic_combine_1 O k34 b_1) fun (n105, b101) =>
  Option.bind (
    bif (O .not b100) then
      (some (O .not b101))
    else
      (some false) : Option ((Bool))) fun x309 =>
  bif x309 then
    (some (Sum.inr l190))
  else
    Option.bind (
      bif (O .not b100) then
        (some (b101, true))
      else
        bif b101 then
          (some (true, (O .lt n105 n104)))
        else
          (some (false, false)) : Option ((Bool × Bool))) fun (is24, x312) =>
    Option.bind (
      bif x312 then
        (some n105)
      else
        (some n104) : Option ((Int))) fun at20 =>
    grd (okNz 2) <|
    Option.bind (m_periodic_Not_1 O ((O .eq (O .rem i58 2) 1)) ((O .eq (O .rem k34 2) 1))) fun b102 =>
    Option.bind (
      bif b100 then
        (some (O .eq n104 at20))
      else
        (some false) : Option ((Bool))) fun x314 =>
    Option.bind (
      bif x314 then
        grd (okI .i64 ((O .add i58 1))) <|
        (some (O .add i58 1))
      else
        (some i58) : Option ((Int))) fun i60 =>
    Option.bind (
      bif is24 then
        (some (O .eq n105 at20))
      else
        (some false) : Option ((Bool))) fun x316 =>
    Option.bind (
      bif x316 then
        grd (okI .i64 ((O .add k34 1))) <|
        (some (O .add k34 1))
      else
        (some k34) : Option ((Int))) fun k36 =>
    Option.bind (m_periodic_Not_1 O ((O .eq (O .rem i60 2) 1)) ((O .eq (O .rem k36 2) 1))) fun b103 =>
    Option.bind (
      bif (O .not b102) then
        (some b103)
      else
        (some false) : Option ((Bool))) fun x318 =>
    Option.bind (
      bif x318 then
        grd (okRoom ((O .len .i2 l190))) <|
        grd (okRoom ((O .len .i2 [(at20, 0)]))) <|
        (some (O .app .i2 l190 [(at20, 0)]))
      else
        Option.bind (
          bif b102 then
            (some (O .not b103))
          else
            (some false) : Option ((Bool))) fun x320 =>
        Option.bind (
          bif x320 then
            grd (okI .i64 ((O .sub (O .ofNat (O .len .i2 l190)) 1))) <|
            grd (okIdx ((O .sub (O .ofNat (O .len .i2 l190)) 1)) ((O .len .i2 l190))) <|
            grd (okKin ((O .toNat (O .sub (O .ofNat (O .len .i2 l190)) 1))) ((O .len .i2 l190))) <|
            (some (O .put .i2 l190 (O .toNat (O .sub (O .ofNat (O .len .i2 l190)) 1)) (((O .get .i2 l190 (O .toNat (O .sub (O .ofNat (O .len .i2 l190)) 1)))).1, at20)))
          else
            (some l190) : Option ((List (Int × Int)))) fun l192 =>
        (some l192) : Option ((List (Int × Int)))) fun l194 =>
    (some (Sum.inl (i60, k36, l194)))
def m_periodic_combine_4 (O : Ops) (a_1 : List (Int × Int)) (b_1 : List (Int × Int)) : Option (List (Int × Int)) :=
  Option.bind (loop (m_periodic_combine_4_L1 O a_1 b_1) (0, 0, ([] : List (Int × Int)))) fun l195 =>
  (some l195)
def m_periodic_Not (O : Ops) (p_1 : Int) (p_2 : List (Int × Int)) : Option (Int × List (Int × Int) × Int) :=
  Option.bind (m_periodic_Valid O p_1 p_2) fun b95 =>
  bif (O .not b95) then
    (some (0, ([] : List (Int × Int)), 1))
  else
    Option.bind (m_periodic_combine_4 O ([(0, p_1)]) p_2) fun l196 =>
    Option.bind (m_periodic_limited O p_1 l196) fun (n106, l197, n107) =>
    (some (n106, l197, n107))
def m_ref13_Not (O : Ops) (p_1 : Int) (p_2 : List (Int × Int)) : Option (Int × List (Int × Int) × Int) :=
  Option.bind (m_ref13_Valid O p_1 p_2) fun b104 =>
  bif (O .not b104) then
    (some (0, ([] : List (Int × Int)), 1))
  else
    Option.bind (
      Option.bind (m_ref13_Lists O 2 ([(0, p_1)]) p_2) fun l199 =>
      Option.bind (m_ref13_Least O p_1 l199) fun (n110, l200) =>
      Option.bind (m_ref13_limited O n110 l200) fun e => match e with
      | .inl (n111, n112) =>
        (some (Sum.inl (n112, n111)))
      | .inr ((n113, n114)) =>
        (some (Sum.inr (n114, n113, l200))) : Option (((Int × Int) ⊕ (Int × Int × List (Int × Int))))) fun e => match e with
    | .inl (x323, x324) =>
      (some (x324, ([] : List (Int × Int)), x323))
    | .inr ((x325, x326, l201)) =>
      (some (x326, l201, x325))
def m_periodic_Move_L1 (O : Ops) (n117 : Int) (p_2 : List (Int × Int)) : (Int × List (Int × Int)) → Option ((Int × List (Int × Int)) ⊕ (List (Int × Int))) := fun (x330, l203) =>
  bif (O .lt x330 (O .ofNat (O .len .i2 p_2))) then
    grd (okIdx x330 ((O .len .i2 p_2))) <|
    grd (okKin ((O .toNat x330)) ((O .len .i2 p_2))) <|
    grd (okI .i64 ((O .add ((O .get .i2 p_2 (O .toNat x330))).1 n117))) <|
    grd (okI .i64 ((O .add ((O .get .i2 p_2 (O .toNat x330))).2 n117))) <|
    grd (okRoom ((O .len .i2 l203))) <|
    grd (okRoom ((O .len .i2 [((O .add ((O .get .i2 p_2 (O .toNat x330))).1 n117), (O .add ((O .get .i2 p_2 (O .toNat x330))).2 n117))]))) <|
    grd (okI .i64 ((O .add x330 1))) <|
    (some (Sum.inl ((O .add x330 1), (O .app .i2 l203 [((O .add ((O .get .i2 p_2 (O .toNat x330))).1 n117), (O .add ((O .get .i2 p_2 (O .toNat x330))).2 n117))]))))
  else
    (some (Sum.inr l203))
def m_periodic_Move (O : Ops) (p_1 : Int) (n_1 : Int) (p_2 : List (Int × Int)) : Option (Int × List (Int × Int) × Int) :=
  Option.bind (m_periodic_Valid O p_1 p_2) fun b105 =>
  bif (O .not b105) then
    (some (0, ([] : List (Int × Int)), 1))
  else
    Option.bind (
      bif (O .lt n_1 (-4398046511104)) then
        (some true)
      else
        (some (O .lt 4398046511104 n_1)) : Option ((Bool))) fun x328 =>
    bif x328 then
      (some (0, ([] : List (Int × Int)), 2))
    else
      Option.bind (m_integer_Mod O n_1 p_1) fun n117 =>
      Option.bind (loop (m_periodic_Move_L1 O n117 p_2) (0, ([] : List (Int × Int)))) fun l204 =>
      Option.bind (m_periodic_fold O p_1 l204) fun l205 =>
      Option.bind (m_periodic_limited O p_1 l205) fun (n118, l206, n119) =>
      (some (n118, l206, n119))
def m_ref13_Move (O : Ops) (p_1 : Int) (n_1 : Int) (p_2 : List (Int × Int)) : Option (((Int × List (Int × Int) × Int) ⊕ (Int × Int))) :=
  Option.bind (m_ref13_Valid O p_1 p_2) fun b106 =>
  bif (O .not b106) then
    (some (Sum.inl (0, ([] : List (Int × Int)), 1)))
  else
    Option.bind (
      bif (O .lt n_1 (-4398046511104)) then
        (some true)
      else
        (some (O .lt 4398046511104 n_1)) : Option ((Bool))) fun x332 =>
    bif x332 then
      (some (Sum.inl (0, ([] : List (Int × Int)), 2)))
    else
      Option.bind (
        Option.bind (m_ref13_rotated O p_1 n_1 p_2) fun e => match e with
        | .inl _ =>
          Option.bind (m_ref13_limited O p_1 p_2) fun e => match e with
          | .inl (n122, n123) =>
            (some (Sum.inl (n123, n122)))
          | .inr ((n124, n125)) =>
            (some (Sum.inr (Sum.inl (n125, n124))))
        | .inr (l208) =>
          Option.bind (m_ref13_limited O p_1 l208) fun e => match e with
          | .inl (n126, n127) =>
            (some (Sum.inl (n127, n126)))
          | .inr ((n128, n129)) =>
            (some (Sum.inr (Sum.inr (n129, n128, l208)))) : Option (((Int × Int) ⊕ ((Int × Int) ⊕ (Int × Int × List (Int × Int)))))) fun e => match e with
      | .inl (x341, x342) =>
        (some (Sum.inl (x342, ([] : List (Int × Int)), x341)))
      | .inr (.inl (x343, x344)) =>
        (some (Sum.inr (x344, x343)))
      | .inr (.inr ((x345, x346, l209))) =>
        (some (Sum.inl (x346, l209, x345)))
def m_law13_PeriodicCombines (O : Ops) (a_1 : Int) (b_1 : Int) (n_1 : Int) (a_2 : List (Int × Int)) (b_2 : List (Int × Int)) : Option (Bool) :=
  Option.bind (
    Option.bind (m_law13_awake O) fun b64 =>
    bif (O .not b64) then
      (some true)
    else
      Option.bind (m_law13_long O a_1 a_2) fun b65 =>
      bif b65 then
        (some true)
      else
        Option.bind (m_law13_long O b_1 b_2) fun b66 =>
        (some b66) : Option ((Bool))) fun x205 =>
  bif x205 then
    Option.bind (m_law13_awake O) fun b67 =>
    (some b67)
  else
    Option.bind (m_periodic_Union O a_1 b_1 a_2 b_2) fun (n58, l131, n59) =>
    Option.bind (m_ref13_Combine O a_1 b_1 0 a_2 b_2) fun (n72, l151, n73) =>
    Option.bind (m_law13_PeriodicCombines_1 O n58 n59 n72 n73 l131 l151) fun b72 =>
    bif (O .not b72) then
      (some false)
    else
      grd (okI .i64 ((O .add 0 1))) <|
      Option.bind (m_periodic_Meet O a_1 b_1 a_2 b_2) fun (n84, l167, n85) =>
      Option.bind (m_ref13_Combine O a_1 b_1 1 a_2 b_2) fun (n86, l168, n87) =>
      Option.bind (m_law13_PeriodicCombines_1 O n84 n85 n86 n87 l167 l168) fun b83 =>
      bif (O .not b83) then
        (some false)
      else
        grd (okI .i64 ((O .add 1 1))) <|
        Option.bind (m_periodic_Minus O a_1 b_1 a_2 b_2) fun (n98, l184, n99) =>
        Option.bind (m_ref13_Combine O a_1 b_1 2 a_2 b_2) fun (n100, l185, n101) =>
        Option.bind (m_law13_PeriodicCombines_1 O n98 n99 n100 n101 l184 l185) fun b94 =>
        bif (O .not b94) then
          (some false)
        else
          grd (okI .i64 ((O .add 2 1))) <|
          Option.bind (m_periodic_Not O a_1 a_2) fun (n108, l198, n109) =>
          Option.bind (m_ref13_Not O a_1 a_2) fun (n115, l202, n116) =>
          Option.bind (m_periodic_Move O a_1 n_1 a_2) fun (n120, l207, n121) =>
          Option.bind (
            Option.bind (m_ref13_Move O a_1 n_1 a_2) fun e => match e with
            | .inl (n130, l210, n131) =>
              (some (Sum.inl (n131, n130, l210)))
            | .inr ((n132, n133)) =>
              (some (Sum.inr (n133, n132))) : Option (((Int × Int × List (Int × Int)) ⊕ (Int × Int)))) fun e => match e with
          | .inl (h2, x348, l211) =>
            Option.bind (
              Option.bind (m_law13_PeriodicCombines_1 O n108 n109 n115 n116 l198 l202) fun b107 =>
              bif b107 then
                Option.bind (m_law13_PeriodicCombines_1 O n120 n121 x348 h2 l207 l211) fun b108 =>
                (some b108)
              else
                (some false) : Option ((Bool))) fun x351 =>
            (some x351)
          | .inr ((h3, x349)) =>
            Option.bind (
              Option.bind (m_law13_PeriodicCombines_1 O n108 n109 n115 n116 l198 l202) fun b109 =>
              bif b109 then
                Option.bind (m_law13_PeriodicCombines_1 O n120 n121 x349 h3 l207 a_2) fun b110 =>
                (some b110)
              else
                (some false) : Option ((Bool))) fun x353 =>
            (some x353)
def m_law13_line (O : Ops) (x_1 : Int) : Option (Bool) :=
  Option.bind (
    bif (O .le (-4398046511104) x_1) then
      (some (O .le x_1 4398046511104))
    else
      (some false) : Option ((Bool))) fun x355 =>
  (some x355)
def m_law13_near_L1 (O : Ops) (l_3 : List (Int × Int)) (n144 : Int) (x_1 : Int) : (Int × List Int) → Option ((Int × List Int) ⊕ (List Int)) := fun (x361, l217) =>
  bif (O .lt x361 (O .ofNat (O .len .i2 l_3))) then
    grd (okIdx x361 ((O .len .i2 l_3))) <|
    grd (okKin ((O .toNat x361)) ((O .len .i2 l_3))) <|
    grd (okI .i64 ((O .add (O .sub x_1 n144) ((O .get .i2 l_3 (O .toNat x361))).1))) <|
    grd (okI .i64 ((O .sub (O .add (O .sub x_1 n144) ((O .get .i2 l_3 (O .toNat x361))).1) 1))) <|
    grd (okI .i64 ((O .add (O .sub x_1 n144) ((O .get .i2 l_3 (O .toNat x361))).2))) <|
    grd (okI .i64 ((O .sub (O .add (O .sub x_1 n144) ((O .get .i2 l_3 (O .toNat x361))).2) 1))) <|
    grd (okRoom ((O .len .i1 l217))) <|
    grd (okRoom ((O .len .i1 [(O .sub (O .add (O .sub x_1 n144) ((O .get .i2 l_3 (O .toNat x361))).1) 1), (O .add (O .sub x_1 n144) ((O .get .i2 l_3 (O .toNat x361))).1), (O .sub (O .add (O .sub x_1 n144) ((O .get .i2 l_3 (O .toNat x361))).2) 1), (O .add (O .sub x_1 n144) ((O .get .i2 l_3 (O .toNat x361))).2)]))) <|
    grd (okI .i64 ((O .add x361 1))) <|
    (some (Sum.inl ((O .add x361 1), (O .app .i1 l217 [(O .sub (O .add (O .sub x_1 n144) ((O .get .i2 l_3 (O .toNat x361))).1) 1), (O .add (O .sub x_1 n144) ((O .get .i2 l_3 (O .toNat x361))).1), (O .sub (O .add (O .sub x_1 n144) ((O .get .i2 l_3 (O .toNat x361))).2) 1), (O .add (O .sub x_1 n144) ((O .get .i2 l_3 (O .toNat x361))).2)]))))
  else
    (some (Sum.inr l217))
def m_law13_near_L2 (O : Ops) (l_4 : List (Int × Int)) (n145 : Int) (x_1 : Int) : (Int × List Int) → Option ((Int × List Int) ⊕ (List Int)) := fun (x363, l219) =>
  bif (O .lt x363 (O .ofNat (O .len .i2 l_4))) then
    grd (okIdx x363 ((O .len .i2 l_4))) <|
    grd (okKin ((O .toNat x363)) ((O .len .i2 l_4))) <|
    grd (okI .i64 ((O .add (O .sub x_1 n145) ((O .get .i2 l_4 (O .toNat x363))).1))) <|
    grd (okI .i64 ((O .sub (O .add (O .sub x_1 n145) ((O .get .i2 l_4 (O .toNat x363))).1) 1))) <|
    grd (okI .i64 ((O .add (O .sub x_1 n145) ((O .get .i2 l_4 (O .toNat x363))).2))) <|
    grd (okI .i64 ((O .sub (O .add (O .sub x_1 n145) ((O .get .i2 l_4 (O .toNat x363))).2) 1))) <|
    grd (okRoom ((O .len .i1 l219))) <|
    grd (okRoom ((O .len .i1 [(O .sub (O .add (O .sub x_1 n145) ((O .get .i2 l_4 (O .toNat x363))).1) 1), (O .add (O .sub x_1 n145) ((O .get .i2 l_4 (O .toNat x363))).1), (O .sub (O .add (O .sub x_1 n145) ((O .get .i2 l_4 (O .toNat x363))).2) 1), (O .add (O .sub x_1 n145) ((O .get .i2 l_4 (O .toNat x363))).2)]))) <|
    grd (okI .i64 ((O .add x363 1))) <|
    (some (Sum.inl ((O .add x363 1), (O .app .i1 l219 [(O .sub (O .add (O .sub x_1 n145) ((O .get .i2 l_4 (O .toNat x363))).1) 1), (O .add (O .sub x_1 n145) ((O .get .i2 l_4 (O .toNat x363))).1), (O .sub (O .add (O .sub x_1 n145) ((O .get .i2 l_4 (O .toNat x363))).2) 1), (O .add (O .sub x_1 n145) ((O .get .i2 l_4 (O .toNat x363))).2)]))))
  else
    (some (Sum.inr l219))
def m_law13_near (O : Ops) (x_1 : Int) (l_1 : Int) (l_2 : Int) (l_3 : List (Int × Int)) (l_4 : List (Int × Int)) : Option (List Int) :=
  Option.bind (m_integer_Mod O x_1 l_1) fun n144 =>
  grd (okI .i64 ((O .sub x_1 n144))) <|
  Option.bind (loop (m_law13_near_L1 O l_3 n144 x_1) (0, [x_1])) fun l218 =>
  grd (okI .i64 ((O .add 0 1))) <|
  Option.bind (m_integer_Mod O x_1 l_2) fun n145 =>
  grd (okI .i64 ((O .sub x_1 n145))) <|
  Option.bind (loop (m_law13_near_L2 O l_4 n145 x_1) (0, l218)) fun l220 =>
  grd (okI .i64 ((O .add 1 1))) <|
  (some l220)
def m_law13_PeriodicPoints_L1 (O : Ops) (a_1 : Int) (a_2 : List (Int × Int)) (b_1 : Int) (b_2 : List (Int × Int)) (l212 : List (Int × Int)) (l213 : List (Int × Int)) (l214 : List (Int × Int)) (l215 : List (Int × Int)) (l216 : List (Int × Int)) (l221 : List Int) (n134 : Int) (n135 : Int) (n136 : Int) (n137 : Int) (n138 : Int) (n139 : Int) (n140 : Int) (n142 : Int) (n_1 : Int) : (Int) → Option ((Int) ⊕ ((Unit) ⊕ (Unit))) := fun x387 =>
  bif (O .lt x387 (O .ofNat (O .len .i1 l221))) then
    grd (okIdx x387 ((O .len .i1 l221))) <|
    grd (okKin ((O .toNat x387)) ((O .len .i1 l221))) <|
    Option.bind (m_periodic_Has O a_1 ((O .get .i1 l221 (O .toNat x387))) a_2) fun b134 =>
    Option.bind (m_periodic_Has O b_1 ((O .get .i1 l221 (O .toNat x387))) b_2) fun b135 =>
    Option.bind (
      bif (O .eq n135 0) then
        Option.bind (m_periodic_Has O n134 ((O .get .i1 l221 (O .toNat x387))) l212) fun b136 =>
        bif b134 then
          bif (O .not (O .beq b136 true)) then
            (some (true, true))
          else
            bif (O .eq n137 0) then
              Option.bind (m_periodic_Has O n136 ((O .get .i1 l221 (O .toNat x387))) l213) fun b137 =>
              bif (O .not (O .beq b137 b135)) then
                (some (true, true))
              else
                bif (O .eq n139 0) then
                  Option.bind (m_periodic_Has O n138 ((O .get .i1 l221 (O .toNat x387))) l214) fun b138 =>
                  (some (true, (O .not (O .beq b138 (O .not b135)))))
                else
                  (some (true, false))
            else
              bif (O .eq n139 0) then
                Option.bind (m_periodic_Has O n138 ((O .get .i1 l221 (O .toNat x387))) l214) fun b139 =>
                (some (true, (O .not (O .beq b139 (O .not b135)))))
              else
                (some (true, false))
        else
          bif (O .not (O .beq b136 b135)) then
            (some (false, true))
          else
            bif (O .eq n137 0) then
              Option.bind (m_periodic_Has O n136 ((O .get .i1 l221 (O .toNat x387))) l213) fun b140 =>
              bif (O .not (O .beq b140 false)) then
                (some (false, true))
              else
                bif (O .eq n139 0) then
                  Option.bind (m_periodic_Has O n138 ((O .get .i1 l221 (O .toNat x387))) l214) fun b141 =>
                  (some (false, (O .not (O .beq b141 false))))
                else
                  (some (false, false))
            else
              bif (O .eq n139 0) then
                Option.bind (m_periodic_Has O n138 ((O .get .i1 l221 (O .toNat x387))) l214) fun b142 =>
                (some (false, (O .not (O .beq b142 false))))
              else
                (some (false, false))
      else
        bif (O .eq n137 0) then
          Option.bind (m_periodic_Has O n136 ((O .get .i1 l221 (O .toNat x387))) l213) fun b143 =>
          bif b134 then
            bif (O .not (O .beq b143 b135)) then
              (some (true, true))
            else
              bif (O .eq n139 0) then
                Option.bind (m_periodic_Has O n138 ((O .get .i1 l221 (O .toNat x387))) l214) fun b144 =>
                (some (true, (O .not (O .beq b144 (O .not b135)))))
              else
                (some (true, false))
          else
            bif (O .not (O .beq b143 false)) then
              (some (false, true))
            else
              bif (O .eq n139 0) then
                Option.bind (m_periodic_Has O n138 ((O .get .i1 l221 (O .toNat x387))) l214) fun b145 =>
                (some (false, (O .not (O .beq b145 false))))
              else
                (some (false, false))
        else
          bif (O .eq n139 0) then
            Option.bind (m_periodic_Has O n138 ((O .get .i1 l221 (O .toNat x387))) l214) fun b146 =>
            bif b134 then
              (some (true, (O .not (O .beq b146 (O .not b135)))))
            else
              (some (false, (O .not (O .beq b146 false))))
          else
            (some (b134, false)) : Option ((Bool × Bool))) fun (p32, x407) =>
    bif x407 then
      (some (Sum.inr (Sum.inl ())))
    else
      Option.bind (
        Option.bind (m_periodic_Has O n140 ((O .get .i1 l221 (O .toNat x387))) l215) fun b147 =>
        bif (O .beq b147 p32) then
          (some true)
        else
          grd (okI .i64 ((O .add (O .get .i1 l221 (O .toNat x387)) n_1))) <|
          Option.bind (m_periodic_Has O n142 ((O .add (O .get .i1 l221 (O .toNat x387)) n_1)) l216) fun b148 =>
          (some (O .not (O .beq b148 p32))) : Option ((Bool))) fun x409 =>
      bif x409 then
        (some (Sum.inr (Sum.inl ())))
      else
        grd (okI .i64 ((O .add x387 1))) <|
        (some (Sum.inl (O .add x387 1)))
  else
    (some (Sum.inr (Sum.inr ())))
def m_law13_PeriodicPoints (O : Ops) (a_1 : Int) (b_1 : Int) (n_1 : Int) (x_1 : Int) (a_2 : List (Int × Int)) (b_2 : List (Int × Int)) : Option (Bool) :=
  Option.bind (
    Option.bind (m_law13_awake O) fun b111 =>
    bif (O .not b111) then
      (some true)
    else
      Option.bind (m_law13_long O a_1 a_2) fun b112 =>
      bif b112 then
        (some true)
      else
        Option.bind (m_law13_long O b_1 b_2) fun b113 =>
        bif b113 then
          (some true)
        else
          Option.bind (m_periodic_Valid O a_1 a_2) fun b114 =>
          bif (O .not b114) then
            (some true)
          else
            Option.bind (m_periodic_Valid O b_1 b_2) fun b115 =>
            bif (O .not b115) then
              (some true)
            else
              Option.bind (m_law13_line O n_1) fun b116 =>
              bif (O .not b116) then
                (some true)
              else
                Option.bind (m_law13_line O x_1) fun b117 =>
                (some (O .not b117)) : Option ((Bool))) fun x357 =>
  bif x357 then
    Option.bind (m_law13_awake O) fun b118 =>
    (some b118)
  else
    Option.bind (m_periodic_Union O a_1 b_1 a_2 b_2) fun (n134, l212, n135) =>
    Option.bind (m_periodic_Meet O a_1 b_1 a_2 b_2) fun (n136, l213, n137) =>
    Option.bind (m_periodic_Minus O a_1 b_1 a_2 b_2) fun (n138, l214, n139) =>
    Option.bind (m_periodic_Not O a_1 a_2) fun (n140, l215, n141) =>
    Option.bind (m_periodic_Move O a_1 n_1 a_2) fun (n142, l216, n143) =>
    Option.bind (
      bif (O .not (O .eq n141 0)) then
        (some true)
      else
        (some (O .not (O .eq n143 0))) : Option ((Bool))) fun x359 =>
    bif x359 then
      (some false)
    else
      Option.bind (m_law13_near O x_1 a_1 b_1 a_2 b_2) fun l221 =>
      Option.bind (loop (m_law13_PeriodicPoints_L1 O a_1 a_2 b_1 b_2 l212 l213 l214 l215 l216 l221 n134 n135 n136 n137 n138 n139 n140 n142 n_1) 0) fun e => match e with
      | .inl _ =>
        (some false)
      | .inr (_) =>
        (some true)
def m_interval_Meet (O : Ops) (a_1 : Int) (a_2 : Int) (b_1 : Int) (b_2 : Int) : Option (Int × Int × Bool) :=
  Option.bind (
    Option.bind (m_interval_Valid O a_1 a_2) fun b154 =>
    bif (O .not b154) then
      (some true)
    else
      Option.bind (m_interval_Valid O b_1 b_2) fun b155 =>
      bif (O .not b155) then
        (some true)
      else
        (some (O .le (O .min a_2 b_2) (O .max a_1 b_1))) : Option ((Bool))) fun x418 =>
  bif x418 then
    (some (0, 0, false))
  else
    (some ((O .max a_1 b_1), (O .min a_2 b_2), true))
def m_periodic_Window_L1 (O : Ops) (at22 : Int) (in_1 : Int) (in_2 : Int) (p_2 : List (Int × Int)) : (Int × List (Int × Int)) → Option ((Int × List (Int × Int)) ⊕ (List (Int × Int))) := fun (x429, l239) =>
  bif (O .lt x429 (O .ofNat (O .len .i2 p_2))) then
    grd (okIdx x429 ((O .len .i2 p_2))) <|
    grd (okKin ((O .toNat x429)) ((O .len .i2 p_2))) <|
    grd (okI .i64 ((O .add ((O .get .i2 p_2 (O .toNat x429))).1 at22))) <|
    grd (okI .i64 ((O .add ((O .get .i2 p_2 (O .toNat x429))).2 at22))) <|
    Option.bind (m_interval_Meet O ((O .max (O .add ((O .get .i2 p_2 (O .toNat x429))).1 at22) in_1)) ((O .max (O .min (O .add ((O .get .i2 p_2 (O .toNat x429))).2 at22) in_2) in_1)) in_1 in_2) fun (n153, n154, b159) =>
    Option.bind (
      bif (O .not b159) then
        (some l239)
      else
        Option.bind (
          bif (O .lt 0 (O .ofNat (O .len .i2 l239))) then
            grd (okI .i64 ((O .sub (O .ofNat (O .len .i2 l239)) 1))) <|
            grd (okIdx ((O .sub (O .ofNat (O .len .i2 l239)) 1)) ((O .len .i2 l239))) <|
            grd (okKin ((O .toNat (O .sub (O .ofNat (O .len .i2 l239)) 1))) ((O .len .i2 l239))) <|
            (some (O .eq ((O .get .i2 l239 (O .toNat (O .sub (O .ofNat (O .len .i2 l239)) 1)))).2 n153))
          else
            (some false) : Option ((Bool))) fun x431 =>
        Option.bind (
          bif x431 then
            grd (okI .i64 ((O .sub (O .ofNat (O .len .i2 l239)) 1))) <|
            grd (okIdx ((O .sub (O .ofNat (O .len .i2 l239)) 1)) ((O .len .i2 l239))) <|
            grd (okKin ((O .toNat (O .sub (O .ofNat (O .len .i2 l239)) 1))) ((O .len .i2 l239))) <|
            (some (O .put .i2 l239 (O .toNat (O .sub (O .ofNat (O .len .i2 l239)) 1)) (((O .get .i2 l239 (O .toNat (O .sub (O .ofNat (O .len .i2 l239)) 1)))).1, n154)))
          else
            grd (okRoom ((O .len .i2 l239))) <|
            grd (okRoom ((O .len .i2 [(n153, n154)]))) <|
            (some (O .app .i2 l239 [(n153, n154)])) : Option ((List (Int × Int)))) fun l241 =>
        (some l241) : Option ((List (Int × Int)))) fun l243 =>
    grd (okI .i64 ((O .add x429 1))) <|
    (some (Sum.inl ((O .add x429 1), l243)))
  else
    (some (Sum.inr l239))
def m_periodic_Window_L2 (O : Ops) (in_1 : Int) (in_2 : Int) (p_1 : Int) (p_2 : List (Int × Int)) : (Int × List (Int × Int)) → Option ((Int × List (Int × Int)) ⊕ ((Unit) ⊕ (List (Int × Int)))) := fun (at22, l234) =>
  Option.bind (
    bif (O .lt at22 in_2) then
      (some (O .lt 0 (O .ofNat (O .len .i2 p_2))))
    else
      (some false) : Option ((Bool))) fun x425 =>
  bif x425 then
    Option.bind (loop (m_periodic_Window_L1 O at22 in_1 in_2 p_2) (0, l234)) fun l244 =>
    bif (O .lt 2000 (O .ofNat (O .len .i2 l244))) then
      (some (Sum.inr (Sum.inl ())))
    else
      grd (okI .i64 ((O .add at22 p_1))) <|
      (some (Sum.inl ((O .add at22 p_1), l244)))
  else
    (some (Sum.inr (Sum.inr l234)))
def m_periodic_Window (O : Ops) (p_1 : Int) (in_1 : Int) (in_2 : Int) (p_2 : List (Int × Int)) : Option (List (Int × Int) × Int) :=
  Option.bind (
    Option.bind (m_periodic_Valid O p_1 p_2) fun b152 =>
    bif (O .not b152) then
      (some true)
    else
      Option.bind (m_interval_Valid O in_1 in_2) fun b153 =>
      (some (O .not b153)) : Option ((Bool))) fun x413 =>
  bif x413 then
    (some (([] : List (Int × Int)), 1))
  else
    Option.bind (
      bif (O .eq p_1 1) then
        bif (O .eq (O .ofNat (O .len .i2 p_2)) 0) then
          (some (Sum.inl ([] : List (Int × Int))))
        else
          (some (Sum.inl [(in_1, in_2)]))
      else
        (some (Sum.inr ())) : Option (((List (Int × Int)) ⊕ (Unit)))) fun e => match e with
    | .inl l223 =>
      (some (l223, 0))
    | .inr (_) =>
      Option.bind (m_integer_Mod O in_1 p_1) fun n146 =>
      grd (okI .i64 ((O .sub in_1 n146))) <|
      Option.bind (loop (m_periodic_Window_L2 O in_1 in_2 p_1 p_2) ((O .sub in_1 n146), ([] : List (Int × Int)))) fun e => match e with
      | .inl _ =>
        (some (([] : List (Int × Int)), 5))
      | .inr (l245) =>
        (some (l245, 0))
def m_runs_Measure_L1 (O : Ops) (a_1 : List (Int × Int)) : (Int × Int) → Option ((Int × Int) ⊕ (Int)) := fun (n159, x434) =>
  bif (O .lt x434 (O .ofNat (O .len .i2 a_1))) then
    grd (okIdx x434 ((O .len .i2 a_1))) <|
    grd (okKin ((O .toNat x434)) ((O .len .i2 a_1))) <|
    grd (okI .i64 ((O .sub ((O .get .i2 a_1 (O .toNat x434))).2 ((O .get .i2 a_1 (O .toNat x434))).1))) <|
    grd (okI .i64 ((O .add n159 (O .sub ((O .get .i2 a_1 (O .toNat x434))).2 ((O .get .i2 a_1 (O .toNat x434))).1)))) <|
    grd (okI .i64 ((O .add x434 1))) <|
    (some (Sum.inl ((O .add n159 (O .sub ((O .get .i2 a_1 (O .toNat x434))).2 ((O .get .i2 a_1 (O .toNat x434))).1)), (O .add x434 1))))
  else
    (some (Sum.inr n159))
def m_runs_Measure (O : Ops) (a_1 : List (Int × Int)) : Option (Int) :=
  Option.bind (m_runs_Valid O a_1) fun b162 =>
  bif (O .not b162) then
    (some 0)
  else
    Option.bind (loop (m_runs_Measure_L1 O a_1) (0, 0)) fun n160 =>
    (some n160)
def m_runs_Rank_L1 (O : Ops) (a_1 : List (Int × Int)) (x_1 : Int) : (Int × Int) → Option ((Int × Int) ⊕ (Int)) := fun (n162, x435) =>
  bif (O .lt x435 (O .ofNat (O .len .i2 a_1))) then
    grd (okIdx x435 ((O .len .i2 a_1))) <|
    grd (okKin ((O .toNat x435)) ((O .len .i2 a_1))) <|
    Option.bind (
      bif (O .lt ((O .get .i2 a_1 (O .toNat x435))).1 x_1) then
        grd (okI .i64 ((O .sub (O .min ((O .get .i2 a_1 (O .toNat x435))).2 x_1) ((O .get .i2 a_1 (O .toNat x435))).1))) <|
        grd (okI .i64 ((O .add n162 (O .sub (O .min ((O .get .i2 a_1 (O .toNat x435))).2 x_1) ((O .get .i2 a_1 (O .toNat x435))).1)))) <|
        (some (O .add n162 (O .sub (O .min ((O .get .i2 a_1 (O .toNat x435))).2 x_1) ((O .get .i2 a_1 (O .toNat x435))).1)))
      else
        (some n162) : Option ((Int))) fun n164 =>
    grd (okI .i64 ((O .add x435 1))) <|
    (some (Sum.inl (n164, (O .add x435 1))))
  else
    (some (Sum.inr n162))
def m_runs_Rank (O : Ops) (x_1 : Int) (a_1 : List (Int × Int)) : Option (Int) :=
  Option.bind (m_runs_Valid O a_1) fun b163 =>
  bif (O .not b163) then
    (some 0)
  else
    Option.bind (loop (m_runs_Rank_L1 O a_1 x_1) (0, 0)) fun n165 =>
    (some n165)
def m_periodic_below (O : Ops) (p_1 : Int) (x_1 : Int) (p_2 : List (Int × Int)) : Option (Int) :=
  Option.bind (m_integer_Div O x_1 p_1) fun (n156, n157, _) =>
  Option.bind (m_runs_Measure O p_2) fun n161 =>
  grd (okI .i64 ((O .mul n156 n161))) <|
  Option.bind (m_runs_Rank O n157 p_2) fun n166 =>
  grd (okI .i64 ((O .add (O .mul n156 n161) n166))) <|
  (some (O .add (O .mul n156 n161) n166))
def m_periodic_Count (O : Ops) (p_1 : Int) (in_1 : Int) (in_2 : Int) (p_2 : List (Int × Int)) : Option (Int × Int) :=
  Option.bind (
    Option.bind (m_periodic_Valid O p_1 p_2) fun b160 =>
    bif (O .not b160) then
      (some true)
    else
      Option.bind (m_interval_Valid O in_1 in_2) fun b161 =>
      (some (O .not b161)) : Option ((Bool))) fun x433 =>
  bif x433 then
    (some (0, 1))
  else
    Option.bind (m_periodic_below O p_1 in_2 p_2) fun n167 =>
    Option.bind (m_periodic_below O p_1 in_1 p_2) fun n168 =>
    grd (okI .i64 ((O .sub n167 n168))) <|
    (some ((O .sub n167 n168), 0))
def m_ref13_Window_L1 (O : Ops) (at24 : Int) (in_1 : Int) (in_2 : Int) (p_2 : List (Int × Int)) : (Int × List (Int × Int)) → Option ((Int × List (Int × Int)) ⊕ (List (Int × Int))) := fun (i64, l256) =>
  bif (O .lt i64 (O .ofNat (O .len .i2 p_2))) then
    grd (okIdx i64 ((O .len .i2 p_2))) <|
    grd (okKin ((O .toNat i64)) ((O .len .i2 p_2))) <|
    grd (okI .i64 ((O .add ((O .get .i2 p_2 (O .toNat i64))).1 at24))) <|
    grd (okI .i64 ((O .add ((O .get .i2 p_2 (O .toNat i64))).2 at24))) <|
    bif (O .le (O .min (O .add ((O .get .i2 p_2 (O .toNat i64))).2 at24) in_2) (O .max (O .add ((O .get .i2 p_2 (O .toNat i64))).1 at24) in_1)) then
      grd (okI .i64 ((O .add i64 1))) <|
      (some (Sum.inl ((O .add i64 1), l256)))
    else
      Option.bind (
        bif (O .lt 0 (O .ofNat (O .len .i2 l256))) then
          grd (okI .i64 ((O .sub (O .ofNat (O .len .i2 l256)) 1))) <|
          grd (okIdx ((O .sub (O .ofNat (O .len .i2 l256)) 1)) ((O .len .i2 l256))) <|
          grd (okKin ((O .toNat (O .sub (O .ofNat (O .len .i2 l256)) 1))) ((O .len .i2 l256))) <|
          (some (O .eq ((O .get .i2 l256 (O .toNat (O .sub (O .ofNat (O .len .i2 l256)) 1)))).2 (O .max (O .add ((O .get .i2 p_2 (O .toNat i64))).1 at24) in_1)))
        else
          (some false) : Option ((Bool))) fun x445 =>
      Option.bind (
        bif x445 then
          grd (okI .i64 ((O .sub (O .ofNat (O .len .i2 l256)) 1))) <|
          grd (okIdx ((O .sub (O .ofNat (O .len .i2 l256)) 1)) ((O .len .i2 l256))) <|
          grd (okKin ((O .toNat (O .sub (O .ofNat (O .len .i2 l256)) 1))) ((O .len .i2 l256))) <|
          (some (O .put .i2 l256 (O .toNat (O .sub (O .ofNat (O .len .i2 l256)) 1)) (((O .get .i2 l256 (O .toNat (O .sub (O .ofNat (O .len .i2 l256)) 1)))).1, (O .min (O .add ((O .get .i2 p_2 (O .toNat i64))).2 at24) in_2))))
        else
          grd (okRoom ((O .len .i2 l256))) <|
          grd (okRoom ((O .len .i2 [((O .max (O .add ((O .get .i2 p_2 (O .toNat i64))).1 at24) in_1), (O .min (O .add ((O .get .i2 p_2 (O .toNat i64))).2 at24) in_2))]))) <|
          (some (O .app .i2 l256 [((O .max (O .add ((O .get .i2 p_2 (O .toNat i64))).1 at24) in_1), (O .min (O .add ((O .get .i2 p_2 (O .toNat i64))).2 at24) in_2))])) : Option ((List (Int × Int)))) fun l258 =>
      grd (okI .i64 ((O .add i64 1))) <|
      (some (Sum.inl ((O .add i64 1), l258)))
  else
    (some (Sum.inr l256))
def m_ref13_Window_L2 (O : Ops) (in_1 : Int) (in_2 : Int) (p_1 : Int) (p_2 : List (Int × Int)) : (Int × List (Int × Int)) → Option ((Int × List (Int × Int)) ⊕ ((Unit) ⊕ (List (Int × Int)))) := fun (at24, l253) =>
  bif (O .lt at24 in_2) then
    Option.bind (loop (m_ref13_Window_L1 O at24 in_1 in_2 p_2) (0, l253)) fun l259 =>
    bif (O .lt 2000 (O .ofNat (O .len .i2 l259))) then
      (some (Sum.inr (Sum.inl ())))
    else
      grd (okI .i64 ((O .add at24 p_1))) <|
      (some (Sum.inl ((O .add at24 p_1), l259)))
  else
    (some (Sum.inr (Sum.inr l253)))
def m_ref13_Window (O : Ops) (p_1 : Int) (in_1 : Int) (in_2 : Int) (p_2 : List (Int × Int)) : Option (List (Int × Int) × Int) :=
  Option.bind (
    Option.bind (m_ref13_Valid O p_1 p_2) fun b164 =>
    bif (O .not b164) then
      (some true)
    else
      Option.bind (m_ref13_Span O in_1 in_2) fun b165 =>
      (some (O .not b165)) : Option ((Bool))) fun x437 =>
  bif x437 then
    (some (([] : List (Int × Int)), 1))
  else
    bif (O .eq (O .ofNat (O .len .i2 p_2)) 0) then
      (some (([] : List (Int × Int)), 0))
    else
      bif (O .eq p_1 1) then
        (some ([(in_1, in_2)], 0))
      else
        Option.bind (m_ref01_Mod O in_1 p_1) fun n171 =>
        grd (okI .i64 ((O .sub in_1 n171))) <|
        Option.bind (loop (m_ref13_Window_L2 O in_1 in_2 p_1 p_2) ((O .sub in_1 n171), ([] : List (Int × Int)))) fun e => match e with
        | .inl _ =>
          (some (([] : List (Int × Int)), 5))
        | .inr (l260) =>
          (some (l260, 0))
def m_ref13_below_L1 (O : Ops) (n174 : Int) (p_2 : List (Int × Int)) : (Int × Int × Int) → Option ((Int × Int × Int) ⊕ (Int × Int)) := fun (each1, part1, i65) =>
  bif (O .lt i65 (O .ofNat (O .len .i2 p_2))) then
    grd (okIdx i65 ((O .len .i2 p_2))) <|
    grd (okKin ((O .toNat i65)) ((O .len .i2 p_2))) <|
    grd (okI .i64 ((O .add each1 ((O .get .i2 p_2 (O .toNat i65))).2))) <|
    grd (okI .i64 ((O .sub (O .add each1 ((O .get .i2 p_2 (O .toNat i65))).2) ((O .get .i2 p_2 (O .toNat i65))).1))) <|
    grd (okI .i64 ((O .sub (O .min n174 ((O .get .i2 p_2 (O .toNat i65))).2) ((O .get .i2 p_2 (O .toNat i65))).1))) <|
    grd (okI .i64 ((O .add part1 (O .max 0 (O .sub (O .min n174 ((O .get .i2 p_2 (O .toNat i65))).2) ((O .get .i2 p_2 (O .toNat i65))).1))))) <|
    grd (okI .i64 ((O .add i65 1))) <|
    (some (Sum.inl ((O .sub (O .add each1 ((O .get .i2 p_2 (O .toNat i65))).2) ((O .get .i2 p_2 (O .toNat i65))).1), (O .add part1 (O .max 0 (O .sub (O .min n174 ((O .get .i2 p_2 (O .toNat i65))).2) ((O .get .i2 p_2 (O .toNat i65))).1))), (O .add i65 1))))
  else
    (some (Sum.inr (each1, part1)))
def m_ref13_below (O : Ops) (p_1 : Int) (x_1 : Int) (p_2 : List (Int × Int)) : Option (Int) :=
  Option.bind (m_ref01_Div O x_1 p_1) fun (n173, n174, _) =>
  Option.bind (loop (m_ref13_below_L1 O n174 p_2) (0, 0, 0)) fun (each2, part2) =>
  grd (okI .i64 ((O .mul n173 each2))) <|
  grd (okI .i64 ((O .add (O .mul n173 each2) part2))) <|
  (some (O .add (O .mul n173 each2) part2))
def m_ref13_Count (O : Ops) (p_1 : Int) (in_1 : Int) (in_2 : Int) (p_2 : List (Int × Int)) : Option (Int) :=
  Option.bind (m_ref13_below O p_1 in_2 p_2) fun n176 =>
  Option.bind (m_ref13_below O p_1 in_1 p_2) fun n177 =>
  grd (okI .i64 ((O .sub n176 n177))) <|
  (some (O .sub n176 n177))
def m_law13_PeriodicWindows (O : Ops) (p_1 : Int) (in_1 : Int) (in_2 : Int) (p_2 : List (Int × Int)) : Option (Bool) :=
  Option.bind (
    Option.bind (m_law13_awake O) fun b149 =>
    bif (O .not b149) then
      (some true)
    else
      Option.bind (m_law13_long O p_1 p_2) fun b150 =>
      (some b150) : Option ((Bool))) fun x411 =>
  bif x411 then
    Option.bind (m_law13_awake O) fun b151 =>
    (some b151)
  else
    Option.bind (m_periodic_Window O p_1 in_1 in_2 p_2) fun (l246, n155) =>
    Option.bind (m_periodic_Count O p_1 in_1 in_2 p_2) fun (n169, n170) =>
    Option.bind (m_ref13_Window O p_1 in_1 in_2 p_2) fun (l261, n172) =>
    Option.bind (
      bif (O .not (O .eq n155 n172)) then
        (some true)
      else
        Option.bind (m_slices_Equal O l246 l261) fun b166 =>
        (some (O .not b166)) : Option ((Bool))) fun x447 =>
    bif x447 then
      (some false)
    else
      Option.bind (
        Option.bind (m_ref13_Valid O p_1 p_2) fun b167 =>
        bif (O .not b167) then
          (some true)
        else
          Option.bind (m_ref13_Span O in_1 in_2) fun b168 =>
          (some (O .not b168)) : Option ((Bool))) fun x449 =>
      bif x449 then
        Option.bind (
          bif (O .eq n169 0) then
            (some (O .eq n170 1))
          else
            (some false) : Option ((Bool))) fun x451 =>
        (some x451)
      else
        Option.bind (
          bif (O .eq n170 0) then
            Option.bind (m_ref13_Count O p_1 in_1 in_2 p_2) fun n178 =>
            bif (O .eq n169 n178) then
              bif (O .not (O .eq n155 0)) then
                (some true)
              else
                Option.bind (m_runs_Measure O l246) fun n179 =>
                bif (O .eq n169 n179) then
                  Option.bind (m_runs_Valid O l246) fun b169 =>
                  (some b169)
                else
                  (some false)
            else
              (some false)
          else
            (some false) : Option ((Bool))) fun x456 =>
        (some x456)
def m_law13_PeriodicCounts (O : Ops) (p_1 : Int) (a_1 : Int) (b_1 : Int) (c_1 : Int) (p_2 : List (Int × Int)) : Option (Bool) :=
  Option.bind (
    Option.bind (m_law13_awake O) fun b170 =>
    bif (O .not b170) then
      (some true)
    else
      Option.bind (m_law13_long O p_1 p_2) fun b171 =>
      bif b171 then
        (some true)
      else
        Option.bind (m_periodic_Valid O p_1 p_2) fun b172 =>
        bif (O .not b172) then
          (some true)
        else
          Option.bind (m_law13_line O a_1) fun b173 =>
          bif (O .not b173) then
            (some true)
          else
            Option.bind (m_law13_line O c_1) fun b174 =>
            bif (O .not b174) then
              (some true)
            else
              bif (O .le b_1 a_1) then
                (some true)
              else
                (some (O .le c_1 b_1)) : Option ((Bool))) fun x458 =>
  bif x458 then
    Option.bind (m_law13_awake O) fun b175 =>
    (some b175)
  else
    Option.bind (m_periodic_Count O p_1 a_1 b_1 p_2) fun (n180, n181) =>
    Option.bind (m_periodic_Count O p_1 b_1 c_1 p_2) fun (n182, n183) =>
    Option.bind (m_periodic_Count O p_1 a_1 c_1 p_2) fun (n184, n185) =>
    Option.bind (m_periodic_Not O p_1 p_2) fun (n186, l262, n187) =>
    Option.bind (m_periodic_Count O n186 a_1 c_1 l262) fun (n188, n189) =>
    Option.bind (
      bif (O .not (O .eq n181 0)) then
        (some true)
      else
        bif (O .not (O .eq n183 0)) then
          (some true)
        else
          bif (O .not (O .eq n185 0)) then
            (some true)
          else
            bif (O .not (O .eq n187 0)) then
              (some true)
            else
              bif (O .not (O .eq n189 0)) then
                (some true)
              else
                bif (O .not (O .eq (O .add n180 n182) n184)) then
                  grd (okI .i64 ((O .add n180 n182))) <|
                  (some true)
                else
                  grd (okI .i64 ((O .add n180 n182))) <|
                  grd (okI .i64 ((O .add n184 n188))) <|
                  grd (okI .i64 ((O .sub c_1 a_1))) <|
                  (some (O .not (O .eq (O .add n184 n188) (O .sub c_1 a_1)))) : Option ((Bool))) fun x460 =>
    bif x460 then
      (some false)
    else
      grd (okI .i64 ((O .add a_1 p_1))) <|
      Option.bind (m_law13_line O ((O .add a_1 p_1))) fun b176 =>
      bif (O .not b176) then
        (some true)
      else
        Option.bind (m_periodic_Count O p_1 0 p_1 p_2) fun (n190, n191) =>
        Option.bind (m_periodic_Count O p_1 a_1 ((O .add a_1 p_1)) p_2) fun (n192, n193) =>
        Option.bind (
          bif (O .eq n191 0) then
            bif (O .eq n193 0) then
              (some (O .eq n190 n192))
            else
              (some false)
          else
            (some false) : Option ((Bool))) fun x463 =>
        (some x463)
def m_runs_search_1 (O : Ops) (_s_1 : Int) (s_2 : Int) (x_1 : Int) : Option (Int) :=
  bif (O .le s_2 x_1) then
    (some (-1))
  else
    (some 1)
def m_slices_BinarySearchFunc_2_L1 (O : Ops) (target_1 : Int) (x_1 : List (Int × Int)) : (Int × Int) → Option ((Int × Int) ⊕ (Int)) := fun (i66, j4) =>
  bif (O .lt i66 j4) then
    grd (okI .i64 ((O .add i66 j4))) <|
    grd (okI .u64 ((O .add i66 j4))) <|
    grd (okIdx 1 65) <|
    grd (okI .i64 ((O .shr (O .add i66 j4) 1))) <|
    grd (okIdx ((O .shr (O .add i66 j4) 1)) ((O .len .i2 x_1))) <|
    grd (okKin ((O .toNat (O .shr (O .add i66 j4) 1))) ((O .len .i2 x_1))) <|
    Option.bind (m_runs_search_1 O (((O .get .i2 x_1 (O .toNat (O .shr (O .add i66 j4) 1)))).1) (((O .get .i2 x_1 (O .toNat (O .shr (O .add i66 j4) 1)))).2) target_1) fun n195 =>
    Option.bind (
      bif (O .lt n195 0) then
        grd (okI .i64 ((O .add (O .shr (O .add i66 j4) 1) 1))) <|
        (some ((O .add (O .shr (O .add i66 j4) 1) 1), j4))
      else
        (some (i66, (O .shr (O .add i66 j4) 1))) : Option ((Int × Int))) fun (i68, j6) =>
    (some (Sum.inl (i68, j6)))
  else
    (some (Sum.inr i66))
def m_slices_BinarySearchFunc_2 (O : Ops) (target_1 : Int) (x_1 : List (Int × Int)) : Option (Int × Bool) :=
  Option.bind (loop (m_slices_BinarySearchFunc_2_L1 O target_1 x_1) (0, (O .ofNat (O .len .i2 x_1)))) fun i69 =>
  Option.bind (
    bif (O .lt i69 (O .ofNat (O .len .i2 x_1))) then
      grd (okIdx i69 ((O .len .i2 x_1))) <|
      grd (okKin ((O .toNat i69)) ((O .len .i2 x_1))) <|
      Option.bind (m_runs_search_1 O (((O .get .i2 x_1 (O .toNat i69))).1) (((O .get .i2 x_1 (O .toNat i69))).2) target_1) fun n196 =>
      (some (O .eq n196 0))
    else
      (some false) : Option ((Bool))) fun x469 =>
  (some (i69, x469))
def m_runs_search (O : Ops) (x_1 : Int) (a_1 : List (Int × Int)) : Option (Int) :=
  Option.bind (m_slices_BinarySearchFunc_2 O x_1 a_1) fun (n197, _) =>
  (some n197)
def m_runs_Next (O : Ops) (x_1 : Int) (a_1 : List (Int × Int)) : Option (Int × Bool) :=
  Option.bind (m_runs_Valid O a_1) fun b181 =>
  bif (O .not b181) then
    (some (0, false))
  else
    Option.bind (m_runs_search O x_1 a_1) fun n198 =>
    bif (O .eq n198 (O .ofNat (O .len .i2 a_1))) then
      (some (0, false))
    else
      grd (okIdx n198 ((O .len .i2 a_1))) <|
      grd (okKin ((O .toNat n198)) ((O .len .i2 a_1))) <|
      (some ((O .max x_1 ((O .get .i2 a_1 (O .toNat n198))).1), true))
def m_periodic_Next (O : Ops) (p_1 : Int) (x_1 : Int) (p_2 : List (Int × Int)) : Option (Int × Bool) :=
  Option.bind (
    Option.bind (m_periodic_Valid O p_1 p_2) fun b180 =>
    bif (O .not b180) then
      (some true)
    else
      bif (O .eq (O .ofNat (O .len .i2 p_2)) 0) then
        (some true)
      else
        bif (O .lt x_1 (-4398046511104)) then
          (some true)
        else
          (some (O .lt 4398046511104 x_1)) : Option ((Bool))) fun x467 =>
  bif x467 then
    (some (0, false))
  else
    Option.bind (m_integer_Mod O x_1 p_1) fun n194 =>
    Option.bind (m_runs_Next O n194 p_2) fun (n199, b183) =>
    bif b183 then
      grd (okI .i64 ((O .add x_1 n199))) <|
      grd (okI .i64 ((O .sub (O .add x_1 n199) n194))) <|
      (some ((O .sub (O .add x_1 n199) n194), true))
    else
      grd (okI .i64 ((O .add x_1 p_1))) <|
      grd (okI .i64 ((O .sub (O .add x_1 p_1) n194))) <|
      grd (okIdx 0 ((O .len .i2 p_2))) <|
      grd (okKin ((O .toNat 0)) ((O .len .i2 p_2))) <|
      grd (okI .i64 ((O .add (O .sub (O .add x_1 p_1) n194) ((O .get .i2 p_2 (O .toNat 0))).1))) <|
      (some ((O .add (O .sub (O .add x_1 p_1) n194) ((O .get .i2 p_2 (O .toNat 0))).1), true))
def m_law13_PeriodicNext (O : Ops) (p_1 : Int) (x_1 : Int) (p_2 : List (Int × Int)) : Option (Bool) :=
  Option.bind (
    Option.bind (m_law13_awake O) fun b177 =>
    bif (O .not b177) then
      (some true)
    else
      Option.bind (m_law13_long O p_1 p_2) fun b178 =>
      (some b178) : Option ((Bool))) fun x465 =>
  bif x465 then
    Option.bind (m_law13_awake O) fun b179 =>
    (some b179)
  else
    Option.bind (m_periodic_Next O p_1 x_1 p_2) fun (n200, b184) =>
    Option.bind (
      Option.bind (m_periodic_Valid O p_1 p_2) fun b185 =>
      bif (O .not b185) then
        (some true)
      else
        Option.bind (m_law13_line O x_1) fun b186 =>
        bif (O .not b186) then
          (some true)
        else
          (some (O .eq (O .ofNat (O .len .i2 p_2)) 0)) : Option ((Bool))) fun x471 =>
    bif x471 then
      Option.bind (
        bif (O .eq n200 0) then
          (some (O .not b184))
        else
          (some false) : Option ((Bool))) fun x473 =>
      (some x473)
    else
      Option.bind (
        bif (O .not b184) then
          (some true)
        else
          bif (O .lt n200 x_1) then
            (some true)
          else
            bif (O .le p_1 (O .sub n200 x_1)) then
              grd (okI .i64 ((O .sub n200 x_1))) <|
              (some true)
            else
              grd (okI .i64 ((O .sub n200 x_1))) <|
              Option.bind (m_periodic_Has O p_1 n200 p_2) fun b187 =>
              (some (O .not b187)) : Option ((Bool))) fun x475 =>
      bif x475 then
        (some false)
      else
        Option.bind (
          bif (O .eq n200 x_1) then
            (some true)
          else
            Option.bind (m_law13_line O n200) fun b188 =>
            (some (O .not b188)) : Option ((Bool))) fun x477 =>
        bif x477 then
          (some true)
        else
          Option.bind (m_periodic_Count O p_1 x_1 n200 p_2) fun (n201, n202) =>
          Option.bind (
            bif (O .eq n202 0) then
              (some (O .eq n201 0))
            else
              (some false) : Option ((Bool))) fun x479 =>
          (some x479)
def m_periodic_Within (O : Ops) (a_1 : Int) (b_1 : Int) (a_2 : List (Int × Int)) (b_2 : List (Int × Int)) : Option (Bool × Int) :=
  Option.bind (m_periodic_Minus O a_1 b_1 a_2 b_2) fun (_, l263, n204) =>
  Option.bind (
    bif (O .eq n204 0) then
      (some (O .eq (O .ofNat (O .len .i2 l263)) 0))
    else
      (some false) : Option ((Bool))) fun x483 =>
  (some (x483, n204))
def m_law13_PeriodicWithin (O : Ops) (a_1 : Int) (b_1 : Int) (a_2 : List (Int × Int)) (b_2 : List (Int × Int)) : Option (Bool) :=
  Option.bind (
    Option.bind (m_law13_awake O) fun b189 =>
    bif (O .not b189) then
      (some true)
    else
      Option.bind (m_law13_long O a_1 a_2) fun b190 =>
      bif b190 then
        (some true)
      else
        Option.bind (m_law13_long O b_1 b_2) fun b191 =>
        (some b191) : Option ((Bool))) fun x481 =>
  bif x481 then
    Option.bind (m_law13_awake O) fun b192 =>
    (some b192)
  else
    Option.bind (m_periodic_Within O a_1 b_1 a_2 b_2) fun (b193, n205) =>
    Option.bind (m_periodic_Minus O a_1 b_1 a_2 b_2) fun (_, l264, n207) =>
    Option.bind (
      bif (O .not (O .eq n205 n207)) then
        bif (O .eq n207 0) then
          (some (b193, true))
        else
          bif (O .not (O .eq n205 0)) then
            bif b193 then
              (some (true, true))
            else
              (some (false, (O .eq n207 0)))
          else
            (some (b193, false))
      else
        bif (O .not (O .eq n205 0)) then
          bif b193 then
            (some (true, true))
          else
            (some (false, (O .eq n207 0)))
        else
          (some (b193, false)) : Option ((Bool × Bool))) fun (ok7, x489) =>
    bif x489 then
      (some false)
    else
      bif (O .not (O .eq n205 0)) then
        (some (O .eq n205 n207))
      else
        bif (O .not (O .beq ok7 (O .eq (O .ofNat (O .len .i2 l264)) 0))) then
          (some false)
        else
          Option.bind (m_periodic_Meet O a_1 b_1 a_2 b_2) fun (n208, l265, n209) =>
          Option.bind (m_periodic_Union O a_1 b_1 a_2 b_2) fun (n210, l266, n211) =>
          Option.bind (
            bif (O .not (O .eq n209 0)) then
              (some true)
            else
              (some (O .not (O .eq n211 0))) : Option ((Bool))) fun x491 =>
          bif x491 then
            (some true)
          else
            Option.bind (m_periodic_Within O n208 a_1 l265 a_2) fun (b194, n212) =>
            Option.bind (m_periodic_Within O b_1 n210 b_2 l266) fun (b195, n213) =>
            Option.bind (
              bif (O .not (O .eq n212 0)) then
                bif (O .not (O .eq n213 0)) then
                  (some true)
                else
                  (some b195)
              else
                bif b194 then
                  bif (O .not (O .eq n213 0)) then
                    (some true)
                  else
                    (some b195)
                else
                  (some false) : Option ((Bool))) fun x496 =>
            (some x496)
def m_law13_PeriodicLaws_1 (O : Ops) (e_1 : Int) : Option (Bool) :=
  (some (O .not (O .eq e_1 0)))
def m_slices_IndexFunc_2_L1 (O : Ops) (s_1 : List Int) : (Int) → Option ((Int) ⊕ ((Int) ⊕ (Unit))) := fun x504 =>
  bif (O .lt x504 (O .ofNat (O .len .i1 s_1))) then
    grd (okIdx x504 ((O .len .i1 s_1))) <|
    grd (okKin ((O .toNat x504)) ((O .len .i1 s_1))) <|
    Option.bind (m_law13_PeriodicLaws_1 O ((O .get .i1 s_1 (O .toNat x504)))) fun b204 =>
    bif b204 then
      (some (Sum.inr (Sum.inl x504)))
    else
      grd (okI .i64 ((O .add x504 1))) <|
      (some (Sum.inl (O .add x504 1)))
  else
    (some (Sum.inr (Sum.inr ())))
def m_slices_IndexFunc_2 (O : Ops) (s_1 : List Int) : Option (Int) :=
  Option.bind (loop (m_slices_IndexFunc_2_L1 O s_1) 0) fun e => match e with
  | .inl x505 =>
    (some x505)
  | .inr (_) =>
    (some (-1))
def m_slices_ContainsFunc_2 (O : Ops) (s_1 : List Int) : Option (Bool) :=
  Option.bind (m_slices_IndexFunc_2 O s_1) fun n228 =>
  (some (O .le 0 n228))
def m_law13_PeriodicLaws (O : Ops) (a_1 : Int) (b_1 : Int) (a_2 : List (Int × Int)) (b_2 : List (Int × Int)) : Option (Bool) :=
  Option.bind (
    Option.bind (m_law13_awake O) fun b196 =>
    bif (O .not b196) then
      (some true)
    else
      Option.bind (m_law13_long O a_1 a_2) fun b197 =>
      bif b197 then
        (some true)
      else
        Option.bind (m_law13_long O b_1 b_2) fun b198 =>
        bif b198 then
          (some true)
        else
          Option.bind (m_periodic_Valid O a_1 a_2) fun b199 =>
          bif (O .not b199) then
            (some true)
          else
            Option.bind (m_periodic_Valid O b_1 b_2) fun b200 =>
            (some (O .not b200)) : Option ((Bool))) fun x498 =>
  bif x498 then
    Option.bind (m_law13_awake O) fun b201 =>
    (some b201)
  else
    Option.bind (m_periodic_Union O a_1 b_1 a_2 b_2) fun (n214, l267, n215) =>
    Option.bind (m_periodic_Union O b_1 a_1 b_2 a_2) fun (n216, l268, n217) =>
    Option.bind (m_periodic_Meet O a_1 b_1 a_2 b_2) fun (n218, l269, n219) =>
    Option.bind (m_periodic_Minus O a_1 b_1 a_2 b_2) fun (n220, l270, n221) =>
    Option.bind (
      bif (O .not (O .eq n215 n217)) then
        (some true)
      else
        bif (O .eq n215 0) then
          Option.bind (m_periodic_Valid O n214 l267) fun b202 =>
          bif (O .not b202) then
            (some true)
          else
            Option.bind (m_periodic_Equal O n214 n216 l267 l268) fun b203 =>
            (some (O .not b203))
        else
          (some false) : Option ((Bool))) fun x501 =>
    bif x501 then
      (some false)
    else
      Option.bind (
        bif (O .not (O .eq n215 0)) then
          (some true)
        else
          bif (O .not (O .eq n219 0)) then
            (some true)
          else
            (some (O .not (O .eq n221 0))) : Option ((Bool))) fun x503 =>
      bif x503 then
        (some true)
      else
        Option.bind (m_periodic_Not O a_1 a_2) fun (n222, l271, n223) =>
        Option.bind (m_periodic_Not O b_1 b_2) fun (n224, l272, n225) =>
        Option.bind (m_periodic_Not O n214 l267) fun (n226, l273, n227) =>
        Option.bind (m_slices_ContainsFunc_2 O ([n223, n225, n227])) fun b205 =>
        bif b205 then
          Option.bind (
            bif (O .eq n223 0) then
              bif (O .eq n225 0) then
                bif (O .eq n227 0) then
                  (some true)
                else
                  (some (O .eq n227 5))
              else
                bif (O .eq n225 5) then
                  bif (O .eq n227 0) then
                    (some true)
                  else
                    (some (O .eq n227 5))
                else
                  (some false)
            else
              bif (O .eq n223 5) then
                bif (O .eq n225 0) then
                  bif (O .eq n227 0) then
                    (some true)
                  else
                    (some (O .eq n227 5))
                else
                  bif (O .eq n225 5) then
                    bif (O .eq n227 0) then
                      (some true)
                    else
                      (some (O .eq n227 5))
                  else
                    (some false)
              else
                (some false) : Option ((Bool))) fun x516 =>
          (some x516)
        else
          Option.bind (m_periodic_Meet O n222 n224 l271 l272) fun (n229, l274, n230) =>
          Option.bind (
            bif (O .eq n230 0) then
              Option.bind (m_periodic_Equal O n226 n229 l273 l274) fun b206 =>
              (some (O .not b206))
            else
              (some false) : Option ((Bool))) fun x518 =>
          bif x518 then
            (some false)
          else
            Option.bind (m_periodic_Meet O a_1 n224 a_2 l272) fun (n231, l275, n232) =>
            Option.bind (m_periodic_Union O n220 n218 l270 l269) fun (n233, l276, n234) =>
            Option.bind (m_periodic_Meet O a_1 n214 a_2 l267) fun (n235, l277, n236) =>
            Option.bind (
              bif (O .not (O .eq n232 0)) then
                bif (O .not (O .eq n234 0)) then
                  bif (O .not (O .eq n236 0)) then
                    (some true)
                  else
                    Option.bind (m_periodic_Equal O n235 a_1 l277 a_2) fun b207 =>
                    (some b207)
                else
                  Option.bind (m_periodic_Equal O n233 a_1 l276 a_2) fun b208 =>
                  bif b208 then
                    bif (O .not (O .eq n236 0)) then
                      (some true)
                    else
                      Option.bind (m_periodic_Equal O n235 a_1 l277 a_2) fun b209 =>
                      (some b209)
                  else
                    (some false)
              else
                Option.bind (m_periodic_Equal O n231 n220 l275 l270) fun b210 =>
                bif b210 then
                  bif (O .not (O .eq n234 0)) then
                    bif (O .not (O .eq n236 0)) then
                      (some true)
                    else
                      Option.bind (m_periodic_Equal O n235 a_1 l277 a_2) fun b211 =>
                      (some b211)
                  else
                    Option.bind (m_periodic_Equal O n233 a_1 l276 a_2) fun b212 =>
                    bif b212 then
                      bif (O .not (O .eq n236 0)) then
                        (some true)
                      else
                        Option.bind (m_periodic_Equal O n235 a_1 l277 a_2) fun b213 =>
                        (some b213)
                    else
                      (some false)
                else
                  (some false) : Option ((Bool))) fun x529 =>
            (some x529)
end Go.Proofs.Ytfhfifcfkimgpaa
