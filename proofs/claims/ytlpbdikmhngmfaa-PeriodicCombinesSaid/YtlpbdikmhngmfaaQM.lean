/-
  Models of functions (printed by lift.py).
-/
import Derived.Test.YtlpbdikmhngmfaaManMC
namespace Go.Proofs.Ytlpbdikmhngmfaa
open Go.RowKit
set_option maxRecDepth 100000

def m_interval_line (O : Ops) (x_1 : Int) : Option (Bool) :=
  Option.bind (
    bif (O .le (-4398046511104) x_1) then
      (some (O .le x_1 4398046511104))
    else
      (some false) : Option ((Bool))) fun x3 =>
  (some x3)
def m_interval_Valid (O : Ops) (s_1 : Int) (s_2 : Int) : Option (Bool) :=
  Option.bind (
    Option.bind (m_interval_line O s_1) fun b1 =>
    bif b1 then
      Option.bind (m_interval_line O s_2) fun b2 =>
      bif b2 then
        (some (O .lt s_1 s_2))
      else
        (some false)
    else
      (some false) : Option ((Bool))) fun x6 =>
  (some x6)
def m_periodic_Of_1 (O : Ops) (s_1 : Int) (s_2 : Int) : Option (Bool) :=
  Option.bind (m_interval_Valid O s_1 s_2) fun b3 =>
  (some (O .not b3))
def m_slices_IndexFunc_L1 (O : Ops) (s_1 : List (Int × Int)) : (Int) → Option ((Int) ⊕ ((Int) ⊕ (Unit))) := fun x1 =>
  bif (O .lt x1 (O .ofNat (O .len .i2 s_1))) then
    grd (okIdx x1 ((O .len .i2 s_1))) <|
    grd (okKin ((O .toNat x1)) ((O .len .i2 s_1))) <|
    Option.bind (m_periodic_Of_1 O (((O .get .i2 s_1 (O .toNat x1))).1) (((O .get .i2 s_1 (O .toNat x1))).2)) fun b4 =>
    bif b4 then
      (some (Sum.inr (Sum.inl x1)))
    else
      grd (okI .i64 ((O .add x1 1))) <|
      (some (Sum.inl (O .add x1 1)))
  else
    (some (Sum.inr (Sum.inr ())))
def m_slices_IndexFunc (O : Ops) (s_1 : List (Int × Int)) : Option (Int) :=
  Option.bind (loop (m_slices_IndexFunc_L1 O s_1) 0) fun e => match e with
  | .inl x7 =>
    (some x7)
  | .inr (_) =>
    (some (-1))
def m_slices_ContainsFunc (O : Ops) (s_1 : List (Int × Int)) : Option (Bool) :=
  Option.bind (m_slices_IndexFunc O s_1) fun n1 =>
  (some (O .le 0 n1))
def m_integer_Div (O : Ops) (a_1 : Int) (b_1 : Int) : Option (Int × Int × Int) :=
  Option.bind (
    bif (O .eq b_1 0) then
      (some (Sum.inl 10))
    else
      Option.bind (
        bif (O .eq a_1 (-9223372036854775808)) then
          (some (O .eq b_1 (-1)))
        else
          (some false) : Option ((Bool))) fun x12 =>
      bif x12 then
        (some (Sum.inl 9))
      else
        (some (Sum.inr ())) : Option (((Int) ⊕ (Unit)))) fun e => match e with
  | .inl x14 =>
    (some (0, 0, x14))
  | .inr (_) =>
    grd (okNz b_1) <|
    grd (okI .i64 ((O .quo a_1 b_1))) <|
    Option.bind (
      bif (O .not (O .eq (O .rem a_1 b_1) 0)) then
        (some (O .not (O .beq (O .lt (O .rem a_1 b_1) 0) (O .lt b_1 0))))
      else
        (some false) : Option ((Bool))) fun x16 =>
    Option.bind (
      bif x16 then
        grd (okI .i64 ((O .sub (O .quo a_1 b_1) 1))) <|
        grd (okI .i64 ((O .add (O .rem a_1 b_1) b_1))) <|
        (some ((O .sub (O .quo a_1 b_1) 1), (O .add (O .rem a_1 b_1) b_1)))
      else
        (some ((O .quo a_1 b_1), (O .rem a_1 b_1))) : Option ((Int × Int))) fun (q2, r2) =>
    (some (q2, r2, 0))
def m_integer_Mod (O : Ops) (a_1 : Int) (b_1 : Int) : Option (Int) :=
  Option.bind (m_integer_Div O a_1 b_1) fun (_, n3, _) =>
  (some n3)
def m_periodic_fold_L1 (O : Ops) (l_1 : List (Int × Int)) (period_1 : Int) : (Int × List (Int × Int)) → Option ((Int × List (Int × Int)) ⊕ ((Unit) ⊕ (List (Int × Int)))) := fun (x17, l3) =>
  bif (O .lt x17 (O .ofNat (O .len .i2 l_1))) then
    grd (okIdx x17 ((O .len .i2 l_1))) <|
    grd (okKin ((O .toNat x17)) ((O .len .i2 l_1))) <|
    grd (okI .i64 ((O .sub ((O .get .i2 l_1 (O .toNat x17))).2 ((O .get .i2 l_1 (O .toNat x17))).1))) <|
    bif (O .le period_1 (O .sub ((O .get .i2 l_1 (O .toNat x17))).2 ((O .get .i2 l_1 (O .toNat x17))).1)) then
      (some (Sum.inr (Sum.inl ())))
    else
      Option.bind (m_integer_Mod O (((O .get .i2 l_1 (O .toNat x17))).1) period_1) fun n6 =>
      grd (okI .i64 ((O .add n6 ((O .get .i2 l_1 (O .toNat x17))).2))) <|
      grd (okI .i64 ((O .sub (O .add n6 ((O .get .i2 l_1 (O .toNat x17))).2) ((O .get .i2 l_1 (O .toNat x17))).1))) <|
      grd (okRoom ((O .len .i2 l3))) <|
      grd (okRoom ((O .len .i2 [(n6, (O .min (O .sub (O .add n6 ((O .get .i2 l_1 (O .toNat x17))).2) ((O .get .i2 l_1 (O .toNat x17))).1) period_1))]))) <|
      Option.bind (
        bif (O .lt period_1 (O .sub (O .add n6 ((O .get .i2 l_1 (O .toNat x17))).2) ((O .get .i2 l_1 (O .toNat x17))).1)) then
          grd (okI .i64 ((O .sub (O .sub (O .add n6 ((O .get .i2 l_1 (O .toNat x17))).2) ((O .get .i2 l_1 (O .toNat x17))).1) period_1))) <|
          grd (okRoom ((O .len .i2 (O .app .i2 l3 [(n6, (O .min (O .sub (O .add n6 ((O .get .i2 l_1 (O .toNat x17))).2) ((O .get .i2 l_1 (O .toNat x17))).1) period_1))])))) <|
          grd (okRoom ((O .len .i2 [(0, (O .sub (O .sub (O .add n6 ((O .get .i2 l_1 (O .toNat x17))).2) ((O .get .i2 l_1 (O .toNat x17))).1) period_1))]))) <|
          (some (O .app .i2 (O .app .i2 l3 [(n6, (O .min (O .sub (O .add n6 ((O .get .i2 l_1 (O .toNat x17))).2) ((O .get .i2 l_1 (O .toNat x17))).1) period_1))]) [(0, (O .sub (O .sub (O .add n6 ((O .get .i2 l_1 (O .toNat x17))).2) ((O .get .i2 l_1 (O .toNat x17))).1) period_1))]))
        else
          (some (O .app .i2 l3 [(n6, (O .min (O .sub (O .add n6 ((O .get .i2 l_1 (O .toNat x17))).2) ((O .get .i2 l_1 (O .toNat x17))).1) period_1))])) : Option ((List (Int × Int)))) fun l5 =>
      grd (okI .i64 ((O .add x17 1))) <|
      (some (Sum.inl ((O .add x17 1), l5)))
  else
    (some (Sum.inr (Sum.inr l3)))
def m_periodic_fold_L2 (O : Ops) (l7 : List (Int × Int)) : (Int × List (Int × Int)) → Option ((Int × List (Int × Int)) ⊕ (List (Int × Int))) := fun (x21, l10) =>
  bif (O .lt x21 (O .ofNat (O .len .i2 l7))) then
    grd (okIdx x21 ((O .len .i2 l7))) <|
    grd (okKin ((O .toNat x21)) ((O .len .i2 l7))) <|
    Option.bind (
      bif (O .lt 0 (O .ofNat (O .len .i2 l10))) then
        grd (okI .i64 ((O .sub (O .ofNat (O .len .i2 l10)) 1))) <|
        grd (okIdx ((O .sub (O .ofNat (O .len .i2 l10)) 1)) ((O .len .i2 l10))) <|
        grd (okKin ((O .toNat (O .sub (O .ofNat (O .len .i2 l10)) 1))) ((O .len .i2 l10))) <|
        (some (O .le ((O .get .i2 l7 (O .toNat x21))).1 ((O .get .i2 l10 (O .toNat (O .sub (O .ofNat (O .len .i2 l10)) 1)))).2))
      else
        (some false) : Option ((Bool))) fun x23 =>
    Option.bind (
      bif x23 then
        grd (okI .i64 ((O .sub (O .ofNat (O .len .i2 l10)) 1))) <|
        grd (okIdx ((O .sub (O .ofNat (O .len .i2 l10)) 1)) ((O .len .i2 l10))) <|
        grd (okKin ((O .toNat (O .sub (O .ofNat (O .len .i2 l10)) 1))) ((O .len .i2 l10))) <|
        (some (O .put .i2 l10 (O .toNat (O .sub (O .ofNat (O .len .i2 l10)) 1)) (((O .get .i2 l10 (O .toNat (O .sub (O .ofNat (O .len .i2 l10)) 1)))).1, (O .max ((O .get .i2 l10 (O .toNat (O .sub (O .ofNat (O .len .i2 l10)) 1)))).2 ((O .get .i2 l7 (O .toNat x21))).2))))
      else
        grd (okRoom ((O .len .i2 l10))) <|
        grd (okRoom ((O .len .i2 [(((O .get .i2 l7 (O .toNat x21))).1, ((O .get .i2 l7 (O .toNat x21))).2)]))) <|
        (some (O .app .i2 l10 [(((O .get .i2 l7 (O .toNat x21))).1, ((O .get .i2 l7 (O .toNat x21))).2)])) : Option ((List (Int × Int)))) fun l12 =>
    grd (okI .i64 ((O .add x21 1))) <|
    (some (Sum.inl ((O .add x21 1), l12)))
  else
    (some (Sum.inr l10))
def m_periodic_fold (O : Ops) (period_1 : Int) (l_1 : List (Int × Int)) : Option (List (Int × Int)) :=
  Option.bind (loop (m_periodic_fold_L1 O l_1 period_1) (0, ([] : List (Int × Int)))) fun e => match e with
  | .inl _ =>
    (some [(0, period_1)])
  | .inr (l6) =>
    Option.bind (m_sortSp O l6) fun l7 =>
    Option.bind (loop (m_periodic_fold_L2 O l7) (0, ([] : List (Int × Int)))) fun l13 =>
    (some l13)
def m_periodic_repeats_L1 (O : Ops) (l_1 : List (Int × Int)) (period_1 : Int) : (Int × List Int) → Option ((Int × List Int) ⊕ (List Int)) := fun (x27, l21) =>
  bif (O .lt x27 (O .ofNat (O .len .i2 l_1))) then
    grd (okIdx x27 ((O .len .i2 l_1))) <|
    grd (okKin ((O .toNat x27)) ((O .len .i2 l_1))) <|
    Option.bind (
      bif (O .lt 0 ((O .get .i2 l_1 (O .toNat x27))).1) then
        (some true)
      else
        grd (okI .i64 ((O .sub (O .ofNat (O .len .i2 l_1)) 1))) <|
        grd (okIdx ((O .sub (O .ofNat (O .len .i2 l_1)) 1)) ((O .len .i2 l_1))) <|
        grd (okKin ((O .toNat (O .sub (O .ofNat (O .len .i2 l_1)) 1))) ((O .len .i2 l_1))) <|
        (some (O .lt ((O .get .i2 l_1 (O .toNat (O .sub (O .ofNat (O .len .i2 l_1)) 1)))).2 period_1)) : Option ((Bool))) fun x29 =>
    Option.bind (
      bif x29 then
        grd (okRoom ((O .len .i1 l21))) <|
        grd (okRoom ((O .len .i1 [((O .get .i2 l_1 (O .toNat x27))).1]))) <|
        (some (O .app .i1 l21 [((O .get .i2 l_1 (O .toNat x27))).1]))
      else
        (some l21) : Option ((List Int))) fun l23 =>
    Option.bind (
      bif (O .lt ((O .get .i2 l_1 (O .toNat x27))).2 period_1) then
        grd (okRoom ((O .len .i1 l23))) <|
        grd (okRoom ((O .len .i1 [((O .get .i2 l_1 (O .toNat x27))).2]))) <|
        (some (O .app .i1 l23 [((O .get .i2 l_1 (O .toNat x27))).2]))
      else
        grd (okIdx 0 ((O .len .i2 l_1))) <|
        grd (okKin ((O .toNat 0)) ((O .len .i2 l_1))) <|
        Option.bind (
          bif (O .lt 0 ((O .get .i2 l_1 (O .toNat 0))).1) then
            grd (okRoom ((O .len .i1 l23))) <|
            grd (okRoom ((O .len .i1 [0]))) <|
            (some (O .app .i1 l23 [0]))
          else
            (some l23) : Option ((List Int))) fun l25 =>
        (some l25) : Option ((List Int))) fun l27 =>
    grd (okI .i64 ((O .add x27 1))) <|
    (some (Sum.inl ((O .add x27 1), l27)))
  else
    (some (Sum.inr l21))
def m_periodic_repeats_L2 (O : Ops) (l29 : List Int) (period_1 : Int) (q_1 : Int) : (Int) → Option ((Int) ⊕ ((Unit) ⊕ (Unit))) := fun x30 =>
  bif (O .lt x30 (O .ofNat (O .len .i1 l29))) then
    grd (okIdx x30 ((O .len .i1 l29))) <|
    grd (okKin ((O .toNat x30)) ((O .len .i1 l29))) <|
    grd (okI .i64 ((O .add (O .get .i1 l29 (O .toNat x30)) q_1))) <|
    Option.bind (
      bif (O .le period_1 (O .add (O .get .i1 l29 (O .toNat x30)) q_1)) then
        grd (okI .i64 ((O .sub (O .add (O .get .i1 l29 (O .toNat x30)) q_1) period_1))) <|
        (some (O .sub (O .add (O .get .i1 l29 (O .toNat x30)) q_1) period_1))
      else
        (some (O .add (O .get .i1 l29 (O .toNat x30)) q_1)) : Option ((Int))) fun y2 =>
    grd (okI .i64 ((O .add x30 (O .quo (O .mul (O .ofNat (O .len .i1 l29)) q_1) period_1)))) <|
    grd (okNz ((O .ofNat (O .len .i1 l29)))) <|
    grd (okIdx ((O .rem (O .add x30 (O .quo (O .mul (O .ofNat (O .len .i1 l29)) q_1) period_1)) (O .ofNat (O .len .i1 l29)))) ((O .len .i1 l29))) <|
    grd (okKin ((O .toNat (O .rem (O .add x30 (O .quo (O .mul (O .ofNat (O .len .i1 l29)) q_1) period_1)) (O .ofNat (O .len .i1 l29))))) ((O .len .i1 l29))) <|
    bif (O .not (O .eq (O .get .i1 l29 (O .toNat (O .rem (O .add x30 (O .quo (O .mul (O .ofNat (O .len .i1 l29)) q_1) period_1)) (O .ofNat (O .len .i1 l29))))) y2)) then
      (some (Sum.inr (Sum.inl ())))
    else
      grd (okI .i64 ((O .add x30 1))) <|
      (some (Sum.inl (O .add x30 1)))
  else
    (some (Sum.inr (Sum.inr ())))
def m_periodic_repeats (O : Ops) (period_1 : Int) (q_1 : Int) (l_1 : List (Int × Int)) : Option (Bool) :=
  Option.bind (loop (m_periodic_repeats_L1 O l_1 period_1) (0, ([] : List Int))) fun l28 =>
  Option.bind (m_sortI O l28) fun l29 =>
  bif (O .eq (O .ofNat (O .len .i1 l29)) 0) then
    (some true)
  else
    grd (okI .i64 ((O .mul (O .ofNat (O .len .i1 l29)) q_1))) <|
    grd (okNz period_1) <|
    grd (okI .i64 ((O .quo (O .mul (O .ofNat (O .len .i1 l29)) q_1) period_1))) <|
    grd (okI .i64 ((O .mul (O .quo (O .mul (O .ofNat (O .len .i1 l29)) q_1) period_1) period_1))) <|
    bif (O .not (O .eq (O .mul (O .quo (O .mul (O .ofNat (O .len .i1 l29)) q_1) period_1) period_1) (O .mul (O .ofNat (O .len .i1 l29)) q_1))) then
      (some false)
    else
      grd (okNz 2) <|
      bif (O .not (O .eq (O .rem (O .quo (O .mul (O .ofNat (O .len .i1 l29)) q_1) period_1) 2) 0)) then
        (some false)
      else
        Option.bind (loop (m_periodic_repeats_L2 O l29 period_1 q_1) 0) fun e => match e with
        | .inl _ =>
          (some false)
        | .inr (_) =>
          (some true)
def m_periodic_least_L1 (O : Ops) (l_1 : List (Int × Int)) (period_1 : Int) : (Int × Int) → Option ((Int × Int) ⊕ (Int)) := fun (best1, q3) =>
  grd (okNz q3) <|
  grd (okI .i64 ((O .quo period_1 q3))) <|
  bif (O .le q3 (O .quo period_1 q3)) then
    bif (O .not (O .eq (O .rem period_1 q3) 0)) then
      grd (okI .i64 ((O .add q3 1))) <|
      (some (Sum.inl (best1, (O .add q3 1))))
    else
      Option.bind (m_periodic_repeats O period_1 q3 l_1) fun b6 =>
      bif b6 then
        (some (Sum.inr q3))
      else
        Option.bind (m_periodic_repeats O period_1 ((O .quo period_1 q3)) l_1) fun b7 =>
        Option.bind (
          bif b7 then
            (some (O .quo period_1 q3))
          else
            (some best1) : Option ((Int))) fun best3 =>
        grd (okI .i64 ((O .add q3 1))) <|
        (some (Sum.inl (best3, (O .add q3 1))))
  else
    (some (Sum.inr best1))
def m_periodic_least_L2 (O : Ops) (best5 : Int) (l_1 : List (Int × Int)) : (Int × List (Int × Int)) → Option ((Int × List (Int × Int)) ⊕ (List (Int × Int))) := fun (x32, l32) =>
  bif (O .lt x32 (O .ofNat (O .len .i2 l_1))) then
    grd (okIdx x32 ((O .len .i2 l_1))) <|
    grd (okKin ((O .toNat x32)) ((O .len .i2 l_1))) <|
    Option.bind (
      bif (O .lt ((O .get .i2 l_1 (O .toNat x32))).1 best5) then
        grd (okRoom ((O .len .i2 l32))) <|
        grd (okRoom ((O .len .i2 [(((O .get .i2 l_1 (O .toNat x32))).1, (O .min ((O .get .i2 l_1 (O .toNat x32))).2 best5))]))) <|
        (some (O .app .i2 l32 [(((O .get .i2 l_1 (O .toNat x32))).1, (O .min ((O .get .i2 l_1 (O .toNat x32))).2 best5))]))
      else
        (some l32) : Option ((List (Int × Int)))) fun l34 =>
    grd (okI .i64 ((O .add x32 1))) <|
    (some (Sum.inl ((O .add x32 1), l34)))
  else
    (some (Sum.inr l32))
def m_periodic_least (O : Ops) (period_1 : Int) (l_1 : List (Int × Int)) : Option (Int × List (Int × Int)) :=
  Option.bind (loop (m_periodic_least_L1 O l_1 period_1) (period_1, 1)) fun best5 =>
  Option.bind (loop (m_periodic_least_L2 O best5 l_1) (0, ([] : List (Int × Int)))) fun l35 =>
  (some (best5, l35))
def m_periodic_limited (O : Ops) (period_1 : Int) (l_1 : List (Int × Int)) : Option (Int × List (Int × Int) × Int) :=
  Option.bind (m_periodic_least O period_1 l_1) fun (n7, l36) =>
  bif (O .lt 2000 (O .ofNat (O .len .i2 l36))) then
    (some (0, ([] : List (Int × Int)), 5))
  else
    (some (n7, l36, 0))
def m_periodic_Of (O : Ops) (period_1 : Int) (l_1 : List (Int × Int)) : Option (Int × List (Int × Int) × Int) :=
  Option.bind (
    bif (O .lt period_1 1) then
      (some true)
    else
      bif (O .lt 12622780800 period_1) then
        (some true)
      else
        Option.bind (m_slices_ContainsFunc O l_1) fun b5 =>
        (some b5) : Option ((Bool))) fun x9 =>
  bif x9 then
    (some (0, ([] : List (Int × Int)), 1))
  else
    bif (O .lt 2000 (O .ofNat (O .len .i2 l_1))) then
      (some (0, ([] : List (Int × Int)), 5))
    else
      Option.bind (m_periodic_fold O period_1 l_1) fun l14 =>
      Option.bind (m_periodic_limited O period_1 l14) fun (n8, l37, n9) =>
      (some (n8, l37, n9))
def m_law13_set (_O : Ops) (period_1 : Int) (_l_1 : List (Int × Int)) : Option (Int) :=
  (some period_1)
def m_runs_Valid_L1 (O : Ops) (l_1 : List (Int × Int)) : (Int) → Option ((Int) ⊕ ((Unit) ⊕ (Unit))) := fun x33 =>
  bif (O .lt x33 (O .ofNat (O .len .i2 l_1))) then
    grd (okIdx x33 ((O .len .i2 l_1))) <|
    grd (okKin ((O .toNat x33)) ((O .len .i2 l_1))) <|
    Option.bind (
      Option.bind (m_interval_Valid O (((O .get .i2 l_1 (O .toNat x33))).1) (((O .get .i2 l_1 (O .toNat x33))).2)) fun b8 =>
      bif (O .not b8) then
        (some true)
      else
        bif (O .lt 0 x33) then
          grd (okI .i64 ((O .sub x33 1))) <|
          grd (okIdx ((O .sub x33 1)) ((O .len .i2 l_1))) <|
          grd (okKin ((O .toNat (O .sub x33 1))) ((O .len .i2 l_1))) <|
          (some (O .le ((O .get .i2 l_1 (O .toNat x33))).1 ((O .get .i2 l_1 (O .toNat (O .sub x33 1)))).2))
        else
          (some false) : Option ((Bool))) fun x36 =>
    bif x36 then
      (some (Sum.inr (Sum.inl ())))
    else
      grd (okI .i64 ((O .add x33 1))) <|
      (some (Sum.inl (O .add x33 1)))
  else
    (some (Sum.inr (Sum.inr ())))
def m_runs_Valid (O : Ops) (l_1 : List (Int × Int)) : Option (Bool) :=
  bif (O .lt 2000 (O .ofNat (O .len .i2 l_1))) then
    (some false)
  else
    Option.bind (loop (m_runs_Valid_L1 O l_1) 0) fun e => match e with
    | .inl _ =>
      (some false)
    | .inr (_) =>
      (some true)
def m_periodic_inside (O : Ops) (period_1 : Int) (l_1 : List (Int × Int)) : Option (Bool) :=
  Option.bind (
    Option.bind (m_runs_Valid O l_1) fun b9 =>
    bif b9 then
      bif (O .eq (O .ofNat (O .len .i2 l_1)) 0) then
        (some true)
      else
        bif (O .le 0 ((O .get .i2 l_1 (O .toNat 0))).1) then
          grd (okIdx 0 ((O .len .i2 l_1))) <|
          grd (okKin ((O .toNat 0)) ((O .len .i2 l_1))) <|
          grd (okI .i64 ((O .sub (O .ofNat (O .len .i2 l_1)) 1))) <|
          grd (okIdx ((O .sub (O .ofNat (O .len .i2 l_1)) 1)) ((O .len .i2 l_1))) <|
          grd (okKin ((O .toNat (O .sub (O .ofNat (O .len .i2 l_1)) 1))) ((O .len .i2 l_1))) <|
          (some (O .le ((O .get .i2 l_1 (O .toNat (O .sub (O .ofNat (O .len .i2 l_1)) 1)))).2 period_1))
        else
          grd (okIdx 0 ((O .len .i2 l_1))) <|
          grd (okKin ((O .toNat 0)) ((O .len .i2 l_1))) <|
          (some false)
    else
      (some false) : Option ((Bool))) fun x40 =>
  (some x40)
def m_periodic_Valid (O : Ops) (p_1 : Int) (p_2 : List (Int × Int)) : Option (Bool) :=
  Option.bind (
    bif (O .le 1 p_1) then
      bif (O .le p_1 12622780800) then
        Option.bind (m_periodic_inside O p_1 p_2) fun b10 =>
        bif b10 then
          Option.bind (m_periodic_least O p_1 p_2) fun (n14, _) =>
          (some (O .eq n14 p_1))
        else
          (some false)
      else
        (some false)
    else
      (some false) : Option ((Bool))) fun x44 =>
  (some x44)
def m_integer_size (O : Ops) (a_1 : Int) : Option (Int) :=
  bif (O .lt a_1 0) then
    grd (okI .u64 a_1) <|
    grd (okI .u64 ((O .sub 0 a_1))) <|
    (some (O .sub 0 a_1))
  else
    grd (okI .u64 a_1) <|
    (some a_1)
def m_integer_signed (O : Ops) (m_1 : Int) (neg_1 : Bool) : Option (Int × Bool) :=
  Option.bind (
    bif neg_1 then
      (some (true, (O .le m_1 9223372036854775808)))
    else
      (some (false, false)) : Option ((Bool × Bool))) fun (neg2, x52) =>
  Option.bind (
    bif x52 then
      grd (okI .u64 ((O .sub 0 m_1))) <|
      grd (okI .i64 ((O .sub 0 m_1))) <|
      (some (Sum.inl (O .sub 0 m_1)))
    else
      Option.bind (
        bif (O .not neg2) then
          (some (O .le m_1 9223372036854775807))
        else
          (some false) : Option ((Bool))) fun x54 =>
      bif x54 then
        grd (okI .i64 m_1) <|
        (some (Sum.inl m_1))
      else
        (some (Sum.inr ())) : Option (((Int) ⊕ (Unit)))) fun e => match e with
  | .inl x56 =>
    (some (x56, true))
  | .inr (_) =>
    (some (0, false))
def m_integer_Gcd_L1 (O : Ops) : (Int × Int) → Option ((Int × Int) ⊕ (Int)) := fun (x49, y3) =>
  bif (O .not (O .eq y3 0)) then
    grd (okNz y3) <|
    (some (Sum.inl (y3, (O .rem x49 y3))))
  else
    (some (Sum.inr x49))
def m_integer_Gcd (O : Ops) (a_1 : Int) (b_1 : Int) : Option (Int) :=
  Option.bind (m_integer_size O a_1) fun n15 =>
  Option.bind (m_integer_size O b_1) fun n16 =>
  Option.bind (loop (m_integer_Gcd_L1 O) (n15, n16)) fun x50 =>
  Option.bind (m_integer_signed O x50 false) fun (n17, _) =>
  (some n17)
def m_integer_Lcm (O : Ops) (a_1 : Int) (b_1 : Int) : Option (Int × Int) :=
  Option.bind (
    bif (O .lt a_1 1) then
      (some true)
    else
      (some (O .lt b_1 1)) : Option ((Bool))) fun x48 =>
  bif x48 then
    (some (0, 2))
  else
    Option.bind (m_integer_Gcd O a_1 b_1) fun n18 =>
    grd (okNz n18) <|
    grd (okI .i64 ((O .quo b_1 n18))) <|
    Option.bind (m_integer_Mul O a_1 ((O .quo b_1 n18))) fun (n19, n20) =>
    (some (n19, n20))
def m_periodic_spread_L1 (O : Ops) (at2 : Int) (p_2 : List (Int × Int)) : (Int × List (Int × Int)) → Option ((Int × List (Int × Int)) ⊕ (List (Int × Int))) := fun (x66, l45) =>
  bif (O .lt x66 (O .ofNat (O .len .i2 p_2))) then
    grd (okIdx x66 ((O .len .i2 p_2))) <|
    grd (okKin ((O .toNat x66)) ((O .len .i2 p_2))) <|
    grd (okI .i64 ((O .add ((O .get .i2 p_2 (O .toNat x66))).1 at2))) <|
    grd (okI .i64 ((O .add ((O .get .i2 p_2 (O .toNat x66))).2 at2))) <|
    grd (okRoom ((O .len .i2 l45))) <|
    grd (okRoom ((O .len .i2 [((O .add ((O .get .i2 p_2 (O .toNat x66))).1 at2), (O .add ((O .get .i2 p_2 (O .toNat x66))).2 at2))]))) <|
    grd (okI .i64 ((O .add x66 1))) <|
    (some (Sum.inl ((O .add x66 1), (O .app .i2 l45 [((O .add ((O .get .i2 p_2 (O .toNat x66))).1 at2), (O .add ((O .get .i2 p_2 (O .toNat x66))).2 at2))]))))
  else
    (some (Sum.inr l45))
def m_periodic_spread_L2 (O : Ops) (m_1 : Int) (p_1 : Int) (p_2 : List (Int × Int)) : (Int × List (Int × Int)) → Option ((Int × List (Int × Int)) ⊕ (List (Int × Int))) := fun (at2, l44) =>
  Option.bind (
    bif (O .lt at2 m_1) then
      (some (O .lt 0 (O .ofNat (O .len .i2 p_2))))
    else
      (some false) : Option ((Bool))) fun x64 =>
  bif x64 then
    Option.bind (loop (m_periodic_spread_L1 O at2 p_2) (0, l44)) fun l46 =>
    grd (okI .i64 ((O .add at2 p_1))) <|
    (some (Sum.inl ((O .add at2 p_1), l46)))
  else
    (some (Sum.inr l44))
def m_periodic_spread_L3 (O : Ops) (l48 : List (Int × Int)) : (Int × List (Int × Int)) → Option ((Int × List (Int × Int)) ⊕ (List (Int × Int))) := fun (x70, l51) =>
  bif (O .lt x70 (O .ofNat (O .len .i2 l48))) then
    grd (okIdx x70 ((O .len .i2 l48))) <|
    grd (okKin ((O .toNat x70)) ((O .len .i2 l48))) <|
    Option.bind (
      bif (O .lt 0 (O .ofNat (O .len .i2 l51))) then
        grd (okI .i64 ((O .sub (O .ofNat (O .len .i2 l51)) 1))) <|
        grd (okIdx ((O .sub (O .ofNat (O .len .i2 l51)) 1)) ((O .len .i2 l51))) <|
        grd (okKin ((O .toNat (O .sub (O .ofNat (O .len .i2 l51)) 1))) ((O .len .i2 l51))) <|
        (some (O .le ((O .get .i2 l48 (O .toNat x70))).1 ((O .get .i2 l51 (O .toNat (O .sub (O .ofNat (O .len .i2 l51)) 1)))).2))
      else
        (some false) : Option ((Bool))) fun x72 =>
    Option.bind (
      bif x72 then
        grd (okI .i64 ((O .sub (O .ofNat (O .len .i2 l51)) 1))) <|
        grd (okIdx ((O .sub (O .ofNat (O .len .i2 l51)) 1)) ((O .len .i2 l51))) <|
        grd (okKin ((O .toNat (O .sub (O .ofNat (O .len .i2 l51)) 1))) ((O .len .i2 l51))) <|
        (some (O .put .i2 l51 (O .toNat (O .sub (O .ofNat (O .len .i2 l51)) 1)) (((O .get .i2 l51 (O .toNat (O .sub (O .ofNat (O .len .i2 l51)) 1)))).1, (O .max ((O .get .i2 l51 (O .toNat (O .sub (O .ofNat (O .len .i2 l51)) 1)))).2 ((O .get .i2 l48 (O .toNat x70))).2))))
      else
        grd (okRoom ((O .len .i2 l51))) <|
        grd (okRoom ((O .len .i2 [(((O .get .i2 l48 (O .toNat x70))).1, ((O .get .i2 l48 (O .toNat x70))).2)]))) <|
        (some (O .app .i2 l51 [(((O .get .i2 l48 (O .toNat x70))).1, ((O .get .i2 l48 (O .toNat x70))).2)])) : Option ((List (Int × Int)))) fun l53 =>
    grd (okI .i64 ((O .add x70 1))) <|
    (some (Sum.inl ((O .add x70 1), l53)))
  else
    (some (Sum.inr l51))
def m_periodic_spread (O : Ops) (p_1 : Int) (m_1 : Int) (p_2 : List (Int × Int)) : Option (List (Int × Int)) :=
  Option.bind (
    bif (O .eq p_1 1) then
      bif (O .eq (O .ofNat (O .len .i2 p_2)) 0) then
        (some (Sum.inl ([] : List (Int × Int))))
      else
        (some (Sum.inl [(0, m_1)]))
    else
      (some (Sum.inr ())) : Option (((List (Int × Int)) ⊕ (Unit)))) fun e => match e with
  | .inl l41 =>
    (some l41)
  | .inr (_) =>
    Option.bind (loop (m_periodic_spread_L2 O m_1 p_1 p_2) (0, ([] : List (Int × Int)))) fun l47 =>
    Option.bind (m_sortSp O l47) fun l48 =>
    Option.bind (loop (m_periodic_spread_L3 O l48) (0, ([] : List (Int × Int)))) fun l54 =>
    (some l54)
def m_periodic_combine_1 (O : Ops) (n_1 : Int) (l_1 : List (Int × Int)) : Option (Int × Bool) :=
  grd (okNz 2) <|
  grd (okI .i64 ((O .quo n_1 2))) <|
  bif (O .le (O .ofNat (O .len .i2 l_1)) (O .quo n_1 2)) then
    (some (0, false))
  else
    bif (O .eq (O .rem n_1 2) 0) then
      grd (okIdx ((O .quo n_1 2)) ((O .len .i2 l_1))) <|
      grd (okKin ((O .toNat (O .quo n_1 2))) ((O .len .i2 l_1))) <|
      (some (((O .get .i2 l_1 (O .toNat (O .quo n_1 2)))).1, true))
    else
      grd (okIdx ((O .quo n_1 2)) ((O .len .i2 l_1))) <|
      grd (okKin ((O .toNat (O .quo n_1 2))) ((O .len .i2 l_1))) <|
      (some (((O .get .i2 l_1 (O .toNat (O .quo n_1 2)))).2, true))
def m_periodic_Union_1 (_O : Ops) (a_1 : Bool) (b_1 : Bool) : Option (Bool) :=
  Option.bind (
    bif a_1 then
      (some true)
    else
      (some b_1) : Option ((Bool))) fun x79 =>
  (some x79)
def m_periodic_combine_L1 (O : Ops) (a_1 : List (Int × Int)) (b_1 : List (Int × Int)) : (Int × Int × List (Int × Int)) → Option ((Int × Int × List (Int × Int)) ⊕ (List (Int × Int))) := fun (i4, k4, l61) =>
  Option.bind (m_periodic_combine_1 O i4 a_1) fun (n25, b18) =>
  Option.bind (m_periodic_combine_1 O k4 b_1) fun (n26, b19) =>
  Option.bind (
    bif (O .not b18) then
      (some (O .not b19))
    else
      (some false) : Option ((Bool))) fun x89 =>
  bif x89 then
    (some (Sum.inr l61))
  else
    Option.bind (
      bif (O .not b18) then
        (some (b19, true))
      else
        bif b19 then
          (some (true, (O .lt n26 n25)))
        else
          (some (false, false)) : Option ((Bool × Bool))) fun (is6, x92) =>
    Option.bind (
      bif x92 then
        (some n26)
      else
        (some n25) : Option ((Int))) fun at6 =>
    grd (okNz 2) <|
    Option.bind (m_periodic_Union_1 O ((O .eq (O .rem i4 2) 1)) ((O .eq (O .rem k4 2) 1))) fun b20 =>
    Option.bind (
      bif b18 then
        (some (O .eq n25 at6))
      else
        (some false) : Option ((Bool))) fun x94 =>
    Option.bind (
      bif x94 then
        grd (okI .i64 ((O .add i4 1))) <|
        (some (O .add i4 1))
      else
        (some i4) : Option ((Int))) fun i6 =>
    Option.bind (
      bif is6 then
        (some (O .eq n26 at6))
      else
        (some false) : Option ((Bool))) fun x96 =>
    Option.bind (
      bif x96 then
        grd (okI .i64 ((O .add k4 1))) <|
        (some (O .add k4 1))
      else
        (some k4) : Option ((Int))) fun k6 =>
    Option.bind (m_periodic_Union_1 O ((O .eq (O .rem i6 2) 1)) ((O .eq (O .rem k6 2) 1))) fun b21 =>
    Option.bind (
      bif (O .not b20) then
        (some b21)
      else
        (some false) : Option ((Bool))) fun x98 =>
    Option.bind (
      bif x98 then
        grd (okRoom ((O .len .i2 l61))) <|
        grd (okRoom ((O .len .i2 [(at6, 0)]))) <|
        (some (O .app .i2 l61 [(at6, 0)]))
      else
        Option.bind (
          bif b20 then
            (some (O .not b21))
          else
            (some false) : Option ((Bool))) fun x100 =>
        Option.bind (
          bif x100 then
            grd (okI .i64 ((O .sub (O .ofNat (O .len .i2 l61)) 1))) <|
            grd (okIdx ((O .sub (O .ofNat (O .len .i2 l61)) 1)) ((O .len .i2 l61))) <|
            grd (okKin ((O .toNat (O .sub (O .ofNat (O .len .i2 l61)) 1))) ((O .len .i2 l61))) <|
            (some (O .put .i2 l61 (O .toNat (O .sub (O .ofNat (O .len .i2 l61)) 1)) (((O .get .i2 l61 (O .toNat (O .sub (O .ofNat (O .len .i2 l61)) 1)))).1, at6)))
          else
            (some l61) : Option ((List (Int × Int)))) fun l63 =>
        (some l63) : Option ((List (Int × Int)))) fun l65 =>
    (some (Sum.inl (i6, k6, l65)))
def m_periodic_combine (O : Ops) (a_1 : List (Int × Int)) (b_1 : List (Int × Int)) : Option (List (Int × Int)) :=
  Option.bind (loop (m_periodic_combine_L1 O a_1 b_1) (0, 0, ([] : List (Int × Int)))) fun l66 =>
  (some l66)
def m_periodic_both (O : Ops) (a_1 : Int) (b_1 : Int) (a_2 : List (Int × Int)) (b_2 : List (Int × Int)) : Option (Int × List (Int × Int) × Int) :=
  Option.bind (
    Option.bind (m_periodic_Valid O a_1 a_2) fun b11 =>
    bif (O .not b11) then
      (some true)
    else
      Option.bind (m_periodic_Valid O b_1 b_2) fun b12 =>
      (some (O .not b12)) : Option ((Bool))) fun x46 =>
  bif x46 then
    (some (0, ([] : List (Int × Int)), 1))
  else
    Option.bind (m_integer_Lcm O a_1 b_1) fun (n21, n22) =>
    Option.bind (
      bif (O .not (O .eq n22 0)) then
        (some true)
      else
        (some (O .lt 12622780800 n21)) : Option ((Bool))) fun x58 =>
    bif x58 then
      (some (0, ([] : List (Int × Int)), 9))
    else
      grd (okNz a_1) <|
      grd (okI .i64 ((O .quo n21 a_1))) <|
      grd (okI .i64 ((O .mul (O .quo n21 a_1) (O .ofNat (O .len .i2 a_2))))) <|
      grd (okNz b_1) <|
      grd (okI .i64 ((O .quo n21 b_1))) <|
      grd (okI .i64 ((O .mul (O .quo n21 b_1) (O .ofNat (O .len .i2 b_2))))) <|
      grd (okI .i64 ((O .add (O .mul (O .quo n21 a_1) (O .ofNat (O .len .i2 a_2))) (O .mul (O .quo n21 b_1) (O .ofNat (O .len .i2 b_2)))))) <|
      bif (O .lt 2000 (O .add (O .mul (O .quo n21 a_1) (O .ofNat (O .len .i2 a_2))) (O .mul (O .quo n21 b_1) (O .ofNat (O .len .i2 b_2))))) then
        (some (0, ([] : List (Int × Int)), 5))
      else
        Option.bind (m_periodic_spread O a_1 n21 a_2) fun l55 =>
        Option.bind (m_periodic_spread O b_1 n21 b_2) fun l56 =>
        Option.bind (m_periodic_combine O l55 l56) fun l67 =>
        Option.bind (m_periodic_limited O n21 l67) fun (n27, l68, n28) =>
        (some (n27, l68, n28))
def m_periodic_Union (O : Ops) (a_1 : Int) (b_1 : Int) (a_2 : List (Int × Int)) (b_2 : List (Int × Int)) : Option (Int × List (Int × Int) × Int) :=
  Option.bind (m_periodic_both O a_1 b_1 a_2 b_2) fun (n29, l69, n30) =>
  (some (n29, l69, n30))
def m_ref13_Same_L1 (O : Ops) (a_1 : List (Int × Int)) (b_1 : List (Int × Int)) : (Int) → Option ((Int) ⊕ ((Unit) ⊕ (Unit))) := fun i7 =>
  bif (O .lt i7 (O .ofNat (O .len .i2 a_1))) then
    grd (okIdx i7 ((O .len .i2 a_1))) <|
    grd (okKin ((O .toNat i7)) ((O .len .i2 a_1))) <|
    grd (okIdx i7 ((O .len .i2 b_1))) <|
    grd (okKin ((O .toNat i7)) ((O .len .i2 b_1))) <|
    bif (O .not (O .and (O .eq ((O .get .i2 a_1 (O .toNat i7))).1 ((O .get .i2 b_1 (O .toNat i7))).1) (O .eq ((O .get .i2 a_1 (O .toNat i7))).2 ((O .get .i2 b_1 (O .toNat i7))).2))) then
      (some (Sum.inr (Sum.inl ())))
    else
      grd (okI .i64 ((O .add i7 1))) <|
      (some (Sum.inl (O .add i7 1)))
  else
    (some (Sum.inr (Sum.inr ())))
def m_ref13_Same (O : Ops) (a_1 : List (Int × Int)) (b_1 : List (Int × Int)) : Option (Bool) :=
  bif (O .not (O .eq (O .ofNat (O .len .i2 a_1)) (O .ofNat (O .len .i2 b_1)))) then
    (some false)
  else
    Option.bind (loop (m_ref13_Same_L1 O a_1 b_1) 0) fun e => match e with
    | .inl _ =>
      (some false)
    | .inr (_) =>
      (some true)
def m_ref13_Equal (O : Ops) (a_1 : Int) (b_1 : Int) (a_2 : List (Int × Int)) (b_2 : List (Int × Int)) : Option (Bool) :=
  Option.bind (
    bif (O .eq a_1 b_1) then
      Option.bind (m_ref13_Same O a_2 b_2) fun b22 =>
      (some b22)
    else
      (some false) : Option ((Bool))) fun x102 =>
  (some x102)
def m_law13_awake (O : Ops) : Option (Bool) :=
  Option.bind (m_periodic_Of O 14 ([(0, 2), (7, 9)])) fun (n10, l38, n11) =>
  Option.bind (m_law13_set O 2 ([(0, 1)])) fun n12 =>
  Option.bind (m_law13_set O 3 ([(0, 1)])) fun n13 =>
  Option.bind (m_periodic_Union O n12 n13 ([(0, 1)]) ([(0, 1)])) fun (n31, l70, n32) =>
  Option.bind (
    bif (O .eq n11 0) then
      Option.bind (m_law13_set O 7 ([(0, 2)])) fun n33 =>
      Option.bind (m_ref13_Equal O n10 n33 l38 ([(0, 2)])) fun b23 =>
      bif b23 then
        bif (O .eq n32 0) then
          Option.bind (m_law13_set O 6 ([(0, 1), (2, 5)])) fun n34 =>
          Option.bind (m_ref13_Equal O n31 n34 l70 ([(0, 1), (2, 5)])) fun b24 =>
          (some b24)
        else
          (some false)
      else
        (some false)
    else
      (some false) : Option ((Bool))) fun x106 =>
  (some x106)
def m_law13_long (O : Ops) (_p_1 : Int) (p_2 : List (Int × Int)) : Option (Bool) :=
  (some (O .lt 40 (O .ofNat (O .len .i2 p_2))))
def m_ref13_Span (O : Ops) (s_1 : Int) (s_2 : Int) : Option (Bool) :=
  Option.bind (
    bif (O .le (-4398046511104) s_1) then
      bif (O .le s_2 4398046511104) then
        (some (O .lt s_1 s_2))
      else
        (some false)
    else
      (some false) : Option ((Bool))) fun x111 =>
  (some x111)
def m_ref13_Runs_L1 (O : Ops) (l_1 : List (Int × Int)) : (Int) → Option ((Int) ⊕ ((Unit) ⊕ (Unit))) := fun i8 =>
  bif (O .lt i8 (O .ofNat (O .len .i2 l_1))) then
    Option.bind (
      grd (okIdx i8 ((O .len .i2 l_1))) <|
      grd (okKin ((O .toNat i8)) ((O .len .i2 l_1))) <|
      Option.bind (m_ref13_Span O (((O .get .i2 l_1 (O .toNat i8))).1) (((O .get .i2 l_1 (O .toNat i8))).2)) fun b29 =>
      bif (O .not b29) then
        (some true)
      else
        bif (O .lt 0 i8) then
          grd (okI .i64 ((O .sub i8 1))) <|
          grd (okIdx ((O .sub i8 1)) ((O .len .i2 l_1))) <|
          grd (okKin ((O .toNat (O .sub i8 1))) ((O .len .i2 l_1))) <|
          (some (O .le ((O .get .i2 l_1 (O .toNat i8))).1 ((O .get .i2 l_1 (O .toNat (O .sub i8 1)))).2))
        else
          (some false) : Option ((Bool))) fun x114 =>
    bif x114 then
      (some (Sum.inr (Sum.inl ())))
    else
      grd (okI .i64 ((O .add i8 1))) <|
      (some (Sum.inl (O .add i8 1)))
  else
    (some (Sum.inr (Sum.inr ())))
def m_ref13_Runs (O : Ops) (l_1 : List (Int × Int)) : Option (Bool) :=
  Option.bind (loop (m_ref13_Runs_L1 O l_1) 0) fun e => match e with
  | .inl _ =>
    (some false)
  | .inr (_) =>
    (some true)
def m_ref01_Div (O : Ops) (a_1 : Int) (b_1 : Int) : Option (Int × Int × Int) :=
  bif (O .eq b_1 0) then
    (some (0, 0, 10))
  else
    Option.bind (
      bif (O .eq a_1 (-9223372036854775808)) then
        (some (O .eq b_1 (-1)))
      else
        (some false) : Option ((Bool))) fun x121 =>
    bif x121 then
      (some (0, 0, 9))
    else
      grd (okNz b_1) <|
      grd (okI .i64 ((O .quo a_1 b_1))) <|
      Option.bind (
        bif (O .not (O .eq (O .rem a_1 b_1) 0)) then
          (some (O .not (O .beq (O .lt (O .rem a_1 b_1) 0) (O .lt b_1 0))))
        else
          (some false) : Option ((Bool))) fun x123 =>
      Option.bind (
        bif x123 then
          grd (okI .i64 ((O .sub (O .quo a_1 b_1) 1))) <|
          grd (okI .i64 ((O .add (O .rem a_1 b_1) b_1))) <|
          (some ((O .sub (O .quo a_1 b_1) 1), (O .add (O .rem a_1 b_1) b_1)))
        else
          (some ((O .quo a_1 b_1), (O .rem a_1 b_1))) : Option ((Int × Int))) fun (q6, r4) =>
      (some (q6, r4, 0))
def m_ref01_Mod (O : Ops) (a_1 : Int) (b_1 : Int) : Option (Int) :=
  Option.bind (m_ref01_Div O a_1 b_1) fun (_, n38, _) =>
  (some n38)
def m_ref13_ends_L1 (O : Ops) (a_1 : List (Int × Int)) : (Int × List Int) → Option ((Int × List Int) ⊕ (List Int)) := fun (i12, l84) =>
  bif (O .lt i12 (O .ofNat (O .len .i2 a_1))) then
    grd (okIdx i12 ((O .len .i2 a_1))) <|
    grd (okKin ((O .toNat i12)) ((O .len .i2 a_1))) <|
    grd (okRoom ((O .len .i1 l84))) <|
    grd (okRoom ((O .len .i1 [((O .get .i2 a_1 (O .toNat i12))).1, ((O .get .i2 a_1 (O .toNat i12))).2]))) <|
    grd (okI .i64 ((O .add i12 1))) <|
    (some (Sum.inl ((O .add i12 1), (O .app .i1 l84 [((O .get .i2 a_1 (O .toNat i12))).1, ((O .get .i2 a_1 (O .toNat i12))).2]))))
  else
    (some (Sum.inr l84))
def m_ref13_ends_L2 (O : Ops) (b_1 : List (Int × Int)) : (Int × List Int) → Option ((Int × List Int) ⊕ (List Int)) := fun (i14, l86) =>
  bif (O .lt i14 (O .ofNat (O .len .i2 b_1))) then
    grd (okIdx i14 ((O .len .i2 b_1))) <|
    grd (okKin ((O .toNat i14)) ((O .len .i2 b_1))) <|
    grd (okRoom ((O .len .i1 l86))) <|
    grd (okRoom ((O .len .i1 [((O .get .i2 b_1 (O .toNat i14))).1, ((O .get .i2 b_1 (O .toNat i14))).2]))) <|
    grd (okI .i64 ((O .add i14 1))) <|
    (some (Sum.inl ((O .add i14 1), (O .app .i1 l86 [((O .get .i2 b_1 (O .toNat i14))).1, ((O .get .i2 b_1 (O .toNat i14))).2]))))
  else
    (some (Sum.inr l86))
def m_ref13_ends_L3 (O : Ops) (l85 : List Int) (l87 : List Int) : (Int × Int × List Int) → Option ((Int × Int × List Int) ⊕ (List Int)) := fun (i18, k10, l90) =>
  Option.bind (
    bif (O .lt i18 (O .ofNat (O .len .i1 l85))) then
      (some true)
    else
      (some (O .lt k10 (O .ofNat (O .len .i1 l87)))) : Option ((Bool))) fun x130 =>
  bif x130 then
    Option.bind (
      bif (O .eq k10 (O .ofNat (O .len .i1 l87))) then
        (some true)
      else
        bif (O .lt i18 (O .ofNat (O .len .i1 l85))) then
          grd (okIdx i18 ((O .len .i1 l85))) <|
          grd (okKin ((O .toNat i18)) ((O .len .i1 l85))) <|
          grd (okIdx k10 ((O .len .i1 l87))) <|
          grd (okKin ((O .toNat k10)) ((O .len .i1 l87))) <|
          (some (O .le (O .get .i1 l85 (O .toNat i18)) (O .get .i1 l87 (O .toNat k10))))
        else
          (some false) : Option ((Bool))) fun x133 =>
    Option.bind (
      bif x133 then
        grd (okIdx i18 ((O .len .i1 l85))) <|
        grd (okKin ((O .toNat i18)) ((O .len .i1 l85))) <|
        grd (okRoom ((O .len .i1 l90))) <|
        grd (okRoom ((O .len .i1 [(O .get .i1 l85 (O .toNat i18))]))) <|
        grd (okI .i64 ((O .add i18 1))) <|
        (some ((O .add i18 1), k10, (O .app .i1 l90 [(O .get .i1 l85 (O .toNat i18))])))
      else
        grd (okIdx k10 ((O .len .i1 l87))) <|
        grd (okKin ((O .toNat k10)) ((O .len .i1 l87))) <|
        grd (okRoom ((O .len .i1 l90))) <|
        grd (okRoom ((O .len .i1 [(O .get .i1 l87 (O .toNat k10))]))) <|
        grd (okI .i64 ((O .add k10 1))) <|
        (some (i18, (O .add k10 1), (O .app .i1 l90 [(O .get .i1 l87 (O .toNat k10))]))) : Option ((Int × Int × List Int))) fun (i20, k12, l92) =>
    (some (Sum.inl (i20, k12, l92)))
  else
    (some (Sum.inr l90))
def m_ref13_ends (O : Ops) (a_1 : List (Int × Int)) (b_1 : List (Int × Int)) : Option (List Int) :=
  Option.bind (loop (m_ref13_ends_L1 O a_1) (0, ([] : List Int))) fun l85 =>
  Option.bind (loop (m_ref13_ends_L2 O b_1) (0, ([] : List Int))) fun l87 =>
  Option.bind (loop (m_ref13_ends_L3 O l85 l87) (0, 0, ([] : List Int))) fun l93 =>
  (some l93)
def m_ref13_rule (O : Ops) (kind_1 : Int) (a_1 : Bool) (b_1 : Bool) : Option (Bool) :=
  bif (O .eq kind_1 0) then
    Option.bind (
      bif a_1 then
        (some true)
      else
        (some b_1) : Option ((Bool))) fun x141 =>
    (some x141)
  else
    bif (O .eq kind_1 1) then
      Option.bind (
        bif a_1 then
          (some b_1)
        else
          (some false) : Option ((Bool))) fun x143 =>
      (some x143)
    else
      Option.bind (
        bif a_1 then
          (some (O .not b_1))
        else
          (some false) : Option ((Bool))) fun x145 =>
      (some x145)
def m_ref13_Lists_L1 (O : Ops) (a_1 : List (Int × Int)) (c2 : Int) (l94 : List Int) : (Int) → Option ((Int) ⊕ (Int)) := fun i26 =>
  Option.bind (
    bif (O .lt i26 (O .ofNat (O .len .i2 a_1))) then
      grd (okIdx i26 ((O .len .i2 a_1))) <|
      grd (okKin ((O .toNat i26)) ((O .len .i2 a_1))) <|
      (some (O .le ((O .get .i2 a_1 (O .toNat i26))).2 (O .get .i1 l94 (O .toNat c2))))
    else
      (some false) : Option ((Bool))) fun x153 =>
  bif x153 then
    grd (okI .i64 ((O .add i26 1))) <|
    (some (Sum.inl (O .add i26 1)))
  else
    (some (Sum.inr i26))
def m_ref13_Lists_L2 (O : Ops) (b_1 : List (Int × Int)) (c2 : Int) (l94 : List Int) : (Int) → Option ((Int) ⊕ (Int)) := fun k17 =>
  Option.bind (
    bif (O .lt k17 (O .ofNat (O .len .i2 b_1))) then
      grd (okIdx k17 ((O .len .i2 b_1))) <|
      grd (okKin ((O .toNat k17)) ((O .len .i2 b_1))) <|
      (some (O .le ((O .get .i2 b_1 (O .toNat k17))).2 (O .get .i1 l94 (O .toNat c2))))
    else
      (some false) : Option ((Bool))) fun x155 =>
  bif x155 then
    grd (okI .i64 ((O .add k17 1))) <|
    (some (Sum.inl (O .add k17 1)))
  else
    (some (Sum.inr k17))
def m_ref13_Lists_L3 (O : Ops) (a_1 : List (Int × Int)) (b_1 : List (Int × Int)) (kind_1 : Int) (l94 : List Int) : (Int × Int × Int × List (Int × Int)) → Option ((Int × Int × Int × List (Int × Int)) ⊕ (List (Int × Int))) := fun (i25, k16, c2, l97) =>
  grd (okI .i64 ((O .add c2 1))) <|
  bif (O .lt (O .add c2 1) (O .ofNat (O .len .i1 l94))) then
    grd (okIdx c2 ((O .len .i1 l94))) <|
    grd (okKin ((O .toNat c2)) ((O .len .i1 l94))) <|
    grd (okIdx ((O .add c2 1)) ((O .len .i1 l94))) <|
    grd (okKin ((O .toNat (O .add c2 1))) ((O .len .i1 l94))) <|
    bif (O .eq (O .get .i1 l94 (O .toNat c2)) (O .get .i1 l94 (O .toNat (O .add c2 1)))) then
      (some (Sum.inl (i25, k16, (O .add c2 1), l97)))
    else
      Option.bind (loop (m_ref13_Lists_L1 O a_1 c2 l94) i25) fun i27 =>
      Option.bind (loop (m_ref13_Lists_L2 O b_1 c2 l94) k16) fun k18 =>
      Option.bind (
        bif (O .lt i27 (O .ofNat (O .len .i2 a_1))) then
          bif (O .lt k18 (O .ofNat (O .len .i2 b_1))) then
            grd (okIdx i27 ((O .len .i2 a_1))) <|
            grd (okKin ((O .toNat i27)) ((O .len .i2 a_1))) <|
            grd (okIdx k18 ((O .len .i2 b_1))) <|
            grd (okKin ((O .toNat k18)) ((O .len .i2 b_1))) <|
            Option.bind (m_ref13_rule O kind_1 ((O .le ((O .get .i2 a_1 (O .toNat i27))).1 (O .get .i1 l94 (O .toNat c2)))) ((O .le ((O .get .i2 b_1 (O .toNat k18))).1 (O .get .i1 l94 (O .toNat c2))))) fun b35 =>
            (some (O .not b35))
          else
            grd (okIdx i27 ((O .len .i2 a_1))) <|
            grd (okKin ((O .toNat i27)) ((O .len .i2 a_1))) <|
            Option.bind (m_ref13_rule O kind_1 ((O .le ((O .get .i2 a_1 (O .toNat i27))).1 (O .get .i1 l94 (O .toNat c2)))) false) fun b36 =>
            (some (O .not b36))
        else
          bif (O .lt k18 (O .ofNat (O .len .i2 b_1))) then
            grd (okIdx k18 ((O .len .i2 b_1))) <|
            grd (okKin ((O .toNat k18)) ((O .len .i2 b_1))) <|
            Option.bind (m_ref13_rule O kind_1 false ((O .le ((O .get .i2 b_1 (O .toNat k18))).1 (O .get .i1 l94 (O .toNat c2))))) fun b37 =>
            (some (O .not b37))
          else
            Option.bind (m_ref13_rule O kind_1 false false) fun b38 =>
            (some (O .not b38)) : Option ((Bool))) fun x159 =>
      bif x159 then
        (some (Sum.inl (i27, k18, (O .add c2 1), l97)))
      else
        Option.bind (
          bif (O .lt 0 (O .ofNat (O .len .i2 l97))) then
            grd (okI .i64 ((O .sub (O .ofNat (O .len .i2 l97)) 1))) <|
            grd (okIdx ((O .sub (O .ofNat (O .len .i2 l97)) 1)) ((O .len .i2 l97))) <|
            grd (okKin ((O .toNat (O .sub (O .ofNat (O .len .i2 l97)) 1))) ((O .len .i2 l97))) <|
            (some (O .eq ((O .get .i2 l97 (O .toNat (O .sub (O .ofNat (O .len .i2 l97)) 1)))).2 (O .get .i1 l94 (O .toNat c2))))
          else
            (some false) : Option ((Bool))) fun x161 =>
        Option.bind (
          bif x161 then
            grd (okI .i64 ((O .sub (O .ofNat (O .len .i2 l97)) 1))) <|
            grd (okIdx ((O .sub (O .ofNat (O .len .i2 l97)) 1)) ((O .len .i2 l97))) <|
            grd (okKin ((O .toNat (O .sub (O .ofNat (O .len .i2 l97)) 1))) ((O .len .i2 l97))) <|
            (some (O .put .i2 l97 (O .toNat (O .sub (O .ofNat (O .len .i2 l97)) 1)) (((O .get .i2 l97 (O .toNat (O .sub (O .ofNat (O .len .i2 l97)) 1)))).1, (O .get .i1 l94 (O .toNat (O .add c2 1))))))
          else
            grd (okRoom ((O .len .i2 l97))) <|
            grd (okRoom ((O .len .i2 [((O .get .i1 l94 (O .toNat c2)), (O .get .i1 l94 (O .toNat (O .add c2 1))))]))) <|
            (some (O .app .i2 l97 [((O .get .i1 l94 (O .toNat c2)), (O .get .i1 l94 (O .toNat (O .add c2 1))))])) : Option ((List (Int × Int)))) fun l99 =>
        (some (Sum.inl (i27, k18, (O .add c2 1), l99)))
  else
    (some (Sum.inr l97))
def m_ref13_Lists (O : Ops) (kind_1 : Int) (a_1 : List (Int × Int)) (b_1 : List (Int × Int)) : Option (List (Int × Int)) :=
  Option.bind (m_ref13_ends O a_1 b_1) fun l94 =>
  Option.bind (loop (m_ref13_Lists_L3 O a_1 b_1 kind_1 l94) (0, 0, 0, ([] : List (Int × Int)))) fun l100 =>
  (some l100)
def m_ref13_rotated_L1 (O : Ops) (l_1 : List (Int × Int)) (n40 : Int) (period_1 : Int) : (Int × List (Int × Int) × List (Int × Int)) → Option ((Int × List (Int × Int) × List (Int × Int)) ⊕ (List (Int × Int) × List (Int × Int))) := fun (i10, l76, l77) =>
  bif (O .lt i10 (O .ofNat (O .len .i2 l_1))) then
    grd (okIdx i10 ((O .len .i2 l_1))) <|
    grd (okKin ((O .toNat i10)) ((O .len .i2 l_1))) <|
    grd (okI .i64 ((O .add ((O .get .i2 l_1 (O .toNat i10))).1 n40))) <|
    grd (okI .i64 ((O .add ((O .get .i2 l_1 (O .toNat i10))).2 n40))) <|
    Option.bind (
      bif (O .lt (O .add ((O .get .i2 l_1 (O .toNat i10))).1 n40) period_1) then
        grd (okRoom ((O .len .i2 l77))) <|
        grd (okRoom ((O .len .i2 [((O .add ((O .get .i2 l_1 (O .toNat i10))).1 n40), (O .min (O .add ((O .get .i2 l_1 (O .toNat i10))).2 n40) period_1))]))) <|
        (some (O .app .i2 l77 [((O .add ((O .get .i2 l_1 (O .toNat i10))).1 n40), (O .min (O .add ((O .get .i2 l_1 (O .toNat i10))).2 n40) period_1))]))
      else
        (some l77) : Option ((List (Int × Int)))) fun l79 =>
    Option.bind (
      bif (O .lt period_1 (O .add ((O .get .i2 l_1 (O .toNat i10))).2 n40)) then
        grd (okI .i64 ((O .sub (O .max (O .add ((O .get .i2 l_1 (O .toNat i10))).1 n40) period_1) period_1))) <|
        grd (okI .i64 ((O .sub (O .add ((O .get .i2 l_1 (O .toNat i10))).2 n40) period_1))) <|
        grd (okRoom ((O .len .i2 l76))) <|
        grd (okRoom ((O .len .i2 [((O .sub (O .max (O .add ((O .get .i2 l_1 (O .toNat i10))).1 n40) period_1) period_1), (O .sub (O .add ((O .get .i2 l_1 (O .toNat i10))).2 n40) period_1))]))) <|
        (some (O .app .i2 l76 [((O .sub (O .max (O .add ((O .get .i2 l_1 (O .toNat i10))).1 n40) period_1) period_1), (O .sub (O .add ((O .get .i2 l_1 (O .toNat i10))).2 n40) period_1))]))
      else
        (some l76) : Option ((List (Int × Int)))) fun l81 =>
    grd (okI .i64 ((O .add i10 1))) <|
    (some (Sum.inl ((O .add i10 1), l81, l79)))
  else
    (some (Sum.inr (l76, l77)))
def m_ref13_rotated (O : Ops) (period_1 : Int) (n_1 : Int) (l_1 : List (Int × Int)) : Option (((Unit) ⊕ (List (Int × Int)))) :=
  Option.bind (m_ref01_Mod O n_1 period_1) fun n40 =>
  bif (O .eq n40 0) then
    (some (Sum.inl ()))
  else
    Option.bind (loop (m_ref13_rotated_L1 O l_1 n40 period_1) (0, ([] : List (Int × Int)), ([] : List (Int × Int)))) fun (l82, l83) =>
    Option.bind (m_ref13_Lists O 0 l82 l83) fun l101 =>
    (some (Sum.inr l101))
def m_ref13_Same_2_L1 (O : Ops) (a_1 : List (Int × Int)) : (Int) → Option ((Int) ⊕ ((Unit) ⊕ (Unit))) := fun i28 =>
  bif (O .lt i28 (O .ofNat (O .len .i2 a_1))) then
    grd (okIdx i28 ((O .len .i2 a_1))) <|
    grd (okKin ((O .toNat i28)) ((O .len .i2 a_1))) <|
    bif (O .not (O .and (O .eq ((O .get .i2 a_1 (O .toNat i28))).1 ((O .get .i2 a_1 (O .toNat i28))).1) (O .eq ((O .get .i2 a_1 (O .toNat i28))).2 ((O .get .i2 a_1 (O .toNat i28))).2))) then
      (some (Sum.inr (Sum.inl ())))
    else
      grd (okI .i64 ((O .add i28 1))) <|
      (some (Sum.inl (O .add i28 1)))
  else
    (some (Sum.inr (Sum.inr ())))
def m_ref13_Same_2 (O : Ops) (a_1 : List (Int × Int)) : Option (Bool) :=
  bif (O .not (O .eq (O .ofNat (O .len .i2 a_1)) (O .ofNat (O .len .i2 a_1)))) then
    (some false)
  else
    Option.bind (loop (m_ref13_Same_2_L1 O a_1) 0) fun e => match e with
    | .inl _ =>
      (some false)
    | .inr (_) =>
      (some true)
def m_ref13_cut_L1 (O : Ops) (l_1 : List (Int × Int)) (period_1 : Int) : (Int × List (Int × Int)) → Option ((Int × List (Int × Int)) ⊕ (List (Int × Int))) := fun (i30, l105) =>
  bif (O .lt i30 (O .ofNat (O .len .i2 l_1))) then
    grd (okIdx i30 ((O .len .i2 l_1))) <|
    grd (okKin ((O .toNat i30)) ((O .len .i2 l_1))) <|
    Option.bind (
      bif (O .lt ((O .get .i2 l_1 (O .toNat i30))).1 period_1) then
        grd (okRoom ((O .len .i2 l105))) <|
        grd (okRoom ((O .len .i2 [(((O .get .i2 l_1 (O .toNat i30))).1, (O .min ((O .get .i2 l_1 (O .toNat i30))).2 period_1))]))) <|
        (some (O .app .i2 l105 [(((O .get .i2 l_1 (O .toNat i30))).1, (O .min ((O .get .i2 l_1 (O .toNat i30))).2 period_1))]))
      else
        (some l105) : Option ((List (Int × Int)))) fun l107 =>
    grd (okI .i64 ((O .add i30 1))) <|
    (some (Sum.inl ((O .add i30 1), l107)))
  else
    (some (Sum.inr l105))
def m_ref13_cut (O : Ops) (period_1 : Int) (l_1 : List (Int × Int)) : Option (Int × List (Int × Int)) :=
  Option.bind (loop (m_ref13_cut_L1 O l_1 period_1) (0, ([] : List (Int × Int)))) fun l108 =>
  (some (period_1, l108))
def m_ref13_Least_L1 (O : Ops) (l_1 : List (Int × Int)) (period_1 : Int) : (Int) → Option ((Int) ⊕ ((Int × List (Int × Int)) ⊕ (Unit))) := fun q4 =>
  grd (okI .i64 ((O .mul q4 q4))) <|
  bif (O .le (O .mul q4 q4) period_1) then
    Option.bind (
      bif (O .eq (O .rem period_1 q4) 0) then
        grd (okNz q4) <|
        Option.bind (m_ref13_rotated O period_1 q4 l_1) fun e => match e with
        | .inl _ =>
          Option.bind (m_ref13_Same_2 O l_1) fun b39 =>
          (some b39)
        | .inr (l102) =>
          Option.bind (m_ref13_Same O l102 l_1) fun b40 =>
          (some b40)
      else
        grd (okNz q4) <|
        (some false) : Option ((Bool))) fun x164 =>
    bif x164 then
      Option.bind (m_ref13_cut O q4 l_1) fun (n41, l109) =>
      (some (Sum.inr (Sum.inl (n41, l109))))
    else
      grd (okI .i64 ((O .add q4 1))) <|
      (some (Sum.inl (O .add q4 1)))
  else
    (some (Sum.inr (Sum.inr ())))
def m_ref13_Least_L2 (O : Ops) (l_1 : List (Int × Int)) (period_1 : Int) : (Int × Int) → Option ((Int × Int) ⊕ (Int)) := fun (best6, q7) =>
  grd (okI .i64 ((O .mul q7 q7))) <|
  bif (O .le (O .mul q7 q7) period_1) then
    Option.bind (
      bif (O .eq (O .rem period_1 q7) 0) then
        grd (okNz q7) <|
        grd (okI .i64 ((O .quo period_1 q7))) <|
        Option.bind (m_ref13_rotated O period_1 ((O .quo period_1 q7)) l_1) fun e => match e with
        | .inl _ =>
          Option.bind (m_ref13_Same_2 O l_1) fun b41 =>
          (some b41)
        | .inr (l111) =>
          Option.bind (m_ref13_Same O l111 l_1) fun b42 =>
          (some b42)
      else
        grd (okNz q7) <|
        (some false) : Option ((Bool))) fun x168 =>
    Option.bind (
      bif x168 then
        grd (okI .i64 ((O .quo period_1 q7))) <|
        (some (O .quo period_1 q7))
      else
        (some best6) : Option ((Int))) fun best8 =>
    grd (okI .i64 ((O .add q7 1))) <|
    (some (Sum.inl (best8, (O .add q7 1))))
  else
    (some (Sum.inr best6))
def m_ref13_Least (O : Ops) (period_1 : Int) (l_1 : List (Int × Int)) : Option (Int × List (Int × Int)) :=
  Option.bind (loop (m_ref13_Least_L1 O l_1 period_1) 1) fun e => match e with
  | .inl (x165, l110) =>
    (some (x165, l110))
  | .inr (_) =>
    Option.bind (loop (m_ref13_Least_L2 O l_1 period_1) (period_1, 1)) fun best9 =>
    Option.bind (m_ref13_cut O best9 l_1) fun (n42, l112) =>
    (some (n42, l112))
def m_ref13_Valid (O : Ops) (p_1 : Int) (p_2 : List (Int × Int)) : Option (Bool) :=
  Option.bind (
    bif (O .lt p_1 1) then
      (some true)
    else
      bif (O .lt 12622780800 p_1) then
        (some true)
      else
        bif (O .lt 2000 (O .ofNat (O .len .i2 p_2))) then
          (some true)
        else
          Option.bind (m_ref13_Runs O p_2) fun b30 =>
          (some (O .not b30)) : Option ((Bool))) fun x116 =>
  bif x116 then
    (some false)
  else
    Option.bind (
      bif (O .lt 0 (O .ofNat (O .len .i2 p_2))) then
        bif (O .lt ((O .get .i2 p_2 (O .toNat 0))).1 0) then
          grd (okIdx 0 ((O .len .i2 p_2))) <|
          grd (okKin ((O .toNat 0)) ((O .len .i2 p_2))) <|
          (some true)
        else
          grd (okIdx 0 ((O .len .i2 p_2))) <|
          grd (okKin ((O .toNat 0)) ((O .len .i2 p_2))) <|
          grd (okI .i64 ((O .sub (O .ofNat (O .len .i2 p_2)) 1))) <|
          grd (okIdx ((O .sub (O .ofNat (O .len .i2 p_2)) 1)) ((O .len .i2 p_2))) <|
          grd (okKin ((O .toNat (O .sub (O .ofNat (O .len .i2 p_2)) 1))) ((O .len .i2 p_2))) <|
          (some (O .lt p_1 ((O .get .i2 p_2 (O .toNat (O .sub (O .ofNat (O .len .i2 p_2)) 1)))).2))
      else
        (some false) : Option ((Bool))) fun x119 =>
    bif x119 then
      (some false)
    else
      Option.bind (m_ref13_Least O p_1 p_2) fun (n43, _) =>
      (some (O .eq n43 p_1))
def m_ref01_Gcd_L1 (O : Ops) : (Int × Int) → Option ((Int × Int) ⊕ ((Unit) ⊕ (Int))) := fun (a1, b45) =>
  bif (O .not (O .eq b45 0)) then
    bif (O .eq b45 (-1)) then
      (some (Sum.inr (Sum.inl ())))
    else
      grd (okNz b45) <|
      (some (Sum.inl (b45, (O .rem a1 b45))))
  else
    (some (Sum.inr (Sum.inr a1)))
def m_ref01_Gcd (O : Ops) (a_1 : Int) (b_1 : Int) : Option (Int) :=
  Option.bind (loop (m_ref01_Gcd_L1 O) (a_1, b_1)) fun e => match e with
  | .inl _ =>
    (some 1)
  | .inr (a2) =>
    bif (O .eq a2 (-9223372036854775808)) then
      (some 0)
    else
      Option.bind (
        bif (O .lt a2 0) then
          grd (okI .i64 ((O .sub 0 a2))) <|
          (some (O .sub 0 a2))
        else
          (some a2) : Option ((Int))) fun a4 =>
      (some a4)
def m_ref01_Lcm (O : Ops) (a_1 : Int) (b_1 : Int) : Option (Int × Int) :=
  Option.bind (
    bif (O .lt a_1 1) then
      (some true)
    else
      (some (O .lt b_1 1)) : Option ((Bool))) fun x172 =>
  bif x172 then
    (some (0, 2))
  else
    Option.bind (m_ref01_Gcd O a_1 b_1) fun n44 =>
    grd (okNz n44) <|
    grd (okI .i64 ((O .quo a_1 n44))) <|
    Option.bind (m_ref01_Mul O ((O .quo a_1 n44)) b_1) fun (n45, n46) =>
    (some (n45, n46))
def m_ref13_Pair (O : Ops) (a_1 : Int) (b_1 : Int) (a_2 : List (Int × Int)) (b_2 : List (Int × Int)) : Option (Int × Int) :=
  Option.bind (m_ref01_Lcm O a_1 b_1) fun (n47, n48) =>
  Option.bind (
    bif (O .not (O .eq n48 0)) then
      (some true)
    else
      (some (O .lt 12622780800 n47)) : Option ((Bool))) fun x174 =>
  bif x174 then
    (some (0, 9))
  else
    grd (okNz a_1) <|
    grd (okI .i64 ((O .quo n47 a_1))) <|
    grd (okI .i64 ((O .mul (O .quo n47 a_1) (O .ofNat (O .len .i2 a_2))))) <|
    grd (okNz b_1) <|
    grd (okI .i64 ((O .quo n47 b_1))) <|
    grd (okI .i64 ((O .mul (O .quo n47 b_1) (O .ofNat (O .len .i2 b_2))))) <|
    grd (okI .i64 ((O .add (O .mul (O .quo n47 a_1) (O .ofNat (O .len .i2 a_2))) (O .mul (O .quo n47 b_1) (O .ofNat (O .len .i2 b_2)))))) <|
    bif (O .lt 2000 (O .add (O .mul (O .quo n47 a_1) (O .ofNat (O .len .i2 a_2))) (O .mul (O .quo n47 b_1) (O .ofNat (O .len .i2 b_2))))) then
      (some (0, 5))
    else
      (some (n47, 0))
def m_ref13_Spread_L1 (O : Ops) (at8 : Int) (p_2 : List (Int × Int)) : (Int × List (Int × Int)) → Option ((Int × List (Int × Int)) ⊕ (List (Int × Int))) := fun (i34, l123) =>
  bif (O .lt i34 (O .ofNat (O .len .i2 p_2))) then
    grd (okIdx i34 ((O .len .i2 p_2))) <|
    grd (okKin ((O .toNat i34)) ((O .len .i2 p_2))) <|
    grd (okI .i64 ((O .add ((O .get .i2 p_2 (O .toNat i34))).1 at8))) <|
    grd (okI .i64 ((O .add ((O .get .i2 p_2 (O .toNat i34))).2 at8))) <|
    Option.bind (
      bif (O .lt 0 (O .ofNat (O .len .i2 l123))) then
        grd (okI .i64 ((O .sub (O .ofNat (O .len .i2 l123)) 1))) <|
        grd (okIdx ((O .sub (O .ofNat (O .len .i2 l123)) 1)) ((O .len .i2 l123))) <|
        grd (okKin ((O .toNat (O .sub (O .ofNat (O .len .i2 l123)) 1))) ((O .len .i2 l123))) <|
        (some (O .eq ((O .get .i2 l123 (O .toNat (O .sub (O .ofNat (O .len .i2 l123)) 1)))).2 (O .add ((O .get .i2 p_2 (O .toNat i34))).1 at8)))
      else
        (some false) : Option ((Bool))) fun x182 =>
    Option.bind (
      bif x182 then
        grd (okI .i64 ((O .sub (O .ofNat (O .len .i2 l123)) 1))) <|
        grd (okIdx ((O .sub (O .ofNat (O .len .i2 l123)) 1)) ((O .len .i2 l123))) <|
        grd (okKin ((O .toNat (O .sub (O .ofNat (O .len .i2 l123)) 1))) ((O .len .i2 l123))) <|
        (some (O .put .i2 l123 (O .toNat (O .sub (O .ofNat (O .len .i2 l123)) 1)) (((O .get .i2 l123 (O .toNat (O .sub (O .ofNat (O .len .i2 l123)) 1)))).1, (O .add ((O .get .i2 p_2 (O .toNat i34))).2 at8))))
      else
        grd (okRoom ((O .len .i2 l123))) <|
        grd (okRoom ((O .len .i2 [((O .add ((O .get .i2 p_2 (O .toNat i34))).1 at8), (O .add ((O .get .i2 p_2 (O .toNat i34))).2 at8))]))) <|
        (some (O .app .i2 l123 [((O .add ((O .get .i2 p_2 (O .toNat i34))).1 at8), (O .add ((O .get .i2 p_2 (O .toNat i34))).2 at8))])) : Option ((List (Int × Int)))) fun l125 =>
    grd (okI .i64 ((O .add i34 1))) <|
    (some (Sum.inl ((O .add i34 1), l125)))
  else
    (some (Sum.inr l123))
def m_ref13_Spread_L2 (O : Ops) (m_1 : Int) (p_1 : Int) (p_2 : List (Int × Int)) : (Int × List (Int × Int)) → Option ((Int × List (Int × Int)) ⊕ (List (Int × Int))) := fun (at8, l120) =>
  bif (O .lt at8 m_1) then
    Option.bind (loop (m_ref13_Spread_L1 O at8 p_2) (0, l120)) fun l126 =>
    grd (okI .i64 ((O .add at8 p_1))) <|
    (some (Sum.inl ((O .add at8 p_1), l126)))
  else
    (some (Sum.inr l120))
def m_ref13_Spread (O : Ops) (p_1 : Int) (m_1 : Int) (p_2 : List (Int × Int)) : Option (List (Int × Int)) :=
  bif (O .eq (O .ofNat (O .len .i2 p_2)) 0) then
    (some ([] : List (Int × Int)))
  else
    bif (O .eq p_1 1) then
      (some [(0, m_1)])
    else
      Option.bind (loop (m_ref13_Spread_L2 O m_1 p_1 p_2) (0, ([] : List (Int × Int)))) fun l127 =>
      (some l127)
def m_ref13_limited (O : Ops) (p_1 : Int) (p_2 : List (Int × Int)) : Option (((Int × Int) ⊕ (Int × Int))) :=
  bif (O .lt 2000 (O .ofNat (O .len .i2 p_2))) then
    (some (Sum.inl (0, 5)))
  else
    (some (Sum.inr (p_1, 0)))
def m_ref13_Combine (O : Ops) (a_1 : Int) (b_1 : Int) (kind_1 : Int) (a_2 : List (Int × Int)) (b_2 : List (Int × Int)) : Option (Int × List (Int × Int) × Int) :=
  Option.bind (
    Option.bind (m_ref13_Valid O a_1 a_2) fun b43 =>
    bif (O .not b43) then
      (some true)
    else
      Option.bind (m_ref13_Valid O b_1 b_2) fun b44 =>
      (some (O .not b44)) : Option ((Bool))) fun x170 =>
  bif x170 then
    (some (0, ([] : List (Int × Int)), 1))
  else
    Option.bind (m_ref13_Pair O a_1 b_1 a_2 b_2) fun (n49, n50) =>
    bif (O .not (O .eq n50 0)) then
      (some (0, ([] : List (Int × Int)), n50))
    else
      Option.bind (
        Option.bind (m_ref13_Spread O a_1 n49 a_2) fun l128 =>
        Option.bind (m_ref13_Spread O b_1 n49 b_2) fun l129 =>
        Option.bind (m_ref13_Lists O kind_1 l128 l129) fun l130 =>
        Option.bind (m_ref13_Least O n49 l130) fun (n51, l131) =>
        Option.bind (m_ref13_limited O n51 l131) fun e => match e with
        | .inl (n52, n53) =>
          (some (Sum.inl (n53, n52)))
        | .inr ((n54, n55)) =>
          (some (Sum.inr (n55, n54, l131))) : Option (((Int × Int) ⊕ (Int × Int × List (Int × Int))))) fun e => match e with
      | .inl (x185, x186) =>
        (some (x186, ([] : List (Int × Int)), x185))
      | .inr ((x187, x188, l132)) =>
        (some (x188, l132, x187))
def m_slices_Equal_L1 (O : Ops) (s1_1 : List (Int × Int)) (s2_1 : List (Int × Int)) : (Int) → Option ((Int) ⊕ ((Unit) ⊕ (Unit))) := fun x189 =>
  bif (O .lt x189 (O .ofNat (O .len .i2 s1_1))) then
    grd (okIdx x189 ((O .len .i2 s1_1))) <|
    grd (okKin ((O .toNat x189)) ((O .len .i2 s1_1))) <|
    grd (okIdx x189 ((O .len .i2 s2_1))) <|
    grd (okKin ((O .toNat x189)) ((O .len .i2 s2_1))) <|
    bif (O .not (O .and (O .eq ((O .get .i2 s1_1 (O .toNat x189))).1 ((O .get .i2 s2_1 (O .toNat x189))).1) (O .eq ((O .get .i2 s1_1 (O .toNat x189))).2 ((O .get .i2 s2_1 (O .toNat x189))).2))) then
      (some (Sum.inr (Sum.inl ())))
    else
      grd (okI .i64 ((O .add x189 1))) <|
      (some (Sum.inl (O .add x189 1)))
  else
    (some (Sum.inr (Sum.inr ())))
def m_slices_Equal (O : Ops) (s1_1 : List (Int × Int)) (s2_1 : List (Int × Int)) : Option (Bool) :=
  bif (O .not (O .eq (O .ofNat (O .len .i2 s1_1)) (O .ofNat (O .len .i2 s2_1)))) then
    (some false)
  else
    Option.bind (loop (m_slices_Equal_L1 O s1_1 s2_1) 0) fun e => match e with
    | .inl _ =>
      (some false)
    | .inr (_) =>
      (some true)
def m_law13_PeriodicCombines_1 (O : Ops) (p_1 : Int) (e_1 : Int) (q_1 : Int) (f_1 : Int) (p_2 : List (Int × Int)) (q_2 : List (Int × Int)) : Option (Bool) :=
  Option.bind (
    bif (O .eq e_1 f_1) then
      bif (O .eq p_1 q_1) then
        Option.bind (m_slices_Equal O p_2 q_2) fun b46 =>
        (some b46)
      else
        (some false)
    else
      (some false) : Option ((Bool))) fun x192 =>
  (some x192)
def m_periodic_Meet_1 (_O : Ops) (a_1 : Bool) (b_1 : Bool) : Option (Bool) :=
  Option.bind (
    bif a_1 then
      (some b_1)
    else
      (some false) : Option ((Bool))) fun x203 =>
  (some x203)
def m_periodic_combine_2_L1 (O : Ops) (a_1 : List (Int × Int)) (b_1 : List (Int × Int)) : (Int × Int × List (Int × Int)) → Option ((Int × Int × List (Int × Int)) ⊕ (List (Int × Int))) := fun (i38, k22, l140) =>
  Option.bind (m_periodic_combine_1 O i38 a_1) fun (n62, b54) =>
  Option.bind (m_periodic_combine_1 O k22 b_1) fun (n63, b55) =>
  Option.bind (
    bif (O .not b54) then
      (some (O .not b55))
    else
      (some false) : Option ((Bool))) fun x213 =>
  bif x213 then
    (some (Sum.inr l140))
  else
    Option.bind (
      bif (O .not b54) then
        (some (b55, true))
      else
        bif b55 then
          (some (true, (O .lt n63 n62)))
        else
          (some (false, false)) : Option ((Bool × Bool))) fun (is12, x216) =>
    Option.bind (
      bif x216 then
        (some n63)
      else
        (some n62) : Option ((Int))) fun at12 =>
    grd (okNz 2) <|
    Option.bind (m_periodic_Meet_1 O ((O .eq (O .rem i38 2) 1)) ((O .eq (O .rem k22 2) 1))) fun b56 =>
    Option.bind (
      bif b54 then
        (some (O .eq n62 at12))
      else
        (some false) : Option ((Bool))) fun x218 =>
    Option.bind (
      bif x218 then
        grd (okI .i64 ((O .add i38 1))) <|
        (some (O .add i38 1))
      else
        (some i38) : Option ((Int))) fun i40 =>
    Option.bind (
      bif is12 then
        (some (O .eq n63 at12))
      else
        (some false) : Option ((Bool))) fun x220 =>
    Option.bind (
      bif x220 then
        grd (okI .i64 ((O .add k22 1))) <|
        (some (O .add k22 1))
      else
        (some k22) : Option ((Int))) fun k24 =>
    Option.bind (m_periodic_Meet_1 O ((O .eq (O .rem i40 2) 1)) ((O .eq (O .rem k24 2) 1))) fun b57 =>
    Option.bind (
      bif (O .not b56) then
        (some b57)
      else
        (some false) : Option ((Bool))) fun x222 =>
    Option.bind (
      bif x222 then
        grd (okRoom ((O .len .i2 l140))) <|
        grd (okRoom ((O .len .i2 [(at12, 0)]))) <|
        (some (O .app .i2 l140 [(at12, 0)]))
      else
        Option.bind (
          bif b56 then
            (some (O .not b57))
          else
            (some false) : Option ((Bool))) fun x224 =>
        Option.bind (
          bif x224 then
            grd (okI .i64 ((O .sub (O .ofNat (O .len .i2 l140)) 1))) <|
            grd (okIdx ((O .sub (O .ofNat (O .len .i2 l140)) 1)) ((O .len .i2 l140))) <|
            grd (okKin ((O .toNat (O .sub (O .ofNat (O .len .i2 l140)) 1))) ((O .len .i2 l140))) <|
            (some (O .put .i2 l140 (O .toNat (O .sub (O .ofNat (O .len .i2 l140)) 1)) (((O .get .i2 l140 (O .toNat (O .sub (O .ofNat (O .len .i2 l140)) 1)))).1, at12)))
          else
            (some l140) : Option ((List (Int × Int)))) fun l142 =>
        (some l142) : Option ((List (Int × Int)))) fun l144 =>
    (some (Sum.inl (i40, k24, l144)))
def m_periodic_combine_2 (O : Ops) (a_1 : List (Int × Int)) (b_1 : List (Int × Int)) : Option (List (Int × Int)) :=
  Option.bind (loop (m_periodic_combine_2_L1 O a_1 b_1) (0, 0, ([] : List (Int × Int)))) fun l145 =>
  (some l145)
def m_periodic_both_2 (O : Ops) (a_1 : Int) (b_1 : Int) (a_2 : List (Int × Int)) (b_2 : List (Int × Int)) : Option (Int × List (Int × Int) × Int) :=
  Option.bind (
    Option.bind (m_periodic_Valid O a_1 a_2) fun b48 =>
    bif (O .not b48) then
      (some true)
    else
      Option.bind (m_periodic_Valid O b_1 b_2) fun b49 =>
      (some (O .not b49)) : Option ((Bool))) fun x194 =>
  bif x194 then
    (some (0, ([] : List (Int × Int)), 1))
  else
    Option.bind (m_integer_Lcm O a_1 b_1) fun (n58, n59) =>
    Option.bind (
      bif (O .not (O .eq n59 0)) then
        (some true)
      else
        (some (O .lt 12622780800 n58)) : Option ((Bool))) fun x196 =>
    bif x196 then
      (some (0, ([] : List (Int × Int)), 9))
    else
      grd (okNz a_1) <|
      grd (okI .i64 ((O .quo n58 a_1))) <|
      grd (okI .i64 ((O .mul (O .quo n58 a_1) (O .ofNat (O .len .i2 a_2))))) <|
      grd (okNz b_1) <|
      grd (okI .i64 ((O .quo n58 b_1))) <|
      grd (okI .i64 ((O .mul (O .quo n58 b_1) (O .ofNat (O .len .i2 b_2))))) <|
      grd (okI .i64 ((O .add (O .mul (O .quo n58 a_1) (O .ofNat (O .len .i2 a_2))) (O .mul (O .quo n58 b_1) (O .ofNat (O .len .i2 b_2)))))) <|
      bif (O .lt 2000 (O .add (O .mul (O .quo n58 a_1) (O .ofNat (O .len .i2 a_2))) (O .mul (O .quo n58 b_1) (O .ofNat (O .len .i2 b_2))))) then
        (some (0, ([] : List (Int × Int)), 5))
      else
        Option.bind (m_periodic_spread O a_1 n58 a_2) fun l134 =>
        Option.bind (m_periodic_spread O b_1 n58 b_2) fun l135 =>
        Option.bind (m_periodic_combine_2 O l134 l135) fun l146 =>
        Option.bind (m_periodic_limited O n58 l146) fun (n64, l147, n65) =>
        (some (n64, l147, n65))
def m_periodic_Meet (O : Ops) (a_1 : Int) (b_1 : Int) (a_2 : List (Int × Int)) (b_2 : List (Int × Int)) : Option (Int × List (Int × Int) × Int) :=
  Option.bind (m_periodic_both_2 O a_1 b_1 a_2 b_2) fun (n66, l148, n67) =>
  (some (n66, l148, n67))
def m_periodic_Minus_1 (O : Ops) (a_1 : Bool) (b_1 : Bool) : Option (Bool) :=
  Option.bind (
    bif a_1 then
      (some (O .not b_1))
    else
      (some false) : Option ((Bool))) fun x235 =>
  (some x235)
def m_periodic_combine_3_L1 (O : Ops) (a_1 : List (Int × Int)) (b_1 : List (Int × Int)) : (Int × Int × List (Int × Int)) → Option ((Int × Int × List (Int × Int)) ⊕ (List (Int × Int))) := fun (i44, k28, l157) =>
  Option.bind (m_periodic_combine_1 O i44 a_1) fun (n76, b65) =>
  Option.bind (m_periodic_combine_1 O k28 b_1) fun (n77, b66) =>
  Option.bind (
    bif (O .not b65) then
      (some (O .not b66))
    else
      (some false) : Option ((Bool))) fun x245 =>
  bif x245 then
    (some (Sum.inr l157))
  else
    Option.bind (
      bif (O .not b65) then
        (some (b66, true))
      else
        bif b66 then
          (some (true, (O .lt n77 n76)))
        else
          (some (false, false)) : Option ((Bool × Bool))) fun (is18, x248) =>
    Option.bind (
      bif x248 then
        (some n77)
      else
        (some n76) : Option ((Int))) fun at16 =>
    grd (okNz 2) <|
    Option.bind (m_periodic_Minus_1 O ((O .eq (O .rem i44 2) 1)) ((O .eq (O .rem k28 2) 1))) fun b67 =>
    Option.bind (
      bif b65 then
        (some (O .eq n76 at16))
      else
        (some false) : Option ((Bool))) fun x250 =>
    Option.bind (
      bif x250 then
        grd (okI .i64 ((O .add i44 1))) <|
        (some (O .add i44 1))
      else
        (some i44) : Option ((Int))) fun i46 =>
    Option.bind (
      bif is18 then
        (some (O .eq n77 at16))
      else
        (some false) : Option ((Bool))) fun x252 =>
    Option.bind (
      bif x252 then
        grd (okI .i64 ((O .add k28 1))) <|
        (some (O .add k28 1))
      else
        (some k28) : Option ((Int))) fun k30 =>
    Option.bind (m_periodic_Minus_1 O ((O .eq (O .rem i46 2) 1)) ((O .eq (O .rem k30 2) 1))) fun b68 =>
    Option.bind (
      bif (O .not b67) then
        (some b68)
      else
        (some false) : Option ((Bool))) fun x254 =>
    Option.bind (
      bif x254 then
        grd (okRoom ((O .len .i2 l157))) <|
        grd (okRoom ((O .len .i2 [(at16, 0)]))) <|
        (some (O .app .i2 l157 [(at16, 0)]))
      else
        Option.bind (
          bif b67 then
            (some (O .not b68))
          else
            (some false) : Option ((Bool))) fun x256 =>
        Option.bind (
          bif x256 then
            grd (okI .i64 ((O .sub (O .ofNat (O .len .i2 l157)) 1))) <|
            grd (okIdx ((O .sub (O .ofNat (O .len .i2 l157)) 1)) ((O .len .i2 l157))) <|
            grd (okKin ((O .toNat (O .sub (O .ofNat (O .len .i2 l157)) 1))) ((O .len .i2 l157))) <|
            (some (O .put .i2 l157 (O .toNat (O .sub (O .ofNat (O .len .i2 l157)) 1)) (((O .get .i2 l157 (O .toNat (O .sub (O .ofNat (O .len .i2 l157)) 1)))).1, at16)))
          else
            (some l157) : Option ((List (Int × Int)))) fun l159 =>
        (some l159) : Option ((List (Int × Int)))) fun l161 =>
    (some (Sum.inl (i46, k30, l161)))
def m_periodic_combine_3 (O : Ops) (a_1 : List (Int × Int)) (b_1 : List (Int × Int)) : Option (List (Int × Int)) :=
  Option.bind (loop (m_periodic_combine_3_L1 O a_1 b_1) (0, 0, ([] : List (Int × Int)))) fun l162 =>
  (some l162)
def m_periodic_both_3 (O : Ops) (a_1 : Int) (b_1 : Int) (a_2 : List (Int × Int)) (b_2 : List (Int × Int)) : Option (Int × List (Int × Int) × Int) :=
  Option.bind (
    Option.bind (m_periodic_Valid O a_1 a_2) fun b59 =>
    bif (O .not b59) then
      (some true)
    else
      Option.bind (m_periodic_Valid O b_1 b_2) fun b60 =>
      (some (O .not b60)) : Option ((Bool))) fun x226 =>
  bif x226 then
    (some (0, ([] : List (Int × Int)), 1))
  else
    Option.bind (m_integer_Lcm O a_1 b_1) fun (n72, n73) =>
    Option.bind (
      bif (O .not (O .eq n73 0)) then
        (some true)
      else
        (some (O .lt 12622780800 n72)) : Option ((Bool))) fun x228 =>
    bif x228 then
      (some (0, ([] : List (Int × Int)), 9))
    else
      grd (okNz a_1) <|
      grd (okI .i64 ((O .quo n72 a_1))) <|
      grd (okI .i64 ((O .mul (O .quo n72 a_1) (O .ofNat (O .len .i2 a_2))))) <|
      grd (okNz b_1) <|
      grd (okI .i64 ((O .quo n72 b_1))) <|
      grd (okI .i64 ((O .mul (O .quo n72 b_1) (O .ofNat (O .len .i2 b_2))))) <|
      grd (okI .i64 ((O .add (O .mul (O .quo n72 a_1) (O .ofNat (O .len .i2 a_2))) (O .mul (O .quo n72 b_1) (O .ofNat (O .len .i2 b_2)))))) <|
      bif (O .lt 2000 (O .add (O .mul (O .quo n72 a_1) (O .ofNat (O .len .i2 a_2))) (O .mul (O .quo n72 b_1) (O .ofNat (O .len .i2 b_2))))) then
        (some (0, ([] : List (Int × Int)), 5))
      else
        Option.bind (m_periodic_spread O a_1 n72 a_2) fun l151 =>
        Option.bind (m_periodic_spread O b_1 n72 b_2) fun l152 =>
        Option.bind (m_periodic_combine_3 O l151 l152) fun l163 =>
        Option.bind (m_periodic_limited O n72 l163) fun (n78, l164, n79) =>
        (some (n78, l164, n79))
def m_periodic_Minus (O : Ops) (a_1 : Int) (b_1 : Int) (a_2 : List (Int × Int)) (b_2 : List (Int × Int)) : Option (Int × List (Int × Int) × Int) :=
  Option.bind (m_periodic_both_3 O a_1 b_1 a_2 b_2) fun (n80, l165, n81) =>
  (some (n80, l165, n81))
def m_periodic_Not_1 (O : Ops) (a_1 : Bool) (b_1 : Bool) : Option (Bool) :=
  Option.bind (
    bif a_1 then
      (some (O .not b_1))
    else
      (some false) : Option ((Bool))) fun x263 =>
  (some x263)
def m_periodic_combine_4_L1 (O : Ops) (a_1 : List (Int × Int)) (b_1 : List (Int × Int)) : (Int × Int × List (Int × Int)) → Option ((Int × Int × List (Int × Int)) ⊕ (List (Int × Int))) := fun (i50, k34, l172) =>
  Option.bind (m_periodic_combine_1 O i50 a_1) fun (n88, b75) =>
  Option.bind (m_periodic_combine_1 O k34 b_1) fun (n89, b76) =>
  Option.bind (
    bif (O .not b75) then
      (some (O .not b76))
    else
      (some false) : Option ((Bool))) fun x273 =>
  bif x273 then
    (some (Sum.inr l172))
  else
    Option.bind (
      bif (O .not b75) then
        (some (b76, true))
      else
        bif b76 then
          (some (true, (O .lt n89 n88)))
        else
          (some (false, false)) : Option ((Bool × Bool))) fun (is24, x276) =>
    Option.bind (
      bif x276 then
        (some n89)
      else
        (some n88) : Option ((Int))) fun at20 =>
    grd (okNz 2) <|
    Option.bind (m_periodic_Not_1 O ((O .eq (O .rem i50 2) 1)) ((O .eq (O .rem k34 2) 1))) fun b77 =>
    Option.bind (
      bif b75 then
        (some (O .eq n88 at20))
      else
        (some false) : Option ((Bool))) fun x278 =>
    Option.bind (
      bif x278 then
        grd (okI .i64 ((O .add i50 1))) <|
        (some (O .add i50 1))
      else
        (some i50) : Option ((Int))) fun i52 =>
    Option.bind (
      bif is24 then
        (some (O .eq n89 at20))
      else
        (some false) : Option ((Bool))) fun x280 =>
    Option.bind (
      bif x280 then
        grd (okI .i64 ((O .add k34 1))) <|
        (some (O .add k34 1))
      else
        (some k34) : Option ((Int))) fun k36 =>
    Option.bind (m_periodic_Not_1 O ((O .eq (O .rem i52 2) 1)) ((O .eq (O .rem k36 2) 1))) fun b78 =>
    Option.bind (
      bif (O .not b77) then
        (some b78)
      else
        (some false) : Option ((Bool))) fun x282 =>
    Option.bind (
      bif x282 then
        grd (okRoom ((O .len .i2 l172))) <|
        grd (okRoom ((O .len .i2 [(at20, 0)]))) <|
        (some (O .app .i2 l172 [(at20, 0)]))
      else
        Option.bind (
          bif b77 then
            (some (O .not b78))
          else
            (some false) : Option ((Bool))) fun x284 =>
        Option.bind (
          bif x284 then
            grd (okI .i64 ((O .sub (O .ofNat (O .len .i2 l172)) 1))) <|
            grd (okIdx ((O .sub (O .ofNat (O .len .i2 l172)) 1)) ((O .len .i2 l172))) <|
            grd (okKin ((O .toNat (O .sub (O .ofNat (O .len .i2 l172)) 1))) ((O .len .i2 l172))) <|
            (some (O .put .i2 l172 (O .toNat (O .sub (O .ofNat (O .len .i2 l172)) 1)) (((O .get .i2 l172 (O .toNat (O .sub (O .ofNat (O .len .i2 l172)) 1)))).1, at20)))
          else
            (some l172) : Option ((List (Int × Int)))) fun l174 =>
        (some l174) : Option ((List (Int × Int)))) fun l176 =>
    (some (Sum.inl (i52, k36, l176)))
def m_periodic_combine_4 (O : Ops) (a_1 : List (Int × Int)) (b_1 : List (Int × Int)) : Option (List (Int × Int)) :=
  Option.bind (loop (m_periodic_combine_4_L1 O a_1 b_1) (0, 0, ([] : List (Int × Int)))) fun l177 =>
  (some l177)
def m_periodic_Not (O : Ops) (p_1 : Int) (p_2 : List (Int × Int)) : Option (Int × List (Int × Int) × Int) :=
  Option.bind (m_periodic_Valid O p_1 p_2) fun b70 =>
  bif (O .not b70) then
    (some (0, ([] : List (Int × Int)), 1))
  else
    Option.bind (m_periodic_combine_4 O ([(0, p_1)]) p_2) fun l178 =>
    Option.bind (m_periodic_limited O p_1 l178) fun (n90, l179, n91) =>
    (some (n90, l179, n91))
def m_ref13_Not (O : Ops) (p_1 : Int) (p_2 : List (Int × Int)) : Option (Int × List (Int × Int) × Int) :=
  Option.bind (m_ref13_Valid O p_1 p_2) fun b79 =>
  bif (O .not b79) then
    (some (0, ([] : List (Int × Int)), 1))
  else
    Option.bind (
      Option.bind (m_ref13_Lists O 2 ([(0, p_1)]) p_2) fun l181 =>
      Option.bind (m_ref13_Least O p_1 l181) fun (n94, l182) =>
      Option.bind (m_ref13_limited O n94 l182) fun e => match e with
      | .inl (n95, n96) =>
        (some (Sum.inl (n96, n95)))
      | .inr ((n97, n98)) =>
        (some (Sum.inr (n98, n97, l182))) : Option (((Int × Int) ⊕ (Int × Int × List (Int × Int))))) fun e => match e with
    | .inl (x287, x288) =>
      (some (x288, ([] : List (Int × Int)), x287))
    | .inr ((x289, x290, l183)) =>
      (some (x290, l183, x289))
def m_periodic_Move_L1 (O : Ops) (n101 : Int) (p_2 : List (Int × Int)) : (Int × List (Int × Int)) → Option ((Int × List (Int × Int)) ⊕ (List (Int × Int))) := fun (x294, l185) =>
  bif (O .lt x294 (O .ofNat (O .len .i2 p_2))) then
    grd (okIdx x294 ((O .len .i2 p_2))) <|
    grd (okKin ((O .toNat x294)) ((O .len .i2 p_2))) <|
    grd (okI .i64 ((O .add ((O .get .i2 p_2 (O .toNat x294))).1 n101))) <|
    grd (okI .i64 ((O .add ((O .get .i2 p_2 (O .toNat x294))).2 n101))) <|
    grd (okRoom ((O .len .i2 l185))) <|
    grd (okRoom ((O .len .i2 [((O .add ((O .get .i2 p_2 (O .toNat x294))).1 n101), (O .add ((O .get .i2 p_2 (O .toNat x294))).2 n101))]))) <|
    grd (okI .i64 ((O .add x294 1))) <|
    (some (Sum.inl ((O .add x294 1), (O .app .i2 l185 [((O .add ((O .get .i2 p_2 (O .toNat x294))).1 n101), (O .add ((O .get .i2 p_2 (O .toNat x294))).2 n101))]))))
  else
    (some (Sum.inr l185))
def m_periodic_Move (O : Ops) (p_1 : Int) (n_1 : Int) (p_2 : List (Int × Int)) : Option (Int × List (Int × Int) × Int) :=
  Option.bind (m_periodic_Valid O p_1 p_2) fun b80 =>
  bif (O .not b80) then
    (some (0, ([] : List (Int × Int)), 1))
  else
    Option.bind (
      bif (O .lt n_1 (-4398046511104)) then
        (some true)
      else
        (some (O .lt 4398046511104 n_1)) : Option ((Bool))) fun x292 =>
    bif x292 then
      (some (0, ([] : List (Int × Int)), 2))
    else
      Option.bind (m_integer_Mod O n_1 p_1) fun n101 =>
      Option.bind (loop (m_periodic_Move_L1 O n101 p_2) (0, ([] : List (Int × Int)))) fun l186 =>
      Option.bind (m_periodic_fold O p_1 l186) fun l187 =>
      Option.bind (m_periodic_limited O p_1 l187) fun (n102, l188, n103) =>
      (some (n102, l188, n103))
def m_ref13_Move (O : Ops) (p_1 : Int) (n_1 : Int) (p_2 : List (Int × Int)) : Option (((Int × List (Int × Int) × Int) ⊕ (Int × Int))) :=
  Option.bind (m_ref13_Valid O p_1 p_2) fun b81 =>
  bif (O .not b81) then
    (some (Sum.inl (0, ([] : List (Int × Int)), 1)))
  else
    Option.bind (
      bif (O .lt n_1 (-4398046511104)) then
        (some true)
      else
        (some (O .lt 4398046511104 n_1)) : Option ((Bool))) fun x296 =>
    bif x296 then
      (some (Sum.inl (0, ([] : List (Int × Int)), 2)))
    else
      Option.bind (
        Option.bind (m_ref13_rotated O p_1 n_1 p_2) fun e => match e with
        | .inl _ =>
          Option.bind (m_ref13_limited O p_1 p_2) fun e => match e with
          | .inl (n106, n107) =>
            (some (Sum.inl (n107, n106)))
          | .inr ((n108, n109)) =>
            (some (Sum.inr (Sum.inl (n109, n108))))
        | .inr (l190) =>
          Option.bind (m_ref13_limited O p_1 l190) fun e => match e with
          | .inl (n110, n111) =>
            (some (Sum.inl (n111, n110)))
          | .inr ((n112, n113)) =>
            (some (Sum.inr (Sum.inr (n113, n112, l190)))) : Option (((Int × Int) ⊕ ((Int × Int) ⊕ (Int × Int × List (Int × Int)))))) fun e => match e with
      | .inl (x305, x306) =>
        (some (Sum.inl (x306, ([] : List (Int × Int)), x305)))
      | .inr (.inl (x307, x308)) =>
        (some (Sum.inr (x308, x307)))
      | .inr (.inr ((x309, x310, l191))) =>
        (some (Sum.inl (x310, l191, x309)))
def m_law13_PeriodicCombines (O : Ops) (a_1 : Int) (b_1 : Int) (n_1 : Int) (a_2 : List (Int × Int)) (b_2 : List (Int × Int)) : Option (Bool) :=
  Option.bind (
    Option.bind (m_law13_awake O) fun b25 =>
    bif (O .not b25) then
      (some true)
    else
      Option.bind (m_law13_long O a_1 a_2) fun b26 =>
      bif b26 then
        (some true)
      else
        Option.bind (m_law13_long O b_1 b_2) fun b27 =>
        (some b27) : Option ((Bool))) fun x108 =>
  bif x108 then
    Option.bind (m_law13_awake O) fun b28 =>
    (some b28)
  else
    Option.bind (m_periodic_Union O a_1 b_1 a_2 b_2) fun (n35, l71, n36) =>
    Option.bind (m_ref13_Combine O a_1 b_1 0 a_2 b_2) fun (n56, l133, n57) =>
    Option.bind (m_law13_PeriodicCombines_1 O n35 n36 n56 n57 l71 l133) fun b47 =>
    bif (O .not b47) then
      (some false)
    else
      grd (okI .i64 ((O .add 0 1))) <|
      Option.bind (m_periodic_Meet O a_1 b_1 a_2 b_2) fun (n68, l149, n69) =>
      Option.bind (m_ref13_Combine O a_1 b_1 1 a_2 b_2) fun (n70, l150, n71) =>
      Option.bind (m_law13_PeriodicCombines_1 O n68 n69 n70 n71 l149 l150) fun b58 =>
      bif (O .not b58) then
        (some false)
      else
        grd (okI .i64 ((O .add 1 1))) <|
        Option.bind (m_periodic_Minus O a_1 b_1 a_2 b_2) fun (n82, l166, n83) =>
        Option.bind (m_ref13_Combine O a_1 b_1 2 a_2 b_2) fun (n84, l167, n85) =>
        Option.bind (m_law13_PeriodicCombines_1 O n82 n83 n84 n85 l166 l167) fun b69 =>
        bif (O .not b69) then
          (some false)
        else
          grd (okI .i64 ((O .add 2 1))) <|
          Option.bind (m_periodic_Not O a_1 a_2) fun (n92, l180, n93) =>
          Option.bind (m_ref13_Not O a_1 a_2) fun (n99, l184, n100) =>
          Option.bind (m_periodic_Move O a_1 n_1 a_2) fun (n104, l189, n105) =>
          Option.bind (
            Option.bind (m_ref13_Move O a_1 n_1 a_2) fun e => match e with
            | .inl (n114, l192, n115) =>
              (some (Sum.inl (n115, n114, l192)))
            | .inr ((n116, n117)) =>
              (some (Sum.inr (n117, n116))) : Option (((Int × Int × List (Int × Int)) ⊕ (Int × Int)))) fun e => match e with
          | .inl (h2, x312, l193) =>
            Option.bind (
              Option.bind (m_law13_PeriodicCombines_1 O n92 n93 n99 n100 l180 l184) fun b82 =>
              bif b82 then
                Option.bind (m_law13_PeriodicCombines_1 O n104 n105 x312 h2 l189 l193) fun b83 =>
                (some b83)
              else
                (some false) : Option ((Bool))) fun x315 =>
            (some x315)
          | .inr ((h3, x313)) =>
            Option.bind (
              Option.bind (m_law13_PeriodicCombines_1 O n92 n93 n99 n100 l180 l184) fun b84 =>
              bif b84 then
                Option.bind (m_law13_PeriodicCombines_1 O n104 n105 x313 h3 l189 a_2) fun b85 =>
                (some b85)
              else
                (some false) : Option ((Bool))) fun x317 =>
            (some x317)
def m_law13_line (O : Ops) (x_1 : Int) : Option (Bool) :=
  Option.bind (
    bif (O .le (-4398046511104) x_1) then
      (some (O .le x_1 4398046511104))
    else
      (some false) : Option ((Bool))) fun x324 =>
  (some x324)
def m_runs_Equal (O : Ops) (a_1 : List (Int × Int)) (b_1 : List (Int × Int)) : Option (Bool) :=
  Option.bind (
    Option.bind (m_runs_Valid O a_1) fun b100 =>
    bif b100 then
      Option.bind (m_runs_Valid O b_1) fun b101 =>
      bif b101 then
        Option.bind (m_slices_Equal O a_1 b_1) fun b102 =>
        (some b102)
      else
        (some false)
    else
      (some false) : Option ((Bool))) fun x338 =>
  (some x338)
def m_periodic_Equal (O : Ops) (a_1 : Int) (b_1 : Int) (a_2 : List (Int × Int)) (b_2 : List (Int × Int)) : Option (Bool) :=
  Option.bind (
    Option.bind (m_periodic_Valid O a_1 a_2) fun b98 =>
    bif b98 then
      Option.bind (m_periodic_Valid O b_1 b_2) fun b99 =>
      bif b99 then
        bif (O .eq a_1 b_1) then
          Option.bind (m_runs_Equal O a_2 b_2) fun b103 =>
          (some b103)
        else
          (some false)
      else
        (some false)
    else
      (some false) : Option ((Bool))) fun x342 =>
  (some x342)
def m_law13_PeriodicRepeats_L1 (O : Ops) (i54 : Int) (k_1 : Int) (p_1 : Int) (p_2 : List (Int × Int)) (shifts_1 : List Int) : (Int × List (Int × Int)) → Option ((Int × List (Int × Int)) ⊕ ((Unit) ⊕ (List (Int × Int)))) := fun (x333, l197) =>
  bif (O .lt x333 (O .ofNat (O .len .i2 p_2))) then
    grd (okIdx x333 ((O .len .i2 p_2))) <|
    grd (okKin ((O .toNat x333)) ((O .len .i2 p_2))) <|
    grd (okI .i64 ((O .mul i54 p_1))) <|
    Option.bind (
      bif (O .lt x333 (O .ofNat (O .len .c1 shifts_1))) then
        grd (okIdx x333 ((O .len .c1 shifts_1))) <|
        grd (okKin ((O .toNat x333)) ((O .len .c1 shifts_1))) <|
        grd (okI .i64 ((O .get .c1 shifts_1 (O .toNat x333)))) <|
        grd (okI .i64 ((O .mul (O .get .c1 shifts_1 (O .toNat x333)) (O .add 1 (O .rem k_1 6))))) <|
        grd (okI .i64 ((O .mul (O .mul (O .get .c1 shifts_1 (O .toNat x333)) (O .add 1 (O .rem k_1 6))) p_1))) <|
        grd (okI .i64 ((O .add (O .mul i54 p_1) (O .mul (O .mul (O .get .c1 shifts_1 (O .toNat x333)) (O .add 1 (O .rem k_1 6))) p_1)))) <|
        (some (O .add (O .mul i54 p_1) (O .mul (O .mul (O .get .c1 shifts_1 (O .toNat x333)) (O .add 1 (O .rem k_1 6))) p_1)))
      else
        (some (O .mul i54 p_1)) : Option ((Int))) fun at28 =>
    Option.bind (
      grd (okI .i64 ((O .add at28 ((O .get .i2 p_2 (O .toNat x333))).1))) <|
      Option.bind (m_law13_line O ((O .add at28 ((O .get .i2 p_2 (O .toNat x333))).1))) fun b96 =>
      bif (O .not b96) then
        (some true)
      else
        grd (okI .i64 ((O .add at28 ((O .get .i2 p_2 (O .toNat x333))).2))) <|
        Option.bind (m_law13_line O ((O .add at28 ((O .get .i2 p_2 (O .toNat x333))).2))) fun b97 =>
        (some (O .not b97)) : Option ((Bool))) fun x335 =>
    bif x335 then
      (some (Sum.inr (Sum.inl ())))
    else
      grd (okI .i64 ((O .add at28 ((O .get .i2 p_2 (O .toNat x333))).2))) <|
      grd (okRoom ((O .len .i2 l197))) <|
      grd (okRoom ((O .len .i2 [((O .add at28 ((O .get .i2 p_2 (O .toNat x333))).1), (O .add at28 ((O .get .i2 p_2 (O .toNat x333))).2))]))) <|
      grd (okI .i64 ((O .add x333 1))) <|
      (some (Sum.inl ((O .add x333 1), (O .app .i2 l197 [((O .add at28 ((O .get .i2 p_2 (O .toNat x333))).1), (O .add at28 ((O .get .i2 p_2 (O .toNat x333))).2))]))))
  else
    (some (Sum.inr (Sum.inr l197)))
def m_law13_PeriodicRepeats_L2 (O : Ops) (k_1 : Int) (p_1 : Int) (p_2 : List (Int × Int)) (shifts_1 : List Int) : (Int × List (Int × Int)) → Option ((Int × List (Int × Int)) ⊕ ((Unit) ⊕ (List (Int × Int)))) := fun (i54, l196) =>
  bif (O .le 0 i54) then
    Option.bind (loop (m_law13_PeriodicRepeats_L1 O i54 k_1 p_1 p_2 shifts_1) (0, l196)) fun e => match e with
    | .inl _ =>
      (some (Sum.inr (Sum.inl ())))
    | .inr (l198) =>
      grd (okI .i64 ((O .sub i54 1))) <|
      (some (Sum.inl ((O .sub i54 1), l198)))
  else
    (some (Sum.inr (Sum.inr l196)))
def m_law13_PeriodicRepeats (O : Ops) (p_1 : Int) (k_1 : Int) (p_2 : List (Int × Int)) (shifts_1 : List Int) : Option (Bool) :=
  Option.bind (
    Option.bind (m_law13_awake O) fun b86 =>
    bif (O .not b86) then
      (some true)
    else
      Option.bind (m_law13_long O p_1 p_2) fun b87 =>
      bif b87 then
        (some true)
      else
        Option.bind (m_periodic_Valid O p_1 p_2) fun b88 =>
        bif (O .not b88) then
          (some true)
        else
          (some (O .lt 4294967296 p_1)) : Option ((Bool))) fun x319 =>
  bif x319 then
    Option.bind (m_law13_awake O) fun b89 =>
    (some b89)
  else
    grd (okI .i64 k_1) <|
    grd (okNz 6) <|
    grd (okI .i64 ((O .add 1 (O .rem k_1 6)))) <|
    Option.bind (
      bif (O .lt 12622780800 (O .mul (O .add 1 (O .rem k_1 6)) p_1)) then
        grd (okI .i64 ((O .mul (O .add 1 (O .rem k_1 6)) p_1))) <|
        (some true)
      else
        grd (okI .i64 ((O .mul (O .add 1 (O .rem k_1 6)) p_1))) <|
        grd (okI .i64 ((O .mul (O .add 1 (O .rem k_1 6)) (O .ofNat (O .len .i2 p_2))))) <|
        (some (O .lt 2000 (O .mul (O .add 1 (O .rem k_1 6)) (O .ofNat (O .len .i2 p_2))))) : Option ((Bool))) fun x321 =>
    bif x321 then
      (some true)
    else
      grd (okI .i64 ((O .sub (O .add 1 (O .rem k_1 6)) 1))) <|
      Option.bind (loop (m_law13_PeriodicRepeats_L2 O k_1 p_1 p_2 shifts_1) ((O .sub (O .add 1 (O .rem k_1 6)) 1), ([] : List (Int × Int)))) fun e => match e with
      | .inl _ =>
        (some true)
      | .inr (l199) =>
        Option.bind (m_periodic_Of O ((O .mul (O .add 1 (O .rem k_1 6)) p_1)) l199) fun (n118, l200, n119) =>
        Option.bind (
          bif (O .eq n119 0) then
            Option.bind (m_periodic_Equal O p_1 n118 p_2 l200) fun b104 =>
            (some b104)
          else
            (some false) : Option ((Bool))) fun x344 =>
        (some x344)
def m_civil_inside (O : Ops) (day_1 : Int) : Option (Bool) :=
  Option.bind (
    bif (O .le (-719162) day_1) then
      (some (O .lt day_1 2932897))
    else
      (some false) : Option ((Bool))) fun x348 =>
  (some x348)
def m_civil_Weekday (O : Ops) (day_1 : Int) : Option (Int) :=
  Option.bind (m_civil_inside O day_1) fun b105 =>
  bif (O .not b105) then
    (some 0)
  else
    grd (okI .i64 ((O .add day_1 3))) <|
    Option.bind (m_integer_Mod O ((O .add day_1 3)) 7) fun n120 =>
    grd (okI .i64 ((O .add n120 1))) <|
    (some (O .add n120 1))
def m_granule_ascending_L1 (O : Ops) (l_1 : List (Int × Int)) : (Int) → Option ((Int) ⊕ ((Unit) ⊕ (Unit))) := fun x351 =>
  bif (O .lt x351 (O .ofNat (O .len .i2 l_1))) then
    grd (okIdx x351 ((O .len .i2 l_1))) <|
    grd (okKin ((O .toNat x351)) ((O .len .i2 l_1))) <|
    Option.bind (
      Option.bind (m_interval_Valid O (((O .get .i2 l_1 (O .toNat x351))).1) (((O .get .i2 l_1 (O .toNat x351))).2)) fun b106 =>
      bif (O .not b106) then
        (some true)
      else
        bif (O .lt 0 x351) then
          grd (okI .i64 ((O .sub x351 1))) <|
          grd (okIdx ((O .sub x351 1)) ((O .len .i2 l_1))) <|
          grd (okKin ((O .toNat (O .sub x351 1))) ((O .len .i2 l_1))) <|
          (some (O .lt ((O .get .i2 l_1 (O .toNat x351))).1 ((O .get .i2 l_1 (O .toNat (O .sub x351 1)))).2))
        else
          (some false) : Option ((Bool))) fun x354 =>
    bif x354 then
      (some (Sum.inr (Sum.inl ())))
    else
      grd (okI .i64 ((O .add x351 1))) <|
      (some (Sum.inl (O .add x351 1)))
  else
    (some (Sum.inr (Sum.inr ())))
def m_granule_ascending (O : Ops) (l_1 : List (Int × Int)) : Option (Bool) :=
  Option.bind (loop (m_granule_ascending_L1 O l_1) 0) fun e => match e with
  | .inl _ =>
    (some false)
  | .inr (_) =>
    (some (O .lt 0 (O .ofNat (O .len .i2 l_1))))
def m_granule_line (O : Ops) (x_1 : Int) : Option (Bool) :=
  Option.bind (
    bif (O .le (-4398046511104) x_1) then
      (some (O .le x_1 4398046511104))
    else
      (some false) : Option ((Bool))) fun x358 =>
  (some x358)
def m_granule_half (O : Ops) (x_1 : Int) : Option (Bool) :=
  Option.bind (
    bif (O .le (-2199023255552) x_1) then
      (some (O .le x_1 2199023255552))
    else
      (some false) : Option ((Bool))) fun x360 =>
  (some x360)
def m_granule_least_L1 (O : Ops) (l_1 : List (Int × Int)) (m1 : Int) (period_1 : Int) : (Bool × Int) → Option ((Bool × Int) ⊕ (Bool)) := fun (same1, i55) =>
  Option.bind (
    bif (O .lt (O .add i55 m1) (O .ofNat (O .len .i2 l_1))) then
      grd (okI .i64 ((O .add i55 m1))) <|
      (some same1)
    else
      grd (okI .i64 ((O .add i55 m1))) <|
      (some false) : Option ((Bool))) fun x369 =>
  bif x369 then
    grd (okIdx ((O .add i55 m1)) ((O .len .i2 l_1))) <|
    grd (okKin ((O .toNat (O .add i55 m1))) ((O .len .i2 l_1))) <|
    grd (okIdx i55 ((O .len .i2 l_1))) <|
    grd (okKin ((O .toNat i55)) ((O .len .i2 l_1))) <|
    grd (okI .i64 ((O .add ((O .get .i2 l_1 (O .toNat i55))).1 (O .quo period_1 (O .quo (O .ofNat (O .len .i2 l_1)) m1))))) <|
    grd (okI .i64 ((O .add ((O .get .i2 l_1 (O .toNat i55))).2 (O .quo period_1 (O .quo (O .ofNat (O .len .i2 l_1)) m1))))) <|
    grd (okI .i64 ((O .add i55 1))) <|
    (some (Sum.inl ((O .and (O .eq ((O .get .i2 l_1 (O .toNat (O .add i55 m1)))).1 (O .add ((O .get .i2 l_1 (O .toNat i55))).1 (O .quo period_1 (O .quo (O .ofNat (O .len .i2 l_1)) m1)))) (O .eq ((O .get .i2 l_1 (O .toNat (O .add i55 m1)))).2 (O .add ((O .get .i2 l_1 (O .toNat i55))).2 (O .quo period_1 (O .quo (O .ofNat (O .len .i2 l_1)) m1))))), (O .add i55 1))))
  else
    (some (Sum.inr same1))
def m_granule_least_L2 (O : Ops) (l_1 : List (Int × Int)) (period_1 : Int) : (Int) → Option ((Int) ⊕ ((Int) ⊕ (Unit))) := fun m1 =>
  bif (O .lt m1 (O .ofNat (O .len .i2 l_1))) then
    Option.bind (
      bif (O .not (O .eq (O .rem (O .ofNat (O .len .i2 l_1)) m1) 0)) then
        grd (okNz m1) <|
        (some true)
      else
        grd (okNz m1) <|
        grd (okI .i64 ((O .quo (O .ofNat (O .len .i2 l_1)) m1))) <|
        grd (okNz ((O .quo (O .ofNat (O .len .i2 l_1)) m1))) <|
        (some (O .not (O .eq (O .rem period_1 (O .quo (O .ofNat (O .len .i2 l_1)) m1)) 0))) : Option ((Bool))) fun x367 =>
    bif x367 then
      grd (okI .i64 ((O .add m1 1))) <|
      (some (Sum.inl (O .add m1 1)))
    else
      grd (okI .i64 ((O .quo (O .ofNat (O .len .i2 l_1)) m1))) <|
      grd (okNz ((O .quo (O .ofNat (O .len .i2 l_1)) m1))) <|
      grd (okI .i64 ((O .quo period_1 (O .quo (O .ofNat (O .len .i2 l_1)) m1)))) <|
      Option.bind (loop (m_granule_least_L1 O l_1 m1 period_1) (true, 0)) fun same2 =>
      bif same2 then
        (some (Sum.inr (Sum.inl m1)))
      else
        grd (okI .i64 ((O .add m1 1))) <|
        (some (Sum.inl (O .add m1 1)))
  else
    (some (Sum.inr (Sum.inr ())))
def m_granule_least (O : Ops) (period_1 : Int) (l_1 : List (Int × Int)) : Option (Int) :=
  Option.bind (loop (m_granule_least_L2 O l_1 period_1) 1) fun e => match e with
  | .inl x370 =>
    (some x370)
  | .inr (_) =>
    (some (O .ofNat (O .len .i2 l_1)))
def m_granule_Of_L1 (O : Ops) (l_1 : List (Int × Int)) : (Int × List (Int × Int)) → Option ((Int × List (Int × Int)) ⊕ (List (Int × Int))) := fun (x365, l203) =>
  bif (O .lt x365 (O .ofNat (O .len .i2 l_1))) then
    grd (okIdx x365 ((O .len .i2 l_1))) <|
    grd (okKin ((O .toNat x365)) ((O .len .i2 l_1))) <|
    grd (okI .i64 ((O .sub ((O .get .i2 l_1 (O .toNat x365))).1 ((O .get .i2 l_1 (O .toNat 0))).1))) <|
    grd (okI .i64 ((O .sub ((O .get .i2 l_1 (O .toNat x365))).2 ((O .get .i2 l_1 (O .toNat 0))).1))) <|
    grd (okRoom ((O .len .i2 l203))) <|
    grd (okRoom ((O .len .i2 [((O .sub ((O .get .i2 l_1 (O .toNat x365))).1 ((O .get .i2 l_1 (O .toNat 0))).1), (O .sub ((O .get .i2 l_1 (O .toNat x365))).2 ((O .get .i2 l_1 (O .toNat 0))).1))]))) <|
    grd (okI .i64 ((O .add x365 1))) <|
    (some (Sum.inl ((O .add x365 1), (O .app .i2 l203 [((O .sub ((O .get .i2 l_1 (O .toNat x365))).1 ((O .get .i2 l_1 (O .toNat 0))).1), (O .sub ((O .get .i2 l_1 (O .toNat x365))).2 ((O .get .i2 l_1 (O .toNat 0))).1))]))))
  else
    (some (Sum.inr l203))
def m_granule_Of (O : Ops) (origin_1 : Int) (period_1 : Int) (l_1 : List (Int × Int)) : Option (Int × Int × List (Int × Int) × Int) :=
  Option.bind (
    bif (O .lt period_1 1) then
      (some true)
    else
      bif (O .lt 12622780800 period_1) then
        (some true)
      else
        Option.bind (m_granule_ascending O l_1) fun b107 =>
        bif (O .not b107) then
          (some true)
        else
          grd (okI .i64 ((O .sub (O .ofNat (O .len .i2 l_1)) 1))) <|
          grd (okIdx ((O .sub (O .ofNat (O .len .i2 l_1)) 1)) ((O .len .i2 l_1))) <|
          grd (okKin ((O .toNat (O .sub (O .ofNat (O .len .i2 l_1)) 1))) ((O .len .i2 l_1))) <|
          grd (okIdx 0 ((O .len .i2 l_1))) <|
          grd (okKin ((O .toNat 0)) ((O .len .i2 l_1))) <|
          grd (okI .i64 ((O .sub ((O .get .i2 l_1 (O .toNat (O .sub (O .ofNat (O .len .i2 l_1)) 1)))).2 ((O .get .i2 l_1 (O .toNat 0))).1))) <|
          (some (O .lt period_1 (O .sub ((O .get .i2 l_1 (O .toNat (O .sub (O .ofNat (O .len .i2 l_1)) 1)))).2 ((O .get .i2 l_1 (O .toNat 0))).1))) : Option ((Bool))) fun x356 =>
  bif x356 then
    (some (0, 0, ([] : List (Int × Int)), 1))
  else
    bif (O .lt 5000 (O .ofNat (O .len .i2 l_1))) then
      (some (0, 0, ([] : List (Int × Int)), 5))
    else
      grd (okIdx 0 ((O .len .i2 l_1))) <|
      grd (okKin ((O .toNat 0)) ((O .len .i2 l_1))) <|
      Option.bind (
        Option.bind (m_granule_line O origin_1) fun b108 =>
        bif (O .not b108) then
          (some true)
        else
          grd (okI .i64 ((O .add origin_1 ((O .get .i2 l_1 (O .toNat 0))).1))) <|
          Option.bind (m_granule_half O ((O .add origin_1 ((O .get .i2 l_1 (O .toNat 0))).1))) fun b109 =>
          (some (O .not b109)) : Option ((Bool))) fun x362 =>
      bif x362 then
        (some (0, 0, ([] : List (Int × Int)), 2))
      else
        grd (okI .i64 ((O .add origin_1 ((O .get .i2 l_1 (O .toNat 0))).1))) <|
        Option.bind (loop (m_granule_Of_L1 O l_1) (0, ([] : List (Int × Int)))) fun l204 =>
        Option.bind (m_granule_least O period_1 l204) fun n123 =>
        grd (okNz n123) <|
        grd (okI .i64 ((O .quo (O .ofNat (O .len .i2 l204)) n123))) <|
        grd (okNz ((O .quo (O .ofNat (O .len .i2 l204)) n123))) <|
        grd (okI .i64 ((O .quo period_1 (O .quo (O .ofNat (O .len .i2 l204)) n123)))) <|
        grd (okRng n123 ((O .len .i2 l204))) <|
        grd (okRng n123 ((O .toNat n123))) <|
        (some ((O .add origin_1 ((O .get .i2 l_1 (O .toNat 0))).1), (O .quo period_1 (O .quo (O .ofNat (O .len .i2 l204)) n123)), (O .cut .i2 l204 0 (O .toNat n123)), 0))
def m_granule_row_L1 (O : Ops) (lengths_1 : List Int) : (Int × Int × List (Int × Int)) → Option ((Int × Int × List (Int × Int)) ⊕ (Int × List (Int × Int))) := fun (from2, x350, l201) =>
  bif (O .lt x350 (O .ofNat (O .len .i1 lengths_1))) then
    grd (okIdx x350 ((O .len .i1 lengths_1))) <|
    grd (okKin ((O .toNat x350)) ((O .len .i1 lengths_1))) <|
    grd (okI .i64 ((O .add from2 (O .get .i1 lengths_1 (O .toNat x350))))) <|
    grd (okRoom ((O .len .i2 l201))) <|
    grd (okRoom ((O .len .i2 [(from2, (O .add from2 (O .get .i1 lengths_1 (O .toNat x350))))]))) <|
    grd (okI .i64 ((O .add x350 1))) <|
    (some (Sum.inl ((O .add from2 (O .get .i1 lengths_1 (O .toNat x350))), (O .add x350 1), (O .app .i2 l201 [(from2, (O .add from2 (O .get .i1 lengths_1 (O .toNat x350))))]))))
  else
    (some (Sum.inr (from2, l201)))
def m_granule_row (O : Ops) (origin_1 : Int) (lengths_1 : List Int) : Option (Int × Int × List (Int × Int)) :=
  Option.bind (loop (m_granule_row_L1 O lengths_1) (0, 0, ([] : List (Int × Int)))) fun (from3, l202) =>
  Option.bind (m_granule_Of O origin_1 from3 l202) fun (n124, n125, l205, _) =>
  (some (n124, n125, l205))
def m_granule_Weeks (O : Ops) (first_1 : Int) : Option (Int × Int × List (Int × Int) × Int) :=
  Option.bind (
    bif (O .lt first_1 1) then
      (some true)
    else
      (some (O .lt 7 first_1)) : Option ((Bool))) fun x346 =>
  bif x346 then
    (some (0, 0, ([] : List (Int × Int)), 2))
  else
    Option.bind (m_civil_Weekday O 0) fun n121 =>
    grd (okI .i64 ((O .sub n121 first_1))) <|
    Option.bind (m_integer_Mod O ((O .sub n121 first_1)) 7) fun n122 =>
    grd (okI .i64 ((O .sub 0 n122))) <|
    Option.bind (m_granule_row O ((O .sub 0 n122)) ([7])) fun (n127, n128, l206) =>
    (some (n127, n128, l206, 0))
def m_granule_Valid (O : Ops) (c_1 : Int) (c_2 : Int) (c_3 : List (Int × Int)) : Option (Bool) :=
  Option.bind (
    bif (O .lt (O .ofNat (O .len .i2 c_3)) 1) then
      (some true)
    else
      bif (O .lt 5000 (O .ofNat (O .len .i2 c_3))) then
        (some true)
      else
        bif (O .lt c_2 1) then
          (some true)
        else
          bif (O .lt 12622780800 c_2) then
            (some true)
          else
            Option.bind (m_granule_half O c_1) fun b110 =>
            bif (O .not b110) then
              (some true)
            else
              Option.bind (m_granule_ascending O c_3) fun b111 =>
              bif (O .not b111) then
                (some true)
              else
                bif (O .not (O .eq ((O .get .i2 c_3 (O .toNat 0))).1 0)) then
                  grd (okIdx 0 ((O .len .i2 c_3))) <|
                  grd (okKin ((O .toNat 0)) ((O .len .i2 c_3))) <|
                  (some true)
                else
                  grd (okIdx 0 ((O .len .i2 c_3))) <|
                  grd (okKin ((O .toNat 0)) ((O .len .i2 c_3))) <|
                  grd (okI .i64 ((O .sub (O .ofNat (O .len .i2 c_3)) 1))) <|
                  grd (okIdx ((O .sub (O .ofNat (O .len .i2 c_3)) 1)) ((O .len .i2 c_3))) <|
                  grd (okKin ((O .toNat (O .sub (O .ofNat (O .len .i2 c_3)) 1))) ((O .len .i2 c_3))) <|
                  (some (O .lt c_2 ((O .get .i2 c_3 (O .toNat (O .sub (O .ofNat (O .len .i2 c_3)) 1)))).2)) : Option ((Bool))) fun x372 =>
  bif x372 then
    (some false)
  else
    Option.bind (m_granule_least O c_2 c_3) fun n132 =>
    (some (O .eq n132 (O .ofNat (O .len .i2 c_3))))
def m_integer_Floor (O : Ops) (a_1 : Int) (b_1 : Int) : Option (Int) :=
  Option.bind (m_integer_Div O a_1 b_1) fun (n133, _, _) =>
  (some n133)
def m_granule_at (O : Ops) (c_1 : Int) (c_2 : Int) (k_1 : Int) (c_3 : List (Int × Int)) : Option (Int × Int) :=
  Option.bind (m_integer_Floor O k_1 ((O .ofNat (O .len .i2 c_3)))) fun n137 =>
  grd (okI .i64 ((O .mul c_2 n137))) <|
  grd (okI .i64 ((O .add c_1 (O .mul c_2 n137)))) <|
  grd (okI .i64 ((O .mul (O .ofNat (O .len .i2 c_3)) n137))) <|
  grd (okI .i64 ((O .sub k_1 (O .mul (O .ofNat (O .len .i2 c_3)) n137)))) <|
  grd (okIdx ((O .sub k_1 (O .mul (O .ofNat (O .len .i2 c_3)) n137))) ((O .len .i2 c_3))) <|
  grd (okKin ((O .toNat (O .sub k_1 (O .mul (O .ofNat (O .len .i2 c_3)) n137)))) ((O .len .i2 c_3))) <|
  grd (okI .i64 ((O .add ((O .get .i2 c_3 (O .toNat (O .sub k_1 (O .mul (O .ofNat (O .len .i2 c_3)) n137))))).1 (O .add c_1 (O .mul c_2 n137))))) <|
  grd (okI .i64 ((O .add ((O .get .i2 c_3 (O .toNat (O .sub k_1 (O .mul (O .ofNat (O .len .i2 c_3)) n137))))).2 (O .add c_1 (O .mul c_2 n137))))) <|
  (some ((O .add ((O .get .i2 c_3 (O .toNat (O .sub k_1 (O .mul (O .ofNat (O .len .i2 c_3)) n137))))).1 (O .add c_1 (O .mul c_2 n137))), (O .add ((O .get .i2 c_3 (O .toNat (O .sub k_1 (O .mul (O .ofNat (O .len .i2 c_3)) n137))))).2 (O .add c_1 (O .mul c_2 n137)))))
def m_granule_Span (O : Ops) (c_1 : Int) (c_2 : Int) (k_1 : Int) (c_3 : List (Int × Int)) : Option (Int × Int × Int) :=
  Option.bind (m_granule_Valid O c_1 c_2 c_3) fun b112 =>
  bif (O .not b112) then
    (some (0, 0, 1))
  else
    Option.bind (m_integer_Floor O k_1 ((O .ofNat (O .len .i2 c_3)))) fun n136 =>
    Option.bind (
      bif (O .lt (O .quo 8796093022208 c_2) n136) then
        grd (okNz c_2) <|
        grd (okI .i64 ((O .quo 8796093022208 c_2))) <|
        (some true)
      else
        grd (okNz c_2) <|
        grd (okI .i64 ((O .quo 8796093022208 c_2))) <|
        grd (okI .i64 ((O .quo (-8796093022208) c_2))) <|
        grd (okI .i64 ((O .sub (O .quo (-8796093022208) c_2) 1))) <|
        (some (O .lt n136 (O .sub (O .quo (-8796093022208) c_2) 1))) : Option ((Bool))) fun x374 =>
    bif x374 then
      (some (0, 0, 2))
    else
      Option.bind (m_granule_at O c_1 c_2 k_1 c_3) fun (n138, n139) =>
      Option.bind (
        Option.bind (m_granule_line O n138) fun b113 =>
        bif (O .not b113) then
          (some true)
        else
          Option.bind (m_granule_line O n139) fun b114 =>
          (some (O .not b114)) : Option ((Bool))) fun x376 =>
      bif x376 then
        (some (0, 0, 2))
      else
        (some (n138, n139, 0))
def m_granule_months_L1 (O : Ops) (x380 : Int) : (Int × List Int) → Option ((Int × List Int) ⊕ (List Int)) := fun (x382, l211) =>
  bif (O .lt x382 12) then
    grd (okI .i64 ((O .add 1970 x380))) <|
    grd (okI .i64 ((O .add x382 1))) <|
    Option.bind (m_civil_Length O ((O .add 1970 x380)) ((O .add x382 1))) fun n146 =>
    grd (okRoom ((O .len .i1 l211))) <|
    grd (okRoom ((O .len .i1 [n146]))) <|
    (some (Sum.inl ((O .add x382 1), (O .app .i1 l211 [n146]))))
  else
    (some (Sum.inr l211))
def m_granule_months_L2 (O : Ops) : (Int × List Int) → Option ((Int × List Int) ⊕ (List Int)) := fun (x380, l210) =>
  bif (O .lt x380 400) then
    Option.bind (loop (m_granule_months_L1 O x380) (0, l210)) fun l212 =>
    grd (okI .i64 ((O .add x380 1))) <|
    (some (Sum.inl ((O .add x380 1), l212)))
  else
    (some (Sum.inr l210))
def m_granule_months (O : Ops) : Option (List Int) :=
  Option.bind (loop (m_granule_months_L2 O) (0, ([] : List Int))) fun l213 =>
  (some l213)
def m_granule_Months (O : Ops) : Option (Int × Int × List (Int × Int)) :=
  Option.bind (m_granule_months O) fun l214 =>
  Option.bind (m_granule_row O 0 l214) fun (n147, n148, l215) =>
  (some (n147, n148, l215))
def m_law15_awake (O : Ops) : Option (Bool) :=
  Option.bind (m_granule_Weeks O 1) fun (n129, n130, l207, n131) =>
  Option.bind (m_granule_Span O n129 n130 0 l207) fun (n140, n141, n142) =>
  Option.bind (m_granule_Months O) fun (n149, n150, l216) =>
  Option.bind (m_granule_Span O n149 n150 1 l216) fun (n151, n152, n153) =>
  Option.bind (
    bif (O .eq n131 0) then
      bif (O .eq n142 0) then
        bif (O .eq n153 0) then
          bif (O .and (O .eq n140 (-3)) (O .eq n141 4)) then
            (some (O .and (O .eq n151 31) (O .eq n152 59)))
          else
            (some false)
        else
          (some false)
      else
        (some false)
    else
      (some false) : Option ((Bool))) fun x387 =>
  (some x387)
def m_granule_Points_L1 (O : Ops) (c_2 : Int) (c_3 : List (Int × Int)) (n154 : Int) : (Int × List (Int × Int)) → Option ((Int × List (Int × Int)) ⊕ (List (Int × Int))) := fun (x389, l221) =>
  bif (O .lt x389 (O .ofNat (O .len .i2 c_3))) then
    grd (okIdx x389 ((O .len .i2 c_3))) <|
    grd (okKin ((O .toNat x389)) ((O .len .i2 c_3))) <|
    grd (okI .i64 ((O .add ((O .get .i2 c_3 (O .toNat x389))).1 n154))) <|
    grd (okI .i64 ((O .add ((O .get .i2 c_3 (O .toNat x389))).2 n154))) <|
    Option.bind (
      bif (O .le (O .add ((O .get .i2 c_3 (O .toNat x389))).2 n154) c_2) then
        grd (okRoom ((O .len .i2 l221))) <|
        grd (okRoom ((O .len .i2 [((O .add ((O .get .i2 c_3 (O .toNat x389))).1 n154), (O .add ((O .get .i2 c_3 (O .toNat x389))).2 n154))]))) <|
        (some (O .app .i2 l221 [((O .add ((O .get .i2 c_3 (O .toNat x389))).1 n154), (O .add ((O .get .i2 c_3 (O .toNat x389))).2 n154))]))
      else
        Option.bind (
          bif (O .le c_2 (O .add ((O .get .i2 c_3 (O .toNat x389))).1 n154)) then
            grd (okI .i64 ((O .sub (O .add ((O .get .i2 c_3 (O .toNat x389))).1 n154) c_2))) <|
            grd (okI .i64 ((O .sub (O .add ((O .get .i2 c_3 (O .toNat x389))).2 n154) c_2))) <|
            grd (okRoom ((O .len .i2 l221))) <|
            grd (okRoom ((O .len .i2 [((O .sub (O .add ((O .get .i2 c_3 (O .toNat x389))).1 n154) c_2), (O .sub (O .add ((O .get .i2 c_3 (O .toNat x389))).2 n154) c_2))]))) <|
            (some (O .app .i2 l221 [((O .sub (O .add ((O .get .i2 c_3 (O .toNat x389))).1 n154) c_2), (O .sub (O .add ((O .get .i2 c_3 (O .toNat x389))).2 n154) c_2))]))
          else
            grd (okI .i64 ((O .sub (O .add ((O .get .i2 c_3 (O .toNat x389))).2 n154) c_2))) <|
            grd (okRoom ((O .len .i2 l221))) <|
            grd (okRoom ((O .len .i2 [((O .add ((O .get .i2 c_3 (O .toNat x389))).1 n154), c_2), (0, (O .sub (O .add ((O .get .i2 c_3 (O .toNat x389))).2 n154) c_2))]))) <|
            (some (O .app .i2 l221 [((O .add ((O .get .i2 c_3 (O .toNat x389))).1 n154), c_2), (0, (O .sub (O .add ((O .get .i2 c_3 (O .toNat x389))).2 n154) c_2))])) : Option ((List (Int × Int)))) fun l223 =>
        (some l223) : Option ((List (Int × Int)))) fun l225 =>
    grd (okI .i64 ((O .add x389 1))) <|
    (some (Sum.inl ((O .add x389 1), l225)))
  else
    (some (Sum.inr l221))
def m_granule_Points (O : Ops) (c_1 : Int) (c_2 : Int) (c_3 : List (Int × Int)) : Option (Int × List (Int × Int) × Int) :=
  Option.bind (m_granule_Valid O c_1 c_2 c_3) fun b116 =>
  bif (O .not b116) then
    (some (0, ([] : List (Int × Int)), 1))
  else
    Option.bind (m_integer_Mod O c_1 c_2) fun n154 =>
    Option.bind (loop (m_granule_Points_L1 O c_2 c_3 n154) (0, ([] : List (Int × Int)))) fun l226 =>
    Option.bind (m_periodic_Of O c_2 l226) fun (n155, l227, n156) =>
    (some (n155, l227, n156))
def m_granule_Near_1 (O : Ops) (i_1 : Int) (_x_1 : Int) (_x_2 : Int) (x_3 : Int) (x_4 : List (Int × Int)) : Option (Bool) :=
  grd (okIdx i_1 ((O .len .i2 x_4))) <|
  grd (okKin ((O .toNat i_1)) ((O .len .i2 x_4))) <|
  (some (O .lt x_3 ((O .get .i2 x_4 (O .toNat i_1))).1))
def m_sort_Search_L1 (O : Ops) (c_1 : Int) (c_2 : Int) (c_3 : Int) (c_4 : List (Int × Int)) : (Int × Int) → Option ((Int × Int) ⊕ (Int)) := fun (i56, j1) =>
  bif (O .lt i56 j1) then
    grd (okI .i64 ((O .add i56 j1))) <|
    grd (okI .u64 ((O .add i56 j1))) <|
    grd (okIdx 1 65) <|
    grd (okI .i64 ((O .shr (O .add i56 j1) 1))) <|
    Option.bind (m_granule_Near_1 O ((O .shr (O .add i56 j1) 1)) c_1 c_2 c_3 c_4) fun b122 =>
    Option.bind (
      bif (O .not b122) then
        grd (okI .i64 ((O .add (O .shr (O .add i56 j1) 1) 1))) <|
        (some ((O .add (O .shr (O .add i56 j1) 1) 1), j1))
      else
        (some (i56, (O .shr (O .add i56 j1) 1))) : Option ((Int × Int))) fun (i58, j3) =>
    (some (Sum.inl (i58, j3)))
  else
    (some (Sum.inr i56))
def m_sort_Search (O : Ops) (n_1 : Int) (c_1 : Int) (c_2 : Int) (c_3 : Int) (c_4 : List (Int × Int)) : Option (Int) :=
  Option.bind (loop (m_sort_Search_L1 O c_1 c_2 c_3 c_4) (0, n_1)) fun i59 =>
  (some i59)
def m_granule_Near (O : Ops) (c_1 : Int) (c_2 : Int) (x_1 : Int) (c_3 : List (Int × Int)) : Option (Int) :=
  Option.bind (
    Option.bind (m_granule_Valid O c_1 c_2 c_3) fun b120 =>
    bif (O .not b120) then
      (some true)
    else
      Option.bind (m_granule_line O x_1) fun b121 =>
      (some (O .not b121)) : Option ((Bool))) fun x393 =>
  bif x393 then
    (some 0)
  else
    grd (okI .i64 ((O .sub x_1 c_1))) <|
    Option.bind (m_integer_Floor O ((O .sub x_1 c_1)) c_2) fun n159 =>
    grd (okI .i64 ((O .mul c_2 n159))) <|
    grd (okI .i64 ((O .sub (O .sub x_1 c_1) (O .mul c_2 n159)))) <|
    Option.bind (m_sort_Search O ((O .ofNat (O .len .i2 c_3))) c_1 c_2 ((O .sub (O .sub x_1 c_1) (O .mul c_2 n159))) c_3) fun n160 =>
    grd (okI .i64 ((O .mul (O .ofNat (O .len .i2 c_3)) n159))) <|
    grd (okI .i64 ((O .add (O .mul (O .ofNat (O .len .i2 c_3)) n159) n160))) <|
    grd (okI .i64 ((O .sub (O .add (O .mul (O .ofNat (O .len .i2 c_3)) n159) n160) 1))) <|
    (some (O .sub (O .add (O .mul (O .ofNat (O .len .i2 c_3)) n159) n160) 1))
def m_granule_Find (O : Ops) (c_1 : Int) (c_2 : Int) (x_1 : Int) (c_3 : List (Int × Int)) : Option (Int × Bool) :=
  Option.bind (
    Option.bind (m_granule_Valid O c_1 c_2 c_3) fun b118 =>
    bif (O .not b118) then
      (some true)
    else
      Option.bind (m_granule_line O x_1) fun b119 =>
      (some (O .not b119)) : Option ((Bool))) fun x391 =>
  bif x391 then
    (some (0, false))
  else
    Option.bind (m_granule_Near O c_1 c_2 x_1 c_3) fun n161 =>
    Option.bind (m_granule_at O c_1 c_2 n161 c_3) fun (_, n163) =>
    bif (O .le n163 x_1) then
      (some (0, false))
    else
      (some (n161, true))
def m_ref10_Line (O : Ops) (x_1 : Int) : Option (Bool) :=
  Option.bind (
    bif (O .le (-4398046511104) x_1) then
      (some (O .le x_1 4398046511104))
    else
      (some false) : Option ((Bool))) fun x395 =>
  (some x395)
def m_periodic_has_1 (O : Ops) (_s_1 : Int) (s_2 : Int) (r_1 : Int) : Option (Int) :=
  bif (O .le s_2 r_1) then
    (some (-1))
  else
    (some 1)
def m_slices_BinarySearchFunc_L1 (O : Ops) (target_1 : Int) (x_1 : List (Int × Int)) : (Int × Int) → Option ((Int × Int) ⊕ (Int)) := fun (i60, j4) =>
  bif (O .lt i60 j4) then
    grd (okI .i64 ((O .add i60 j4))) <|
    grd (okI .u64 ((O .add i60 j4))) <|
    grd (okIdx 1 65) <|
    grd (okI .i64 ((O .shr (O .add i60 j4) 1))) <|
    grd (okIdx ((O .shr (O .add i60 j4) 1)) ((O .len .i2 x_1))) <|
    grd (okKin ((O .toNat (O .shr (O .add i60 j4) 1))) ((O .len .i2 x_1))) <|
    Option.bind (m_periodic_has_1 O (((O .get .i2 x_1 (O .toNat (O .shr (O .add i60 j4) 1)))).1) (((O .get .i2 x_1 (O .toNat (O .shr (O .add i60 j4) 1)))).2) target_1) fun n166 =>
    Option.bind (
      bif (O .lt n166 0) then
        grd (okI .i64 ((O .add (O .shr (O .add i60 j4) 1) 1))) <|
        (some ((O .add (O .shr (O .add i60 j4) 1) 1), j4))
      else
        (some (i60, (O .shr (O .add i60 j4) 1))) : Option ((Int × Int))) fun (i62, j6) =>
    (some (Sum.inl (i62, j6)))
  else
    (some (Sum.inr i60))
def m_slices_BinarySearchFunc (O : Ops) (target_1 : Int) (x_1 : List (Int × Int)) : Option (Int × Bool) :=
  Option.bind (loop (m_slices_BinarySearchFunc_L1 O target_1 x_1) (0, (O .ofNat (O .len .i2 x_1)))) fun i63 =>
  Option.bind (
    bif (O .lt i63 (O .ofNat (O .len .i2 x_1))) then
      grd (okIdx i63 ((O .len .i2 x_1))) <|
      grd (okKin ((O .toNat i63)) ((O .len .i2 x_1))) <|
      Option.bind (m_periodic_has_1 O (((O .get .i2 x_1 (O .toNat i63))).1) (((O .get .i2 x_1 (O .toNat i63))).2) target_1) fun n167 =>
      (some (O .eq n167 0))
    else
      (some false) : Option ((Bool))) fun x397 =>
  (some (i63, x397))
def m_periodic_has (O : Ops) (p_1 : Int) (x_1 : Int) (p_2 : List (Int × Int)) : Option (Bool) :=
  Option.bind (m_integer_Mod O x_1 p_1) fun n165 =>
  Option.bind (m_slices_BinarySearchFunc O n165 p_2) fun (n168, _) =>
  Option.bind (
    bif (O .lt n168 (O .ofNat (O .len .i2 p_2))) then
      grd (okIdx n168 ((O .len .i2 p_2))) <|
      grd (okKin ((O .toNat n168)) ((O .len .i2 p_2))) <|
      (some (O .le ((O .get .i2 p_2 (O .toNat n168))).1 n165))
    else
      (some false) : Option ((Bool))) fun x399 =>
  (some x399)
def m_periodic_Has (O : Ops) (p_1 : Int) (x_1 : Int) (p_2 : List (Int × Int)) : Option (Bool) :=
  Option.bind (
    Option.bind (m_periodic_Valid O p_1 p_2) fun b125 =>
    bif b125 then
      Option.bind (m_periodic_has O p_1 x_1 p_2) fun b127 =>
      (some b127)
    else
      (some false) : Option ((Bool))) fun x401 =>
  (some x401)
def m_granule_Gapless_L1 (O : Ops) (c_2 : Int) (c_3 : List (Int × Int)) : (Int) → Option ((Int) ⊕ ((Unit) ⊕ (Unit))) := fun x404 =>
  bif (O .lt x404 (O .ofNat (O .len .i2 c_3))) then
    grd (okIdx x404 ((O .len .i2 c_3))) <|
    grd (okKin ((O .toNat x404)) ((O .len .i2 c_3))) <|
    grd (okI .i64 ((O .add x404 1))) <|
    Option.bind (
      bif (O .lt (O .add x404 1) (O .ofNat (O .len .i2 c_3))) then
        grd (okIdx ((O .add x404 1)) ((O .len .i2 c_3))) <|
        grd (okKin ((O .toNat (O .add x404 1))) ((O .len .i2 c_3))) <|
        (some ((O .get .i2 c_3 (O .toNat (O .add x404 1)))).1)
      else
        (some c_2) : Option ((Int))) fun next2 =>
    bif (O .not (O .eq ((O .get .i2 c_3 (O .toNat x404))).2 next2)) then
      (some (Sum.inr (Sum.inl ())))
    else
      (some (Sum.inl (O .add x404 1)))
  else
    (some (Sum.inr (Sum.inr ())))
def m_granule_Gapless (O : Ops) (c_1 : Int) (c_2 : Int) (c_3 : List (Int × Int)) : Option (Bool) :=
  Option.bind (m_granule_Valid O c_1 c_2 c_3) fun b129 =>
  bif (O .not b129) then
    (some false)
  else
    Option.bind (loop (m_granule_Gapless_L1 O c_2 c_3) 0) fun e => match e with
    | .inl _ =>
      (some false)
    | .inr (_) =>
      (some true)
def m_law15_GranulePoints (O : Ops) (c_1 : Int) (c_2 : Int) (x_1 : Int) (c_3 : List (Int × Int)) : Option (Bool) :=
  Option.bind (m_law15_awake O) fun b115 =>
  bif (O .not b115) then
    (some false)
  else
    bif (O .lt 300 (O .ofNat (O .len .i2 c_3))) then
      (some true)
    else
      Option.bind (m_granule_Points O c_1 c_2 c_3) fun (n157, l228, n158) =>
      Option.bind (m_granule_Valid O c_1 c_2 c_3) fun b117 =>
      bif (O .not b117) then
        (some (O .eq n158 1))
      else
        bif (O .not (O .eq n158 0)) then
          (some (O .eq n158 5))
        else
          Option.bind (m_granule_Find O c_1 c_2 x_1 c_3) fun (_, b123) =>
          Option.bind (
            Option.bind (m_ref10_Line O x_1) fun b124 =>
            bif b124 then
              Option.bind (m_periodic_Has O n157 x_1 l228) fun b128 =>
              (some (O .not (O .beq b123 b128)))
            else
              (some false) : Option ((Bool))) fun x403 =>
          bif x403 then
            (some false)
          else
            Option.bind (m_periodic_Of O 1 ([(0, 1)])) fun (n169, l229, n170) =>
            Option.bind (
              bif (O .eq n170 0) then
                Option.bind (m_granule_Gapless O c_1 c_2 c_3) fun b130 =>
                Option.bind (m_periodic_Equal O n157 n169 l228 l229) fun b131 =>
                (some (O .beq b130 b131))
              else
                (some false) : Option ((Bool))) fun x406 =>
            (some x406)
end Go.Proofs.Ytlpbdikmhngmfaa
