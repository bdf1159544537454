/-
  Models of functions (printed by lift.py).
-/
import Derived.Test.YtegmjohhgedakaaDelM
namespace Go.Proofs.Ytegmjohhgedakaa
open Go.RowKit
set_option maxRecDepth 100000

def m_bounds_Minimal (O : Ops) (n_1 : Int) (l_1 : List (Int × Int × Int)) : Option (List Int × Int) :=
  Option.bind (m_bounds_Cycle O n_1 l_1) fun (l80, n55) =>
  bif (O .not (O .eq n55 0)) then
    (some (([] : List Int), n55))
  else
    Option.bind (m_sortI O l80) fun l81 =>
    (some (l81, 0))
def m_cmp_isNaN (O : Ops) (x_1 : Int) : Option (Bool) :=
  (some (O .not (O .eq x_1 x_1)))
def m_cmp_Less (O : Ops) (x_1 : Int) (y_1 : Int) : Option (Bool) :=
  Option.bind (
    Option.bind (m_cmp_isNaN O x_1) fun b86 =>
    bif b86 then
      Option.bind (m_cmp_isNaN O y_1) fun b87 =>
      bif (O .not b87) then
        (some true)
      else
        (some (O .lt x_1 y_1))
    else
      (some (O .lt x_1 y_1)) : Option ((Bool))) fun x241 =>
  (some x241)
def m_slices_IsSorted_L1 (O : Ops) (x_1 : List Int) : (Int) → Option ((Int) ⊕ ((Unit) ⊕ (Unit))) := fun i21 =>
  bif (O .lt 0 i21) then
    grd (okIdx i21 ((O .len .i1 x_1))) <|
    grd (okKin ((O .toNat i21)) ((O .len .i1 x_1))) <|
    grd (okI .i64 ((O .sub i21 1))) <|
    grd (okIdx ((O .sub i21 1)) ((O .len .i1 x_1))) <|
    grd (okKin ((O .toNat (O .sub i21 1))) ((O .len .i1 x_1))) <|
    Option.bind (m_cmp_Less O ((O .get .i1 x_1 (O .toNat i21))) ((O .get .i1 x_1 (O .toNat (O .sub i21 1))))) fun b88 =>
    bif b88 then
      (some (Sum.inr (Sum.inl ())))
    else
      (some (Sum.inl (O .sub i21 1)))
  else
    (some (Sum.inr (Sum.inr ())))
def m_slices_IsSorted (O : Ops) (x_1 : List Int) : Option (Bool) :=
  grd (okI .i64 ((O .sub (O .ofNat (O .len .i1 x_1)) 1))) <|
  Option.bind (loop (m_slices_IsSorted_L1 O x_1) (O .sub (O .ofNat (O .len .i1 x_1)) 1)) fun e => match e with
  | .inl _ =>
    (some false)
  | .inr (_) =>
    (some true)
def m_ref45_Part_L1 (O : Ops) (at_1 : List Int) (l_1 : List (Int × Int × Int)) : (Int × List (Int × Int × Int)) → Option ((Int × List (Int × Int × Int)) ⊕ (List (Int × Int × Int))) := fun (i23, l85) =>
  bif (O .lt i23 (O .ofNat (O .len .i1 at_1))) then
    grd (okIdx i23 ((O .len .i1 at_1))) <|
    grd (okKin ((O .toNat i23)) ((O .len .i1 at_1))) <|
    grd (okIdx ((O .get .i1 at_1 (O .toNat i23))) ((O .len .i3 l_1))) <|
    grd (okKin ((O .toNat (O .get .i1 at_1 (O .toNat i23)))) ((O .len .i3 l_1))) <|
    grd (okRoom ((O .len .i3 l85))) <|
    grd (okRoom ((O .len .i3 [(((O .get .i3 l_1 (O .toNat (O .get .i1 at_1 (O .toNat i23))))).1, ((O .get .i3 l_1 (O .toNat (O .get .i1 at_1 (O .toNat i23))))).2.1, ((O .get .i3 l_1 (O .toNat (O .get .i1 at_1 (O .toNat i23))))).2.2)]))) <|
    grd (okI .i64 ((O .add i23 1))) <|
    (some (Sum.inl ((O .add i23 1), (O .app .i3 l85 [(((O .get .i3 l_1 (O .toNat (O .get .i1 at_1 (O .toNat i23))))).1, ((O .get .i3 l_1 (O .toNat (O .get .i1 at_1 (O .toNat i23))))).2.1, ((O .get .i3 l_1 (O .toNat (O .get .i1 at_1 (O .toNat i23))))).2.2)]))))
  else
    (some (Sum.inr l85))
def m_ref45_Part (O : Ops) (l_1 : List (Int × Int × Int)) (at_1 : List Int) : Option (List (Int × Int × Int)) :=
  Option.bind (loop (m_ref45_Part_L1 O at_1 l_1) (0, ([] : List (Int × Int × Int)))) fun l86 =>
  (some l86)
def m_law45_BoundsMinimal_L1 (O : Ops) (l82 : List Int) (l_1 : List (Int × Int × Int)) (n_1 : Int) : (Int) → Option ((Int) ⊕ ((Unit) ⊕ (Unit))) := fun x244 =>
  bif (O .lt x244 (O .ofNat (O .len .i1 l82))) then
    Option.bind (m_clone_i1 O l82) fun l88 =>
    grd (okI .i64 ((O .add x244 1))) <|
    Option.bind (m_delI O l88 x244 ((O .add x244 1))) fun l89 =>
    Option.bind (m_ref45_Part O l_1 l89) fun l90 =>
    Option.bind (m_ref45_Consistent O n_1 l90) fun b91 =>
    bif (O .not b91) then
      (some (Sum.inr (Sum.inl ())))
    else
      (some (Sum.inl (O .add x244 1)))
  else
    (some (Sum.inr (Sum.inr ())))
def m_law45_BoundsMinimal (O : Ops) (n_1 : Int) (l_1 : List (Int × Int × Int)) : Option (Bool) :=
  Option.bind (
    Option.bind (m_law45_awake O) fun b81 =>
    bif (O .not b81) then
      (some true)
    else
      Option.bind (m_law45_long O l_1) fun b82 =>
      bif b82 then
        (some true)
      else
        Option.bind (m_ref45_Valid O n_1 l_1) fun b83 =>
        (some (O .not b83)) : Option ((Bool))) fun x236 =>
  bif x236 then
    Option.bind (m_law45_awake O) fun b84 =>
    (some b84)
  else
    Option.bind (m_bounds_Minimal O n_1 l_1) fun (l82, n56) =>
    Option.bind (m_ref45_Consistent O n_1 l_1) fun b85 =>
    bif b85 then
      Option.bind (
        bif (O .eq n56 7) then
          (some (O .eq (O .ofNat (O .len .i1 l82)) 0))
        else
          (some false) : Option ((Bool))) fun x238 =>
      (some x238)
    else
      Option.bind (
        bif (O .not (O .eq n56 0)) then
          (some true)
        else
          bif (O .eq (O .ofNat (O .len .i1 l82)) 0) then
            (some true)
          else
            Option.bind (m_slices_IsSorted O l82) fun b89 =>
            bif (O .not b89) then
              (some true)
            else
              Option.bind (m_clone_i1 O l82) fun l83 =>
              Option.bind (m_compI O l83) fun l84 =>
              bif (O .not (O .eq (O .ofNat (O .len .i1 l84)) (O .ofNat (O .len .i1 l82)))) then
                (some true)
              else
                bif (O .lt (O .get .i1 l82 (O .toNat 0)) 0) then
                  grd (okIdx 0 ((O .len .i1 l82))) <|
                  grd (okKin ((O .toNat 0)) ((O .len .i1 l82))) <|
                  (some true)
                else
                  grd (okIdx 0 ((O .len .i1 l82))) <|
                  grd (okKin ((O .toNat 0)) ((O .len .i1 l82))) <|
                  grd (okI .i64 ((O .sub (O .ofNat (O .len .i1 l82)) 1))) <|
                  grd (okIdx ((O .sub (O .ofNat (O .len .i1 l82)) 1)) ((O .len .i1 l82))) <|
                  grd (okKin ((O .toNat (O .sub (O .ofNat (O .len .i1 l82)) 1))) ((O .len .i1 l82))) <|
                  (some (O .le (O .ofNat (O .len .i3 l_1)) (O .get .i1 l82 (O .toNat (O .sub (O .ofNat (O .len .i1 l82)) 1))))) : Option ((Bool))) fun x243 =>
      bif x243 then
        (some false)
      else
        Option.bind (m_ref45_Part O l_1 l82) fun l87 =>
        Option.bind (m_ref45_Consistent O n_1 l87) fun b90 =>
        bif b90 then
          (some false)
        else
          Option.bind (loop (m_law45_BoundsMinimal_L1 O l82 l_1 n_1) 0) fun e => match e with
          | .inl _ =>
            (some false)
          | .inr (_) =>
            (some true)
end Go.Proofs.Ytegmjohhgedakaa
