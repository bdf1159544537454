/-
  RectangleAreas: the model, with sums that wrap round.
-/
import Derived.Test.YtkdffpncpikdmaaRM
namespace Go.Proofs.Ytkdffpncpikdmaa
open Go.RowKit
set_option maxRecDepth 100000
def m_areas_L1 (O : Ops) (n134 : Int) (n135 : Int) (n136 : Int) (n137 : Int) : (Int) → Option ((Int) ⊕ ((Bool) ⊕ (Unit))) := fun x362 =>
  bif (O .lt x362 (O .ofNat (O .len .i1 [n134, n135, n136, n137]))) then
    grd (okIdx x362 ((O .len .i1 [n134, n135, n136, n137]))) <|
    grd (okKin ((O .toNat x362)) ((O .len .i1 [n134, n135, n136, n137]))) <|
    Option.bind (
      bif (O .lt 4611686018427387904 (O .get .i1 [n134, n135, n136, n137] (O .toNat x362))) then
        (some true)
      else
        (some (O .lt (O .get .i1 [n134, n135, n136, n137] (O .toNat x362)) 0)) : Option ((Bool))) fun x364 =>
    bif x364 then
      (some (Sum.inr (Sum.inl (O .le (-1) (O .get .i1 [n134, n135, n136, n137] (O .toNat x362))))))
    else
      (some (Sum.inl (O .wrp .i64 (O .add x362 1))))
  else
    (some (Sum.inr (Sum.inr ())))
def m_areas (O : Ops) (a_1 : List (Int × Int × Int × Int)) (b_1 : List (Int × Int × Int × Int)) : Option (Bool) :=
  Option.bind (m_law35_awake O) fun b145 =>
  bif (O .not b145) then
    (some false)
  else
    Option.bind (
      bif (O .lt 15 (O .ofNat (O .len .i4 a_1))) then
        (some true)
      else
        bif (O .lt 15 (O .ofNat (O .len .i4 b_1))) then
          (some true)
        else
          Option.bind (m_ref35_List O a_1) fun b146 =>
          bif (O .not b146) then
            (some true)
          else
            Option.bind (m_ref35_List O b_1) fun b147 =>
            (some (O .not b147)) : Option ((Bool))) fun x349 =>
    bif x349 then
      (some true)
    else
      Option.bind (m_rectangle_Union O a_1 b_1) fun (l283, n119) =>
      Option.bind (m_rectangle_Meet O a_1 b_1) fun (l284, n120) =>
      Option.bind (
        bif (O .not (O .eq n119 0)) then
          (some true)
        else
          (some (O .not (O .eq n120 0))) : Option ((Bool))) fun x351 =>
      bif x351 then
        (some true)
      else
        Option.bind (m_rectangle_Area O a_1) fun n134 =>
        Option.bind (m_rectangle_Area O b_1) fun n135 =>
        Option.bind (m_rectangle_Area O l283) fun n136 =>
        Option.bind (m_rectangle_Area O l284) fun n137 =>
        Option.bind (loop (m_areas_L1 O n134 n135 n136 n137) 0) fun e => match e with
        | .inl x365 =>
          (some x365)
        | .inr (_) =>
          (some (O .eq (O .wrp .i64 (O .add n134 n135)) (O .wrp .i64 (O .add n136 n137))))
end Go.Proofs.Ytkdffpncpikdmaa
