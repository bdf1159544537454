/-
  periodic.combine: one walk for all rules (printed by lift.py).
-/
import Derived.Test.YtlpbdikmhngmfaaQM
import Derived.Test.YtlpbdikmhngmfaaManWC
namespace Go.Proofs.Ytlpbdikmhngmfaa
open Go.RowKit
set_option maxRecDepth 100000

def g_combine_L1 (mr : Ops → Bool → Bool → Option Bool) (O : Ops) (a_1 : List (Int × Int)) (b_1 : List (Int × Int)) : (Int × Int × List (Int × Int)) → Option ((Int × Int × List (Int × Int)) ⊕ (List (Int × Int))) := fun (i4, k4, l61) =>
  Option.bind (m_periodic_combine_1 O i4 a_1) fun (n25, b18) =>
  Option.bind (m_periodic_combine_1 O k4 b_1) fun (n26, b19) =>
  Option.bind (
    bif (O .not b18) then
      (some (O .not b19))
    else
      (some false) : Option ((Bool))) fun x89 =>
  bif x89 then
    (some (Sum.inr l61))
  else
    Option.bind (
      bif (O .not b18) then
        (some (b19, true))
      else
        bif b19 then
          (some (true, (O .lt n26 n25)))
        else
          (some (false, false)) : Option ((Bool × Bool))) fun (is6, x92) =>
    Option.bind (
      bif x92 then
        (some n26)
      else
        (some n25) : Option ((Int))) fun at6 =>
    grd (okNz 2) <|
    Option.bind (mr O ((O .eq (O .rem i4 2) 1)) ((O .eq (O .rem k4 2) 1))) fun b20 =>
    Option.bind (
      bif b18 then
        (some (O .eq n25 at6))
      else
        (some false) : Option ((Bool))) fun x94 =>
    Option.bind (
      bif x94 then
        grd (okI .i64 ((O .add i4 1))) <|
        (some (O .add i4 1))
      else
        (some i4) : Option ((Int))) fun i6 =>
    Option.bind (
      bif is6 then
        (some (O .eq n26 at6))
      else
        (some false) : Option ((Bool))) fun x96 =>
    Option.bind (
      bif x96 then
        grd (okI .i64 ((O .add k4 1))) <|
        (some (O .add k4 1))
      else
        (some k4) : Option ((Int))) fun k6 =>
    Option.bind (mr O ((O .eq (O .rem i6 2) 1)) ((O .eq (O .rem k6 2) 1))) fun b21 =>
    Option.bind (
      bif (O .not b20) then
        (some b21)
      else
        (some false) : Option ((Bool))) fun x98 =>
    Option.bind (
      bif x98 then
        grd (okRoom ((O .len .i2 l61))) <|
        grd (okRoom ((O .len .i2 [(at6, 0)]))) <|
        (some (O .app .i2 l61 [(at6, 0)]))
      else
        Option.bind (
          bif b20 then
            (some (O .not b21))
          else
            (some false) : Option ((Bool))) fun x100 =>
        Option.bind (
          bif x100 then
            grd (okI .i64 ((O .sub (O .ofNat (O .len .i2 l61)) 1))) <|
            grd (okIdx ((O .sub (O .ofNat (O .len .i2 l61)) 1)) ((O .len .i2 l61))) <|
            grd (okKin ((O .toNat (O .sub (O .ofNat (O .len .i2 l61)) 1))) ((O .len .i2 l61))) <|
            (some (O .put .i2 l61 (O .toNat (O .sub (O .ofNat (O .len .i2 l61)) 1)) (((O .get .i2 l61 (O .toNat (O .sub (O .ofNat (O .len .i2 l61)) 1)))).1, at6)))
          else
            (some l61) : Option ((List (Int × Int)))) fun l63 =>
        (some l63) : Option ((List (Int × Int)))) fun l65 =>
    (some (Sum.inl (i6, k6, l65)))

def g_combine (mr : Ops → Bool → Bool → Option Bool) (O : Ops) (a_1 : List (Int × Int)) (b_1 : List (Int × Int)) : Option (List (Int × Int)) :=
  Option.bind (loop (g_combine_L1 mr O a_1 b_1) (0, 0, ([] : List (Int × Int)))) fun l66 =>
  (some l66)
end Go.Proofs.Ytlpbdikmhngmfaa
