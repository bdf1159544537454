/-
  Models of functions (printed by lift.py).
-/
import Derived.Test.YtmnhfaaaaejpaaaPlM
namespace Go.Proofs.Ytmnhfaaaaejpaaa.R
open Go.RowKit Go.Proofs.Ytmnhfaaaaejpaaa
set_option maxRecDepth 100000

def m_recurrence_Matches (O : Ops) (r_1 : Int) (r_2 : Int) (r_3 : Int) (r_4 : Int) (r_5 : Int) (start_1 : Int) (l_1 : Int) (r_6 : List Int) (r_7 : List Int) (r_8 : List Int) (r_9 : List Int) (r_10 : List (Int × Int)) (r_11 : List Int) (r_12 : List Int) (r_13 : List Int) (r_14 : List Int) : Option (Bool × Int) :=
  Option.bind (m_recurrence_given O r_1 r_2 r_3 r_4 r_5 start_1 r_6 r_7 r_8 r_9 r_10 r_11 r_12 r_13 r_14) fun n63 =>
  bif (O .not (O .eq n63 0)) then
    (some (false, n63))
  else
    Option.bind (m_recurrence_local O l_1) fun b32 =>
    bif (O .not b32) then
      (some (false, 2))
    else
      Option.bind (m_integer_Floor O l_1 86400) fun n64 =>
      Option.bind (
        bif (O .lt l_1 start_1) then
          (some true)
        else
          bif (O .not (O .eq r_4 0)) then
            bif (O .lt r_4 l_1) then
              (some true)
            else
              Option.bind (m_recurrence_number O r_1 r_2 r_3 r_4 r_5 l_1 r_6 r_7 r_8 r_9 r_10 r_11 r_12 r_13 r_14) fun n65 =>
              Option.bind (m_recurrence_number O r_1 r_2 r_3 r_4 r_5 start_1 r_6 r_7 r_8 r_9 r_10 r_11 r_12 r_13 r_14) fun n66 =>
              grd (okI .i64 ((O .sub n65 n66))) <|
              grd (okNz r_2) <|
              (some (O .not (O .eq (O .rem (O .sub n65 n66) r_2) 0)))
          else
            Option.bind (m_recurrence_number O r_1 r_2 r_3 r_4 r_5 l_1 r_6 r_7 r_8 r_9 r_10 r_11 r_12 r_13 r_14) fun n67 =>
            Option.bind (m_recurrence_number O r_1 r_2 r_3 r_4 r_5 start_1 r_6 r_7 r_8 r_9 r_10 r_11 r_12 r_13 r_14) fun n68 =>
            grd (okI .i64 ((O .sub n67 n68))) <|
            grd (okNz r_2) <|
            (some (O .not (O .eq (O .rem (O .sub n67 n68) r_2) 0))) : Option ((Bool))) fun x124 =>
      bif x124 then
        (some (false, 0))
      else
        Option.bind (
          Option.bind (m_recurrence_times O r_1 r_2 r_3 r_4 r_5 start_1 r_6 r_7 r_8 r_9 r_10 r_11 r_12 r_13 r_14) fun l27 =>
          Option.bind (m_integer_Mod O l_1 86400) fun n69 =>
          Option.bind (m_slices_Contains O n69 l27) fun b33 =>
          bif (O .not b33) then
            (some true)
          else
            Option.bind (m_integer_Floor O start_1 86400) fun n70 =>
            Option.bind (m_recurrence_dateOf O n70) fun (n71, n72, n73, n74, n75, n76, n77, n78) =>
            Option.bind (m_recurrence_passes O r_1 r_2 r_3 r_4 r_5 n71 n72 n73 n74 n75 n76 n77 n78 n64 r_6 r_7 r_8 r_9 r_10 r_11 r_12 r_13 r_14) fun b34 =>
            (some (O .not b34)) : Option ((Bool))) fun x126 =>
        bif x126 then
          (some (false, 0))
        else
          bif (O .eq (O .ofNat (O .len .i1 r_14)) 0) then
            (some (true, 0))
          else
            Option.bind (m_recurrence_place O r_1 r_2 r_3 r_4 r_5 start_1 l_1 r_6 r_7 r_8 r_9 r_10 r_11 r_12 r_13 r_14) fun (n79, n80) =>
            Option.bind (m_recurrence_counted O n79 n80 r_14) fun b35 =>
            (some (b35, 0))
def m_law29_awake (O : Ops) : Option (Bool) :=
  Option.bind (m_recurrence_Matches O 4 2 0 0 1 0 345600 (([] : List Int)) (([] : List Int)) (([] : List Int)) (([] : List Int)) (([] : List (Int × Int))) (([] : List Int)) (([] : List Int)) (([] : List Int)) (([] : List Int))) fun (b36, n81) =>
  Option.bind (m_recurrence_Matches O 2 1 0 0 1 0 2505600 (([] : List Int)) (([] : List Int)) (([] : List Int)) (([] : List Int)) ([((-1), 5)]) (([] : List Int)) (([] : List Int)) (([] : List Int)) (([] : List Int))) fun (b37, n82) =>
  Option.bind (
    bif b36 then
      bif (O .eq n81 0) then
        bif b37 then
          (some (O .eq n82 0))
        else
          (some false)
      else
        (some false)
    else
      (some false) : Option ((Bool))) fun x130 =>
  (some x130)
end Go.Proofs.Ytmnhfaaaaejpaaa.R
