/-
  Models of functions (printed by lift.py).
-/
import Derived.Test.YtmnhfaaaaejpaaaPcM
namespace Go.Proofs.Ytmnhfaaaaejpaaa.R
open Go.RowKit Go.Proofs.Ytmnhfaaaaejpaaa
set_option maxRecDepth 100000

def m_law29_RecurrencePositions (O : Ops) (r_1 : Int) (r_2 : Int) (r_3 : Int) (r_4 : Int) (r_5 : Int) (start_1 : Int) (l_1 : Int) (m_1 : Int) (r_6 : List Int) (r_7 : List Int) (r_8 : List Int) (r_9 : List Int) (r_10 : List (Int × Int)) (r_11 : List Int) (r_12 : List Int) (r_13 : List Int) (r_14 : List Int) : Option (Bool) :=
  Option.bind (
    Option.bind (m_law29_awake O) fun b38 =>
    bif (O .not b38) then
      (some true)
    else
      Option.bind (m_law29_long O r_1 r_2 r_3 r_4 r_5 r_6 r_7 r_8 r_9 r_10 r_11 r_12 r_13 r_14) fun b39 =>
      bif b39 then
        (some true)
      else
        Option.bind (m_recurrence_Valid O r_1 r_2 r_3 r_4 r_5 r_6 r_7 r_8 r_9 r_10 r_11 r_12 r_13 r_14) fun b40 =>
        (some (O .not b40)) : Option ((Bool))) fun x132 =>
  bif x132 then
    Option.bind (m_law29_awake O) fun b41 =>
    (some b41)
  else
    Option.bind (m_recurrence_Matches O r_1 r_2 r_3 r_4 r_5 start_1 l_1 r_6 r_7 r_8 r_9 r_10 r_11 r_12 r_13 (([] : List Int))) fun (b42, n83) =>
    Option.bind (m_recurrence_Matches O r_1 r_2 r_3 r_4 r_5 start_1 l_1 r_6 r_7 r_8 r_9 r_10 r_11 r_12 r_13 ([1])) fun (b43, n84) =>
    Option.bind (m_recurrence_Matches O r_1 r_2 r_3 r_4 r_5 start_1 l_1 r_6 r_7 r_8 r_9 r_10 r_11 r_12 r_13 ([(-1)])) fun (b44, n85) =>
    Option.bind (m_recurrence_Matches O r_1 r_2 r_3 r_4 r_5 start_1 l_1 r_6 r_7 r_8 r_9 r_10 r_11 r_12 r_13 ([1, (-1)])) fun (b45, n86) =>
    Option.bind (
      bif (O .not (O .eq n83 n84)) then
        (some true)
      else
        bif (O .not (O .eq n83 n85)) then
          (some true)
        else
          bif (O .not (O .eq n83 n86)) then
            (some true)
          else
            (some (O .not (O .eq n83 0))) : Option ((Bool))) fun x134 =>
    bif x134 then
      Option.bind (
        bif (O .eq n83 n84) then
          bif (O .eq n83 n85) then
            (some (O .eq n83 n86))
          else
            (some false)
        else
          (some false) : Option ((Bool))) fun x137 =>
      (some x137)
    else
      Option.bind (
        bif b43 then
          bif (O .not b42) then
            (some (true, b44, true))
          else
            (some (true, b44, (O .not (O .beq b45 true))))
        else
          bif b44 then
            bif (O .not b42) then
              (some (false, true, true))
            else
              (some (false, true, (O .not (O .beq b45 true))))
          else
            (some (false, false, (O .not (O .beq b45 false)))) : Option ((Bool × Bool × Bool))) fun (b49, c4, x142) =>
      bif x142 then
        (some false)
      else
        Option.bind (m_recurrence_Matches O r_1 r_2 r_3 r_4 r_5 start_1 m_1 r_6 r_7 r_8 r_9 r_10 r_11 r_12 r_13 (([] : List Int))) fun (b50, n87) =>
        Option.bind (m_recurrence_Period O r_1 r_2 r_3 r_4 r_5 start_1 l_1 r_6 r_7 r_8 r_9 r_10 r_11 r_12 r_13 r_14) fun (n88, n89) =>
        Option.bind (m_recurrence_Period O r_1 r_2 r_3 r_4 r_5 start_1 m_1 r_6 r_7 r_8 r_9 r_10 r_11 r_12 r_13 r_14) fun (n90, n91) =>
        Option.bind (
          bif (O .not (O .eq n87 0)) then
            (some true)
          else
            bif (O .not (O .eq n89 0)) then
              (some true)
            else
              bif (O .not (O .eq n91 0)) then
                (some true)
              else
                bif (O .not (O .eq n88 n90)) then
                  (some true)
                else
                  (some (O .not b50)) : Option ((Bool))) fun x144 =>
        bif x144 then
          (some true)
        else
          Option.bind (
            bif (O .not b49) then
              bif (O .not c4) then
                (some true)
              else
                (some (O .le m_1 l_1))
            else
              bif (O .le l_1 m_1) then
                bif (O .not c4) then
                  (some true)
                else
                  (some (O .le m_1 l_1))
              else
                (some false) : Option ((Bool))) fun x149 =>
          (some x149)
end Go.Proofs.Ytmnhfaaaaejpaaa.R
