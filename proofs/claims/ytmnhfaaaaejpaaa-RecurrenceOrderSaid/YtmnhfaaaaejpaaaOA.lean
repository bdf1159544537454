/-
  Equations of models (printed by lift.py).
  The canonical form of a rule, and which rules have the same.
  RecurrenceOrder: rules whose lists have the same elements match alike, and have the same canonical form.
  RecurrenceOrder: a list twice and turned round has the same elements; the plain law.
-/
import Derived.Test.YtmnhfaaaaejpaaaOrM
import Derived.Test.YtmnhfaaaaejpaaaN3
import Derived.Test.YtmnhfaaaaejpaaaPc2
namespace Go.Proofs.Ytmnhfaaaaejpaaa.R
open Go.RowKit Go.Proofs.Ytmnhfaaaaejpaaa
set_option maxRecDepth 100000

theorem m_law29_RecurrenceOrder_1_L1_eq (i2 : Int) (j2 : Int) (l29 : List Int) : m_law29_RecurrenceOrder_1_L1 std (i2, j2, l29) =
((bif (decide (i2 < j2)) then
    grd (okIdx j2 ((List.length l29))) <|
    grd (okKin ((Int.toNat j2)) ((List.length l29))) <|
    grd (okIdx i2 ((List.length l29))) <|
    grd (okKin ((Int.toNat i2)) ((List.length l29))) <|
    grd (okIdx j2 ((List.length (List.set l29 (Int.toNat i2) (List.getD l29 (Int.toNat j2) 0))))) <|
    grd (okKin ((Int.toNat j2)) ((List.length (List.set l29 (Int.toNat i2) (List.getD l29 (Int.toNat j2) 0))))) <|
    grd (okI .i64 ((i2 + 1))) <|
    grd (okI .i64 ((j2 - 1))) <|
    (some (Sum.inl ((i2 + 1), (j2 - 1), (List.set (List.set l29 (Int.toNat i2) (List.getD l29 (Int.toNat j2) 0)) (Int.toNat j2) (List.getD l29 (Int.toNat i2) 0)))))
  else
    (some (Sum.inr l29))) : Option ((Int × Int × List Int) ⊕ (List Int))) := rfl
theorem m_law29_RecurrenceOrder_1_eq (l_1 : List Int) : m_law29_RecurrenceOrder_1 std l_1 =
((Option.bind (m_clone_i1 std l_1) fun l28 =>
  grd (okRoom ((List.length l28))) <|
  grd (okRoom ((List.length l_1))) <|
  grd (okI .i64 (((((List.length (l28 ++ l_1)) : Nat) : Int) - 1))) <|
  Option.bind (loop (m_law29_RecurrenceOrder_1_L1 std) (0, ((((List.length (l28 ++ l_1)) : Nat) : Int) - 1), (l28 ++ l_1))) fun l30 =>
  (some l30)) : Option (List Int)) := rfl
theorem m_recurrence_Canonical_eq (r_1 : Int) (r_2 : Int) (r_3 : Int) (r_4 : Int) (r_5 : Int) (r_6 : List Int) (r_7 : List Int) (r_8 : List Int) (r_9 : List Int) (r_10 : List (Int × Int)) (r_11 : List Int) (r_12 : List Int) (r_13 : List Int) (r_14 : List Int) : m_recurrence_Canonical std r_1 r_2 r_3 r_4 r_5 r_6 r_7 r_8 r_9 r_10 r_11 r_12 r_13 r_14 =
((Option.bind (m_recurrence_Valid std r_1 r_2 r_3 r_4 r_5 r_6 r_7 r_8 r_9 r_10 r_11 r_12 r_13 r_14) fun b43 =>
  bif (!b43) then
    (some (0, 0, 0, 0, ([] : List Int), ([] : List Int), ([] : List Int), ([] : List Int), ([] : List (Int × Int)), ([] : List Int), ([] : List Int), ([] : List Int), ([] : List Int), 0, 1))
  else
    Option.bind (m_recurrence_set std r_6) fun l42 =>
    grd (okI .i64 ((0 + 1))) <|
    Option.bind (m_recurrence_set std r_7) fun l43 =>
    grd (okI .i64 ((1 + 1))) <|
    Option.bind (m_recurrence_set std r_8) fun l44 =>
    grd (okI .i64 ((2 + 1))) <|
    Option.bind (m_recurrence_set std r_9) fun l45 =>
    grd (okI .i64 ((3 + 1))) <|
    Option.bind (m_recurrence_set std r_11) fun l46 =>
    grd (okI .i64 ((4 + 1))) <|
    Option.bind (m_recurrence_set std r_12) fun l47 =>
    grd (okI .i64 ((5 + 1))) <|
    Option.bind (m_recurrence_set std r_13) fun l48 =>
    grd (okI .i64 ((6 + 1))) <|
    Option.bind (m_recurrence_set std r_14) fun l49 =>
    grd (okI .i64 ((7 + 1))) <|
    Option.bind (m_clone_i2 std r_10) fun l50 =>
    Option.bind (m_sortOr std l50) fun l51 =>
    Option.bind (m_compOr std l51) fun l52 =>
    (some (r_1, r_2, r_3, r_4, l42, l43, l44, l45, l52, l46, l47, l48, l49, r_5, 0))) : Option (Int × Int × Int × Int × List Int × List Int × List Int × List Int × List (Int × Int) × List Int × List Int × List Int × List Int × Int × Int)) := rfl
theorem m_slices_Equal_L1_eq (s1_1 : List (Int × Int)) (s2_1 : List (Int × Int)) (x133 : Int) : m_slices_Equal_L1 std s1_1 s2_1 x133 =
((bif (decide (x133 < (((List.length s1_1) : Nat) : Int))) then
    grd (okIdx x133 ((List.length s1_1))) <|
    grd (okKin ((Int.toNat x133)) ((List.length s1_1))) <|
    grd (okIdx x133 ((List.length s2_1))) <|
    grd (okKin ((Int.toNat x133)) ((List.length s2_1))) <|
    bif (!(((List.getD s1_1 (Int.toNat x133) (0, 0)).1 == (List.getD s2_1 (Int.toNat x133) (0, 0)).1) && ((List.getD s1_1 (Int.toNat x133) (0, 0)).2 == (List.getD s2_1 (Int.toNat x133) (0, 0)).2))) then
      (some (Sum.inr (Sum.inl ())))
    else
      grd (okI .i64 ((x133 + 1))) <|
      (some (Sum.inl (x133 + 1)))
  else
    (some (Sum.inr (Sum.inr ())))) : Option ((Int) ⊕ ((Unit) ⊕ (Unit)))) := rfl
theorem m_slices_Equal_eq (s1_1 : List (Int × Int)) (s2_1 : List (Int × Int)) : m_slices_Equal std s1_1 s2_1 =
((bif (!((((List.length s1_1) : Nat) : Int) == (((List.length s2_1) : Nat) : Int))) then
    (some false)
  else
    Option.bind (loop (m_slices_Equal_L1 std s1_1 s2_1) 0) fun e => match e with
    | .inl _ =>
      (some false)
    | .inr (_) =>
      (some true)) : Option (Bool)) := rfl
theorem m_slices_Equal_2_L1_eq (s1_1 : List Int) (s2_1 : List Int) (x136 : Int) : m_slices_Equal_2_L1 std s1_1 s2_1 x136 =
((bif (decide (x136 < (((List.length s1_1) : Nat) : Int))) then
    grd (okIdx x136 ((List.length s1_1))) <|
    grd (okKin ((Int.toNat x136)) ((List.length s1_1))) <|
    grd (okIdx x136 ((List.length s2_1))) <|
    grd (okKin ((Int.toNat x136)) ((List.length s2_1))) <|
    bif (!((List.getD s1_1 (Int.toNat x136) 0) == (List.getD s2_1 (Int.toNat x136) 0))) then
      (some (Sum.inr (Sum.inl ())))
    else
      grd (okI .i64 ((x136 + 1))) <|
      (some (Sum.inl (x136 + 1)))
  else
    (some (Sum.inr (Sum.inr ())))) : Option ((Int) ⊕ ((Unit) ⊕ (Unit)))) := rfl
theorem m_slices_Equal_2_eq (s1_1 : List Int) (s2_1 : List Int) : m_slices_Equal_2 std s1_1 s2_1 =
((bif (!((((List.length s1_1) : Nat) : Int) == (((List.length s2_1) : Nat) : Int))) then
    (some false)
  else
    Option.bind (loop (m_slices_Equal_2_L1 std s1_1 s2_1) 0) fun e => match e with
    | .inl _ =>
      (some false)
    | .inr (_) =>
      (some true)) : Option (Bool)) := rfl
theorem m_recurrence_Equal_1_eq (a_1 : List Int) (b_1 : List Int) : m_recurrence_Equal_1 std a_1 b_1 =
((Option.bind (m_slices_Equal_2 std a_1 b_1) fun b45 =>
  (some b45)) : Option (Bool)) := rfl
theorem m_slices_EqualFunc_eq (s1_1 : List Int) (s1_2 : List Int) (s1_3 : List Int) (s1_4 : List Int) (s1_5 : List Int) (s1_6 : List Int) (s1_7 : List Int) (s1_8 : List Int) (s2_1 : List Int) (s2_2 : List Int) (s2_3 : List Int) (s2_4 : List Int) (s2_5 : List Int) (s2_6 : List Int) (s2_7 : List Int) (s2_8 : List Int) : m_slices_EqualFunc std s1_1 s1_2 s1_3 s1_4 s1_5 s1_6 s1_7 s1_8 s2_1 s2_2 s2_3 s2_4 s2_5 s2_6 s2_7 s2_8 =
((Option.bind (m_recurrence_Equal_1 std s1_1 s2_1) fun b46 =>
  bif (!b46) then
    (some false)
  else
    grd (okI .i64 ((0 + 1))) <|
    Option.bind (m_recurrence_Equal_1 std s1_2 s2_2) fun b47 =>
    bif (!b47) then
      (some false)
    else
      grd (okI .i64 ((1 + 1))) <|
      Option.bind (m_recurrence_Equal_1 std s1_3 s2_3) fun b48 =>
      bif (!b48) then
        (some false)
      else
        grd (okI .i64 ((2 + 1))) <|
        Option.bind (m_recurrence_Equal_1 std s1_4 s2_4) fun b49 =>
        bif (!b49) then
          (some false)
        else
          grd (okI .i64 ((3 + 1))) <|
          Option.bind (m_recurrence_Equal_1 std s1_5 s2_5) fun b50 =>
          bif (!b50) then
            (some false)
          else
            grd (okI .i64 ((4 + 1))) <|
            Option.bind (m_recurrence_Equal_1 std s1_6 s2_6) fun b51 =>
            bif (!b51) then
              (some false)
            else
              grd (okI .i64 ((5 + 1))) <|
              Option.bind (m_recurrence_Equal_1 std s1_7 s2_7) fun b52 =>
              bif (!b52) then
                (some false)
              else
                grd (okI .i64 ((6 + 1))) <|
                Option.bind (m_recurrence_Equal_1 std s1_8 s2_8) fun b53 =>
                bif (!b53) then
                  (some false)
                else
                  grd (okI .i64 ((7 + 1))) <|
                  (some true)) : Option (Bool)) := rfl
theorem m_recurrence_Equal_eq (a_1 : Int) (a_2 : Int) (a_3 : Int) (a_4 : Int) (a_5 : Int) (b_1 : Int) (b_2 : Int) (b_3 : Int) (b_4 : Int) (b_5 : Int) (a_6 : List Int) (a_7 : List Int) (a_8 : List Int) (a_9 : List Int) (a_10 : List (Int × Int)) (a_11 : List Int) (a_12 : List Int) (a_13 : List Int) (a_14 : List Int) (b_6 : List Int) (b_7 : List Int) (b_8 : List Int) (b_9 : List Int) (b_10 : List (Int × Int)) (b_11 : List Int) (b_12 : List Int) (b_13 : List Int) (b_14 : List Int) : m_recurrence_Equal std a_1 a_2 a_3 a_4 a_5 b_1 b_2 b_3 b_4 b_5 a_6 a_7 a_8 a_9 a_10 a_11 a_12 a_13 a_14 b_6 b_7 b_8 b_9 b_10 b_11 b_12 b_13 b_14 =
((Option.bind (m_recurrence_Canonical std a_1 a_2 a_3 a_4 a_5 a_6 a_7 a_8 a_9 a_10 a_11 a_12 a_13 a_14) fun (n85, n86, n87, n88, l53, l54, l55, l56, l57, l58, l59, l60, l61, n89, n90) =>
  Option.bind (m_recurrence_Canonical std b_1 b_2 b_3 b_4 b_5 b_6 b_7 b_8 b_9 b_10 b_11 b_12 b_13 b_14) fun (n91, n92, n93, n94, l62, l63, l64, l65, l66, l67, l68, l69, l70, n95, n96) =>
  Option.bind (
    bif (!(n90 == 0)) then
      (some true)
    else
      bif (!(n96 == 0)) then
        (some true)
      else
        bif (!(n85 == n91)) then
          (some true)
        else
          bif (!(n86 == n92)) then
            (some true)
          else
            bif (!(n87 == n93)) then
              (some true)
            else
              bif (!(n88 == n94)) then
                (some true)
              else
                bif (!(n89 == n95)) then
                  (some true)
                else
                  Option.bind (m_slices_Equal std l57 l66) fun b44 =>
                  (some (!b44)) : Option ((Bool))) fun x135 =>
  bif x135 then
    (some false)
  else
    Option.bind (m_slices_EqualFunc std l53 l54 l55 l56 l58 l59 l60 l61 l62 l63 l64 l65 l67 l68 l69 l70) fun b54 =>
    (some b54)) : Option (Bool)) := rfl
theorem m_law29_RecurrenceOrder_L1_eq (i4 : Int) (j4 : Int) (l40 : List (Int × Int)) : m_law29_RecurrenceOrder_L1 std (i4, j4, l40) =
((bif (decide (i4 < j4)) then
    grd (okIdx j4 ((List.length l40))) <|
    grd (okKin ((Int.toNat j4)) ((List.length l40))) <|
    grd (okIdx i4 ((List.length l40))) <|
    grd (okKin ((Int.toNat i4)) ((List.length l40))) <|
    grd (okIdx j4 ((List.length (List.set l40 (Int.toNat i4) ((List.getD l40 (Int.toNat j4) (0, 0)).1, (List.getD l40 (Int.toNat j4) (0, 0)).2))))) <|
    grd (okKin ((Int.toNat j4)) ((List.length (List.set l40 (Int.toNat i4) ((List.getD l40 (Int.toNat j4) (0, 0)).1, (List.getD l40 (Int.toNat j4) (0, 0)).2))))) <|
    grd (okI .i64 ((i4 + 1))) <|
    grd (okI .i64 ((j4 - 1))) <|
    (some (Sum.inl ((i4 + 1), (j4 - 1), (List.set (List.set l40 (Int.toNat i4) ((List.getD l40 (Int.toNat j4) (0, 0)).1, (List.getD l40 (Int.toNat j4) (0, 0)).2)) (Int.toNat j4) ((List.getD l40 (Int.toNat i4) (0, 0)).1, (List.getD l40 (Int.toNat i4) (0, 0)).2)))))
  else
    (some (Sum.inr l40))) : Option ((Int × Int × List (Int × Int)) ⊕ (List (Int × Int)))) := rfl
theorem m_law29_RecurrenceOrder_eq (r_1 : Int) (r_2 : Int) (r_3 : Int) (r_4 : Int) (r_5 : Int) (start_1 : Int) (l_1 : Int) (r_6 : List Int) (r_7 : List Int) (r_8 : List Int) (r_9 : List Int) (r_10 : List (Int × Int)) (r_11 : List Int) (r_12 : List Int) (r_13 : List Int) (r_14 : List Int) : m_law29_RecurrenceOrder std r_1 r_2 r_3 r_4 r_5 start_1 l_1 r_6 r_7 r_8 r_9 r_10 r_11 r_12 r_13 r_14 =
((Option.bind (
    Option.bind (m_law29_awake std) fun b38 =>
    bif (!b38) then
      (some true)
    else
      Option.bind (m_law29_long std r_1 r_2 r_3 r_4 r_5 r_6 r_7 r_8 r_9 r_10 r_11 r_12 r_13 r_14) fun b39 =>
      bif b39 then
        (some true)
      else
        (some (decide (25 < (ma (ma (ma (ma (ma (ma (ma (ma (((List.length r_6) : Nat) : Int) (((List.length r_7) : Nat) : Int)) (((List.length r_8) : Nat) : Int)) (((List.length r_9) : Nat) : Int)) (((List.length r_10) : Nat) : Int)) (((List.length r_11) : Nat) : Int)) (((List.length r_12) : Nat) : Int)) (((List.length r_13) : Nat) : Int)) (((List.length r_14) : Nat) : Int))))) : Option ((Bool))) fun x132 =>
  bif x132 then
    Option.bind (m_law29_awake std) fun b40 =>
    (some b40)
  else
    Option.bind (m_law29_RecurrenceOrder_1 std r_6) fun l31 =>
    Option.bind (m_law29_RecurrenceOrder_1 std r_7) fun l32 =>
    Option.bind (m_law29_RecurrenceOrder_1 std r_8) fun l33 =>
    Option.bind (m_law29_RecurrenceOrder_1 std r_9) fun l34 =>
    Option.bind (m_law29_RecurrenceOrder_1 std r_11) fun l35 =>
    Option.bind (m_law29_RecurrenceOrder_1 std r_12) fun l36 =>
    Option.bind (m_law29_RecurrenceOrder_1 std r_13) fun l37 =>
    Option.bind (m_law29_RecurrenceOrder_1 std r_14) fun l38 =>
    Option.bind (m_clone_i2 std r_10) fun l39 =>
    grd (okRoom ((List.length l39))) <|
    grd (okRoom ((List.length r_10))) <|
    grd (okI .i64 (((((List.length (l39 ++ r_10)) : Nat) : Int) - 1))) <|
    Option.bind (loop (m_law29_RecurrenceOrder_L1 std) (0, ((((List.length (l39 ++ r_10)) : Nat) : Int) - 1), (l39 ++ r_10))) fun l41 =>
    Option.bind (m_recurrence_Matches std r_1 r_2 r_3 r_4 r_5 start_1 l_1 r_6 r_7 r_8 r_9 r_10 r_11 r_12 r_13 r_14) fun (b41, n83) =>
    Option.bind (m_recurrence_Matches std r_1 r_2 r_3 r_4 r_5 start_1 l_1 l31 l32 l33 l34 l41 l35 l36 l37 l38) fun (b42, n84) =>
    Option.bind (
      bif (b41 == b42) then
        bif (n83 == n84) then
          Option.bind (m_recurrence_Equal std r_1 r_2 r_3 r_4 r_5 r_1 r_2 r_3 r_4 r_5 r_6 r_7 r_8 r_9 r_10 r_11 r_12 r_13 r_14 l31 l32 l33 l34 l41 l35 l36 l37 l38) fun b55 =>
          Option.bind (m_recurrence_Valid std r_1 r_2 r_3 r_4 r_5 r_6 r_7 r_8 r_9 r_10 r_11 r_12 r_13 r_14) fun b56 =>
          (some (b55 == b56))
        else
          (some false)
      else
        (some false) : Option ((Bool))) fun x139 =>
    (some x139)) : Option (Bool)) := rfl
end Go.Proofs.Ytmnhfaaaaejpaaa.R
namespace Go.Proofs.Ytmnhfaaaaejpaaa.R
open Go.RowKit Go.Proofs.Ytmnhfaaaaejpaaa
set_option maxRecDepth 100000

/-- the elements of a list of days, ascending, each of them once -/
def ordL (l : List (Int × Int)) : List (Int × Int) := Lib.compact (sortOr l)
theorem ordL_ok (l : List (Int × Int)) : (ordL l).Pairwise OrLt ∧ ∀ x, x ∈ ordL l ↔ x ∈ l := by
  obtain ⟨h1, h2⟩ := compOr_ok (sortOr_spec l).2
  exact ⟨h1, fun x => (h2 x).trans (sortOr_spec l).1.mem_iff⟩
theorem ordL_len (l : List (Int × Int)) : (ordL l).length ≤ l.length := by
  have h3 : (ordL l).length ≤ (sortOr l).length := compOr_len _
  rw [sortOr_len] at h3; exact h3
theorem or_irr {x : Int × Int} (h : OrLt x x) : False := by unfold OrLt at h; omega
theorem or_tr {x y z : Int × Int} (h : OrLt x y) (h2 : OrLt y z) : OrLt x z := by unfold OrLt at *; omega
theorem or_uniq : ∀ {a b : List (Int × Int)}, a.Pairwise OrLt → b.Pairwise OrLt → (∀ x, x ∈ a ↔ x ∈ b) → a = b := by
  intro a
  induction a with
  | nil =>
    intro b _ _ h
    cases b with
    | nil => rfl
    | cons y t => exact absurd ((h y).2 List.mem_cons_self) (List.not_mem_nil)
  | cons x s ih =>
    intro b ha hb h
    cases b with
    | nil => exact absurd ((h x).1 List.mem_cons_self) (List.not_mem_nil)
    | cons y t =>
      obtain ⟨a1, a2⟩ := List.pairwise_cons.1 ha
      obtain ⟨b1, b2⟩ := List.pairwise_cons.1 hb
      have e : x = y := by
        rcases List.mem_cons.1 ((h x).1 List.mem_cons_self) with g | g
        · exact g
        · rcases List.mem_cons.1 ((h y).2 List.mem_cons_self) with k | k
          · exact k.symm
          · exact (or_irr (or_tr (a1 y k) (b1 x g))).elim
      subst e
      refine congrArg (List.cons x) (ih a2 b2 fun z => ?_)
      constructor
      · intro hz
        rcases List.mem_cons.1 ((h z).1 (List.mem_cons_of_mem _ hz)) with g | g
        · have := a1 z hz; rw [g] at this; exact (or_irr this).elim
        · exact g
      · intro hz
        rcases List.mem_cons.1 ((h z).2 (List.mem_cons_of_mem _ hz)) with g | g
        · have := b1 z hz; rw [g] at this; exact (or_irr this).elim
        · exact g

theorem lstB_len {low high : Int} {b : Bool} {l : List Int} (h : lstB low high b l = true) : (l.length : Int) ≤ 60 := by
  unfold lstB at h
  rw [Bool.and_eq_true, decide_eq_true_eq] at h
  exact h.1
/-- the lengths of a valid rule's lists -/
structure Lens (r : Rec) : Prop where
  mo : (r.mo.length : Int) ≤ 60
  md : (r.md.length : Int) ≤ 60
  yd : (r.yd.length : Int) ≤ 60
  wk : (r.wk.length : Int) ≤ 60
  dy : (r.dy.length : Int) ≤ 60
  hr : (r.h.length : Int) ≤ 60
  mi : (r.m.length : Int) ≤ 60
  se : (r.s.length : Int) ≤ 60
  ps : (r.ps.length : Int) ≤ 60
theorem lens {r : Rec} (hv : vldB r = true) : Lens r := by
  unfold vldB at hv
  simp only [Bool.and_eq_true] at hv
  obtain ⟨_, _, _, _, _, a6, a7, a8, a9, b1, b2, b3, b4, _, b6, _⟩ := hv
  unfold dayL at b6
  rw [Bool.and_eq_true, decide_eq_true_eq] at b6
  exact ⟨lstB_len a6, lstB_len a7, lstB_len a8, lstB_len a9, b6.1, lstB_len b1, lstB_len b2, lstB_len b3, lstB_len b4⟩
theorem p_Canonical_bad {r : Rec} (h : vldB r = false) : m_recurrence_Canonical std r.f r.N r.c r.u r.w r.mo r.md r.yd r.wk r.dy r.h r.m r.s r.ps = some (0, 0, 0, 0, [], [], [], [], [], [], [], [], [], 0, 1) := by
  rw [m_recurrence_Canonical_eq]
  exact bB (p_Valid r) (by rw [h]; exact bT rfl rfl)
theorem p_Canonical {r : Rec} (h : vldB r = true) : m_recurrence_Canonical std r.f r.N r.c r.u r.w r.mo r.md r.yd r.wk r.dy r.h r.m r.s r.ps = some (r.f, r.N, r.c, r.u, setL r.mo, setL r.md, setL r.yd, setL r.wk, ordL r.dy, setL r.h, setL r.m, setL r.s, setL r.ps, r.w, 0) := by
  obtain ⟨l1, l2, l3, l4, l5, l6, l7, l8, l9⟩ := lens h
  rw [m_recurrence_Canonical_eq]
  refine bB (p_Valid r) ?_
  rw [h]
  refine bF rfl ?_
  refine bB (p_recurrence_set (by omega)) (gI (by omega) (bB (p_recurrence_set (by omega)) (gI (by omega) (bB (p_recurrence_set (by omega)) (gI (by omega) (bB (p_recurrence_set (by omega)) (gI (by omega) (bB (p_recurrence_set (by omega)) (gI (by omega) (bB (p_recurrence_set (by omega)) (gI (by omega) (bB (p_recurrence_set (by omega)) (gI (by omega) (bB (p_recurrence_set (by omega)) (gI (by omega) ?_)))))))))))))))
  exact bB (v := r.dy) (by rw [m_clone_i2_eq]; exact gR (by omega) rfl) (bB (v := sortOr r.dy) (by rw [m_sortOr_eq]; exact gR (by omega) rfl) (bB (v := ordL r.dy) (by rw [m_compOr_eq]; exact gR (by rw [sortOr_len]; omega) rfl) rfl))

/-! equal lists -/
theorem getD_eq {α : Type} {a b : List α} {d : α} (hl : a.length = b.length) (h : ∀ i, i < a.length → a.getD i d = b.getD i d) : a = b := by
  refine List.ext_getElem hl fun i h1 h2 => ?_
  have := h i h1
  rw [List.getD_eq_getElem?_getD, List.getD_eq_getElem?_getD, List.getElem?_eq_getElem h1, List.getElem?_eq_getElem h2] at this
  exact this
theorem p_slices_Equal {a b : List (Int × Int)} (ha : (a.length : Int) ≤ 1000000) : m_slices_Equal std a b = some (decide (a = b)) := by
  rw [m_slices_Equal_eq]
  by_cases hl : a.length = b.length
  · refine bF (by rw [eT (by omega)]; rfl) ?_
    have := loop_is (B := m_slices_Equal_L1 std a b) (fun s => ∃ i : Nat, s = (i : Int) ∧ i ≤ a.length ∧ ∀ j, j < i → a.getD j (0, 0) = b.getD j (0, 0)) (fun s => ((a.length : Int) - s).toNat)
      (fun e => match e with | .inl _ => a ≠ b | .inr _ => a = b) (y := 0) ⟨0, rfl, Nat.zero_le _, fun j hj => absurd hj (Nat.not_lt_zero _)⟩ (by show ((a.length : Int) - 0).toNat < _; omega) (fun s hs => by
      obtain ⟨i, rfl, hi, hn⟩ := hs
      rw [m_slices_Equal_L1_eq]
      by_cases c : i < a.length
      · by_cases hv : a.getD i (0, 0) = b.getD i (0, 0)
        · refine ⟨.inl ((i : Int) + 1), bT (dT (by omega)) (gX (by omega) (gK (by omega) (gX (by omega) (gK (by omega) (bF ?_ (gI (by omega) rfl)))))), ⟨i + 1, rfl, c, fun j hj => ?_⟩, by show ((a.length : Int) - ((i : Int) + 1)).toNat < ((a.length : Int) - (i : Int)).toNat; omega⟩
          · rw [Int.toNat_natCast, hv]; simp
          · rcases Nat.lt_succ_iff_lt_or_eq.1 hj with h | h
            · exact hn j h
            · subst h; exact hv
        · refine ⟨.inr (.inl ()), bT (dT (by omega)) (gX (by omega) (gK (by omega) (gX (by omega) (gK (by omega) (bT ?_ rfl))))), fun e => hv (by rw [e])⟩
          rw [Int.toNat_natCast]
          revert hv
          generalize a.getD i (0, 0) = x
          generalize b.getD i (0, 0) = y
          intro hv
          first
            | (rw [eF hv]; rfl)
            | (obtain ⟨x1, x2⟩ := x
               obtain ⟨y1, y2⟩ := y
               rw [Bool.not_eq_true', Bool.and_eq_false_iff, beq_eq_false_iff_ne, beq_eq_false_iff_ne]
               by_cases h1 : x1 = y1
               · exact .inr fun h2 => hv (by simp only [] at h2; rw [h1, h2])
               · exact .inl h1)
      · exact ⟨.inr (.inr ()), bF (dF (by omega)) rfl, getD_eq hl fun j hj => hn j (by omega)⟩)
    obtain ⟨e, he, hq⟩ := this
    rw [he, Option.bind_some]
    cases e with
    | inl x => exact congrArg some (dF hq).symm
    | inr x => exact congrArg some (dT hq).symm
  · refine bT (by rw [eF (by omega)]; rfl) (congrArg some (dF fun e => hl (by rw [e])).symm)
theorem p_slices_Equal_2 {a b : List Int} (ha : (a.length : Int) ≤ 1000000) : m_slices_Equal_2 std a b = some (decide (a = b)) := by
  rw [m_slices_Equal_2_eq]
  by_cases hl : a.length = b.length
  · refine bF (by rw [eT (by omega)]; rfl) ?_
    have := loop_is (B := m_slices_Equal_2_L1 std a b) (fun s => ∃ i : Nat, s = (i : Int) ∧ i ≤ a.length ∧ ∀ j, j < i → a.getD j 0 = b.getD j 0) (fun s => ((a.length : Int) - s).toNat)
      (fun e => match e with | .inl _ => a ≠ b | .inr _ => a = b) (y := 0) ⟨0, rfl, Nat.zero_le _, fun j hj => absurd hj (Nat.not_lt_zero _)⟩ (by show ((a.length : Int) - 0).toNat < _; omega) (fun s hs => by
      obtain ⟨i, rfl, hi, hn⟩ := hs
      rw [m_slices_Equal_2_L1_eq]
      by_cases c : i < a.length
      · by_cases hv : a.getD i 0 = b.getD i 0
        · refine ⟨.inl ((i : Int) + 1), bT (dT (by omega)) (gX (by omega) (gK (by omega) (gX (by omega) (gK (by omega) (bF ?_ (gI (by omega) rfl)))))), ⟨i + 1, rfl, c, fun j hj => ?_⟩, by show ((a.length : Int) - ((i : Int) + 1)).toNat < ((a.length : Int) - (i : Int)).toNat; omega⟩
          · rw [Int.toNat_natCast, hv]; simp
          · rcases Nat.lt_succ_iff_lt_or_eq.1 hj with h | h
            · exact hn j h
            · subst h; exact hv
        · refine ⟨.inr (.inl ()), bT (dT (by omega)) (gX (by omega) (gK (by omega) (gX (by omega) (gK (by omega) (bT ?_ rfl))))), fun e => hv (by rw [e])⟩
          rw [Int.toNat_natCast]
          revert hv
          generalize a.getD i 0 = x
          generalize b.getD i 0 = y
          intro hv
          first
            | (rw [eF hv]; rfl)
            | (obtain ⟨x1, x2⟩ := x
               obtain ⟨y1, y2⟩ := y
               rw [Bool.not_eq_true', Bool.and_eq_false_iff, beq_eq_false_iff_ne, beq_eq_false_iff_ne]
               by_cases h1 : x1 = y1
               · exact .inr fun h2 => hv (by simp only [] at h2; rw [h1, h2])
               · exact .inl h1)
      · exact ⟨.inr (.inr ()), bF (dF (by omega)) rfl, getD_eq hl fun j hj => hn j (by omega)⟩)
    obtain ⟨e, he, hq⟩ := this
    rw [he, Option.bind_some]
    cases e with
    | inl x => exact congrArg some (dF hq).symm
    | inr x => exact congrArg some (dT hq).symm
  · refine bT (by rw [eF (by omega)]; rfl) (congrArg some (dF fun e => hl (by rw [e])).symm)
theorem p_Equal_1 {a b : List Int} (ha : (a.length : Int) ≤ 1000000) : m_recurrence_Equal_1 std a b = some (decide (a = b)) := by
  rw [m_recurrence_Equal_1_eq]
  exact bB (p_slices_Equal_2 ha) rfl
theorem step_e {a b : List Int} (ha : (a.length : Int) ≤ 1000000) {K : Option Bool} {z : Bool} (hK : K = some z) : (Option.bind (m_recurrence_Equal_1 std a b) fun b46 => bif !b46 then some false else K) = some (decide (a = b) && z) := by
  rw [p_Equal_1 ha, Option.bind_some, hK]
  cases decide (a = b) <;> rfl
theorem p_EqualFunc {a1 a2 a3 a4 a5 a6 a7 a8 b1 b2 b3 b4 b5 b6 b7 b8 : List Int} (h1 : (a1.length : Int) ≤ 1000000) (h2 : (a2.length : Int) ≤ 1000000) (h3 : (a3.length : Int) ≤ 1000000) (h4 : (a4.length : Int) ≤ 1000000) (h5 : (a5.length : Int) ≤ 1000000) (h6 : (a6.length : Int) ≤ 1000000) (h7 : (a7.length : Int) ≤ 1000000) (h8 : (a8.length : Int) ≤ 1000000) :
    m_slices_EqualFunc std a1 a2 a3 a4 a5 a6 a7 a8 b1 b2 b3 b4 b5 b6 b7 b8 = some (decide (a1 = b1) && (decide (a2 = b2) && (decide (a3 = b3) && (decide (a4 = b4) && (decide (a5 = b5) && (decide (a6 = b6) && (decide (a7 = b7) && (decide (a8 = b8) && true)))))))) := by
  rw [m_slices_EqualFunc_eq]
  exact step_e h1 (gI (by omega) (step_e h2 (gI (by omega) (step_e h3 (gI (by omega) (step_e h4 (gI (by omega) (step_e h5 (gI (by omega) (step_e h6 (gI (by omega) (step_e h7 (gI (by omega) (step_e h8 (gI (by omega) rfl)))))))))))))))
/-- the rules have the same canonical form -/
def canB (r s : Rec) : Bool :=
  ((r.f == s.f) && ((r.N == s.N) && ((r.c == s.c) && ((r.u == s.u) && ((r.w == s.w) && decide (ordL r.dy = ordL s.dy)))))) &&
  (decide (setL r.mo = setL s.mo) && (decide (setL r.md = setL s.md) && (decide (setL r.yd = setL s.yd) && (decide (setL r.wk = setL s.wk) && (decide (setL r.h = setL s.h) && (decide (setL r.m = setL s.m) && (decide (setL r.s = setL s.s) && (decide (setL r.ps = setL s.ps) && true))))))))
theorem step_n {c : Bool} {K : Option Bool} {z : Bool} (hK : K = some (!z)) : (bif !c then some true else K) = some (!(c && z)) := by rw [hK]; cases c <;> rfl
/-- two rules have the same canonical form -/
theorem p_Equal (r s : Rec) : m_recurrence_Equal std r.f r.N r.c r.u r.w s.f s.N s.c s.u s.w r.mo r.md r.yd r.wk r.dy r.h r.m r.s r.ps s.mo s.md s.yd s.wk s.dy s.h s.m s.s s.ps = some (vldB r && (vldB s && canB r s)) := by
  rw [m_recurrence_Equal_eq]
  cases hr : vldB r with
  | false =>
    rw [p_Canonical_bad hr, Option.bind_some]
    simp only []
    cases hs : vldB s with
    | false => rw [p_Canonical_bad hs, Option.bind_some]; exact bB (v := true) (bT rfl rfl) rfl
    | true => rw [p_Canonical hs, Option.bind_some]; exact bB (v := true) (bT rfl rfl) rfl
  | true =>
    rw [p_Canonical hr, Option.bind_some]
    simp only []
    cases hs : vldB s with
    | false => rw [p_Canonical_bad hs, Option.bind_some]; exact bB (v := true) (bF rfl (bT rfl rfl)) rfl
    | true =>
      rw [p_Canonical hs, Option.bind_some]
      simp only []
      obtain ⟨l1, l2, l3, l4, l5, l6, l7, l8, l9⟩ := lens hr
      have m1 := setL_len r.mo
      have m2 := setL_len r.md
      have m3 := setL_len r.yd
      have m4 := setL_len r.wk
      have m5 := ordL_len r.dy
      have m6 := setL_len r.h
      have m7 := setL_len r.m
      have m8 := setL_len r.s
      have m9 := setL_len r.ps
      have e1 : (Option.bind (m_slices_Equal std (ordL r.dy) (ordL s.dy)) fun b44 => (some (!b44))) = some (!decide (ordL r.dy = ordL s.dy)) := bB (p_slices_Equal (by omega)) rfl
      have e2 := p_EqualFunc (a1 := setL r.mo) (a2 := setL r.md) (a3 := setL r.yd) (a4 := setL r.wk) (a5 := setL r.h) (a6 := setL r.m) (a7 := setL r.s) (a8 := setL r.ps) (b1 := setL s.mo) (b2 := setL s.md) (b3 := setL s.yd) (b4 := setL s.wk) (b5 := setL s.h) (b6 := setL s.m) (b7 := setL s.s) (b8 := setL s.ps) (by omega) (by omega) (by omega) (by omega) (by omega) (by omega) (by omega) (by omega)
      refine bB (bF rfl (bF rfl (step_n (step_n (step_n (step_n (step_n e1))))))) ?_
      rw [e2, Option.bind_some]
      show _ = some (true && (true && canB r s))
      unfold canB
      rw [Bool.true_and, Bool.true_and]
      generalize ((r.f == s.f) && ((r.N == s.N) && ((r.c == s.c) && ((r.u == s.u) && ((r.w == s.w) && decide (ordL r.dy = ordL s.dy)))))) = x
      cases x <;> rfl
end Go.Proofs.Ytmnhfaaaaejpaaa.R
namespace Go.Proofs.Ytmnhfaaaaejpaaa.R
open Go.RowKit Go.Proofs.Ytmnhfaaaaejpaaa
set_option maxRecDepth 100000

theorem p_contains (v : Int) {l : List Int} (hl : l.length ≤ 1000000000) : m_slices_Contains std v l = some (decide (v ∈ l)) := by
  rw [m_slices_Contains_eq, m_slices_Index_eq]
  have := loop_is (B := m_slices_Index_L1 std l v) (fun s => ∃ i : Nat, s = (i : Int) ∧ i ≤ l.length ∧ ∀ j, j < i → l.getD j 0 ≠ v) (fun s => ((l.length : Int) - s).toNat)
    (fun e => match e with | .inl x => 0 ≤ x ∧ v ∈ l | .inr _ => v ∉ l) (y := 0) ⟨0, rfl, Nat.zero_le _, fun j hj => absurd hj (Nat.not_lt_zero _)⟩ (by show ((l.length : Int) - 0).toNat < _; omega) (fun s hs => by
    obtain ⟨i, rfl, hi, hn⟩ := hs
    rw [m_slices_Index_L1_eq]
    by_cases c : i < l.length
    · cases hv : (v == l.getD i 0) with
      | true => exact ⟨.inr (.inl (i : Int)), bT (dT (by omega)) (gX (by omega) (gK (by omega) (bT (by rw [Int.toNat_natCast]; exact hv) rfl))), by omega, by
          have := beq_iff_eq.1 hv
          rw [this, List.getD_eq_getElem?_getD, List.getElem?_eq_getElem c]
          exact List.getElem_mem c⟩
      | false => exact ⟨.inl ((i : Int) + 1), bT (dT (by omega)) (gX (by omega) (gK (by omega) (bF (by rw [Int.toNat_natCast]; exact hv) (gI (by omega) rfl)))), ⟨i + 1, rfl, c, fun j hj => by
          rcases Nat.lt_succ_iff_lt_or_eq.1 hj with h | h
          · exact hn j h
          · subst h; intro e; rw [e] at hv; simp at hv⟩, by show ((l.length : Int) - ((i : Int) + 1)).toNat < ((l.length : Int) - (i : Int)).toNat; omega⟩
    · refine ⟨.inr (.inr ()), bF (dF (by omega)) rfl, fun hm => ?_⟩
      obtain ⟨j, hj, e⟩ := List.getElem_of_mem hm
      refine hn j (by omega) ?_
      rw [List.getD_eq_getElem?_getD, List.getElem?_eq_getElem hj]
      exact e)
  obtain ⟨e, he, hq⟩ := this
  rw [he, Option.bind_some]
  cases e with
  | inl x => exact bB rfl (congrArg some (by rw [dT hq.2]; exact dT hq.1))
  | inr x => exact bB rfl (congrArg some (by rw [dF hq]; rfl))
/-! lists with the same elements -/
def Ss {α : Type} (a b : List α) : Prop := ∀ x, x ∈ a ↔ x ∈ b
section
variable {α : Type} {a b : List α}
theorem Ss.all (h : Ss a b) (f : α → Bool) : a.all f = b.all f := by
  rw [Bool.eq_iff_iff, List.all_eq_true, List.all_eq_true]
  exact ⟨fun g x hx => g x ((h x).2 hx), fun g x hx => g x ((h x).1 hx)⟩
theorem Ss.any (h : Ss a b) (f : α → Bool) : a.any f = b.any f := by
  rw [Bool.eq_iff_iff, List.any_eq_true, List.any_eq_true]
  exact ⟨fun ⟨x, hx, g⟩ => ⟨x, (h x).1 hx, g⟩, fun ⟨x, hx, g⟩ => ⟨x, (h x).2 hx, g⟩⟩
theorem Ss.nil (h : Ss a b) : a = [] ↔ b = [] := by
  simp only [List.eq_nil_iff_forall_not_mem]
  exact ⟨fun g x hx => g x ((h x).2 hx), fun g x hx => g x ((h x).1 hx)⟩
theorem Ss.len0 (h : Ss a b) : (((List.length a : Nat) : Int) == 0) = (((List.length b : Nat) : Int) == 0) := by
  have := h.nil
  rw [← List.length_eq_zero_iff, ← List.length_eq_zero_iff] at this
  rw [Bool.eq_iff_iff, beq_iff_eq, beq_iff_eq]
  omega
theorem Ss.lenp (h : Ss a b) : decide (0 < ((List.length a : Nat) : Int)) = decide (0 < ((List.length b : Nat) : Int)) := by
  have := h.nil
  rw [← List.length_eq_zero_iff, ← List.length_eq_zero_iff] at this
  rw [Bool.eq_iff_iff, decide_eq_true_iff, decide_eq_true_iff]
  omega
end
theorem setL_ss {a b : List Int} (h : Ss a b) : setL a = setL b := asc_uniq (setL_ok a).1 (setL_ok b).1 fun x => ((setL_ok a).2 x).trans ((h x).trans ((setL_ok b).2 x).symm)
/-- the same elements, and not too many of them -/
structure Sl {α : Type} (a b : List α) : Prop where
  ss : Ss a b
  la : a.length ≤ 60
  lb : b.length ≤ 60
theorem Sl.lst {a b : List Int} (h : Sl a b) (low high : Int) (s : Bool) : lstB low high s a = lstB low high s b := by
  have h1 := h.la
  have h2 := h.lb
  unfold lstB
  rw [dT (show (a.length : Int) ≤ 60 by omega), dT (show (b.length : Int) ≤ 60 by omega), h.ss.all]
theorem Sl.day {a b : List (Int × Int)} (h : Sl a b) (f : Int) : dayL f a = dayL f b := by
  have h1 := h.la
  have h2 := h.lb
  unfold dayL
  rw [dT (show (a.length : Int) ≤ 60 by omega), dT (show (b.length : Int) ≤ 60 by omega), h.ss.all]
theorem Sl.num {a b : List Int} (h : Sl a b) (o : Nat) : numL o a = numL o b := by
  unfold numL
  by_cases c : a = []
  · rw [if_pos c, if_pos (h.ss.nil.1 c)]
  · rw [if_neg c, if_neg (fun g => c (h.ss.nil.2 g)), setL_ss h.ss]
theorem Sl.part {a b : List Int} (h : Sl a b) (o : Int) : partL o a = partL o b := by
  unfold partL
  by_cases c : a = []
  · rw [if_pos c, if_pos (h.ss.nil.1 c)]
  · rw [if_neg c, if_neg (fun g => c (h.ss.nil.2 g)), setL_ss h.ss]
theorem Sl.wks {a b : List Int} (h : Sl a b) (f : Int) : wksB f a = wksB f b := by unfold wksB; rw [h.ss.lenp]
theorem Sl.times1 {a b : List Int} (h : Sl a b) (o : Int) : m_recurrence_times_1 std o a = m_recurrence_times_1 std o b := by
  rw [p_times_1 (by have := h.la; omega), p_times_1 (by have := h.lb; omega), h.part]
theorem Sl.contains {a b : List Int} (h : Sl a b) (v : Int) : m_slices_Contains std v a = m_slices_Contains std v b := by
  rw [p_contains v (by have := h.la; omega), p_contains v (by have := h.lb; omega)]
  exact congrArg some (decide_eq_decide.2 (h.ss v))
theorem Sl.counted {a b : List Int} (h : Sl a b) (n o : Int) : m_recurrence_counted std n o a = m_recurrence_counted std n o b := by
  rw [m_recurrence_counted_eq, m_recurrence_counted_eq, h.ss.len0]
  simp only [h.contains]
def nthB (w n o : Int) (x : Int × Int) : Bool := decide (m_recurrence_nth_1 std x.1 x.2 w n o = some true)
theorem p_nthF {w n o : Int} {l : List (Int × Int)} (hl : l.length ≤ 1000000000) (hn : -1000000000 ≤ n ∧ n ≤ 1000000000) (ho : -1000000000 ≤ o ∧ o ≤ 1000000000) : m_slices_ContainsFunc_2 std l w n o = some (l.any (nthB w n o)) := by
  rw [m_slices_ContainsFunc_2_eq, m_slices_IndexFunc_2_eq]
  have := loop_is (B := m_slices_IndexFunc_2_L1 std w n o l) (fun s => ∃ i : Nat, s = (i : Int) ∧ i ≤ l.length ∧ ∀ j, j < i → nthB w n o (l.getD j (0, 0)) = false) (fun s => ((l.length : Int) - s).toNat)
    (fun e => match e with | .inl x => 0 ≤ x ∧ l.any (nthB w n o) = true | .inr _ => l.any (nthB w n o) = false) (y := 0) ⟨0, rfl, Nat.zero_le _, fun j hj => absurd hj (Nat.not_lt_zero _)⟩ (by show ((l.length : Int) - 0).toNat < _; omega) (fun s hs => by
    obtain ⟨i, rfl, hi, hn'⟩ := hs
    rw [m_slices_IndexFunc_2_L1_eq]
    by_cases c : i < l.length
    · obtain ⟨b, hb⟩ := t_nth1 (a := (l.getD (Int.toNat (i : Int)) (0, 0)).1) (b := (l.getD (Int.toNat (i : Int)) (0, 0)).2) (w := w) hn ho
      cases b with
      | true => exact ⟨.inr (.inl (i : Int)), bT (dT (by omega)) (gX (by omega) (gK (by omega) (bB hb (bT rfl rfl)))), by omega, by
          rw [Int.toNat_natCast] at hb
          refine List.any_eq_true.2 ⟨l.getD i (0, 0), ?_, dT hb⟩
          rw [List.getD_eq_getElem?_getD, List.getElem?_eq_getElem c]
          exact List.getElem_mem c⟩
      | false => exact ⟨.inl ((i : Int) + 1), bT (dT (by omega)) (gX (by omega) (gK (by omega) (bB hb (bF rfl (gI (by omega) rfl))))), ⟨i + 1, rfl, c, fun j hj => by
          rcases Nat.lt_succ_iff_lt_or_eq.1 hj with h | h
          · exact hn' j h
          · subst h; rw [Int.toNat_natCast] at hb; exact dF (by rw [hb]; simp)⟩, by show ((l.length : Int) - ((i : Int) + 1)).toNat < ((l.length : Int) - (i : Int)).toNat; omega⟩
    · refine ⟨.inr (.inr ()), bF (dF (by omega)) rfl, ?_⟩
      refine List.any_eq_false.2 fun x hm => ?_
      obtain ⟨j, hj, e⟩ := List.getElem_of_mem hm
      have := hn' j (by omega)
      rw [List.getD_eq_getElem?_getD, List.getElem?_eq_getElem hj] at this
      rw [← e]
      simpa using this)
  obtain ⟨e, he, hq⟩ := this
  rw [he, Option.bind_some]
  cases e with
  | inl x => exact bB rfl (congrArg some (by rw [hq.2]; exact dT hq.1))
  | inr x => exact bB rfl (congrArg some (by rw [hq]; rfl))
theorem Sl.nth {a b : List (Int × Int)} (h : Sl a b) {n o : Int} (hn : -1000000000 ≤ n ∧ n ≤ 1000000000) (ho : -1000000000 ≤ o ∧ o ≤ 1000000000) (w : Int) : m_recurrence_nth std w n o a = m_recurrence_nth std w n o b := by
  rw [m_recurrence_nth_eq, m_recurrence_nth_eq, h.ss.len0, p_nthF (by have := h.la; omega) hn ho, p_nthF (by have := h.lb; omega) hn ho, h.ss.any]

/-! rules with the same elements -/
theorem nB {α β : Type} {f : α → Option β} : Option.bind none f = none := rfl
structure Sim (s r : Rec) : Prop where
  f : s.f = r.f
  N : s.N = r.N
  c : s.c = r.c
  u : s.u = r.u
  w : s.w = r.w
  mo : Sl s.mo r.mo
  md : Sl s.md r.md
  yd : Sl s.yd r.yd
  wk : Sl s.wk r.wk
  dy : Sl s.dy r.dy
  ho : Sl s.h r.h
  mi : Sl s.m r.m
  se : Sl s.s r.s
  ps : Sl s.ps r.ps
section
variable {s r : Rec} (h : Sim s r)
include h
theorem Sim.vld : vldB s = vldB r := by
  unfold vldB tmsB
  rw [h.f, h.N, h.c, h.u, h.w, h.mo.lst, h.md.lst, h.yd.lst, h.wk.lst, h.ho.lst, h.mi.lst, h.se.lst, h.ps.lst, h.wk.wks, h.dy.day, h.ho.num, h.mi.num, h.se.num]
theorem Sim.number (l : Int) : m_recurrence_number std s.f s.N s.c s.u s.w l s.mo s.md s.yd s.wk s.dy s.h s.m s.s s.ps = m_recurrence_number std r.f r.N r.c r.u r.w l r.mo r.md r.yd r.wk r.dy r.h r.m r.s r.ps := by
  rw [h.f, h.N, h.c, h.u, h.w, m_recurrence_number_eq, m_recurrence_number_eq, h.wk.ss.lenp]
theorem Sim.days (l : Int) : m_recurrence_days std s.f s.N s.c s.u s.w l s.mo s.md s.yd s.wk s.dy s.h s.m s.s s.ps = m_recurrence_days std r.f r.N r.c r.u r.w l r.mo r.md r.yd r.wk r.dy r.h r.m r.s r.ps := by
  rw [h.f, h.N, h.c, h.u, h.w, m_recurrence_days_eq, m_recurrence_days_eq, h.wk.ss.lenp]
theorem Sim.times (l : Int) : m_recurrence_times std s.f s.N s.c s.u s.w l s.mo s.md s.yd s.wk s.dy s.h s.m s.s s.ps = m_recurrence_times std r.f r.N r.c r.u r.w l r.mo r.md r.yd r.wk r.dy r.h r.m r.s r.ps := by
  rw [h.f, h.N, h.c, h.u, h.w, m_recurrence_times_eq, m_recurrence_times_eq]
  simp only [h.ho.times1, h.mi.times1, h.se.times1, h.ho.ss.len0]
theorem Sim.passes {x : Int} (h1 : -719162 ≤ x) (h2 : x < 2932897) (d1 d2 d3 d4 d5 d6 d7 d8 : Int) :
    m_recurrence_passes std s.f s.N s.c s.u s.w d1 d2 d3 d4 d5 d6 d7 d8 x s.mo s.md s.yd s.wk s.dy s.h s.m s.s s.ps = m_recurrence_passes std r.f r.N r.c r.u r.w d1 d2 d3 d4 d5 d6 d7 d8 x r.mo r.md r.yd r.wk r.dy r.h r.m r.s r.ps := by
  obtain ⟨y, m, d, p, q, u, v, e, p1, q1, u1, v1⟩ := t_dateOf h1 h2
  rw [h.f, h.N, h.c, h.u, h.w, m_recurrence_passes_eq, m_recurrence_passes_eq, e, Option.bind_some, Option.bind_some]
  simp only []
  rw [m_recurrence_filters_1_eq, m_recurrence_filters_1_eq, h.mo.ss.len0, h.mo.contains]
  simp only [m_recurrence_filters_2_eq, m_recurrence_filters_3_eq, m_recurrence_filters_4_eq, m_recurrence_filters_5_eq, m_recurrence_filters_6_eq]
  simp only [h.md.counted, h.yd.counted, h.wk.counted, h.wk.ss.len0, h.mo.ss.lenp, h.md.ss.lenp, h.yd.ss.lenp, h.wk.ss.lenp, h.dy.ss.lenp, h.dy.nth (n := u) (o := v) (by omega) (by omega), h.dy.nth (n := p) (o := q) (by omega) (by omega)]
theorem Sim.place (start l : Int) : m_recurrence_place std s.f s.N s.c s.u s.w start l s.mo s.md s.yd s.wk s.dy s.h s.m s.s s.ps = m_recurrence_place std r.f r.N r.c r.u r.w start l r.mo r.md r.yd r.wk r.dy r.h r.m r.s r.ps := by
  have P : ∀ (a b : Int) (x : Dy (loD a) (hiD b)) (d1 d2 d3 d4 d5 d6 d7 d8 : Int), m_recurrence_passes std s.f s.N s.c s.u s.w d1 d2 d3 d4 d5 d6 d7 d8 x.1 s.mo s.md s.yd s.wk s.dy s.h s.m s.s s.ps = m_recurrence_passes std r.f r.N r.c r.u r.w d1 d2 d3 d4 d5 d6 d7 d8 x.1 r.mo r.md r.yd r.wk r.dy r.h r.m r.s r.ps := fun a b x d1 d2 d3 d4 d5 d6 d7 d8 => by
    have hlo : -719162 ≤ loD a := by unfold loD; split <;> omega
    have hhi : hiD b ≤ 2932897 := by unfold hiD; split <;> omega
    have := x.2
    exact h.passes (by omega) (by omega) ..
  unfold m_recurrence_place
  rw [h.times, h.days]
  cases m_recurrence_times std r.f r.N r.c r.u r.w start r.mo r.md r.yd r.wk r.dy r.h r.m r.s r.ps with
  | none => simp only [nB]
  | some S =>
  cases m_integer_Floor std start 86400 with
  | none => simp only [nB, Option.bind_some]
  | some f =>
  simp only [Option.bind_some]
  cases m_recurrence_dateOf std f with
  | none => simp only [nB]
  | some D =>
  obtain ⟨d1, d2, d3, d4, d5, d6, d7, d8⟩ := D
  cases m_recurrence_days std r.f r.N r.c r.u r.w l r.mo r.md r.yd r.wk r.dy r.h r.m r.s r.ps with
  | none => simp only [nB, Option.bind_some]
  | some E =>
  obtain ⟨a, b⟩ := E
  simp only [Option.bind_some]
  have e1 : (fun x : Dy (loD a) (hiD b) => (m_recurrence_passes std s.f s.N s.c s.u s.w d1 d2 d3 d4 d5 d6 d7 d8 x.1 s.mo s.md s.yd s.wk s.dy s.h s.m s.s s.ps).isSome) = fun x => (m_recurrence_passes std r.f r.N r.c r.u r.w d1 d2 d3 d4 d5 d6 d7 d8 x.1 r.mo r.md r.yd r.wk r.dy r.h r.m r.s r.ps).isSome := funext fun x => by rw [P]
  have e2 : (fun x : Dy (loD a) (hiD b) => if m_recurrence_passes std s.f s.N s.c s.u s.w d1 d2 d3 d4 d5 d6 d7 d8 x.1 s.mo s.md s.yd s.wk s.dy s.h s.m s.s s.ps = some true then cN s.f l x.1 S else 0) = fun x => if m_recurrence_passes std r.f r.N r.c r.u r.w d1 d2 d3 d4 d5 d6 d7 d8 x.1 r.mo r.md r.yd r.wk r.dy r.h r.m r.s r.ps = some true then cN r.f l x.1 S else 0 := funext fun x => by rw [P, h.f]
  have e3 : (fun x : Dy (loD a) (hiD b) => if m_recurrence_passes std s.f s.N s.c s.u s.w d1 d2 d3 d4 d5 d6 d7 d8 x.1 s.mo s.md s.yd s.wk s.dy s.h s.m s.s s.ps = some true then cO s.f l x.1 S else 0) = fun x => if m_recurrence_passes std r.f r.N r.c r.u r.w d1 d2 d3 d4 d5 d6 d7 d8 x.1 r.mo r.md r.yd r.wk r.dy r.h r.m r.s r.ps = some true then cO r.f l x.1 S else 0 := funext fun x => by rw [P, h.f]
  rw [e1, e2, e3]
/-- rules with the same elements match alike -/
theorem Sim.Matches (start l : Int) : ∃ b e, m_recurrence_Matches std s.f s.N s.c s.u s.w start l s.mo s.md s.yd s.wk s.dy s.h s.m s.s s.ps = some (b, e) ∧ m_recurrence_Matches std r.f r.N r.c r.u r.w start l r.mo r.md r.yd r.wk r.dy r.h r.m r.s r.ps = some (b, e) := by
  have hvv := h.vld
  cases hg : (vldB r && locB start) with
  | false => exact ⟨_, _, p_Matches_bad (by rw [hvv]; exact hg), p_Matches_bad hg⟩
  | true =>
  cases hl : locB l with
  | false => exact ⟨_, _, p_Matches_far (by rw [hvv]; exact hg) hl, p_Matches_far hg hl⟩
  | true =>
  obtain ⟨hb, hs⟩ := (Bool.and_eq_true_iff.1 hg)
  have hv := Go.Proofs.Ytmnhfaaaaejpaaa.R.vld hb
  have bs := locB_iff.1 hs
  have bl := locB_iff.1 hl
  obtain ⟨n, en, _, _, bn⟩ := p_number hb hl
  obtain ⟨n0, e0, _, _, bn0⟩ := p_number hb hs
  obtain ⟨S, eS, lS, _⟩ := t_times hv bs.1 bs.2
  obtain ⟨c, eC⟩ := t_contains (l % 86400) (l := S) (by omega)
  obtain ⟨y, m, d, p, q, u, v, hd⟩ := t_dateOf (day := start / 86400) (by omega) (by omega)
  obtain ⟨pb, eP⟩ := t_passes hv (x := l / 86400) (d1 := y) (d2 := m) (d3 := d) (d4 := start / 86400) (d5 := p) (d6 := q) (d7 := u) (d8 := v) (by omega) (by omega) (by omega) (by omega)
  obtain ⟨pn, po, epl, bpn, bpo⟩ := t_place hv bs.1 bs.2 bl.1 bl.2
  obtain ⟨cb, ecb⟩ := t_counted (n := pn) (o := po) (l := r.ps) (by omega) (by omega) (by have := hv.ps; omega)
  refine ⟨_, _, ?_, p_Matches hb hs hl en e0 bn bn0 eS eC hd.e eP epl ecb⟩
  rw [p_Matches (r := s) (by rw [hvv]; exact hb) hs hl (by rw [h.number]; exact en) (by rw [h.number]; exact e0) bn bn0 (by rw [h.times]; exact eS) eC hd.e (by rw [h.passes (by omega) (by omega)]; exact eP) (by rw [h.place]; exact epl) (by rw [h.ps.counted]; exact ecb), h.u, h.N]
  simp only [h.ps.ss.nil]
end
end Go.Proofs.Ytmnhfaaaaejpaaa.R
namespace Go.Proofs.Ytmnhfaaaaejpaaa.R
open Go.RowKit Go.Proofs.Ytmnhfaaaaejpaaa
set_option maxRecDepth 100000

theorem swap_ss {α : Type} {l : List α} {d : α} {i j : Nat} (hi : i < l.length) (hj : j < l.length) : Ss ((l.set i (l.getD j d)).set j (l.getD i d)) l := by
  have gi : l.getD i d = l[i] := by simp [List.getD_eq_getElem?_getD, hi]
  have gj : l.getD j d = l[j] := by simp [List.getD_eq_getElem?_getD, hj]
  rw [gi, gj]
  intro x
  constructor
  · intro hx
    rcases List.mem_or_eq_of_mem_set hx with hx | rfl
    · rcases List.mem_or_eq_of_mem_set hx with hx | rfl
      · exact hx
      · exact List.getElem_mem _
    · exact List.getElem_mem _
  · intro hx
    obtain ⟨k, hk, rfl⟩ := List.getElem_of_mem hx
    by_cases c1 : k = j
    · subst c1
      by_cases c2 : i = k
      · subst c2
        exact List.mem_iff_getElem.2 ⟨i, by simpa using hk, by simp⟩
      · exact List.mem_iff_getElem.2 ⟨i, by simpa using hi, by simp [Ne.symm c2]⟩
    · by_cases c2 : k = i
      · subst c2
        exact List.mem_iff_getElem.2 ⟨j, by simpa using hj, by simp⟩
      · exact List.mem_iff_getElem.2 ⟨k, by simpa using hk, by simp [Ne.symm c1, Ne.symm c2]⟩
theorem p_law29_RecurrenceOrder_L1 (l : List (Int × Int)) (hl : l.length ≤ 1000000) : ∃ r, loop (m_law29_RecurrenceOrder_L1 std) (0, ((l.length : Nat) : Int) - 1, l) = some r ∧ r.length = l.length ∧ Ss r l := by
  refine loop_is (B := m_law29_RecurrenceOrder_L1 std) (fun s => ∃ a : Nat, s.1 = (a : Int) ∧ (a : Int) ≤ (l.length : Int) ∧ s.2.1 = (l.length : Int) - 1 - (a : Int) ∧ s.2.2.length = l.length ∧ Ss s.2.2 l) (fun s => (s.2.1 - s.1).toNat) (fun r => r.length = l.length ∧ Ss r l) ⟨0, rfl, by omega, by simp, rfl, fun x => Iff.rfl⟩ (by show ((l.length : Int) - 1 - 0).toNat < _; omega) (fun s hs => ?_)
  obtain ⟨s1, s2, q⟩ := s
  obtain ⟨a, h1, h2, h3, h4, h5⟩ := hs
  simp only [] at h1 h3 h4 h5
  subst h1
  subst h3
  rw [m_law29_RecurrenceOrder_L1_eq]
  by_cases c : (a : Int) < (l.length : Int) - 1 - (a : Int)
  · obtain ⟨b, hb⟩ : ∃ b : Nat, (l.length : Int) - 1 - (a : Int) = (b : Int) := ⟨l.length - 1 - a, by omega⟩
    rw [hb] at c ⊢
    refine ⟨.inl ((a : Int) + 1, (b : Int) - 1, (q.set a (q.getD b (0, 0))).set b (q.getD a (0, 0))), bT (dT c) (gX (by omega) (gK (by omega) (gX (by omega) (gK (by omega) (gX (by rw [List.length_set]; omega) (gK (by rw [List.length_set]; omega) (gI (by omega) (gI (by omega) rfl)))))))), ⟨a + 1, rfl, by omega, by simp only []; omega, by simp only [List.length_set]; exact h4, fun x => (swap_ss (by omega) (by omega) x).trans (h5 x)⟩, ?_⟩
    show ((b : Int) - 1 - ((a : Int) + 1)).toNat < ((b : Int) - (a : Int)).toNat
    omega
  · exact ⟨.inr q, bF (dF c) rfl, h4, h5⟩
theorem p_law29_RecurrenceOrder_1_L1 (l : List Int) (hl : l.length ≤ 1000000) : ∃ r, loop (m_law29_RecurrenceOrder_1_L1 std) (0, ((l.length : Nat) : Int) - 1, l) = some r ∧ r.length = l.length ∧ Ss r l := by
  refine loop_is (B := m_law29_RecurrenceOrder_1_L1 std) (fun s => ∃ a : Nat, s.1 = (a : Int) ∧ (a : Int) ≤ (l.length : Int) ∧ s.2.1 = (l.length : Int) - 1 - (a : Int) ∧ s.2.2.length = l.length ∧ Ss s.2.2 l) (fun s => (s.2.1 - s.1).toNat) (fun r => r.length = l.length ∧ Ss r l) ⟨0, rfl, by omega, by simp, rfl, fun x => Iff.rfl⟩ (by show ((l.length : Int) - 1 - 0).toNat < _; omega) (fun s hs => ?_)
  obtain ⟨s1, s2, q⟩ := s
  obtain ⟨a, h1, h2, h3, h4, h5⟩ := hs
  simp only [] at h1 h3 h4 h5
  subst h1
  subst h3
  rw [m_law29_RecurrenceOrder_1_L1_eq]
  by_cases c : (a : Int) < (l.length : Int) - 1 - (a : Int)
  · obtain ⟨b, hb⟩ : ∃ b : Nat, (l.length : Int) - 1 - (a : Int) = (b : Int) := ⟨l.length - 1 - a, by omega⟩
    rw [hb] at c ⊢
    refine ⟨.inl ((a : Int) + 1, (b : Int) - 1, (q.set a (q.getD b 0)).set b (q.getD a 0)), bT (dT c) (gX (by omega) (gK (by omega) (gX (by omega) (gK (by omega) (gX (by rw [List.length_set]; omega) (gK (by rw [List.length_set]; omega) (gI (by omega) (gI (by omega) rfl)))))))), ⟨a + 1, rfl, by omega, by simp only []; omega, by simp only [List.length_set]; exact h4, fun x => (swap_ss (by omega) (by omega) x).trans (h5 x)⟩, ?_⟩
    show ((b : Int) - 1 - ((a : Int) + 1)).toNat < ((b : Int) - (a : Int)).toNat
    omega
  · exact ⟨.inr q, bF (dF c) rfl, h4, h5⟩
theorem p_turn (l : List Int) (hl : l.length ≤ 25) : ∃ r, m_law29_RecurrenceOrder_1 std l = some r ∧ Sl r l := by
  obtain ⟨r, e, h1, h2⟩ := p_law29_RecurrenceOrder_1_L1 (l ++ l) (by rw [List.length_append]; omega)
  rw [List.length_append] at h1
  refine ⟨r, ?_, ⟨fun x => (h2 x).trans (by rw [List.mem_append, or_self]), by omega, by omega⟩⟩
  rw [m_law29_RecurrenceOrder_1_eq]
  exact bB (v := l) (by rw [m_clone_i1_eq]; exact gR (by omega) rfl) (gR (by omega) (gR (by omega) (gI (by rw [List.length_append]; omega) (bB e rfl))))
theorem Sim.same {s r : Rec} (h : Sim s r) : canB r s = true := by
  unfold canB
  have o : ordL r.dy = ordL s.dy := or_uniq (ordL_ok _).1 (ordL_ok _).1 fun x => ((ordL_ok _).2 x).trans ((h.dy.ss x).symm.trans ((ordL_ok _).2 x).symm)
  rw [h.f, h.N, h.c, h.u, h.w, o, setL_ss h.mo.ss, setL_ss h.md.ss, setL_ss h.yd.ss, setL_ss h.wk.ss, setL_ss h.ho.ss, setL_ss h.mi.ss, setL_ss h.se.ss, setL_ss h.ps.ss]
  simp
theorem max9 {a b c d e f g h i : Int} (H : ¬ 25 < ma (ma (ma (ma (ma (ma (ma (ma a b) c) d) e) f) g) h) i) : a ≤ 25 ∧ b ≤ 25 ∧ c ≤ 25 ∧ d ≤ 25 ∧ e ≤ 25 ∧ f ≤ 25 ∧ g ≤ 25 ∧ h ≤ 25 ∧ i ≤ 25 := by
  have key : ∀ x y : Int, x ≤ ma x y ∧ y ≤ ma x y := fun x y => by unfold ma; split <;> omega
  have k1 := key a b
  have k2 := key (ma a b) c
  have k3 := key (ma (ma a b) c) d
  have k4 := key (ma (ma (ma a b) c) d) e
  have k5 := key (ma (ma (ma (ma a b) c) d) e) f
  have k6 := key (ma (ma (ma (ma (ma a b) c) d) e) f) g
  have k7 := key (ma (ma (ma (ma (ma (ma a b) c) d) e) f) g) h
  have k8 := key (ma (ma (ma (ma (ma (ma (ma a b) c) d) e) f) g) h) i
  omega
theorem pl_RecurrenceOrder (r : Rec) (start l : Int) : m_law29_RecurrenceOrder std r.f r.N r.c r.u r.w start l r.mo r.md r.yd r.wk r.dy r.h r.m r.s r.ps = some true := by
  rw [m_law29_RecurrenceOrder_eq]
  obtain ⟨lg, hlg⟩ := p_long r
  obtain ⟨M, hM⟩ : ∃ M, M = ma (ma (ma (ma (ma (ma (ma (ma (((List.length r.mo) : Nat) : Int) (((List.length r.md) : Nat) : Int)) (((List.length r.yd) : Nat) : Int)) (((List.length r.wk) : Nat) : Int)) (((List.length r.dy) : Nat) : Int)) (((List.length r.h) : Nat) : Int)) (((List.length r.m) : Nat) : Int)) (((List.length r.s) : Nat) : Int)) (((List.length r.ps) : Nat) : Int) := ⟨_, rfl⟩
  rw [← hM]
  cases lg with
  | true => exact bB (v := true) (bB q_awake (bF rfl (bB hlg (bT rfl rfl)))) (bT rfl (bB q_awake rfl))
  | false =>
  by_cases c : 25 < M
  · exact bB (v := true) (bB q_awake (bF rfl (bB hlg (bF rfl (congrArg some (dT c)))))) (bT rfl (bB q_awake rfl))
  refine bB (v := false) (bB q_awake (bF rfl (bB hlg (bF rfl (congrArg some (dF c)))))) (bF rfl ?_)
  rw [hM] at c
  obtain ⟨c1, c2, c3, c4, c5, c6, c7, c8, c9⟩ := max9 c
  obtain ⟨l1, e1, s1⟩ := p_turn r.mo (by omega)
  obtain ⟨l2, e2, s2⟩ := p_turn r.md (by omega)
  obtain ⟨l3, e3, s3⟩ := p_turn r.yd (by omega)
  obtain ⟨l4, e4, s4⟩ := p_turn r.wk (by omega)
  obtain ⟨l5, e5, s5⟩ := p_turn r.h (by omega)
  obtain ⟨l6, e6, s6⟩ := p_turn r.m (by omega)
  obtain ⟨l7, e7, s7⟩ := p_turn r.s (by omega)
  obtain ⟨l8, e8, s8⟩ := p_turn r.ps (by omega)
  obtain ⟨l9, e9, h1, h2⟩ := p_law29_RecurrenceOrder_L1 (r.dy ++ r.dy) (by rw [List.length_append]; omega)
  have s9 : Sl l9 r.dy := by
    rw [List.length_append] at h1
    exact ⟨fun x => (h2 x).trans (by rw [List.mem_append, or_self]), by omega, by omega⟩
  have hs : Sim ⟨r.f, r.N, r.c, r.u, r.w, l1, l2, l3, l4, l9, l5, l6, l7, l8⟩ r := ⟨rfl, rfl, rfl, rfl, rfl, s1, s2, s3, s4, s9, s5, s6, s7, s8⟩
  obtain ⟨b, e, m1, m2⟩ := hs.Matches start l
  refine bB e1 (bB e2 (bB e3 (bB e4 (bB e5 (bB e6 (bB e7 (bB e8 (bB (v := r.dy) (by rw [m_clone_i2_eq]; exact gR (by omega) rfl) (gR (by omega) (gR (by omega) (gI (by rw [List.length_append]; omega) (bB e9 (bB m2 (bB m1 ?_))))))))))))))
  refine bB (v := true) (bT (by rw [beq_self_eq_true]) (bT (by rw [beq_self_eq_true]) (bB (p_Equal r ⟨r.f, r.N, r.c, r.u, r.w, l1, l2, l3, l4, l9, l5, l6, l7, l8⟩) (bB (p_Valid r) ?_)))) rfl
  rw [hs.vld, hs.same]
  cases vldB r <;> rfl
end Go.Proofs.Ytmnhfaaaaejpaaa.R
