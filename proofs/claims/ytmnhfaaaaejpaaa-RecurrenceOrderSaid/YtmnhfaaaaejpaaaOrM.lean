/-
  Ordinals: slices.SortFunc by weekday and number, slices.Compact: models, and what they say. No program here.
  Models of functions (printed by lift.py).
-/
import Derived.Test.YtmnhfaaaaejpaaaPcM
namespace Go.Proofs.Ytmnhfaaaaejpaaa
open Go.RowKit

/-- before: by the weekday, then by the number -/
def OrLt (x y : Int × Int) : Prop := x.2 < y.2 ∨ (x.2 = y.2 ∧ x.1 < y.1)
def OrLe (x y : Int × Int) : Prop := x.2 < y.2 ∨ (x.2 = y.2 ∧ x.1 ≤ y.1)
instance (x y : Int × Int) : Decidable (OrLt x y) := by unfold OrLt; infer_instance
def ltOr (x y : Int × Int) : Bool := decide (OrLt x y)
def cfOr (x y : Int × Int) : Int := if x.2 < y.2 then -1 else if y.2 < x.2 then 1 else if x.1 < y.1 then -1 else if y.1 < x.1 then 1 else 0
theorem ltOr_of : Sort.SWO ltOr where
  irrefl x := by simp [ltOr, OrLt]
  trans x y z h1 h2 := by
    have g1 : OrLt x y := of_decide_eq_true h1
    have g2 : OrLt y z := of_decide_eq_true h2
    exact decide_eq_true (by unfold OrLt at *; omega)
  ntrans x y z h1 h2 := by
    have g1 : ¬ OrLt x y := of_decide_eq_false h1
    have g2 : ¬ OrLt y z := of_decide_eq_false h2
    exact decide_eq_false (by unfold OrLt at *; omega)
def sortOr (l : List (Int × Int)) : List (Int × Int) := (Sort.pdq ltOr l.toArray 0 l.toArray.size (Lib.bitLen l.toArray.size) true true).toList
def m_sortOr (_O : Ops) (l : List (Int × Int)) : Option (List (Int × Int)) := grd (okRoom l.length) <| some (sortOr l)
theorem m_sortOr_eq (l : List (Int × Int)) : m_sortOr std l = ((grd (okRoom l.length) <| some (sortOr l)) : Option (List (Int × Int))) := rfl
theorem sortOr_spec (l : List (Int × Int)) : (sortOr l).Perm l ∧ (sortOr l).Pairwise OrLe := by
  obtain ⟨⟨h1, _, h3⟩, h4⟩ := Sort.pdq_sorts ltOr ltOr_of l.toArray 0 l.toArray.size (Lib.bitLen l.toArray.size) true true (Nat.zero_le _) (Nat.le_refl _) (Or.inl rfl)
  have hsz : (sortOr l).length = l.length := by simpa [sortOr] using h1
  refine ⟨?_, ?_⟩
  · have hex : ∀ (D : Array (Int × Int)) (n : Nat), D.size = n → (D.extract 0 n).toList = D.toList := fun D n h => by subst h; rw [Array.extract_size]
    have e1 := hex _ _ h1
    have e2 := hex l.toArray _ rfl
    rw [e1, e2] at h3
    exact h3
  · refine List.pairwise_iff_getElem.2 fun i j hi hj hij => ?_
    have := h4 i j (Nat.zero_le _) hij (by simpa using (by omega : j < l.length))
    have g : ∀ k (hk : k < (sortOr l).length), (Sort.pdq ltOr l.toArray 0 l.toArray.size (Lib.bitLen l.toArray.size) true true)[k]! = (sortOr l)[k] := fun k hk => by
      rw [getElem!_pos _ k (by simpa [sortOr] using hk)]; rfl
    rw [g j hj, g i hi] at this
    have h5 : ¬ OrLt (sortOr l)[j] (sortOr l)[i] := of_decide_eq_false this
    unfold OrLt at h5
    unfold OrLe
    omega
theorem sortOr_len (l : List (Int × Int)) : (sortOr l).length = l.length := (sortOr_spec l).1.length_eq
def m_compOr (_O : Ops) (l : List (Int × Int)) : Option (List (Int × Int)) := grd (okRoom l.length) <| some (Lib.compact l)
theorem m_compOr_eq (l : List (Int × Int)) : m_compOr std l = ((grd (okRoom l.length) <| some (Lib.compact l)) : Option (List (Int × Int))) := rfl
theorem compOrUp_le (d : Array (Int × Int)) : ∀ m, (Lib.compactUpTo d m).length ≤ m := by
  intro m
  induction m with
  | zero => simp [Lib.compactUpTo]
  | succ m ih =>
    rw [Lib.compactUpTo_succ, List.length_append]
    split <;> simp <;> omega
theorem compOr_len (l : List (Int × Int)) : (Lib.compact l).length ≤ l.length := compOrUp_le _ _
theorem OrLt.to {x y z : Int × Int} (h : OrLe x y) (h2 : OrLe y z) (hne : y ≠ z) : OrLt x z := by
  obtain ⟨x1, x2⟩ := x
  obtain ⟨y1, y2⟩ := y
  obtain ⟨z1, z2⟩ := z
  have : ¬ (y1 = z1 ∧ y2 = z2) := fun ⟨e1, e2⟩ => hne (by rw [e1, e2])
  unfold OrLe at *
  unfold OrLt
  simp only at *
  omega
theorem OrLe.refl (x : Int × Int) : OrLe x x := .inr ⟨rfl, Int.le_refl _⟩
theorem OrLe.trans {x y z : Int × Int} (h : OrLe x y) (h2 : OrLe y z) : OrLe x z := by unfold OrLe at *; omega
theorem compOrUp_ok (d : Array (Int × Int)) (hs : ∀ j, j + 1 < d.size → OrLe d[j]! d[j + 1]!) : ∀ m, m + 1 ≤ d.size → (∃ u, Lib.compactUpTo d (m + 1) = u ++ [d[m]!]) ∧ (Lib.compactUpTo d (m + 1)).Pairwise OrLt ∧ (∀ x, x ∈ Lib.compactUpTo d (m + 1) ↔ ∃ j, j ≤ m ∧ d[j]! = x) ∧ ∀ x ∈ Lib.compactUpTo d (m + 1), OrLe x d[m]! := by
  intro m
  induction m with
  | zero =>
    intro _
    have e : Lib.compactUpTo d 1 = [d[0]!] := by simp [Lib.compactUpTo, List.range_succ, Lib.keeps]
    rw [e]
    refine ⟨⟨[], rfl⟩, List.pairwise_singleton _ _, fun x => ?_, fun x hx => ?_⟩
    · constructor
      · intro hx; exact ⟨0, Nat.le_refl _, (List.mem_singleton.1 hx).symm⟩
      · rintro ⟨j, hj, rfl⟩
        have : j = 0 := by omega
        subst this; exact List.mem_singleton.2 rfl
    · rw [List.mem_singleton.1 hx]; exact OrLe.refl _
  | succ m ih =>
    intro hm
    obtain ⟨⟨u, hu⟩, h1, h2, h3⟩ := ih (by omega)
    have hle := hs m (by omega)
    rw [Lib.compactUpTo_succ]
    by_cases hk : d[m + 1]! = d[m]!
    · have : Lib.keeps d (m + 1) = false := Lib.keeps_neg (by omega) (by simpa using hk)
      rw [this]
      simp only [Bool.false_eq_true, if_false, List.append_nil]
      refine ⟨⟨u, by rw [hk]; exact hu⟩, h1, fun x => ?_, fun x hx => by rw [hk]; exact h3 x hx⟩
      rw [h2]
      constructor
      · rintro ⟨j, hj, e⟩; exact ⟨j, by omega, e⟩
      · rintro ⟨j, hj, e⟩
        rcases Nat.lt_or_ge m j with h | h
        · have : j = m + 1 := by omega
          subst this
          exact ⟨m, Nat.le_refl _, by rw [← hk]; exact e⟩
        · exact ⟨j, h, e⟩
    · have : Lib.keeps d (m + 1) = true := Lib.keeps_pos (by simpa using hk)
      rw [this]
      simp only [if_true]
      refine ⟨⟨_, rfl⟩, List.pairwise_append.2 ⟨h1, List.pairwise_singleton _ _, fun x hx y hy => ?_⟩, fun x => ?_, fun x hx => ?_⟩
      · rw [List.mem_singleton.1 hy]
        exact OrLt.to (h3 x hx) hle (fun e => hk e.symm)
      · rw [List.mem_append, h2, List.mem_singleton]
        constructor
        · rintro (⟨j, hj, e⟩ | e)
          · exact ⟨j, by omega, e⟩
          · exact ⟨m + 1, Nat.le_refl _, e.symm⟩
        · rintro ⟨j, hj, e⟩
          rcases Nat.lt_or_ge m j with h | h
          · have : j = m + 1 := by omega
            subst this; exact .inr e.symm
          · exact .inl ⟨j, h, e⟩
      · rcases List.mem_append.1 hx with h | h
        · exact (h3 x h).trans hle
        · rw [List.mem_singleton.1 h]; exact OrLe.refl _
/-- an ascending list, each element once -/
theorem compOr_ok {l : List (Int × Int)} (h : l.Pairwise OrLe) : (Lib.compact l).Pairwise OrLt ∧ ∀ x, x ∈ Lib.compact l ↔ x ∈ l := by
  have hg : ∀ j, j < l.length → l.toArray[j]! = l.getD j (0, 0) := fun j hj => by
    rw [getElem!_pos l.toArray j (by simpa using hj)]
    simp [List.getD_eq_getElem?_getD, hj]
  cases hn : l.length with
  | zero =>
    have : l = [] := List.eq_nil_of_length_eq_zero hn
    subst this
    simp [Lib.compact, Lib.compactUpTo]
  | succ n =>
    have hs : ∀ j, j + 1 < l.toArray.size → OrLe l.toArray[j]! l.toArray[j + 1]! := fun j hj => by
      have hj' : j + 1 < l.length := by simpa using hj
      rw [hg j (by omega), hg (j + 1) hj']
      have := List.pairwise_iff_getElem.1 h j (j + 1) (by omega) hj' (by omega)
      simpa [List.getD_eq_getElem?_getD, hj', show j < l.length by omega] using this
    obtain ⟨_, h1, h2, _⟩ := compOrUp_ok l.toArray hs n (by simp [hn])
    unfold Lib.compact
    rw [hn]
    refine ⟨h1, fun x => ?_⟩
    rw [h2]
    constructor
    · rintro ⟨j, hj, e⟩
      rw [hg j (by omega)] at e
      rw [← e, List.getD_eq_getElem?_getD, List.getElem?_eq_getElem (by omega : j < l.length)]
      exact List.getElem_mem _
    · intro hx
      obtain ⟨j, hj, e⟩ := List.getElem_of_mem hx
      refine ⟨j, by omega, ?_⟩
      rw [hg j hj, List.getD_eq_getElem?_getD, List.getElem?_eq_getElem hj]
      exact e
end Go.Proofs.Ytmnhfaaaaejpaaa
namespace Go.Proofs.Ytmnhfaaaaejpaaa.R
open Go.RowKit Go.Proofs.Ytmnhfaaaaejpaaa
set_option maxRecDepth 100000

def m_law29_RecurrenceOrder_1_L1 (O : Ops) : (Int × Int × List Int) → Option ((Int × Int × List Int) ⊕ (List Int)) := fun (i2, j2, l29) =>
  bif (O .lt i2 j2) then
    grd (okIdx j2 ((O .len .i1 l29))) <|
    grd (okKin ((O .toNat j2)) ((O .len .i1 l29))) <|
    grd (okIdx i2 ((O .len .i1 l29))) <|
    grd (okKin ((O .toNat i2)) ((O .len .i1 l29))) <|
    grd (okIdx j2 ((O .len .i1 (O .put .i1 l29 (O .toNat i2) (O .get .i1 l29 (O .toNat j2)))))) <|
    grd (okKin ((O .toNat j2)) ((O .len .i1 (O .put .i1 l29 (O .toNat i2) (O .get .i1 l29 (O .toNat j2)))))) <|
    grd (okI .i64 ((O .add i2 1))) <|
    grd (okI .i64 ((O .sub j2 1))) <|
    (some (Sum.inl ((O .add i2 1), (O .sub j2 1), (O .put .i1 (O .put .i1 l29 (O .toNat i2) (O .get .i1 l29 (O .toNat j2))) (O .toNat j2) (O .get .i1 l29 (O .toNat i2))))))
  else
    (some (Sum.inr l29))
def m_law29_RecurrenceOrder_1 (O : Ops) (l_1 : List Int) : Option (List Int) :=
  Option.bind (m_clone_i1 O l_1) fun l28 =>
  grd (okRoom ((O .len .i1 l28))) <|
  grd (okRoom ((O .len .i1 l_1))) <|
  grd (okI .i64 ((O .sub (O .ofNat (O .len .i1 (O .app .i1 l28 l_1))) 1))) <|
  Option.bind (loop (m_law29_RecurrenceOrder_1_L1 O) (0, (O .sub (O .ofNat (O .len .i1 (O .app .i1 l28 l_1))) 1), (O .app .i1 l28 l_1))) fun l30 =>
  (some l30)
def m_recurrence_Canonical (O : Ops) (r_1 : Int) (r_2 : Int) (r_3 : Int) (r_4 : Int) (r_5 : Int) (r_6 : List Int) (r_7 : List Int) (r_8 : List Int) (r_9 : List Int) (r_10 : List (Int × Int)) (r_11 : List Int) (r_12 : List Int) (r_13 : List Int) (r_14 : List Int) : Option (Int × Int × Int × Int × List Int × List Int × List Int × List Int × List (Int × Int) × List Int × List Int × List Int × List Int × Int × Int) :=
  Option.bind (m_recurrence_Valid O r_1 r_2 r_3 r_4 r_5 r_6 r_7 r_8 r_9 r_10 r_11 r_12 r_13 r_14) fun b43 =>
  bif (O .not b43) then
    (some (0, 0, 0, 0, ([] : List Int), ([] : List Int), ([] : List Int), ([] : List Int), ([] : List (Int × Int)), ([] : List Int), ([] : List Int), ([] : List Int), ([] : List Int), 0, 1))
  else
    Option.bind (m_recurrence_set O r_6) fun l42 =>
    grd (okI .i64 ((O .add 0 1))) <|
    Option.bind (m_recurrence_set O r_7) fun l43 =>
    grd (okI .i64 ((O .add 1 1))) <|
    Option.bind (m_recurrence_set O r_8) fun l44 =>
    grd (okI .i64 ((O .add 2 1))) <|
    Option.bind (m_recurrence_set O r_9) fun l45 =>
    grd (okI .i64 ((O .add 3 1))) <|
    Option.bind (m_recurrence_set O r_11) fun l46 =>
    grd (okI .i64 ((O .add 4 1))) <|
    Option.bind (m_recurrence_set O r_12) fun l47 =>
    grd (okI .i64 ((O .add 5 1))) <|
    Option.bind (m_recurrence_set O r_13) fun l48 =>
    grd (okI .i64 ((O .add 6 1))) <|
    Option.bind (m_recurrence_set O r_14) fun l49 =>
    grd (okI .i64 ((O .add 7 1))) <|
    Option.bind (m_clone_i2 O r_10) fun l50 =>
    Option.bind (m_sortOr O l50) fun l51 =>
    Option.bind (m_compOr O l51) fun l52 =>
    (some (r_1, r_2, r_3, r_4, l42, l43, l44, l45, l52, l46, l47, l48, l49, r_5, 0))
def m_slices_Equal_L1 (O : Ops) (s1_1 : List (Int × Int)) (s2_1 : List (Int × Int)) : (Int) → Option ((Int) ⊕ ((Unit) ⊕ (Unit))) := fun x133 =>
  bif (O .lt x133 (O .ofNat (O .len .i2 s1_1))) then
    grd (okIdx x133 ((O .len .i2 s1_1))) <|
    grd (okKin ((O .toNat x133)) ((O .len .i2 s1_1))) <|
    grd (okIdx x133 ((O .len .i2 s2_1))) <|
    grd (okKin ((O .toNat x133)) ((O .len .i2 s2_1))) <|
    bif (O .not (O .and (O .eq ((O .get .i2 s1_1 (O .toNat x133))).1 ((O .get .i2 s2_1 (O .toNat x133))).1) (O .eq ((O .get .i2 s1_1 (O .toNat x133))).2 ((O .get .i2 s2_1 (O .toNat x133))).2))) then
      (some (Sum.inr (Sum.inl ())))
    else
      grd (okI .i64 ((O .add x133 1))) <|
      (some (Sum.inl (O .add x133 1)))
  else
    (some (Sum.inr (Sum.inr ())))
def m_slices_Equal (O : Ops) (s1_1 : List (Int × Int)) (s2_1 : List (Int × Int)) : Option (Bool) :=
  bif (O .not (O .eq (O .ofNat (O .len .i2 s1_1)) (O .ofNat (O .len .i2 s2_1)))) then
    (some false)
  else
    Option.bind (loop (m_slices_Equal_L1 O s1_1 s2_1) 0) fun e => match e with
    | .inl _ =>
      (some false)
    | .inr (_) =>
      (some true)
def m_slices_Equal_2_L1 (O : Ops) (s1_1 : List Int) (s2_1 : List Int) : (Int) → Option ((Int) ⊕ ((Unit) ⊕ (Unit))) := fun x136 =>
  bif (O .lt x136 (O .ofNat (O .len .i1 s1_1))) then
    grd (okIdx x136 ((O .len .i1 s1_1))) <|
    grd (okKin ((O .toNat x136)) ((O .len .i1 s1_1))) <|
    grd (okIdx x136 ((O .len .i1 s2_1))) <|
    grd (okKin ((O .toNat x136)) ((O .len .i1 s2_1))) <|
    bif (O .not (O .eq (O .get .i1 s1_1 (O .toNat x136)) (O .get .i1 s2_1 (O .toNat x136)))) then
      (some (Sum.inr (Sum.inl ())))
    else
      grd (okI .i64 ((O .add x136 1))) <|
      (some (Sum.inl (O .add x136 1)))
  else
    (some (Sum.inr (Sum.inr ())))
def m_slices_Equal_2 (O : Ops) (s1_1 : List Int) (s2_1 : List Int) : Option (Bool) :=
  bif (O .not (O .eq (O .ofNat (O .len .i1 s1_1)) (O .ofNat (O .len .i1 s2_1)))) then
    (some false)
  else
    Option.bind (loop (m_slices_Equal_2_L1 O s1_1 s2_1) 0) fun e => match e with
    | .inl _ =>
      (some false)
    | .inr (_) =>
      (some true)
def m_recurrence_Equal_1 (O : Ops) (a_1 : List Int) (b_1 : List Int) : Option (Bool) :=
  Option.bind (m_slices_Equal_2 O a_1 b_1) fun b45 =>
  (some b45)
def m_slices_EqualFunc (O : Ops) (s1_1 : List Int) (s1_2 : List Int) (s1_3 : List Int) (s1_4 : List Int) (s1_5 : List Int) (s1_6 : List Int) (s1_7 : List Int) (s1_8 : List Int) (s2_1 : List Int) (s2_2 : List Int) (s2_3 : List Int) (s2_4 : List Int) (s2_5 : List Int) (s2_6 : List Int) (s2_7 : List Int) (s2_8 : List Int) : Option (Bool) :=
  Option.bind (m_recurrence_Equal_1 O s1_1 s2_1) fun b46 =>
  bif (O .not b46) then
    (some false)
  else
    grd (okI .i64 ((O .add 0 1))) <|
    Option.bind (m_recurrence_Equal_1 O s1_2 s2_2) fun b47 =>
    bif (O .not b47) then
      (some false)
    else
      grd (okI .i64 ((O .add 1 1))) <|
      Option.bind (m_recurrence_Equal_1 O s1_3 s2_3) fun b48 =>
      bif (O .not b48) then
        (some false)
      else
        grd (okI .i64 ((O .add 2 1))) <|
        Option.bind (m_recurrence_Equal_1 O s1_4 s2_4) fun b49 =>
        bif (O .not b49) then
          (some false)
        else
          grd (okI .i64 ((O .add 3 1))) <|
          Option.bind (m_recurrence_Equal_1 O s1_5 s2_5) fun b50 =>
          bif (O .not b50) then
            (some false)
          else
            grd (okI .i64 ((O .add 4 1))) <|
            Option.bind (m_recurrence_Equal_1 O s1_6 s2_6) fun b51 =>
            bif (O .not b51) then
              (some false)
            else
              grd (okI .i64 ((O .add 5 1))) <|
              Option.bind (m_recurrence_Equal_1 O s1_7 s2_7) fun b52 =>
              bif (O .not b52) then
                (some false)
              else
                grd (okI .i64 ((O .add 6 1))) <|
                Option.bind (m_recurrence_Equal_1 O s1_8 s2_8) fun b53 =>
                bif (O .not b53) then
                  (some false)
                else
                  grd (okI .i64 ((O .add 7 1))) <|
                  (some true)
def m_recurrence_Equal (O : Ops) (a_1 : Int) (a_2 : Int) (a_3 : Int) (a_4 : Int) (a_5 : Int) (b_1 : Int) (b_2 : Int) (b_3 : Int) (b_4 : Int) (b_5 : Int) (a_6 : List Int) (a_7 : List Int) (a_8 : List Int) (a_9 : List Int) (a_10 : List (Int × Int)) (a_11 : List Int) (a_12 : List Int) (a_13 : List Int) (a_14 : List Int) (b_6 : List Int) (b_7 : List Int) (b_8 : List Int) (b_9 : List Int) (b_10 : List (Int × Int)) (b_11 : List Int) (b_12 : List Int) (b_13 : List Int) (b_14 : List Int) : Option (Bool) :=
  Option.bind (m_recurrence_Canonical O a_1 a_2 a_3 a_4 a_5 a_6 a_7 a_8 a_9 a_10 a_11 a_12 a_13 a_14) fun (n85, n86, n87, n88, l53, l54, l55, l56, l57, l58, l59, l60, l61, n89, n90) =>
  Option.bind (m_recurrence_Canonical O b_1 b_2 b_3 b_4 b_5 b_6 b_7 b_8 b_9 b_10 b_11 b_12 b_13 b_14) fun (n91, n92, n93, n94, l62, l63, l64, l65, l66, l67, l68, l69, l70, n95, n96) =>
  Option.bind (
    bif (O .not (O .eq n90 0)) then
      (some true)
    else
      bif (O .not (O .eq n96 0)) then
        (some true)
      else
        bif (O .not (O .eq n85 n91)) then
          (some true)
        else
          bif (O .not (O .eq n86 n92)) then
            (some true)
          else
            bif (O .not (O .eq n87 n93)) then
              (some true)
            else
              bif (O .not (O .eq n88 n94)) then
                (some true)
              else
                bif (O .not (O .eq n89 n95)) then
                  (some true)
                else
                  Option.bind (m_slices_Equal O l57 l66) fun b44 =>
                  (some (O .not b44)) : Option ((Bool))) fun x135 =>
  bif x135 then
    (some false)
  else
    Option.bind (m_slices_EqualFunc O l53 l54 l55 l56 l58 l59 l60 l61 l62 l63 l64 l65 l67 l68 l69 l70) fun b54 =>
    (some b54)
def m_law29_RecurrenceOrder_L1 (O : Ops) : (Int × Int × List (Int × Int)) → Option ((Int × Int × List (Int × Int)) ⊕ (List (Int × Int))) := fun (i4, j4, l40) =>
  bif (O .lt i4 j4) then
    grd (okIdx j4 ((O .len .i2 l40))) <|
    grd (okKin ((O .toNat j4)) ((O .len .i2 l40))) <|
    grd (okIdx i4 ((O .len .i2 l40))) <|
    grd (okKin ((O .toNat i4)) ((O .len .i2 l40))) <|
    grd (okIdx j4 ((O .len .i2 (O .put .i2 l40 (O .toNat i4) (((O .get .i2 l40 (O .toNat j4))).1, ((O .get .i2 l40 (O .toNat j4))).2))))) <|
    grd (okKin ((O .toNat j4)) ((O .len .i2 (O .put .i2 l40 (O .toNat i4) (((O .get .i2 l40 (O .toNat j4))).1, ((O .get .i2 l40 (O .toNat j4))).2))))) <|
    grd (okI .i64 ((O .add i4 1))) <|
    grd (okI .i64 ((O .sub j4 1))) <|
    (some (Sum.inl ((O .add i4 1), (O .sub j4 1), (O .put .i2 (O .put .i2 l40 (O .toNat i4) (((O .get .i2 l40 (O .toNat j4))).1, ((O .get .i2 l40 (O .toNat j4))).2)) (O .toNat j4) (((O .get .i2 l40 (O .toNat i4))).1, ((O .get .i2 l40 (O .toNat i4))).2)))))
  else
    (some (Sum.inr l40))
def m_law29_RecurrenceOrder (O : Ops) (r_1 : Int) (r_2 : Int) (r_3 : Int) (r_4 : Int) (r_5 : Int) (start_1 : Int) (l_1 : Int) (r_6 : List Int) (r_7 : List Int) (r_8 : List Int) (r_9 : List Int) (r_10 : List (Int × Int)) (r_11 : List Int) (r_12 : List Int) (r_13 : List Int) (r_14 : List Int) : Option (Bool) :=
  Option.bind (
    Option.bind (m_law29_awake O) fun b38 =>
    bif (O .not b38) then
      (some true)
    else
      Option.bind (m_law29_long O r_1 r_2 r_3 r_4 r_5 r_6 r_7 r_8 r_9 r_10 r_11 r_12 r_13 r_14) fun b39 =>
      bif b39 then
        (some true)
      else
        (some (O .lt 25 (O .max (O .max (O .max (O .max (O .max (O .max (O .max (O .max (O .ofNat (O .len .i1 r_6)) (O .ofNat (O .len .i1 r_7))) (O .ofNat (O .len .i1 r_8))) (O .ofNat (O .len .i1 r_9))) (O .ofNat (O .len .i2 r_10))) (O .ofNat (O .len .i1 r_11))) (O .ofNat (O .len .i1 r_12))) (O .ofNat (O .len .i1 r_13))) (O .ofNat (O .len .i1 r_14))))) : Option ((Bool))) fun x132 =>
  bif x132 then
    Option.bind (m_law29_awake O) fun b40 =>
    (some b40)
  else
    Option.bind (m_law29_RecurrenceOrder_1 O r_6) fun l31 =>
    Option.bind (m_law29_RecurrenceOrder_1 O r_7) fun l32 =>
    Option.bind (m_law29_RecurrenceOrder_1 O r_8) fun l33 =>
    Option.bind (m_law29_RecurrenceOrder_1 O r_9) fun l34 =>
    Option.bind (m_law29_RecurrenceOrder_1 O r_11) fun l35 =>
    Option.bind (m_law29_RecurrenceOrder_1 O r_12) fun l36 =>
    Option.bind (m_law29_RecurrenceOrder_1 O r_13) fun l37 =>
    Option.bind (m_law29_RecurrenceOrder_1 O r_14) fun l38 =>
    Option.bind (m_clone_i2 O r_10) fun l39 =>
    grd (okRoom ((O .len .i2 l39))) <|
    grd (okRoom ((O .len .i2 r_10))) <|
    grd (okI .i64 ((O .sub (O .ofNat (O .len .i2 (O .app .i2 l39 r_10))) 1))) <|
    Option.bind (loop (m_law29_RecurrenceOrder_L1 O) (0, (O .sub (O .ofNat (O .len .i2 (O .app .i2 l39 r_10))) 1), (O .app .i2 l39 r_10))) fun l41 =>
    Option.bind (m_recurrence_Matches O r_1 r_2 r_3 r_4 r_5 start_1 l_1 r_6 r_7 r_8 r_9 r_10 r_11 r_12 r_13 r_14) fun (b41, n83) =>
    Option.bind (m_recurrence_Matches O r_1 r_2 r_3 r_4 r_5 start_1 l_1 l31 l32 l33 l34 l41 l35 l36 l37 l38) fun (b42, n84) =>
    Option.bind (
      bif (O .beq b41 b42) then
        bif (O .eq n83 n84) then
          Option.bind (m_recurrence_Equal O r_1 r_2 r_3 r_4 r_5 r_1 r_2 r_3 r_4 r_5 r_6 r_7 r_8 r_9 r_10 r_11 r_12 r_13 r_14 l31 l32 l33 l34 l41 l35 l36 l37 l38) fun b55 =>
          Option.bind (m_recurrence_Valid O r_1 r_2 r_3 r_4 r_5 r_6 r_7 r_8 r_9 r_10 r_11 r_12 r_13 r_14) fun b56 =>
          (some (O .beq b55 b56))
        else
          (some false)
      else
        (some false) : Option ((Bool))) fun x139 =>
    (some x139)
end Go.Proofs.Ytmnhfaaaaejpaaa.R
