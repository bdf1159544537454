/-
  Ordinals: slices.SortFunc by weekday and number, slices.Compact: models, and what they say. No program here.
-/
import Derived.Test.YtmnhfaaaaejpaaaGreatYPlM
namespace Go.Proofs.YtmnhfaaaaejpaaaGreat
open Go.RowKit

/-- before: by the weekday, then by the number -/
def OrLt (x y : Int × Int) : Prop := x.2 < y.2 ∨ (x.2 = y.2 ∧ x.1 < y.1)
def OrLe (x y : Int × Int) : Prop := x.2 < y.2 ∨ (x.2 = y.2 ∧ x.1 ≤ y.1)
instance (x y : Int × Int) : Decidable (OrLt x y) := by unfold OrLt; infer_instance
def ltOr (x y : Int × Int) : Bool := decide (OrLt x y)
def cfOr (x y : Int × Int) : Int := if x.2 < y.2 then -1 else if y.2 < x.2 then 1 else if x.1 < y.1 then -1 else if y.1 < x.1 then 1 else 0
theorem ltOr_of : Sort.SWO ltOr where
  irrefl x := by simp [ltOr, OrLt]
  trans x y z h1 h2 := by
    have g1 : OrLt x y := of_decide_eq_true h1
    have g2 : OrLt y z := of_decide_eq_true h2
    exact decide_eq_true (by unfold OrLt at *; omega)
  ntrans x y z h1 h2 := by
    have g1 : ¬ OrLt x y := of_decide_eq_false h1
    have g2 : ¬ OrLt y z := of_decide_eq_false h2
    exact decide_eq_false (by unfold OrLt at *; omega)
def sortOr (l : List (Int × Int)) : List (Int × Int) := (Sort.pdq ltOr l.toArray 0 l.toArray.size (Lib.bitLen l.toArray.size) true true).toList
def m_sortOr (_O : Ops) (l : List (Int × Int)) : Option (List (Int × Int)) := grd (okRoom l.length) <| some (sortOr l)
theorem m_sortOr_eq (l : List (Int × Int)) : m_sortOr std l = ((grd (okRoom l.length) <| some (sortOr l)) : Option (List (Int × Int))) := rfl
theorem sortOr_spec (l : List (Int × Int)) : (sortOr l).Perm l ∧ (sortOr l).Pairwise OrLe := by
  obtain ⟨⟨h1, _, h3⟩, h4⟩ := Sort.pdq_sorts ltOr ltOr_of l.toArray 0 l.toArray.size (Lib.bitLen l.toArray.size) true true (Nat.zero_le _) (Nat.le_refl _) (Or.inl rfl)
  have hsz : (sortOr l).length = l.length := by simpa [sortOr] using h1
  refine ⟨?_, ?_⟩
  · have hex : ∀ (D : Array (Int × Int)) (n : Nat), D.size = n → (D.extract 0 n).toList = D.toList := fun D n h => by subst h; rw [Array.extract_size]
    have e1 := hex _ _ h1
    have e2 := hex l.toArray _ rfl
    rw [e1, e2] at h3
    exact h3
  · refine List.pairwise_iff_getElem.2 fun i j hi hj hij => ?_
    have := h4 i j (Nat.zero_le _) hij (by simpa using (by omega : j < l.length))
    have g : ∀ k (hk : k < (sortOr l).length), (Sort.pdq ltOr l.toArray 0 l.toArray.size (Lib.bitLen l.toArray.size) true true)[k]! = (sortOr l)[k] := fun k hk => by
      rw [getElem!_pos _ k (by simpa [sortOr] using hk)]; rfl
    rw [g j hj, g i hi] at this
    have h5 : ¬ OrLt (sortOr l)[j] (sortOr l)[i] := of_decide_eq_false this
    unfold OrLt at h5
    unfold OrLe
    omega
theorem sortOr_len (l : List (Int × Int)) : (sortOr l).length = l.length := (sortOr_spec l).1.length_eq
def m_compOr (_O : Ops) (l : List (Int × Int)) : Option (List (Int × Int)) := grd (okRoom l.length) <| some (Lib.compact l)
theorem m_compOr_eq (l : List (Int × Int)) : m_compOr std l = ((grd (okRoom l.length) <| some (Lib.compact l)) : Option (List (Int × Int))) := rfl
theorem compOrUp_le (d : Array (Int × Int)) : ∀ m, (Lib.compactUpTo d m).length ≤ m := by
  intro m
  induction m with
  | zero => simp [Lib.compactUpTo]
  | succ m ih =>
    rw [Lib.compactUpTo_succ, List.length_append]
    split <;> simp <;> omega
theorem compOr_len (l : List (Int × Int)) : (Lib.compact l).length ≤ l.length := compOrUp_le _ _
theorem OrLt.to {x y z : Int × Int} (h : OrLe x y) (h2 : OrLe y z) (hne : y ≠ z) : OrLt x z := by
  obtain ⟨x1, x2⟩ := x
  obtain ⟨y1, y2⟩ := y
  obtain ⟨z1, z2⟩ := z
  have : ¬ (y1 = z1 ∧ y2 = z2) := fun ⟨e1, e2⟩ => hne (by rw [e1, e2])
  unfold OrLe at *
  unfold OrLt
  simp only at *
  omega
theorem OrLe.refl (x : Int × Int) : OrLe x x := .inr ⟨rfl, Int.le_refl _⟩
theorem OrLe.trans {x y z : Int × Int} (h : OrLe x y) (h2 : OrLe y z) : OrLe x z := by unfold OrLe at *; omega
theorem compOrUp_ok (d : Array (Int × Int)) (hs : ∀ j, j + 1 < d.size → OrLe d[j]! d[j + 1]!) : ∀ m, m + 1 ≤ d.size → (∃ u, Lib.compactUpTo d (m + 1) = u ++ [d[m]!]) ∧ (Lib.compactUpTo d (m + 1)).Pairwise OrLt ∧ (∀ x, x ∈ Lib.compactUpTo d (m + 1) ↔ ∃ j, j ≤ m ∧ d[j]! = x) ∧ ∀ x ∈ Lib.compactUpTo d (m + 1), OrLe x d[m]! := by
  intro m
  induction m with
  | zero =>
    intro _
    have e : Lib.compactUpTo d 1 = [d[0]!] := by simp [Lib.compactUpTo, List.range_succ, Lib.keeps]
    rw [e]
    refine ⟨⟨[], rfl⟩, List.pairwise_singleton _ _, fun x => ?_, fun x hx => ?_⟩
    · constructor
      · intro hx; exact ⟨0, Nat.le_refl _, (List.mem_singleton.1 hx).symm⟩
      · rintro ⟨j, hj, rfl⟩
        have : j = 0 := by omega
        subst this; exact List.mem_singleton.2 rfl
    · rw [List.mem_singleton.1 hx]; exact OrLe.refl _
  | succ m ih =>
    intro hm
    obtain ⟨⟨u, hu⟩, h1, h2, h3⟩ := ih (by omega)
    have hle := hs m (by omega)
    rw [Lib.compactUpTo_succ]
    by_cases hk : d[m + 1]! = d[m]!
    · have : Lib.keeps d (m + 1) = false := Lib.keeps_neg (by omega) (by simpa using hk)
      rw [this]
      simp only [Bool.false_eq_true, if_false, List.append_nil]
      refine ⟨⟨u, by rw [hk]; exact hu⟩, h1, fun x => ?_, fun x hx => by rw [hk]; exact h3 x hx⟩
      rw [h2]
      constructor
      · rintro ⟨j, hj, e⟩; exact ⟨j, by omega, e⟩
      · rintro ⟨j, hj, e⟩
        rcases Nat.lt_or_ge m j with h | h
        · have : j = m + 1 := by omega
          subst this
          exact ⟨m, Nat.le_refl _, by rw [← hk]; exact e⟩
        · exact ⟨j, h, e⟩
    · have : Lib.keeps d (m + 1) = true := Lib.keeps_pos (by simpa using hk)
      rw [this]
      simp only [if_true]
      refine ⟨⟨_, rfl⟩, List.pairwise_append.2 ⟨h1, List.pairwise_singleton _ _, fun x hx y hy => ?_⟩, fun x => ?_, fun x hx => ?_⟩
      · rw [List.mem_singleton.1 hy]
        exact OrLt.to (h3 x hx) hle (fun e => hk e.symm)
      · rw [List.mem_append, h2, List.mem_singleton]
        constructor
        · rintro (⟨j, hj, e⟩ | e)
          · exact ⟨j, by omega, e⟩
          · exact ⟨m + 1, Nat.le_refl _, e.symm⟩
        · rintro ⟨j, hj, e⟩
          rcases Nat.lt_or_ge m j with h | h
          · have : j = m + 1 := by omega
            subst this; exact .inr e.symm
          · exact .inl ⟨j, h, e⟩
      · rcases List.mem_append.1 hx with h | h
        · exact (h3 x h).trans hle
        · rw [List.mem_singleton.1 h]; exact OrLe.refl _
/-- an ascending list, each element once -/
theorem compOr_ok {l : List (Int × Int)} (h : l.Pairwise OrLe) : (Lib.compact l).Pairwise OrLt ∧ ∀ x, x ∈ Lib.compact l ↔ x ∈ l := by
  have hg : ∀ j, j < l.length → l.toArray[j]! = l.getD j (0, 0) := fun j hj => by
    rw [getElem!_pos l.toArray j (by simpa using hj)]
    simp [List.getD_eq_getElem?_getD, hj]
  cases hn : l.length with
  | zero =>
    have : l = [] := List.eq_nil_of_length_eq_zero hn
    subst this
    simp [Lib.compact, Lib.compactUpTo]
  | succ n =>
    have hs : ∀ j, j + 1 < l.toArray.size → OrLe l.toArray[j]! l.toArray[j + 1]! := fun j hj => by
      have hj' : j + 1 < l.length := by simpa using hj
      rw [hg j (by omega), hg (j + 1) hj']
      have := List.pairwise_iff_getElem.1 h j (j + 1) (by omega) hj' (by omega)
      simpa [List.getD_eq_getElem?_getD, hj', show j < l.length by omega] using this
    obtain ⟨_, h1, h2, _⟩ := compOrUp_ok l.toArray hs n (by simp [hn])
    unfold Lib.compact
    rw [hn]
    refine ⟨h1, fun x => ?_⟩
    rw [h2]
    constructor
    · rintro ⟨j, hj, e⟩
      rw [hg j (by omega)] at e
      rw [← e, List.getD_eq_getElem?_getD, List.getElem?_eq_getElem (by omega : j < l.length)]
      exact List.getElem_mem _
    · intro hx
      obtain ⟨j, hj, e⟩ := List.getElem_of_mem hx
      refine ⟨j, by omega, ?_⟩
      rw [hg j hj, List.getD_eq_getElem?_getD, List.getElem?_eq_getElem hj]
      exact e
end Go.Proofs.YtmnhfaaaaejpaaaGreat
