/-
  slices.Compact of integers: its model, and what it says of an ascending list. No program here.
-/
import Derived.Test.YtmnhfaaaaejpaaaGreatSrtM
import Derived.Lib.SlicesCompact
namespace Go.Proofs.YtmnhfaaaaejpaaaGreat
open Go.RowKit

def m_compI (_O : Ops) (l : List Int) : Option (List Int) := grd (okRoom l.length) <| some (Lib.compact l)
theorem m_compI_eq (l : List Int) : m_compI std l = ((grd (okRoom l.length) <| some (Lib.compact l)) : Option (List Int)) := rfl
theorem compUp_le (d : Array Int) : ∀ m, (Lib.compactUpTo d m).length ≤ m := by
  intro m
  induction m with
  | zero => simp [Lib.compactUpTo]
  | succ m ih =>
    rw [Lib.compactUpTo_succ, List.length_append]
    split <;> simp <;> omega
theorem compI_len (l : List Int) : (Lib.compact l).length ≤ l.length := compUp_le _ _
theorem compUp_ok (d : Array Int) (hs : ∀ j, j + 1 < d.size → d[j]! ≤ d[j + 1]!) : ∀ m, m + 1 ≤ d.size → (∃ u, Lib.compactUpTo d (m + 1) = u ++ [d[m]!]) ∧ (Lib.compactUpTo d (m + 1)).Pairwise (· < ·) ∧ (∀ x, x ∈ Lib.compactUpTo d (m + 1) ↔ ∃ j, j ≤ m ∧ d[j]! = x) ∧ ∀ x ∈ Lib.compactUpTo d (m + 1), x ≤ d[m]! := by
  intro m
  induction m with
  | zero =>
    intro _
    have e : Lib.compactUpTo d 1 = [d[0]!] := by simp [Lib.compactUpTo, List.range_succ, Lib.keeps]
    rw [e]
    refine ⟨⟨[], rfl⟩, List.pairwise_singleton _ _, fun x => ?_, fun x hx => ?_⟩
    · constructor
      · intro hx; exact ⟨0, Nat.le_refl _, (List.mem_singleton.1 hx).symm⟩
      · rintro ⟨j, hj, rfl⟩
        have : j = 0 := by omega
        subst this; exact List.mem_singleton.2 rfl
    · rw [List.mem_singleton.1 hx]; exact Int.le_refl _
  | succ m ih =>
    intro hm
    obtain ⟨⟨u, hu⟩, h1, h2, h3⟩ := ih (by omega)
    have hle := hs m (by omega)
    rw [Lib.compactUpTo_succ]
    by_cases hk : d[m + 1]! = d[m]!
    · have : Lib.keeps d (m + 1) = false := Lib.keeps_neg (by omega) (by simpa using hk)
      rw [this]
      simp only [Bool.false_eq_true, if_false, List.append_nil]
      refine ⟨⟨u, by rw [hk]; exact hu⟩, h1, fun x => ?_, fun x hx => by rw [hk]; exact h3 x hx⟩
      rw [h2]
      constructor
      · rintro ⟨j, hj, e⟩; exact ⟨j, by omega, e⟩
      · rintro ⟨j, hj, e⟩
        rcases Nat.lt_or_ge m j with h | h
        · have : j = m + 1 := by omega
          subst this
          exact ⟨m, Nat.le_refl _, by rw [← hk]; exact e⟩
        · exact ⟨j, h, e⟩
    · have : Lib.keeps d (m + 1) = true := Lib.keeps_pos (by simpa using hk)
      rw [this]
      simp only [if_true]
      refine ⟨⟨_, rfl⟩, List.pairwise_append.2 ⟨h1, List.pairwise_singleton _ _, fun x hx y hy => ?_⟩, fun x => ?_, fun x hx => ?_⟩
      · rw [List.mem_singleton.1 hy]
        have := h3 x hx
        omega
      · rw [List.mem_append, h2, List.mem_singleton]
        constructor
        · rintro (⟨j, hj, e⟩ | e)
          · exact ⟨j, by omega, e⟩
          · exact ⟨m + 1, Nat.le_refl _, e.symm⟩
        · rintro ⟨j, hj, e⟩
          rcases Nat.lt_or_ge m j with h | h
          · have : j = m + 1 := by omega
            subst this; exact .inr e.symm
          · exact .inl ⟨j, h, e⟩
      · rcases List.mem_append.1 hx with h | h
        · have := h3 x h; omega
        · rw [List.mem_singleton.1 h]; exact Int.le_refl _
/-- an ascending list, each element once -/
theorem compI_ok {l : List Int} (h : l.Pairwise (· ≤ ·)) : (Lib.compact l).Pairwise (· < ·) ∧ ∀ x, x ∈ Lib.compact l ↔ x ∈ l := by
  have hg : ∀ j, j < l.length → l.toArray[j]! = l.getD j 0 := fun j hj => by
    rw [getElem!_pos l.toArray j (by simpa using hj)]
    simp [List.getD_eq_getElem?_getD, hj]
  cases hn : l.length with
  | zero =>
    have : l = [] := List.eq_nil_of_length_eq_zero hn
    subst this
    simp [Lib.compact, Lib.compactUpTo]
  | succ n =>
    have hs : ∀ j, j + 1 < l.toArray.size → l.toArray[j]! ≤ l.toArray[j + 1]! := fun j hj => by
      have hj' : j + 1 < l.length := by simpa using hj
      rw [hg j (by omega), hg (j + 1) hj']
      have := List.pairwise_iff_getElem.1 h j (j + 1) (by omega) hj' (by omega)
      simpa [List.getD_eq_getElem?_getD, hj', show j < l.length by omega] using this
    obtain ⟨_, h1, h2, _⟩ := compUp_ok l.toArray hs n (by simp [hn])
    unfold Lib.compact
    rw [hn]
    refine ⟨h1, fun x => ?_⟩
    rw [h2]
    constructor
    · rintro ⟨j, hj, e⟩
      rw [hg j (by omega)] at e
      rw [← e, List.getD_eq_getElem?_getD, List.getElem?_eq_getElem (by omega : j < l.length)]
      exact List.getElem_mem _
    · intro hx
      obtain ⟨j, hj, e⟩ := List.getElem_of_mem hx
      refine ⟨j, by omega, ?_⟩
      rw [hg j hj, List.getD_eq_getElem?_getD, List.getElem?_eq_getElem hj]
      exact e
end Go.Proofs.YtmnhfaaaaejpaaaGreat
