/-
  The points of a calendar's granules, folded to one period: what is in them; gapless calendars. No program here.
-/
import Derived.Test.YtlpbdikmhngmfaaHP
namespace Go.Proofs.Ytlpbdikmhngmfaa

def ptS (p mv : Int) (s : Sp) : List Sp := if s.2 + mv ≤ p then [(s.1 + mv, s.2 + mv)] else if p ≤ s.1 + mv then [(s.1 + mv - p, s.2 + mv - p)] else [(s.1 + mv, p), (0, s.2 + mv - p)]
theorem pt_shift {p mv y : Int} (h1 : 0 ≤ mv) (h2 : mv < p) (h3 : 0 ≤ y) (h4 : y < p) : (y - mv) % p = if mv ≤ y then y - mv else y - mv + p := by
  split
  · exact Int.emod_eq_of_lt (by omega) (by omega)
  · have : (y - mv) % p = (y - mv + p * 1) % p := (Int.add_mul_emod_self_left _ _ _).symm
    rw [this, Int.mul_one]
    exact Int.emod_eq_of_lt (by omega) (by omega)
theorem ptS_mem {p mv y : Int} {s : Sp} (h1 : 0 ≤ mv) (h2 : mv < p) (a1 : 0 ≤ s.1) (a2 : s.1 < s.2) (a3 : s.2 ≤ p) : Mem (ptS p mv s) y ↔ 0 ≤ y ∧ y < p ∧ s.1 ≤ (y - mv) % p ∧ (y - mv) % p < s.2 := by
  constructor
  · intro h
    have hy : 0 ≤ y ∧ y < p := by
      unfold ptS at h
      split at h
      · have := mem_one.1 h; simp only [] at this; omega
      · split at h
        · have := mem_one.1 h; simp only [] at this; omega
        · rcases mem_cons.1 h with h | h
          · simp only [] at h; omega
          · have := mem_one.1 h; simp only [] at this; omega
    refine ⟨hy.1, hy.2, ?_⟩
    rw [pt_shift h1 h2 hy.1 hy.2]
    unfold ptS at h
    split at h
    · have := mem_one.1 h; simp only [] at this; split <;> omega
    · split at h
      · have := mem_one.1 h; simp only [] at this; split <;> omega
      · rcases mem_cons.1 h with h | h
        · simp only [] at h; split <;> omega
        · have := mem_one.1 h; simp only [] at this; split <;> omega
  · rintro ⟨h3, h4, h5, h6⟩
    rw [pt_shift h1 h2 h3 h4] at h5 h6
    unfold ptS
    split
    · refine mem_one.2 ?_
      simp only []
      split at h5 <;> simp_all <;> omega
    · split
      · refine mem_one.2 ?_
        simp only []
        split at h5 <;> simp_all <;> omega
      · refine mem_cons.2 ?_
        simp only [mem_one]
        split at h5 <;> simp_all <;> omega
theorem ptS_ok {p mv : Int} {s : Sp} (h1 : 0 ≤ mv) (h2 : mv < p) (a1 : 0 ≤ s.1) (a2 : s.1 < s.2) (a3 : s.2 ≤ p) : ∀ t ∈ ptS p mv s, 0 ≤ t.1 ∧ t.1 < t.2 ∧ t.2 ≤ p := by
  intro t ht
  unfold ptS at ht
  split at ht
  · simp at ht; subst ht; simp only []; omega
  · split at ht
    · simp at ht; subst ht; simp only []; omega
    · simp at ht
      rcases ht with rfl | rfl <;> simp only [] <;> omega
theorem ptS_len (p mv : Int) (s : Sp) : (ptS p mv s).length ≤ 2 := by unfold ptS; split; simp; split <;> simp
theorem ptL_len (p mv : Int) (l : List Sp) : (l.flatMap (ptS p mv)).length ≤ 2 * l.length := by
  induction l with
  | nil => simp
  | cons s l ih =>
    simp only [List.flatMap_cons, List.length_append, List.length_cons]
    have := ptS_len p mv s
    omega
theorem mem_flat {f : Sp → List Sp} {l : List Sp} {x : Int} : Mem (l.flatMap f) x ↔ ∃ s ∈ l, Mem (f s) x := by
  unfold Mem
  constructor
  · rintro ⟨t, ht, h⟩
    obtain ⟨s, hs, h2⟩ := List.mem_flatMap.1 ht
    exact ⟨s, hs, t, h2, h⟩
  · rintro ⟨s, hs, t, ht, h⟩
    exact ⟨t, List.mem_flatMap.2 ⟨s, hs, ht⟩, h⟩
/-- covered by a granule -/
def Cov (o p : Int) (l : List Sp) (x : Int) : Prop := Mem l ((x - o) % p)
theorem ptL_memF {o p : Int} {l : List Sp} (hv : Vd o p l) {x : Int} : MemF p (l.flatMap (ptS p (o % p))) x ↔ 0 ≤ x ∧ x < p ∧ Cov o p l x := by
  have hp := hv.p1
  have hm : 0 ≤ o % p ∧ o % p < p := div_bd hp
  have hel : ∀ s ∈ l, 0 ≤ s.1 ∧ s.1 < s.2 ∧ s.2 ≤ p := fun s hs => by
    obtain ⟨k, hk, e⟩ := List.getElem_of_mem hs
    have := hv.bd hk
    have e2 : l.getD k (0, 0) = s := by rw [List.getD_eq_getElem?_getD, List.getElem?_eq_getElem hk]; exact e
    have e3 : fr l k = s.1 := by unfold fr; rw [e2]
    have e4 : tt l k = s.2 := by unfold tt; rw [e2]
    omega
  have hall : ∀ t ∈ l.flatMap (ptS p (o % p)), 0 ≤ t.1 ∧ t.1 < t.2 ∧ t.2 ≤ p := fun t ht => by
    obtain ⟨s, hs, h⟩ := List.mem_flatMap.1 ht
    have := hel s hs
    exact ptS_ok hm.1 hm.2 this.1 this.2.1 this.2.2 t h
  have e1 : MemF p (l.flatMap (ptS p (o % p))) x ↔ Mem (l.flatMap (ptS p (o % p))) x := by
    constructor
    · rintro ⟨t, ht, y, h1, h2, h3⟩
      have := hall t ht
      rw [Int.emod_eq_of_lt (by omega) (by omega)] at h3
      subst h3
      exact ⟨t, ht, h1, h2⟩
    · rintro ⟨t, ht, h1, h2⟩
      have := hall t ht
      exact ⟨t, ht, x, h1, h2, Int.emod_eq_of_lt (by omega) (by omega)⟩
  rw [e1, mem_flat]
  have e5 : ∀ y : Int, (y - o % p) % p = (y - o) % p := fun y => by rw [Int.sub_emod, Int.emod_emod_of_dvd _ (Int.dvd_refl _), ← Int.sub_emod]
  unfold Cov Mem
  constructor
  · rintro ⟨s, hs, h⟩
    have b := hel s hs
    have := (ptS_mem hm.1 hm.2 b.1 b.2.1 b.2.2).1 h
    rw [e5] at this
    exact ⟨this.1, this.2.1, s, hs, this.2.2⟩
  · rintro ⟨h1, h2, s, hs, h3⟩
    have b := hel s hs
    exact ⟨s, hs, (ptS_mem hm.1 hm.2 b.1 b.2.1 b.2.2).2 ⟨h1, h2, by rw [e5]; exact h3⟩⟩

/-! gapless -/
def gplB (p : Int) (l : List Sp) : Bool := (List.range l.length).all fun i => tt l i == nextAt p l i
theorem gplB_iff {o p : Int} {l : List Sp} (hv : Vd o p l) : gplB p l = true ↔ ∀ x, Cov o p l x := by
  have hp := hv.p1
  have h0 := hv.n0
  constructor
  · intro h x
    have hg : ∀ i, i < l.length → tt l i = nextAt p l i := fun i hi => by
      have := List.all_eq_true.1 h i (List.mem_range.2 hi)
      simpa using this
    have hr := div_bd (a := x - o) hp
    obtain ⟨j, hj, a, b⟩ : ∃ j, j < l.length ∧ fr l j ≤ (x - o) % p ∧ ∀ k, j < k → k < l.length → (x - o) % p < fr l k := by
      have spec : ∀ n, 0 < n → fr l (lastTo l ((x - o) % p) n) ≤ (x - o) % p ∧ ∀ j, lastTo l ((x - o) % p) n < j → j < n → (x - o) % p < fr l j := by
        intro n
        induction n with
        | zero => intro h; omega
        | succ n ih =>
          intro _
          rw [lastTo_step]
          by_cases h : fr l n ≤ (x - o) % p
          · rw [if_pos h]
            exact ⟨h, fun j h1 h2 => by omega⟩
          · rw [if_neg h]
            rcases Nat.eq_zero_or_pos n with h1 | h1
            · subst h1; rw [hv.f0] at h; omega
            · obtain ⟨a, b⟩ := ih h1
              refine ⟨a, fun j h2 h3 => ?_⟩
              by_cases hj : j = n
              · subst hj; omega
              · exact b j h2 (by omega)
      obtain ⟨a, b⟩ := spec l.length h0
      exact ⟨_, lastTo_lt _ h0, a, b⟩
    refine mem_idx.2 ⟨j, hj, a, ?_⟩
    rw [hg j hj]
    unfold nextAt
    split
    · exact b _ (by omega) (by assumption)
    · omega
  · intro h
    refine List.all_eq_true.2 fun i hi => ?_
    have hi := List.mem_range.1 hi
    rw [beq_iff_eq]
    refine Classical.byContradiction fun hne => ?_
    have hb := hv.bd hi
    have hlt : tt l i < nextAt p l i := by
      have : tt l i ≤ nextAt p l i := by
        unfold nextAt
        split
        · rename_i h1
          have h5 := (ascB_iff.1 hv.asc).2 (i + 1) h1
          simp only [ascAt, Bool.and_eq_true, Bool.or_eq_true, decide_eq_true_eq, beq_iff_eq] at h5
          rcases h5.2 with h6 | h6
          · omega
          · exact h6
        · omega
      omega
    have hnp : nextAt p l i ≤ p := by
      unfold nextAt
      split
      · rename_i h1
        have := hv.bd h1
        omega
      · omega
    have hc := h (o + tt l i)
    have e : (o + tt l i - o) % p = tt l i := by
      rw [show o + tt l i - o = tt l i by omega]
      exact Int.emod_eq_of_lt (by omega) (by omega)
    unfold Cov at hc
    rw [e] at hc
    obtain ⟨j, hj, h1, h2⟩ := mem_idx.1 hc
    rcases Nat.lt_or_ge i j with hij | hij
    · have := (asc_mono hv.asc j (i + 1) (by omega) hj).1
      unfold nextAt at hlt
      rw [if_pos (by omega)] at hlt
      omega
    · have := (asc_mono hv.asc i j hij hi).2
      omega
end Go.Proofs.Ytlpbdikmhngmfaa
