/-
  The arguments of the laws, opened: bytes, slices of small integers (int8), beside what XOpenP opens.
-/
import Derived.Test.YtlpbdikmhngmfaaOpenP
import Derived.Test.YtlpbdikmhngmfaaArr8
namespace Go.Proofs.Ytlpbdikmhngmfaa
open Go.ChangeShapes Go.WideShapes Go.ChangeAt Go.RowKit Go.Joins Go.Deep
set_option maxRecDepth 100000
section
variable {H : Type} {enc : TypeId × Value → H} {w : World} {base b0 : Nat} {spare : Nat → Bool} {held : Bool}
theorem open_u8 {v : Value} {d : DataW H} {p : List MemPlace} (hv : Value.okWide Try.prog w .any b0 5 v) (h : DataW.Trod enc Try.prog w base spare held 5 v d p) :
    ∃ n, v = .int .u8 n ∧ 0 ≤ n ∧ n ≤ 255 := by
  obtain ⟨n, rfl, _, _, hw⟩ := open_int (P := Try.prog) (t := 5) (k := .u8) Try.underlying5 hv h
  have := bounds_u8 hw
  exact ⟨n, rfl, by omega, by omega⟩
theorem cell_i8 {n : Nat} {v : Value} {y : DataW H × List MemPlace} (h : DataW.trod enc Try.prog w base spare held n 30 [v] = some y) : ∃ k, v = .int .i8 k ∧ -128 ≤ k ∧ k ≤ 127 := by
  obtain ⟨k, e, _, hw⟩ := DataW.trod_int (P := Try.prog) (t := 30) (k := .i8) Try.underlying30 h
  simp at e
  refine ⟨k, e, ?_⟩
  have := bounds_i8 hw
  omega
theorem cells_i8s {n : Nat} {v : Value} {y : DataW H × List MemPlace} (h : DataW.trod enc Try.prog w base spare held n 25 [v] = some y) :
    ∃ A c l, v = .slice A (List.length l) c ∧ I8R w A l ∧ l.length ≤ c ∧ c ≤ maxLen ∧ ∀ k, k < l.length → -128 ≤ l.getD k 0 ∧ l.getD k 0 ≤ 127 := by
  rcases open_slice1 (P := Try.prog) (t := 25) (e := 30) Try.underlying25 (by kernel_rfl) h with ⟨h0, _⟩ | ⟨a, len, cap, m, n', V, D, Pl, hcs, hb, hl, hm, hmm, hx, hi⟩
  · simp at h0
    exact ⟨none, 0, [], h0, fun h => absurd h (by simp), by simp, by simp, fun k hk => absurd hk (by simp)⟩
  · simp at hcs
    have hlm : len ≤ m := by rw [hmm]; split <;> omega
    have each : ∀ i, i < len → ∃ s : Int, V i = .int .i8 s ∧ -128 ≤ s ∧ s ≤ 127 := by
      intro i hi'
      obtain ⟨h1, h3⟩ := hi i (by omega)
      obtain ⟨x, e1, g1⟩ := cell_i8 h3
      exact ⟨x, e1, g1⟩
    obtain ⟨S, hS⟩ := choose_lt each
    have hlen : ((List.range len).map S).length = len := by simp
    have hget : ∀ k, k < len → ((List.range len).map S).getD k 0 = S k := fun k hk => by
      simp [List.getD_eq_getElem?_getD, List.getElem?_map, List.getElem?_range hk]
    refine ⟨some a, cap, (List.range len).map S, by rw [hlen]; exact hcs, ?_, by rw [hlen]; exact hl, hm, fun k hk => ?_⟩
    · intro h0
      rw [hlen] at h0
      obtain ⟨h1, _⟩ := hi 0 (by omega)
      obtain ⟨b, o, rfl⟩ := add_form h1
      refine ⟨b, o, rfl, fun k hk => ?_⟩
      rw [hlen] at hk
      obtain ⟨h2, _⟩ := hi k (by omega)
      obtain ⟨e1, _⟩ := hS k hk
      rw [add_at] at h2
      rw [hget k hk, h2, e1]
    · rw [hlen] at hk
      rw [hget k hk]
      exact (hS k hk).2
theorem open_i8s {v : Value} {d : DataW H} {p : List MemPlace} (hv : Value.okWide Try.prog w .any b0 25 v) (h : DataW.Trod enc Try.prog w base spare held 25 v d p) :
    ∃ A c l, v = .slice A (List.length l) c ∧ I8R w A l ∧ l.length ≤ c ∧ c ≤ maxLen ∧ ∀ k, k < l.length → -128 ≤ l.getD k 0 ∧ l.getD k 0 ≤ 127 := by
  obtain ⟨a, n, c, rfl⟩ := okWide_slice (P := Try.prog) Try.underlying25 hv
  obtain ⟨fuel, hf⟩ := h
  exact cells_i8s (by simpa [Value.cells] using hf)
end
end Go.Proofs.Ytlpbdikmhngmfaa
