/-
  The arguments of the laws, opened: a bound, a matrix.
-/
import Derived.Test.YtegmjohhgedakaaOpenB
import Derived.Test.YtegmjohhgedakaaArrM
namespace Go.Proofs.Ytegmjohhgedakaa
open Go.ChangeShapes Go.WideShapes Go.ChangeAt Go.RowKit Go.Joins Go.Deep
set_option maxRecDepth 100000
section
variable {H : Type} {enc : TypeId × Value → H} {w : World} {base b0 : Nat} {spare : Nat → Bool} {held : Bool}
theorem open_mat {v : Value} {d : DataW H} {p : List MemPlace} (hv : Value.okWide Try.prog w .any b0 35 v) (h : DataW.Trod enc Try.prog w base spare held 35 v d p) :
    ∃ A c rs ll, v = .slice A (List.length ll) c ∧ MatOk w A c rs ll := by
  obtain ⟨a, n, c, rfl⟩ := okWide_slice (P := Try.prog) Try.underlying35 hv
  obtain ⟨fuel, hf⟩ := h
  have hf' : DataW.trod enc Try.prog w base spare held fuel 35 [.slice a n c] = some (d, p) := by simpa [Value.cells] using hf
  rcases open_slice1 (P := Try.prog) (t := 35) (e := 26) Try.underlying35 (by kernel_rfl) hf' with ⟨h0, _⟩ | ⟨a', len, cap, m, n', V, D, Pl, hcs, hb, hl, hm, hmm, hx, hi⟩
  · simp at h0
    obtain ⟨rfl, rfl, rfl⟩ := h0
    exact ⟨none, 0, [], [], rfl, rfl, by simp, by simp, fun h => absurd h (by simp), fun k v l hk => by simp at hk⟩
  · simp at hcs
    obtain ⟨rfl, rfl, rfl⟩ := hcs
    have hlm : n ≤ m := by rw [hmm]; split <;> omega
    have each : ∀ i, i < n → ∃ l : List Int, RowOk w (V i) l := by
      intro i hi'
      obtain ⟨h1, h3⟩ := hi i (by omega)
      obtain ⟨A, c', l, e1, g1, g2, g3, _⟩ := cells_ints h3
      exact ⟨l, by rw [e1]; exact is_row g1 g2 g3⟩
    obtain ⟨S, hS⟩ := choose_lt each
    refine ⟨some a', c, (List.range n).map V, (List.range n).map S, by simp, by simp, by simpa using hl, hm, fun h0 => ?_, fun k v l hk hkl => ?_⟩
    · have h0 : 0 < n := by simpa using h0
      obtain ⟨h1, _⟩ := hi 0 (by omega)
      obtain ⟨b, o, rfl⟩ := add_form h1
      refine ⟨b, o, rfl, fun k v hk => ?_⟩
      rw [List.getElem?_map] at hk
      by_cases hkn : k < n
      · rw [List.getElem?_range hkn] at hk
        simp only [Option.map_some, Option.some.injEq] at hk
        obtain ⟨h2, _⟩ := hi k (by omega)
        rw [add_at, hk] at h2
        exact h2
      · rw [List.getElem?_eq_none (by simp; omega)] at hk
        cases hk
    · rw [List.getElem?_map] at hk hkl
      by_cases hkn : k < n
      · rw [List.getElem?_range hkn] at hk hkl
        simp only [Option.map_some, Option.some.injEq] at hk hkl
        rw [← hk, ← hkl]
        exact hS k hkn
      · rw [List.getElem?_eq_none (by simp; omega)] at hk
        cases hk
theorem open_bnd {v : Value} {d : DataW H} {p : List MemPlace} (hv : Value.okWide Try.prog w .any b0 32 v) (h : DataW.Trod enc Try.prog w base spare held 32 v d p) :
    ∃ x y z, v = .agg #[.int .i64 x, .int .i64 y, .int .i64 z] := by
  obtain ⟨c0, c1, c2, y0, y1, y2, m, rfl, _, _, h0, h1, h2⟩ := open_agg3 (P := Try.prog) (t := 32) Try.underlying32 (by kernel_rfl) (by kernel_rfl) hv h
  obtain ⟨x, rfl, _⟩ := cell_i64 h0
  obtain ⟨y, rfl, _⟩ := cell_i64 h1
  obtain ⟨z, rfl, _⟩ := cell_i64 h2
  exact ⟨x, y, z, rfl⟩
end
end Go.Proofs.Ytegmjohhgedakaa
