/-
  The arguments of the laws, opened: integers, slices of bounds, of integers.
-/
import Derived.Test.YtegmjohhgedakaaArrB
import Derived.Test.YtegmjohhgedakaaBase
import Derived.Test.YtegmjohhgedakaaProg
import Derived.Lib.Hide
import Derived.ProofKit
import Derived.OpenShut
import Derived.Lib.SmallJoins
import Derived.Deep.SlicePairs
namespace Go.Proofs.Ytegmjohhgedakaa
open Go.ChangeShapes Go.WideShapes Go.ChangeAt Go.RowKit Go.Joins Go.Deep
set_option maxRecDepth 100000

section
variable {H : Type} {enc : TypeId × Value → H} {w : World} {base b0 : Nat} {spare : Nat → Bool} {held : Bool}

theorem open_i64 {v : Value} {d : DataW H} {p : List MemPlace} (hv : Value.okWide Try.prog w .any b0 3 v) (h : DataW.Trod enc Try.prog w base spare held 3 v d p) :
    ∃ n, v = .int .i64 n ∧ -9223372036854775808 ≤ n ∧ n ≤ 9223372036854775807 := by
  obtain ⟨n, rfl, _, _, hw⟩ := open_int (P := Try.prog) (t := 3) (k := .i64) Try.underlying3 hv h
  exact ⟨n, rfl, bounds_i64 hw⟩
theorem open_u8 {v : Value} {d : DataW H} {p : List MemPlace} (hv : Value.okWide Try.prog w .any b0 5 v) (h : DataW.Trod enc Try.prog w base spare held 5 v d p) :
    ∃ n, v = .int .u8 n ∧ 0 ≤ n ∧ n ≤ 255 := by
  obtain ⟨n, rfl, _, _, hw⟩ := open_int (P := Try.prog) (t := 5) (k := .u8) Try.underlying5 hv h
  have := bounds_u8 hw
  exact ⟨n, rfl, by omega, by omega⟩
theorem cell_i64 {n : Nat} {v : Value} {y : DataW H × List MemPlace} (h : DataW.trod enc Try.prog w base spare held n 3 [v] = some y) : ∃ k, v = .int .i64 k ∧ -9223372036854775808 ≤ k ∧ k ≤ 9223372036854775807 := by
  obtain ⟨k, e, _, hw⟩ := DataW.trod_int (P := Try.prog) (t := 3) (k := .i64) Try.underlying3 h
  simp at e
  exact ⟨k, e, bounds_i64 hw⟩
theorem add_form {a : Addr} {v : Value} (h : w.cell? (a.add 0) = some v) : ∃ b o, a = ⟨b, o, none⟩ := by
  obtain ⟨b, o, s⟩ := a
  have : s = none := by simpa [Addr.add] using World.cell?_spot h
  subst this
  exact ⟨b, o, rfl⟩
theorem add_at (b o j : Nat) : (⟨b, o, none⟩ : Addr).add j = ⟨b, o + j, none⟩ := by unfold Addr.add; by_cases hj : j = 0 <;> simp [hj]
theorem bound_cells {n : Nat} {cs : List Value} {y : DataW H × List MemPlace} (h : DataW.trod enc Try.prog w base spare held n 32 cs = some y) : ∃ r : Int × Int × Int, cs = [.int .i64 r.1, .int .i64 r.2.1, .int .i64 r.2.2] := by
  obtain ⟨xs, k, _, _, hl, hxl, hf⟩ := DataW.trod_struct Try.underlying32 h
  have g0 := hf 0 _ rfl
  have g1 := hf 1 _ rfl
  have g2 := hf 2 _ rfl
  have c3 : Try.prog.cellsOf 32 = 3 := by kernel_rfl
  have c : Try.prog.cellsOf 3 = 1 := by kernel_rfl
  rw [c3] at hl
  match xs, hxl, cs, hl with
  | [y0, y1, y2], _, [v0, v1, v2], _ =>
    simp [c] at g0 g1 g2
    obtain ⟨a, e0, _⟩ := cell_i64 g0
    obtain ⟨b, e1, _⟩ := cell_i64 g1
    obtain ⟨d, e2, _⟩ := cell_i64 g2
    exact ⟨(a, b, d), by rw [e0, e1, e2]⟩
/-- a slice of bounds -/
theorem open_bds {v : Value} {d : DataW H} {p : List MemPlace} (hv : Value.okWide Try.prog w .any b0 22 v) (h : DataW.Trod enc Try.prog w base spare held 22 v d p) :
    ∃ A c l, v = .slice A (List.length l) c ∧ BdsR w A l ∧ l.length ≤ c ∧ c ≤ maxLen := by
  obtain ⟨a, n, c, rfl⟩ := okWide_slice (P := Try.prog) Try.underlying22 hv
  obtain ⟨fuel, hf⟩ := h
  have hf' : DataW.trod enc Try.prog w base spare held fuel 22 [.slice a n c] = some (d, p) := by simpa [Value.cells] using hf
  have c3 : Try.prog.cellsOf 32 = 3 := by kernel_rfl
  rcases open_slice (P := Try.prog) (t := 22) (e := 32) Try.underlying22 hf' with ⟨h0, _⟩ | ⟨a', len, cap, m, n', D, Pl, hcs, hb, hl, hm, hmm, _, hi⟩
  · simp at h0
    obtain ⟨rfl, rfl, rfl⟩ := h0
    exact ⟨none, 0, [], rfl, fun h => absurd h (by simp), by simp, by simp⟩
  · simp at hcs
    obtain ⟨rfl, rfl, rfl⟩ := hcs
    have hlm : n ≤ m := by rw [hmm]; split <;> omega
    have each : ∀ i, i < n → ∃ r : Int × Int × Int, w.cell? (a'.add (i * 3)) = some (.int .i64 r.1) ∧ w.cell? ((a'.add (i * 3)).add 1) = some (.int .i64 r.2.1) ∧ w.cell? ((a'.add (i * 3)).add 2) = some (.int .i64 r.2.2) := by
      intro i hi'
      obtain ⟨cs', h1, h2⟩ := hi i (by omega)
      rw [c3] at h1
      obtain ⟨r, rfl⟩ := bound_cells h2
      obtain ⟨_, hlen, hcell⟩ := World.cells?_some h1
      have e0 := hcell 0 (by simp)
      have e1 := hcell 1 (by simp)
      have e2 := hcell 2 (by simp)
      refine ⟨r, ?_, by simpa using e1, by simpa using e2⟩
      have : (a'.add (i * 3)).add 0 = a'.add (i * 3) := by simp [Addr.add]
      rw [this] at e0
      simpa using e0
    obtain ⟨S, hS⟩ := choose_lt each
    have hlen : ((List.range n).map S).length = n := by simp
    have hg : ∀ k, k < n → ((List.range n).map S).getD k (0, 0, 0) = S k := fun k hk => by
      simp [List.getD_eq_getElem?_getD, List.getElem?_map, List.getElem?_range hk]
    refine ⟨some a', c, (List.range n).map S, by rw [hlen], ?_, by rw [hlen]; exact hl, hm⟩
    intro h0
    rw [hlen] at h0
    obtain ⟨h1, _⟩ := hS 0 h0
    rw [Nat.zero_mul] at h1
    obtain ⟨b, o, rfl⟩ := add_form h1
    refine ⟨b, o, rfl, fun k hk => ?_⟩
    rw [hlen] at hk
    obtain ⟨h2, h3, h4⟩ := hS k hk
    rw [add_at] at h2 h3 h4
    rw [add_at] at h3 h4
    rw [hg k hk]
    exact ⟨h2, h3, h4⟩
theorem cells_ints {n : Nat} {v : Value} {y : DataW H × List MemPlace} (h : DataW.trod enc Try.prog w base spare held n 26 [v] = some y) :
    ∃ A c l, v = .slice A (List.length l) c ∧ IsR w A l ∧ l.length ≤ c ∧ c ≤ maxLen ∧ ∀ k, k < l.length → -9223372036854775808 ≤ l.getD k 0 ∧ l.getD k 0 ≤ 9223372036854775807 := by
  rcases open_slice1 (P := Try.prog) (t := 26) (e := 3) Try.underlying26 (by kernel_rfl) h with ⟨h0, _⟩ | ⟨a, len, cap, m, n', V, D, Pl, hcs, hb, hl, hm, hmm, hx, hi⟩
  · simp at h0
    exact ⟨none, 0, [], h0, fun h => absurd h (by simp), by simp, by simp, fun k hk => absurd hk (by simp)⟩
  · simp at hcs
    have hlm : len ≤ m := by rw [hmm]; split <;> omega
    have each : ∀ i, i < len → ∃ s : Int, V i = .int .i64 s ∧ -9223372036854775808 ≤ s ∧ s ≤ 9223372036854775807 := by
      intro i hi'
      obtain ⟨h1, h3⟩ := hi i (by omega)
      obtain ⟨x, e1, g1⟩ := cell_i64 h3
      exact ⟨x, e1, g1⟩
    obtain ⟨S, hS⟩ := choose_lt each
    have hlen : ((List.range len).map S).length = len := by simp
    have hget : ∀ k, k < len → ((List.range len).map S).getD k 0 = S k := fun k hk => by
      simp [List.getD_eq_getElem?_getD, List.getElem?_map, List.getElem?_range hk]
    refine ⟨some a, cap, (List.range len).map S, by rw [hlen]; exact hcs, ?_, by rw [hlen]; exact hl, hm, fun k hk => ?_⟩
    · intro h0
      rw [hlen] at h0
      obtain ⟨h1, _⟩ := hi 0 (by omega)
      obtain ⟨b, o, rfl⟩ := add_form h1
      refine ⟨b, o, rfl, fun k hk => ?_⟩
      rw [hlen] at hk
      obtain ⟨h2, _⟩ := hi k (by omega)
      obtain ⟨e1, _⟩ := hS k hk
      rw [add_at] at h2
      rw [hget k hk, h2, e1]
    · rw [hlen] at hk
      rw [hget k hk]
      exact (hS k hk).2
theorem open_is {v : Value} {d : DataW H} {p : List MemPlace} (hv : Value.okWide Try.prog w .any b0 26 v) (h : DataW.Trod enc Try.prog w base spare held 26 v d p) :
    ∃ A c l, v = .slice A (List.length l) c ∧ IsR w A l ∧ l.length ≤ c ∧ c ≤ maxLen ∧ ∀ k, k < l.length → -9223372036854775808 ≤ l.getD k 0 ∧ l.getD k 0 ≤ 9223372036854775807 := by
  obtain ⟨a, n, c, rfl⟩ := okWide_slice (P := Try.prog) Try.underlying26 hv
  obtain ⟨fuel, hf⟩ := h
  exact cells_ints (by simpa [Value.cells] using hf)
end

theorem own : ownKnob Try.prog.godebug = none := by kernel_rfl
theorem laidOut : laidOutB Try.prog = true := by kernel_rfl
end Go.Proofs.Ytegmjohhgedakaa
