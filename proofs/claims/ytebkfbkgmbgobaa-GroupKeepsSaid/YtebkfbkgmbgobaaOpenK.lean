/-
  The arguments of the laws, opened: integers, bools, slices of spans, calendars, periodic sets.
-/
import Derived.Test.YtebkfbkgmbgobaaOwn
import Derived.ProofKit
import Derived.OpenShut
import Derived.Lib.SmallJoins
import Derived.Deep.SlicePairs
namespace Go.Proofs.Ytebkfbkgmbgobaa
open Go.ChangeShapes Go.WideShapes Go.ChangeAt Go.RowKit Go.Joins Go.Deep
set_option maxRecDepth 100000

section
variable {H : Type} {enc : TypeId × Value → H} {w : World} {base b0 : Nat} {spare : Nat → Bool} {held : Bool}

theorem open_i64 {v : Value} {d : DataW H} {p : List MemPlace} (hv : Value.okWide Try.prog w .any b0 3 v) (h : DataW.Trod enc Try.prog w base spare held 3 v d p) :
    ∃ n, v = .int .i64 n ∧ -9223372036854775808 ≤ n ∧ n ≤ 9223372036854775807 := by
  obtain ⟨n, rfl, _, _, hw⟩ := open_int (P := Try.prog) (t := 3) (k := .i64) Try.underlying3 hv h
  exact ⟨n, rfl, bounds_i64 hw⟩

theorem cell_i64 {n : Nat} {v : Value} {y : DataW H × List MemPlace} (h : DataW.trod enc Try.prog w base spare held n 3 [v] = some y) : ∃ k, v = .int .i64 k ∧ -9223372036854775808 ≤ k ∧ k ≤ 9223372036854775807 := by
  obtain ⟨k, e, _, hw⟩ := DataW.trod_int (P := Try.prog) (t := 3) (k := .i64) Try.underlying3 h
  simp at e
  exact ⟨k, e, bounds_i64 hw⟩

theorem add_form {a : Addr} {v : Value} (h : w.cell? (a.add 0) = some v) : ∃ b o, a = ⟨b, o, none⟩ := by
  obtain ⟨b, o, s⟩ := a
  have : s = none := by simpa [Addr.add] using World.cell?_spot h
  subst this
  exact ⟨b, o, rfl⟩
theorem add_at (b o j : Nat) : (⟨b, o, none⟩ : Addr).add j = ⟨b, o + j, none⟩ := by unfold Addr.add; by_cases hj : j = 0 <;> simp [hj]

theorem cells_spans {n : Nat} {v : Value} {y : DataW H × List MemPlace} (h : DataW.trod enc Try.prog w base spare held n 22 [v] = some y) :
    ∃ A c l, v = .slice A (List.length l) c ∧ SpsR w A l ∧ l.length ≤ c ∧ c ≤ maxLen ∧ ∀ k, k < l.length → (-9223372036854775808 ≤ fr l k ∧ fr l k ≤ 9223372036854775807) ∧ -9223372036854775808 ≤ tt l k ∧ tt l k ≤ 9223372036854775807 := by
  rcases open_slice_pairs (P := Try.prog) (t := 22) (e := 40) Try.underlying22 Try.underlying40 (by kernel_rfl) rfl rfl (by kernel_rfl) (by kernel_rfl) h with ⟨h0, _⟩ | ⟨a, len, cap, m, n', V0, V1, D0, D1, P0, P1, hcs, hb, hl, hm, hmm, hx, hi⟩
  · simp at h0
    exact ⟨none, 0, [], h0, fun h => absurd h (by simp), by simp, by simp, fun k hk => absurd hk (by simp)⟩
  · simp at hcs
    have hlm : len ≤ m := by rw [hmm]; split <;> omega
    have each : ∀ i, i < len → ∃ s : Sp, V0 i = .int .i64 s.1 ∧ V1 i = .int .i64 s.2 ∧ (-9223372036854775808 ≤ s.1 ∧ s.1 ≤ 9223372036854775807) ∧ -9223372036854775808 ≤ s.2 ∧ s.2 ≤ 9223372036854775807 := by
      intro i hi'
      obtain ⟨h1, h2, h3, h4⟩ := hi i (by omega)
      obtain ⟨x, e1, g1⟩ := cell_i64 h3
      obtain ⟨y, e2, g2⟩ := cell_i64 h4
      exact ⟨(x, y), e1, e2, g1, g2⟩
    obtain ⟨S, hS⟩ := choose_lt each
    have hlen : ((List.range len).map S).length = len := by simp
    have hfr : ∀ k, k < len → fr ((List.range len).map S) k = (S k).1 ∧ tt ((List.range len).map S) k = (S k).2 := fun k hk => by
      simp [fr, tt, List.getD_eq_getElem?_getD, List.getElem?_map, List.getElem?_range hk]
    refine ⟨some a, cap, (List.range len).map S, by rw [hlen]; exact hcs, ?_, by rw [hlen]; exact hl, hm, fun k hk => ?_⟩
    · intro h0
      rw [hlen] at h0
      obtain ⟨h1, _⟩ := hi 0 (by omega)
      rw [Nat.zero_mul] at h1
      obtain ⟨b, o, rfl⟩ := add_form h1
      refine ⟨b, o, rfl, fun k hk => ?_⟩
      rw [hlen] at hk
      obtain ⟨h2, h3, _⟩ := hi k (by omega)
      obtain ⟨e1, e2, _⟩ := hS k hk
      rw [add_at] at h2 h3
      rw [(hfr k hk).1, (hfr k hk).2]
      exact ⟨by rw [h2, e1], by rw [show o + k * 2 + 1 = o + (k * 2 + 1) by omega, h3, e2]⟩
    · rw [hlen] at hk
      rw [(hfr k hk).1, (hfr k hk).2]
      exact ⟨(hS k hk).2.2.1, (hS k hk).2.2.2⟩

/-- a calendar, by value -/
theorem open_cal {v : Value} {d : DataW H} {p : List MemPlace} (hv : Value.okWide Try.prog w .any b0 24 v) (h : DataW.Trod enc Try.prog w base spare held 24 v d p) :
    ∃ o q A c l, v = .agg #[.int .i64 o, .int .i64 q, .slice A (List.length l) c] ∧ SpsR w A l ∧ l.length ≤ c ∧ c ≤ maxLen ∧ (-9223372036854775808 ≤ o ∧ o ≤ 9223372036854775807) ∧ (-9223372036854775808 ≤ q ∧ q ≤ 9223372036854775807) ∧
      ∀ k, k < l.length → (-9223372036854775808 ≤ fr l k ∧ fr l k ≤ 9223372036854775807) ∧ -9223372036854775808 ≤ tt l k ∧ tt l k ≤ 9223372036854775807 := by
  obtain ⟨c0, c1, c2, y0, y1, y2, m, rfl, _, _, h0, h1, h2⟩ := open_agg3 (P := Try.prog) (t := 24) Try.underlying24 (by kernel_rfl) (by kernel_rfl) hv h
  obtain ⟨o, rfl, ho⟩ := cell_i64 h0
  obtain ⟨q, rfl, hq⟩ := cell_i64 h1
  obtain ⟨A, c, l, rfl, hr, h3, h4, h5⟩ := cells_spans h2
  exact ⟨o, q, A, c, l, rfl, hr, h3, h4, ho, hq, h5⟩

/-- a slice of spans -/
theorem open_sps {v : Value} {d : DataW H} {p : List MemPlace} (hv : Value.okWide Try.prog w .any b0 22 v) (h : DataW.Trod enc Try.prog w base spare held 22 v d p) :
    ∃ A c l, v = .slice A (List.length l) c ∧ SpsR w A l ∧ l.length ≤ c ∧ c ≤ maxLen ∧ ∀ k, k < l.length → (-9223372036854775808 ≤ fr l k ∧ fr l k ≤ 9223372036854775807) ∧ -9223372036854775808 ≤ tt l k ∧ tt l k ≤ 9223372036854775807 := by
  obtain ⟨a, n, c, rfl⟩ := okWide_slice (P := Try.prog) Try.underlying22 hv
  obtain ⟨fuel, hf⟩ := h
  exact cells_spans (by simpa [Value.cells] using hf)

/-- a periodic set, by value -/
theorem open_per {v : Value} {d : DataW H} {p : List MemPlace} (hv : Value.okWide Try.prog w .any b0 26 v) (h : DataW.Trod enc Try.prog w base spare held 26 v d p) :
    ∃ q A c l, v = .agg #[.int .i64 q, .slice A (List.length l) c] ∧ SpsR w A l ∧ l.length ≤ c ∧ c ≤ maxLen ∧ (-9223372036854775808 ≤ q ∧ q ≤ 9223372036854775807) ∧
      ∀ k, k < l.length → (-9223372036854775808 ≤ fr l k ∧ fr l k ≤ 9223372036854775807) ∧ -9223372036854775808 ≤ tt l k ∧ tt l k ≤ 9223372036854775807 := by
  obtain ⟨c0, c1, y0, y1, m, rfl, _, _, h0, h1⟩ := open_agg2 (P := Try.prog) (t := 26) Try.underlying26 (by kernel_rfl) (by kernel_rfl) hv h
  obtain ⟨q, rfl, hq⟩ := cell_i64 h0
  obtain ⟨A, c, l, rfl, hr, h3, h4, h5⟩ := cells_spans h1
  exact ⟨q, A, c, l, rfl, hr, h3, h4, hq, h5⟩

end

theorem own : ownKnob Try.prog.godebug = none := by kernel_rfl
theorem laidOut : laidOutB Try.prog = true := by kernel_rfl
end Go.Proofs.Ytebkfbkgmbgobaa
