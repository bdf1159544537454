/-
  A slice of bounds that is read. No program here.
-/
import Derived.Test.YtegmjohhgedakaaArr
namespace Go.Proofs.Ytegmjohhgedakaa
open Go.RowKit
/-- a slice of bounds reads as a list -/
def BdsR (w : World) (A : Option Addr) (l : List (Int × Int × Int)) : Prop :=
  0 < l.length → ∃ b o, A = some ⟨b, o, none⟩ ∧ ∀ k, k < l.length → w.cell? ⟨b, o + k * 3, none⟩ = some (.int .i64 (l.getD k (0, 0, 0)).1) ∧ w.cell? ⟨b, o + k * 3 + 1, none⟩ = some (.int .i64 (l.getD k (0, 0, 0)).2.1) ∧ w.cell? ⟨b, o + k * 3 + 2, none⟩ = some (.int .i64 (l.getD k (0, 0, 0)).2.2)
theorem bds_arr {B w : World} {fs : Faces} {A : Option Addr} {c : Nat} {l : List (Int × Int × Int)} (h : BdsR w A l) (h1 : l.length ≤ c) (h2 : c ≤ maxLen) : ChOk B w fs (.arr false A c .i3 l) ∧ (Ch.arr false A c .i3 l).wr = false := by
  refine ⟨⟨(fun e => by cases e), h1, h2, fun h0 => ?_⟩, rfl⟩
  obtain ⟨b, o, ha, hc⟩ := h h0
  refine ⟨b, o, ha, fun k hk f v hv => ?_⟩
  match f, hv with
  | 0, hv => simp [El.vals] at hv; subst hv; exact (hc k hk).1
  | 1, hv => simp [El.vals] at hv; subst hv; exact (hc k hk).2.1
  | 2, hv => simp [El.vals] at hv; subst hv; exact (hc k hk).2.2
end Go.Proofs.Ytegmjohhgedakaa
