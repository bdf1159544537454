/-
  The arguments' slices, as the symbolic run takes them.
-/
import Derived.Test.YtmnhfaaaaejpaaaGreatSymTrue
namespace Go.Proofs.YtmnhfaaaaejpaaaGreat
open Go.RowKit
theorem sps_arr {B w : World} {fs : Faces} {A : Option Addr} {c : Nat} {l : List Sp} (h : SpsR w A l) (h1 : l.length ≤ c) (h2 : c ≤ maxLen) : ChOk B w fs (.arr false A c .i2 l) ∧ (Ch.arr false A c .i2 l).wr = false := by
  refine ⟨⟨(fun e => by cases e), h1, h2, fun h0 => ?_⟩, rfl⟩
  obtain ⟨b, o, ha, hc⟩ := h h0
  refine ⟨b, o, ha, fun k hk f v hv => ?_⟩
  match f, hv with
  | 0, hv => simp [El.vals] at hv; subst hv; exact (hc k hk).1
  | 1, hv => simp [El.vals] at hv; subst hv; exact (hc k hk).2
/-- a slice of integers reads as a list -/
def IsR (w : World) (A : Option Addr) (l : List Int) : Prop :=
  0 < l.length → ∃ b o, A = some ⟨b, o, none⟩ ∧ ∀ k, k < l.length → w.cell? ⟨b, o + k, none⟩ = some (.int .i64 (l.getD k 0))
theorem is_arr {B w : World} {fs : Faces} {A : Option Addr} {c : Nat} {l : List Int} (h : IsR w A l) (h1 : l.length ≤ c) (h2 : c ≤ maxLen) : ChOk B w fs (.arr false A c .i1 l) ∧ (Ch.arr false A c .i1 l).wr = false := by
  refine ⟨⟨(fun e => by cases e), h1, h2, fun h0 => ?_⟩, rfl⟩
  obtain ⟨b, o, ha, hc⟩ := h h0
  refine ⟨b, o, ha, fun k hk f v hv => ?_⟩
  match f, hv with
  | 0, hv => simp [El.vals] at hv; subst hv; have := hc k hk; simp only [Nat.mul_one, Nat.add_zero, El.sz]; exact this
end Go.Proofs.YtmnhfaaaaejpaaaGreat
