/-
  A matrix that is read. No program here.
-/
import Derived.Test.YtegmjohhgedakaaArrB
namespace Go.Proofs.Ytegmjohhgedakaa
open Go.RowKit
theorem mat_arr {B w : World} {fs : Faces} {A : Option Addr} {c : Nat} {rs : List Value} {ll : List (List Int)} (h : MatOk w A c rs ll) : ChOk B w fs (.mat false A c rs ll) ∧ (Ch.mat false A c rs ll).wr = false :=
  ⟨⟨(fun e => by cases e), h⟩, rfl⟩
theorem is_row {w : World} {A : Option Addr} {c : Nat} {l : List Int} (h : IsR w A l) (h1 : l.length ≤ c) (h2 : c ≤ maxLen) : RowOk w (.slice A l.length c) l := by
  obtain ⟨h3, -⟩ := is_arr (B := w) (fs := []) h h1 h2
  exact ⟨A, c, rfl, h1, h2, h3.2.2.2⟩
end Go.Proofs.Ytegmjohhgedakaa
