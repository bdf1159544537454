/-
  More on a slice that the call has made: its capacity; three stores into an older block.
-/
import Derived.Test.YtnieceplfjmocaaOwn
namespace Go.Proofs.Ytnieceplfjmocaa
open Go.RowKit Go.BigFrame

theorem OwnSp.cap {w : World} {base : Nat} {A : Option Addr} {c : Nat} {l : List Sp} (h : OwnSp w base A c l) : l.length ≤ c ∧ c ≤ maxLen := by
  rcases h.2 with ⟨e, h0⟩ | ⟨g, cap, cur, e, _, _, h1, h2, _⟩
  · injection e with _ e2 e3; simp only [maxLen]; omega
  · injection e with _ _ e3; omega
theorem SpsR.far3 {w : World} {A : Option Addr} {l : List Sp} (h : SpsR w A l) {B g : Nat} (hf : From B A) (hg : g < B) (u0 u1 u2 : Value) :
    SpsR (((w.setCell ⟨g, 0, none⟩ u0).setCell ⟨g, 1, none⟩ u1).setCell ⟨g, 2, none⟩ u2) A l :=
  ((h.far hf (p := ⟨g, 0, none⟩) hg _).far hf (p := ⟨g, 1, none⟩) hg _).far hf (p := ⟨g, 2, none⟩) hg _
end Go.Proofs.Ytnieceplfjmocaa
