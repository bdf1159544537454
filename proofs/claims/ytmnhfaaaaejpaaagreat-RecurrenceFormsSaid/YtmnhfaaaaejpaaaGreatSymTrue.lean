/-
  A law's walk from its contract for the symbolic run.
-/
import Derived.Test.YtmnhfaaaaejpaaaGreatSymUse
namespace Go.Proofs.YtmnhfaaaaejpaaaGreat
open Go.RowKit
theorem hok_ro {w : World} {hp : List Ch} (h : ∀ d ∈ hp, ChOk w w (faces hp) d ∧ d.wr = false) : HOk w hp w :=
  ⟨Below.refl _ _, fun i d hd => (h d (List.mem_of_getElem? hd)).1, fun i j d e _ hd _ hw => by rw [(h d (List.mem_of_getElem? hd)).2] at hw; cases hw⟩
theorem fn_true {P : Program} {f : FuncId} {avs : List AV} {cks0 : List Ck} (h : Fn P f avs cks0 (fun v c => v = .c (.bool true) ∧ c = [])) (w : World) (hp0 : List Ch) (hck : hp0.map Ch.ck = cks0) (hok : HOk w hp0 w) (vs : List Value) (hvs : allv (avs.map (AV.val (faces hp0))) = some vs) :
    Calls P f vs.toArray w fun e w' => e = .returned (.bool true) ∧ Below w.heap.size w w' := by
  refine (h w hp0 hck hok vs hvs).mono fun e w' hpost => ?_
  obtain ⟨v, cks, hpn, u, ⟨rfl, rfl⟩, hckn, rfl, hu, hok', _⟩ := hpost
  simp only [AV.val, Ce.val, Option.some.injEq] at hu
  subst hu
  exact ⟨rfl, hok'.bel⟩
end Go.Proofs.YtmnhfaaaaejpaaaGreat
