/-
  The walk of GranuleRepeats, as the row takes it.
-/
import Derived.Test.YtnieceplfjmocaaRepeats
namespace Go.Proofs.Ytnieceplfjmocaa
open Go.RowKit
theorem hok_ro {w : World} {hp : List Ch} (h : ∀ d ∈ hp, ChOk w w (faces hp) d ∧ d.wr = false) : HOk w hp w :=
  ⟨Below.refl _ _, fun i d hd => (h d (List.mem_of_getElem? hd)).1, fun i j d e _ hd _ hw => by rw [(h d (List.mem_of_getElem? hd)).2] at hw; cases hw⟩
theorem fn_true {P : Program} {f : FuncId} {avs : List AV} {cks0 : List Ck} (h : Fn P f avs cks0 (fun v c => v = .c (.bool true) ∧ c = [])) (w : World) (hp0 : List Ch) (hck : hp0.map Ch.ck = cks0) (hok : HOk w hp0 w) (vs : List Value) (hvs : allv (avs.map (AV.val (faces hp0))) = some vs) :
    Calls P f vs.toArray w fun e w' => e = .returned (.bool true) ∧ Below w.heap.size w w' := by
  refine (h w hp0 hck hok vs hvs).mono fun e w' hpost => ?_
  obtain ⟨v, cks, hpn, u, ⟨rfl, rfl⟩, hckn, rfl, hu, hok', _⟩ := hpost
  simp only [AV.val, Ce.val, Option.some.injEq] at hu
  subst hu
  exact ⟨rfl, hok'.bel⟩
theorem repeats_walk (o p : Int) (A : Option Addr) (c : Nat) (l : List Sp) (o' p' : Int) (A' : Option Addr) (c' : Nat) (l' : List Sp) (n : Int) (w : World) (h : SpsR w A l) (hc : l.length ≤ c) (hm : c ≤ maxLen) (h' : SpsR w A' l') (hc' : l'.length ≤ c') (hm' : c' ≤ maxLen) (hn : 0 ≤ n ∧ n ≤ 255) :
    Calls Try.prog 3 #[.agg #[.int .i64 o, .int .i64 p, .slice A l.length c], .agg #[.int .i64 o', .int .i64 p', .slice A' l'.length c'], .int .u8 n] w fun e w' => e = .returned (.bool true) ∧ Below w.heap.size w w' := by
  refine fn_true (repeats_fn (o := o) (p := p) (o' := o') (p' := p') (n := n) (l := l) (l' := l') hn) w [.arr false A c .i2 l, .arr false A' c' .i2 l'] rfl (hok_ro fun d hd => ?_) _ rfl
  simp at hd
  rcases hd with rfl | rfl
  · exact ⟨sps_arr h hc hm (fun e => by cases e), rfl⟩
  · exact ⟨sps_arr h' hc' hm' (fun e => by cases e), rfl⟩
end Go.Proofs.Ytnieceplfjmocaa
