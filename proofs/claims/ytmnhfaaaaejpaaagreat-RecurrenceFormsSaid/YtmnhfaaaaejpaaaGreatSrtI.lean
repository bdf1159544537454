/-
  A symbolic run: slices.Sort over a slice of integers of the call's own. No program here.
-/
import Derived.Test.YtmnhfaaaaejpaaaGreatSrt
import Derived.Shelf.Sort.Plain
import Derived.Shelf.Slices.In.SortNone
namespace Go.Proofs.YtmnhfaaaaejpaaaGreat
open Go.RowKit

theorem flat_i1 (l : List Int) : El.flat .i1 l = l.map (Value.int .i64) := by
  induction l with
  | nil => rfl
  | cons x l ih =>
    have : El.flat .i1 (x :: l) = Value.int .i64 x :: El.flat .i1 l := rfl
    rw [this, ih]; rfl
theorem putCells_i1 (ts : List Int) (cur : Array Value) : Sort.putCells (Value.int .i64) 0 ts.toArray cur = Sort.putCells id 0 (El.flat .i1 ts).toArray cur := by
  rw [flat_i1]
  unfold Sort.putCells
  refine Array.ext (by simp) fun k h1 h2 => ?_
  simp only [Array.getElem_mapIdx]
  simp only [List.size_toArray, List.length_map, Nat.zero_le, true_and, Nat.zero_add, Nat.sub_zero]
  split
  · rename_i h
    simp [h]
  · rfl
theorem putRow_i1 (ts : List Int) (w : World) (g : Nat) : Sort.putRow (Value.int .i64) w g 0 ts.toArray = Sort.putRow id w g 0 (El.flat .i1 ts).toArray := by
  unfold Sort.putRow
  congr 1
  funext cur
  exact putCells_i1 ts cur

section
variable {P : Program} {ρ : Go.Shelf.Ren}
theorem call_sortI (L : Lays.n189 P ρ) {f : Nat} (hf : f = ρ.f 189) (hcB : callB P f = true)
    {n0 : Nat} {R : AV → List Ck → Prop} {O : Ops} {X : Cx} (hO : O = std) (hX : Good P n0 R X) {i : Nat} {T : TypeId} {l r : List Int} {s : St} {K : AV → St → Prop} (hi : nthCk s.hp i = .own T .i1 l) (hv : m_sortI O l = some r) (hK : K (.tup []) ⟨s.fr, setK s.hp i (.own T .i1 r)⟩) :
    X .call false f [.c (.sl i)] s K := by
  subst hO; subst hf
  obtain ⟨w0, F0, Q0, _, _, rfl, _⟩ := hX
  unfold m_sortI at hv
  obtain ⟨hr, hv⟩ := grdS hv
  injection hv with hv
  subst hv
  have hr : l.length ≤ 1099511627776 := of_decide_eq_true hr
  refine Or.inr ⟨hcB, fun hp w hck hok vs hvs => ?_⟩
  rw [← hck] at hi hK
  obtain ⟨d, hd, hdc⟩ := nthCk_some hi (by simp)
  cases d <;> simp only [Ch.ck] at hdc <;> cases hdc
  rename_i A cap
  have hvs' : vs = [.slice A l.length cap] := by
    have hfd : (faces hp)[i]? = some ⟨A, l.length, cap, 1, []⟩ := by simp only [faces, List.getElem?_map, hd]; rfl
    simp only [List.map_cons, List.map_nil, AV.val, Ce.val, hfd, allv, Option.some.injEq] at hvs
    exact hvs.symm
  subst hvs'
  have hlen := sortI_len l
  have hfin : ∀ hp' : List Ch, hp'.map Ch.ck = setK (hp.map Ch.ck) i (.own T .i1 (sortI l)) → K (.tup []) ⟨s.fr, hp'.map Ch.ck⟩ := fun hp' h => by rw [h]; exact hK
  have hset : (hp.set i (.own A cap T .i1 (sortI l))).map Ch.ck = setK (hp.map Ch.ck) i (.own T .i1 (sortI l)) := by rw [setK_eq, List.map_set]; rfl
  have hown : w.ownsRow w0.heap.size T 1 (.slice A l.length cap) l.length (El.flat .i1 l) := hok.ok i _ hd
  rcases Nat.eq_zero_or_pos l.length with h0 | h0
  · have hl0 : l = [] := List.eq_nil_of_length_eq_zero h0
    have hs0 : sortI l = l := by rw [hl0]; rw [hl0] at hlen; exact List.eq_nil_of_length_eq_zero hlen
    rw [h0]
    refine (Any.slices_Sort_int_none L A cap w).mono ?_
    rintro e w' ⟨rfl, rfl⟩
    refine ⟨.tup [], .tuple #[], hp, rfl, .inr rfl, FsLe.refl _, hok, (fun h => by cases h), hfin hp ?_⟩
    rw [setK_eq, hs0]
    refine List.ext_getElem? fun j => ?_
    rw [List.getElem?_set]
    split
    · rename_i e1; subst e1
      rw [List.getElem?_map, hd]
      have := (List.getElem?_eq_some_iff.1 hd).1
      simp [this, Ch.ck]
    · rfl
  · obtain ⟨h1, h2⟩ := hown
    rcases h2 with ⟨h2, h3⟩ | ⟨gb, cap', cur, hv1, hg1, hbk, q1, q2, q3, q4⟩
    · omega
    · injection hv1 with hv2 _ hv3
      subst hv2; subst hv3
      rw [flat_i1] at q4
      have hH : Sort.Holds (Value.int .i64) w gb 0 l.toArray := holds_of_blockI hbk (by rw [Nat.mul_one] at q4; exact q4)
      have hc := Any.slices_Sort_int L gb 0 cap l w hH (Array.getElem?_eq_some_iff.1 hbk).1 (by omega)
      refine Calls.mono hc fun e w' ⟨he, n, os, hw⟩ => ?_
      rw [putRow_i1] at hw
      subst hw
      refine ⟨.tup [], .tuple #[], hp.set i (.own (some ⟨gb, 0, none⟩) cap T .i1 (sortI l)), he, .inr rfl, ?_, hok.sorted hd hlen n os, (fun h => by cases h), hfin _ hset⟩
      rw [faces_set hd (by simp [Ch.face, hlen])]
      exact FsLe.refl _
end
end Go.Proofs.YtmnhfaaaaejpaaaGreat
