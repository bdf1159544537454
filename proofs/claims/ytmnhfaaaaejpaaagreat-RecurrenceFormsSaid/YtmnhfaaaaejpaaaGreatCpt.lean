/-
  A symbolic run: slices.Compact over a slice of integers of the call's own. No program here.
-/
import Derived.Test.YtmnhfaaaaejpaaaGreatCptM
import Derived.Test.YtmnhfaaaaejpaaaGreatSrtI
import Derived.Shelf.Slices.CompactI
namespace Go.Proofs.YtmnhfaaaaejpaaaGreat
open Go.RowKit

section
variable {P : Program} {ρ : Go.Shelf.Ren}
theorem call_compI (L : Lays2.n20 P ρ) {f : Nat} (hf : f = ρ.f 20) (hcB : callB P f = true)
    {n0 : Nat} {R : AV → List Ck → Prop} {O : Ops} {X : Cx} (hO : O = std) (hX : Good P n0 R X) {i : Nat} {T : TypeId} {l r : List Int} {s : St} {K : AV → St → Prop} (hi : nthCk s.hp i = .own T .i1 l) (hv : m_compI O l = some r) (hK : K (.c (.sl s.hp.length)) ⟨s.fr, setK s.hp i .gone ++ [.own T .i1 r]⟩) :
    X .call false f [.c (.sl i)] s K := by
  subst hO; subst hf
  obtain ⟨w0, F0, Q0, _, _, rfl, _⟩ := hX
  unfold m_compI at hv
  obtain ⟨hr, hv⟩ := grdS hv
  injection hv with hv
  subst hv
  have hr : l.length ≤ 1099511627776 := of_decide_eq_true hr
  refine Or.inr ⟨hcB, fun hp w hck hok vs hvs => ?_⟩
  rw [← hck] at hi hK
  obtain ⟨d, hd, hdc⟩ := nthCk_some hi (by simp)
  cases d <;> simp only [Ch.ck] at hdc <;> cases hdc
  rename_i A cap
  have hvs' : vs = [.slice A l.length cap] := by
    have hfd : (faces hp)[i]? = some ⟨A, l.length, cap, 1, []⟩ := by simp only [faces, List.getElem?_map, hd]; rfl
    simp only [List.map_cons, List.map_nil, AV.val, Ce.val, hfd, allv, Option.some.injEq] at hvs
    exact hvs.symm
  subst hvs'
  have hown : w.ownsRow w0.heap.size T 1 (.slice A l.length cap) l.length (El.flat .i1 l) := hok.ok i _ hd
  have hfin : ∀ (A' : Option Addr) (c' : Nat) (w' : World) (e : Ending), e = .returned (.slice A' (Lib.compact l).length c') → HOk w0 (hp.set i (.gone (Ch.own A cap T .i1 l).face) ++ [.own A' c' T .i1 (Lib.compact l)]) w' →
      ∃ v ret hp', e = .returned ret ∧ AV.rel (faces hp') v ret ∧ FsLe (faces hp) (faces hp') ∧ HOk w0 hp' w' ∧ (false = true → Below w.heap.size w w' ∧ News w hp hp') ∧ K v ⟨s.fr, hp'.map Ch.ck⟩ := fun A' c' w' e he hk' => by
    refine ⟨.c (.sl (hp.map Ch.ck).length), _, _, he, .inr ?_, ?_, hk', (fun h => by cases h), ?_⟩
    · have := face_new (hp.set i (.gone (Ch.own A cap T .i1 l).face)) (.own A' c' T .i1 (Lib.compact l))
      simp only [List.length_set] at this
      simp only [AV.val, Ce.val, List.length_map, this]
      rfl
    · have := faces_app (hp.set i (.gone (Ch.own A cap T .i1 l).face)) (.own A' c' T .i1 (Lib.compact l))
      rw [faces_set (c' := .gone (Ch.own A cap T .i1 l).face) hd rfl] at this
      exact this
    · have e1 : (hp.set i (Ch.gone (Ch.own A cap T .i1 l).face) ++ [Ch.own A' c' T .i1 (Lib.compact l)]).map Ch.ck = setK (hp.map Ch.ck) i .gone ++ [.own T .i1 (Lib.compact l)] := by
        rw [setK_eq, List.map_append, List.map_set]; rfl
      rw [e1]; rw [hck] at hK ⊢; exact hK
  have hcl := compI_len l
  rcases Nat.eq_zero_or_pos l.length with h0 | h0
  · have hl0 : l = [] := List.eq_nil_of_length_eq_zero h0
    have hs0 : Lib.compact l = l := by rw [hl0]; rfl
    rw [h0]
    refine (Any.slices_Compact_int_empty L A cap w).mono ?_
    rintro e w' ⟨rfl, rfl⟩
    refine hfin A cap w' _ (by rw [hs0, h0]) ?_
    rw [hs0]
    exact hok.grow hd hown ⟨rfl, rfl, rfl, Nat.le_refl _, fun _ _ _ => rfl⟩ (.inl rfl)
  · obtain ⟨h1, h2⟩ := hown
    rcases h2 with ⟨h2, h3⟩ | ⟨gb, cap', cur, hv1, hg1, hbk, q1, q2, q3, q4⟩
    · omega
    · injection hv1 with hv2 _ hv3
      subst hv2; subst hv3
      have q4' := q4
      rw [flat_i1] at q4
      have hH : Sort.Holds (Value.int .i64) w gb 0 l.toArray := holds_of_blockI hbk (by rw [Nat.mul_one] at q4; exact q4)
      have hc := Any.slices_Compact_int L gb 0 cap l w hH (by omega) q1
      refine Calls.mono hc fun e w' ⟨he, n, hw⟩ => ?_
      rw [putRow_i1] at hw
      generalize hts : Lib.compact l ++ List.replicate (l.length - (Lib.compact l).length) 0 = ts at hw
      have hlt : ts.length = l.length := by rw [← hts]; simp; omega
      have hb' : w'.heap[gb]? = some (.cells (Sort.putCells id 0 (El.flat .i1 ts).toArray cur) T (0, 0)) := by
        rw [hw]; simp [Sort.putRow, Sort.mapBlock, Sort.ahead, Array.getElem?_modify, hbk, Sort.onCells]
      refine hfin _ _ w' e he ?_
      refine hok.grow hd ?_ ?_ (.inl rfl)
      · refine ⟨El.flat_len _ _, .inr ⟨gb, cap, _, rfl, hg1, hb', by omega, q2, by simp [Sort.putCells]; exact q3, ?_⟩⟩
        have hf : (El.flat .i1 ts).length = l.length := by rw [El.flat_len, hlt]; exact Nat.mul_one _
        have h5 := take_putCellsV cur (El.flat .i1 ts) (by rw [hf, q3]; omega)
        generalize (Sort.putCells id 0 (El.flat .i1 ts).toArray cur).toList = pc at h5 ⊢
        show pc.take ((Lib.compact l).length * 1) = El.flat .i1 (Lib.compact l)
        have e6 : pc.take ((Lib.compact l).length * 1) = (El.flat .i1 ts).take ((Lib.compact l).length * 1) := by
          rw [← h5, List.take_take, hf]
          congr 1
          omega
        rw [e6, ← hts, El.flat_app]
        have e7 : (El.flat .i1 (Lib.compact l)).length = (Lib.compact l).length * 1 := El.flat_len _ _
        rw [← e7]
        exact List.take_left
      · rw [hw]
        refine ⟨rfl, rfl, rfl, by simp [Sort.putRow, Sort.mapBlock, Sort.ahead], fun k hk hne => ?_⟩
        have : gb ≠ k := fun e => hne (by simp [Value.ownBlock, e])
        simp [Sort.putRow, Sort.mapBlock, Sort.ahead, Array.getElem?_modify, this]
end
end Go.Proofs.YtmnhfaaaaejpaaaGreat
