/-
  A symbolic run: slices.Delete over a slice of integers of the call's own. No program here.
-/
import Derived.Test.YtegmjohhgedakaaDelM
import Derived.Test.YtegmjohhgedakaaCpt
import Derived.Shelf.Slices.Delete
namespace Go.Proofs.Ytegmjohhgedakaa
open Go.RowKit

section
variable {P : Program} {ρ : Go.Shelf.Ren}
theorem call_delI (L : Lays2.n23 P ρ) {f : Nat} (hf : f = ρ.f 23) (hcB : callB P f = true)
    {n0 : Nat} {R : AV → List Ck → Prop} {O : Ops} {X : Cx} (hO : O = std) (hX : Good P n0 R X) {i : Nat} {T : TypeId} {l r : List Int} {a b : Int} {s : St} {K : AV → St → Prop} (hi : nthCk s.hp i = .own T .i1 l) (hv : m_delI O l a b = some r) (hK : K (.c (.sl s.hp.length)) ⟨s.fr, setK s.hp i .gone ++ [.own T .i1 r]⟩) :
    X .call false f [.c (.sl i), .c (.int .i64 a), .c (.int .i64 b)] s K := by
  subst hO; subst hf
  obtain ⟨w0, F0, Q0, _, _, rfl, _⟩ := hX
  unfold m_delI at hv
  obtain ⟨hr, hv⟩ := grdS hv
  injection hv with hv
  subst hv
  obtain ⟨ha0, hab, hbl, hr⟩ := of_decide_eq_true hr
  obtain ⟨u, rfl⟩ : ∃ u : Nat, a = (u : Int) := ⟨a.toNat, by omega⟩
  obtain ⟨v, rfl⟩ : ∃ v : Nat, b = (v : Int) := ⟨b.toNat, by omega⟩
  rw [Int.toNat_natCast, Int.toNat_natCast] at hK
  have huv : u < v := by omega
  have hvl : v ≤ l.length := by omega
  clear ha0 hab hbl
  obtain ⟨rr, hrr⟩ : ∃ rr, rr = l.take u ++ l.drop v := ⟨_, rfl⟩
  rw [← hrr] at hK
  have hrl : rr.length = l.length - (v - u) := by rw [hrr]; simp; omega
  refine Or.inr ⟨hcB, fun hp w hck hok vs hvs => ?_⟩
  rw [← hck] at hi hK
  obtain ⟨d, hd, hdc⟩ := nthCk_some hi (by simp)
  cases d <;> simp only [Ch.ck] at hdc <;> cases hdc
  rename_i A cap
  have hvs' : vs = [.slice A l.length cap, .int .i64 (u : Int), .int .i64 (v : Int)] := by
    have hfd : (faces hp)[i]? = some ⟨A, l.length, cap, 1, []⟩ := by simp only [faces, List.getElem?_map, hd]; rfl
    simp only [List.map_cons, List.map_nil, AV.val, Ce.val, hfd, allv, Option.some.injEq] at hvs
    exact hvs.symm
  subst hvs'
  have hown : w.ownsRow w0.heap.size T 1 (.slice A l.length cap) l.length (El.flat .i1 l) := hok.ok i _ hd
  have hfin : ∀ (A' : Option Addr) (c' : Nat) (w' : World) (e : Ending), e = .returned (.slice A' rr.length c') → HOk w0 (hp.set i (.gone (Ch.own A cap T .i1 l).face) ++ [.own A' c' T .i1 rr]) w' →
      ∃ v ret hp', e = .returned ret ∧ AV.rel (faces hp') v ret ∧ FsLe (faces hp) (faces hp') ∧ HOk w0 hp' w' ∧ (false = true → Below w.heap.size w w' ∧ News w hp hp') ∧ K v ⟨s.fr, hp'.map Ch.ck⟩ := fun A' c' w' e he hk' => by
    refine ⟨.c (.sl (hp.map Ch.ck).length), _, _, he, .inr ?_, ?_, hk', (fun h => by cases h), ?_⟩
    · have := face_new (hp.set i (.gone (Ch.own A cap T .i1 l).face)) (.own A' c' T .i1 rr)
      simp only [List.length_set] at this
      simp only [AV.val, Ce.val, List.length_map, this]
      rfl
    · have := faces_app (hp.set i (.gone (Ch.own A cap T .i1 l).face)) (.own A' c' T .i1 rr)
      rw [faces_set (c' := .gone (Ch.own A cap T .i1 l).face) hd rfl] at this
      exact this
    · have e1 : (hp.set i (Ch.gone (Ch.own A cap T .i1 l).face) ++ [Ch.own A' c' T .i1 rr]).map Ch.ck = setK (hp.map Ch.ck) i .gone ++ [.own T .i1 rr] := by
        rw [setK_eq, List.map_append, List.map_set]; rfl
      rw [e1]; rw [hck] at hK ⊢; exact hK
  obtain ⟨h1, h2⟩ := hown
  rcases h2 with ⟨h2, h3⟩ | ⟨gb, cap', cur, hv1, hg1, hbk, q1, q2, q3, q4⟩
  · omega
  · injection hv1 with hv2 _ hv3
    subst hv2; subst hv3
    have q4' := q4
    rw [flat_i1] at q4
    have hH : Sort.Holds (Value.int .i64) w gb 0 l.toArray := holds_of_blockI hbk (by rw [Nat.mul_one] at q4; exact q4)
    have hc := Any.slices_Delete_int_arr L gb 0 cap u v l.toArray w hH (by simpa using q1) (by unfold maxLen at q2; omega) (by omega) (by simpa using hvl)
    refine Calls.mono hc fun e w' ⟨he, n, hw⟩ => ?_
    rw [putRow_i1, List.toList_toArray, ← hrr] at hw
    rw [List.size_toArray, ← hrl] at he
    generalize hts : rr ++ List.replicate (v - u) 0 = ts at hw
    have hlt : ts.length = l.length := by rw [← hts]; simp; omega
    have hb' : w'.heap[gb]? = some (.cells (Sort.putCells id 0 (El.flat .i1 ts).toArray cur) T (0, 0)) := by
      rw [hw]; simp [Sort.putRow, Sort.mapBlock, Sort.ahead, Array.getElem?_modify, hbk, Sort.onCells]
    refine hfin _ _ w' e he ?_
    refine hok.grow hd ?_ ?_ (.inl rfl)
    · refine ⟨El.flat_len _ _, .inr ⟨gb, cap, _, rfl, hg1, hb', by omega, q2, by simp [Sort.putCells]; exact q3, ?_⟩⟩
      have hf : (El.flat .i1 ts).length = l.length := by rw [El.flat_len, hlt]; exact Nat.mul_one _
      have h5 := take_putCellsV cur (El.flat .i1 ts) (by rw [hf, q3]; omega)
      generalize (Sort.putCells id 0 (El.flat .i1 ts).toArray cur).toList = pc at h5 ⊢
      show pc.take (rr.length * 1) = El.flat .i1 rr
      have e6 : pc.take (rr.length * 1) = (El.flat .i1 ts).take (rr.length * 1) := by
        rw [← h5, List.take_take, hf]
        congr 1
        omega
      rw [e6, ← hts, El.flat_app]
      have e7 : (El.flat .i1 rr).length = rr.length * 1 := El.flat_len _ _
      rw [← e7]
      exact List.take_left
    · rw [hw]
      refine ⟨rfl, rfl, rfl, by simp [Sort.putRow, Sort.mapBlock, Sort.ahead], fun k hk hne => ?_⟩
      have : gb ≠ k := fun e => hne (by simp [Value.ownBlock, e])
      simp [Sort.putRow, Sort.mapBlock, Sort.ahead, Array.getElem?_modify, this]
end
end Go.Proofs.Ytegmjohhgedakaa
