/-
  A symbolic run: slices.SortFunc over a slice of the call's own. No program here.
-/
import Derived.Test.YtmnhfaaaaejpaaaGreatSrtM
import Derived.Shelf.SlSortCmp.WholeK
import Derived.Shelf.SlSortCmp.NoneTotal
import Derived.Sort.OwnSortedInts
namespace Go.Proofs.YtmnhfaaaaejpaaaGreat
open Go.RowKit

theorem heap_sortedV {w : World} {g n : Nat} {os : Array Obj} {cur : Array Value} {e : TypeId} {fr : Nat × Nat} (d : Array Value) (hb : w.heap[g]? = some (.cells cur e fr)) :
    (Sort.grow (Sort.putRow id (Sort.ahead w n) g 0 d) os).heap[g]? = some (.cells (Sort.putCells id 0 d cur) e fr) := by
  have hg : g < w.heap.size := (Array.getElem?_eq_some_iff.1 hb).1
  rw [Sort.heap_grow_old _ _ (by simpa using hg)]
  simp [Sort.putRow, Sort.mapBlock, Sort.ahead, Array.getElem?_modify, hb, Sort.onCells]
theorem keep_sortedV {w : World} {g n : Nat} {os : Array Obj} (d : Array Value) {k : Nat} (hk : k < w.heap.size) (hne : k ≠ g) : (Sort.grow (Sort.putRow id (Sort.ahead w n) g 0 d) os).heap[k]? = w.heap[k]? := by
  rw [Sort.heap_grow_old _ _ (by simpa using hk)]
  have : g ≠ k := fun e => hne e.symm
  simp [Sort.putRow, Sort.mapBlock, Sort.ahead, Array.getElem?_modify, this]
theorem take_putCellsV (cur : Array Value) (ts : List Value) (h : ts.length ≤ cur.size) : (Sort.putCells id 0 ts.toArray cur).toList.take ts.length = ts := by
  apply List.ext_getElem?
  intro j
  by_cases hj : j < ts.length
  · rw [List.getElem?_take_of_lt hj, Array.getElem?_toList]
    simp [Sort.putCells, hj, show j < cur.size by omega]
  · rw [List.getElem?_take_eq_none (by omega), List.getElem?_eq_none (by omega)]
theorem holds_of_blockV {w : World} {g : Nat} {cur : Array Value} {e : TypeId} {ss : List Value} (hb : w.heap[g]? = some (.cells cur e (0, 0))) (ht : cur.toList.take ss.length = ss) : Sort.Holds id w g 0 ss.toArray := by
  intro j hj
  have hj' : j < ss.length := by simpa using hj
  refine ⟨?_, by simp [World.frozen?, hb]⟩
  have h1 : (cur.toList.take ss.length)[j]? = ss[j]? := by rw [ht]
  rw [List.getElem?_take_of_lt hj'] at h1
  simp only [World.cell?, hb, Nat.zero_add]
  simp only [Option.isSome_none, Bool.false_eq_true, if_false]
  rw [← Array.getElem?_toList, h1]
  simp [hj']
/-- a slice of the call's own, whose elements lie in another order -/
theorem HOk.sorted {B w : World} {hp : List Ch} (h : HOk B hp w) {i g cap : Nat} {T : TypeId} {e : El} {l l' : List e.T} (hi : hp[i]? = some (.own (some ⟨g, 0, none⟩) cap T e l)) (hlen : l'.length = l.length) (n : Nat) (os : Array Obj) :
    HOk B (hp.set i (.own (some ⟨g, 0, none⟩) cap T e l')) (Sort.grow (Sort.putRow id (Sort.ahead w n) g 0 (e.flat l').toArray) os) := by
  have ho : w.ownsRow B.heap.size T e.sz (.slice (some ⟨g, 0, none⟩) l.length cap) l.length (e.flat l) := h.ok i _ hi
  obtain ⟨h1, h2⟩ := ho
  rcases h2 with ⟨h2, _⟩ | ⟨g', cap', cur, hv, hg, hb, q1, q2, q3, q4⟩
  · cases h2
  · injection hv with hv1 _ hv3
    injection hv1 with hv1
    injection hv1 with hv1
    subst hv1; subst hv3
    have hf : (e.flat l').length = l.length * e.sz := by rw [e.flat_len, hlen]
    have hq : l.length * e.sz ≤ cap * e.sz := Nat.mul_le_mul_right _ q1
    refine h.change hi rfl (by simp [Ch.face, hlen]) (by simp) rfl rfl rfl (fun b hbl ht => ?_) (fun b hbt => .inl hbt) ?_
    · exact keep_sortedV _ hbl (fun e1 => ht ⟨_, rfl, e1.symm⟩)
    · refine ⟨by rw [hf, hlen], .inr ⟨g, cap, _, by rw [hlen], hg, heap_sortedV _ hb, by omega, q2, by simp [Sort.putCells, q3], ?_⟩⟩
      have := take_putCellsV cur (e.flat l') (by omega)
      rw [hf] at this
      rw [hlen]; exact this

def encB (x : BSp) : List Value := [.int .i64 x.1.1, .int .i64 x.1.2]
def cfB (x y : BSp) : Int := x.1.1 - y.1.1
theorem ltB_of : ltOf cfB = ltB := rfl
theorem flat_encB (l : List BSp) : Sort.flatK encB 2 l.toArray = (El.flat .i2 (l.map (·.1))).toArray := by
  have hl : (El.flat .i2 (l.map (·.1))).length = l.length * 2 := by rw [El.flat_len]; simp [El.sz]
  refine Array.ext (by simp [hl]) fun t h1 h2 => ?_
  have ht : t < l.length * 2 := by simpa using h1
  have hk : t / 2 < l.length := by omega
  have e1 : (Sort.flatK encB 2 l.toArray)[t] = (encB l[t / 2])[t % 2]! := by
    have := Sort.get_flatK encB 2 l.toArray t (by simpa using ht)
    rw [getElem!_pos _ t h1] at this
    have hg : l.toArray[t / 2]! = l[t / 2] := by rw [getElem!_pos l.toArray (t / 2) (by simpa using hk)]; simp
    rw [this, hg]
  rw [e1]
  have e2 := El.flat_at .i2 (l.map (·.1)) (t / 2) (t % 2) ((encB l[t / 2])[t % 2]!) (by simpa using hk) (by
    have hg : (l.map (·.1)).getD (t / 2) (El.zero .i2) = l[t / 2].1 := by simp [List.getD_eq_getElem?_getD, hk]
    rw [hg]
    rcases (show t % 2 = 0 ∨ t % 2 = 1 by omega) with h | h <;> rw [h] <;> rfl)
  have e3 : t / 2 * El.sz .i2 + t % 2 = t := by show t / 2 * 2 + t % 2 = t; omega
  rw [e3] at e2
  have := (List.getElem?_eq_some_iff.1 e2).2
  rw [← this]; simp

section
variable {P : Program} {ρ : Go.Shelf.Ren}
/-- what is asked of the comparison -/
def CmpB (P : Program) (g : Nat) : Prop := ∀ (x y : BSp) (W : World), Calls P g #[.agg (encB x).toArray, .agg (encB y).toArray] W fun e w' => e = .returned (.int .i64 (cfB x y)) ∧ ∃ q os', w' = Sort.grow (W.drewN q) os'
theorem call_sortSp (L : SlLaysF0.n6 P ρ) (aE : ∀ w, (isAgg (ρ.t 24)).run P w = .ok true w) (zE : ∀ w, (Go.sizeOf (ρ.t 24)).run P w = .ok 2 w) {f g : Nat} (hf : f = ρ.f 6) (eg : ∀ args w, (callFunc g args).run P w = .ok (.enter g args) w) (hg : CmpB P g) (hcB : callB P f = true)
    {n0 : Nat} {R : AV → List Ck → Prop} {O : Ops} {X : Cx} (hO : O = std) (hX : Good P n0 R X) {i : Nat} {T : TypeId} {l r : List (Int × Int)} {s : St} {K : AV → St → Prop} (hi : nthCk s.hp i = .own T .i2 l) (hv : m_sortSp O l = some r) (hK : K (.tup []) ⟨s.fr, setK s.hp i (.own T .i2 r)⟩) :
    X .call false f [.c (.sl i), .c (.fn g [])] s K := by
  subst hO; subst hf
  obtain ⟨w0, F0, Q0, _, _, rfl, _⟩ := hX
  unfold m_sortSp at hv
  obtain ⟨hb, hv⟩ := grdS hv
  obtain ⟨hr, hv⟩ := grdS hv
  injection hv with hv
  subst hv
  have hb := of_decide_eq_true hb
  have hr : l.length ≤ 1099511627776 := of_decide_eq_true hr
  refine Or.inr ⟨hcB, fun hp w hck hok vs hvs => ?_⟩
  rw [← hck] at hi hK
  obtain ⟨d, hd, hdc⟩ := nthCk_some hi (by simp)
  cases d <;> simp only [Ch.ck] at hdc <;> cases hdc
  rename_i A cap
  have hvs' : vs = [.slice A l.length cap, .func (.func g) #[] #[]] := by
    have hfd : (faces hp)[i]? = some ⟨A, l.length, cap, 2, []⟩ := by simp only [faces, List.getElem?_map, hd]; rfl
    simp only [List.map_cons, List.map_nil, AV.val, Ce.val, hfd, allv, Option.some.injEq] at hvs
    exact hvs.symm
  subst hvs'
  have hlen := sortSp_len l
  have hfin : ∀ hp' : List Ch, hp'.map Ch.ck = setK (hp.map Ch.ck) i (.own T .i2 (sortSp l)) → K (.tup []) ⟨s.fr, hp'.map Ch.ck⟩ := fun hp' h => by rw [h]; exact hK
  have hset : (hp.set i (.own A cap T .i2 (sortSp l))).map Ch.ck = setK (hp.map Ch.ck) i (.own T .i2 (sortSp l)) := by rw [setK_eq, List.map_set]; rfl
  have hown : w.ownsRow w0.heap.size T 2 (.slice A l.length cap) l.length (El.flat .i2 l) := hok.ok i _ hd
  rcases Nat.eq_zero_or_pos l.length with h0 | h0
  · have hl0 : l = [] := List.eq_nil_of_length_eq_zero h0
    have hs0 : sortSp l = l := by rw [hl0]; rw [hl0] at hlen; exact List.eq_nil_of_length_eq_zero hlen
    rw [h0]
    refine (AnyF.slices_SortFunc_none L A cap _ w).mono ?_
    rintro e w' ⟨rfl, rfl⟩
    refine ⟨.tup [], .tuple #[], hp, rfl, .inr rfl, FsLe.refl _, hok, (fun h => by cases h), hfin hp ?_⟩
    rw [setK_eq, hs0]
    refine List.ext_getElem? fun j => ?_
    rw [List.getElem?_set]
    split
    · rename_i e1; subst e1
      rw [List.getElem?_map, hd]
      have := (List.getElem?_eq_some_iff.1 hd).1
      simp [this, Ch.ck]
    · rfl
  · obtain ⟨h1, h2⟩ := hown
    rcases h2 with ⟨h2, h3⟩ | ⟨gb, cap', cur, hv1, hg1, hbk, q1, q2, q3, q4⟩
    · omega
    · injection hv1 with hv2 _ hv3
      subst hv2; subst hv3
      have hH : Sort.HoldsK encB 2 w gb 0 (toB l hb).toArray := by
        unfold Sort.HoldsK
        rw [flat_encB, toB_val]
        exact holds_of_blockV hbk (by rw [h1]; exact q4)
      have hc := AnyQ.slices_SortFunc_eq L 2 aE zE encB (fun _ => rfl) (fun x v hv => by simp [encB] at hv; rcases hv with rfl | rfl <;> rfl) cfB (by rw [ltB_of]; exact swoB) g #[] gb 0 cap (toB l hb).toArray w eg
        (fun m os dk _ x y => by simpa using hg x y (sortWorldK encB 2 w gb 0 m dk os)) hH (Array.getElem?_eq_some_iff.1 hbk).1 (by simp [toB_len]; omega)
      have hsz : (toB l hb).toArray.size = l.length := by simp [toB_len]
      rw [hsz] at hc
      refine Calls.mono hc fun e w' ⟨he, n, os, hw⟩ => ?_
      have hpd : sortWorldK encB 2 w gb 0 n (Sort.pdq (ltOf cfB) (toB l hb).toArray 0 l.length (Lib.bitLen l.length) true true) os = Sort.grow (Sort.putRow id (Sort.ahead w n) gb 0 (El.flat .i2 (sortSp l)).toArray) os := by
        unfold sortWorldK Sort.putRowK
        have e1 : sortSp l = (pdqB (toB l hb)).map (·.1) := by unfold sortSp; rw [dif_pos hb]
        have e2 : Sort.pdq (ltOf cfB) (toB l hb).toArray 0 l.length (Lib.bitLen l.length) true true = (pdqB (toB l hb)).toArray := by unfold pdqB; rw [hsz, ltB_of]
        rw [e1, e2, flat_encB]
      rw [hpd] at hw
      subst hw
      refine ⟨.tup [], .tuple #[], hp.set i (.own (some ⟨gb, 0, none⟩) cap T .i2 (sortSp l)), he, .inr rfl, ?_, hok.sorted hd hlen n os, (fun h => by cases h), hfin _ hset⟩
      rw [faces_set hd (by simp [Ch.face, hlen])]
      exact FsLe.refl _
end
end Go.Proofs.YtmnhfaaaaejpaaaGreat
