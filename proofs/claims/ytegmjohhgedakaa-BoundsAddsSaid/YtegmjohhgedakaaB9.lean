/-
  Networks of bounds: the law of the cycles.
-/
import Derived.Test.YtegmjohhgedakaaB8
namespace Go.Proofs.Ytegmjohhgedakaa
open Go.RowKit Fw

/-- bools as a list -/
def rb (n : Nat) (g : Nat → Bool) : List Bool := (List.range n).map g
theorem rb_len (n : Nat) (g : Nat → Bool) : (rb n g).length = n := by simp [rb]
theorem rb_get {n : Nat} {g : Nat → Bool} {j : Nat} (h : j < n) : (rb n g).getD j false = g j := by simp [rb, List.getD_eq_getElem?_getD, h]
theorem rb_ext {n : Nat} {g h : Nat → Bool} (e : ∀ j, j < n → g j = h j) : rb n g = rb n h := by
  unfold rb
  exact List.map_congr_left fun j hj => e j (List.mem_range.1 hj)
theorem rb_set {n : Nat} {g : Nat → Bool} {j : Nat} (x : Bool) : (rb n g).set j x = rb n (fun b => if b = j then x else g b) := by
  refine List.ext_getElem? fun b => ?_
  rw [List.getElem?_set]
  simp only [rb, List.length_map, List.length_range, List.getElem?_map]
  by_cases hb : b < n
  · simp only [List.getElem?_range hb, Option.map_some]
    by_cases e : j = b
    · subst e; simp [hb]
    · simp [e, Ne.symm e]
  · have : (List.range n)[b]? = none := by simp; omega
    simp only [this, Option.map_none]
    split
    · rename_i e; subst e; simp [hb]
    · rfl
theorem rb_rep (n : Nat) : List.replicate n false = rb n (fun _ => false) := by
  refine List.ext_getElem? fun b => ?_
  simp only [rb, List.getElem?_map, List.getElem?_replicate]
  by_cases hb : b < n
  · simp [hb]
  · simp [hb]
theorem sm_shift (V : Nat → Int) : ∀ q, sm V (q + 1) = V 0 + sm (fun s => V (s + 1)) q := by
  intro q
  induction q with
  | zero => simp [sm]
  | succ q ih => show sm V (q + 1) + V (q + 1) = V 0 + (sm (fun s => V (s + 1)) q + V (q + 1)); rw [ih]; omega
theorem sm_rev : ∀ (q : Nat) (W : Nat → Int), sm (fun s => W (q - 1 - s)) q = sm W q := by
  intro q
  induction q with
  | zero => intro W; rfl
  | succ q ih =>
    intro W
    rw [sm_shift W q]
    show sm (fun s => W (q + 1 - 1 - s)) q + W (q + 1 - 1 - q) = _
    have := ih (fun s => W (s + 1))
    rw [show q + 1 - 1 - q = 0 by omega, ← this]
    have e : sm (fun s => W (q + 1 - 1 - s)) q = sm (fun s => W (q - 1 - s + 1)) q := sm_ext q fun s hs => by
      show W _ = W _
      congr 1; omega
    rw [e]; omega
/-- the cycle in its order: where its bounds begin and end -/
theorem cy_ok {n : Nat} {l : List Bd} (hl : LOk n l) {b : Nat → Int} {y p : Nat} (h : Ring n l b y p) {k : Nat} (hk : k < p) :
    0 ≤ cyI l b y p k ∧ cyI l b y p k < (l.length : Int) ∧ (nb l (cyI l b y p k).toNat).1 = (it l b y (p - k) : Int) ∧ (nb l (cyI l b y p k).toNat).2.1 = (it l b y (p - 1 - k) : Int) := by
  have a := h.ok (p - 1 - k)
  refine ⟨a.1, a.2.1, ?_, a.2.2⟩
  have := ring_next hl h (p - 1 - k)
  rw [show p - 1 - k + 1 = p - k by omega] at this
  exact this
theorem cy_diff {n : Nat} {l : List Bd} {b : Nat → Int} {y p : Nat} (h : Ring n l b y p) {i j : Nat} (hij : i < j) (hj : j < p) : it l b y (p - i) ≠ it l b y (p - j) := by
  by_cases hi : i = 0
  · subst hi
    rw [Nat.sub_zero, h.back]
    exact fun e => h.first (p - j) (by omega) (by omega) e.symm
  · exact fun e => h.diff (i := p - j) (j := p - i) (by omega) (by omega) e.symm
theorem pl_BoundsCycles (n : Int) (l : List Bd) (_ : -9223372036854775808 ≤ n) (_ : n ≤ 9223372036854775807) : m_law45_BoundsCycles std n l = some true := by
  rw [m_law45_BoundsCycles_eq, p_awake, p_long]
  by_cases hlong : (300 : Int) < ((l.length : Nat) : Int)
  · rw [decide_eq_true hlong]; rfl
  rw [decide_eq_false hlong]
  rcases p_refValid (n := n) (l := l) (by omega) with ⟨hv, hV⟩ | ⟨hv, hV⟩
  · refine bB (v := false) (bB rfl (bF rfl (bB rfl (bF rfl (bB hV rfl))))) (bF rfl ?_)
    have e := hv.nat
    have n1 := hv.n1
    have n24 := hv.n24
    have hlen := hv.len
    have hok := hv.ok
    have hRC : (Cons n.toNat (M0 l) ∧ m_ref45_Consistent std n l = some true) ∨ (¬ Cons n.toNat (M0 l) ∧ m_ref45_Consistent std n l = some false) := by
      have := p_refCons hok (by omega) (show 1 ≤ n.toNat by omega) (by omega)
      rw [← e] at this
      exact this
    rcases p_Cycle hv with ⟨hc, hC⟩ | ⟨hc, b, y, p, hR, hC⟩ <;> rcases hRC with ⟨hc', hr⟩ | ⟨hc', hr⟩
    · exact bB hC (bB hr rfl)
    · exact absurd hc hc'
    · exact absurd hc' hc
    · obtain ⟨m, hm⟩ : ∃ m, m = n.toNat := ⟨_, rfl⟩
      rw [← hm] at e hok hR
      have hp := hR.p0
      have hpn := hR.pn
      refine bB hC (bB hr (bF rfl (bB (v := false) (bF rfl (bF (eF (by rw [rw_len]; omega)) (congrArg some (dF (by rw [rw_len]; omega))))) (bF rfl (gG (by omega) (gR (by omega) ?_))))))
      rw [← hm, rb_rep]
      obtain ⟨W, hW⟩ : ∃ W : Nat → Int, W = fun k => (nb l (cyI l b y p k).toNat).2.2 := ⟨_, rfl⟩
      have hWb : ∀ k, k < p → -1073741824 ≤ W k ∧ W k ≤ 1073741824 := fun k hk => by
        obtain ⟨a1, a2, _⟩ := cy_ok hok hR hk
        have := nb_ok hok (k := (cyI l b y p k).toNat) (by omega)
        rw [hW]
        exact ⟨this.2.2.2.2.2.2.1, this.2.2.2.2.2.2.2⟩
      have hsb : ∀ k, k ≤ p → -(1073741824 * (k : Int)) ≤ sm W k ∧ sm W k ≤ 1073741824 * (k : Int) := by
        intro k
        induction k with
        | zero => intro _; simp [sm]
        | succ k ih =>
          intro hk
          have h1 := ih (by omega)
          have h2 := hWb k (by omega)
          unfold sm
          push_cast
          omega
      have hneg : sm W p < 0 := by
        have e1 : sm W p = sm (fun s => (nb l (b (it l b y s)).toNat).2.2) p := by
          rw [hW]
          exact sm_rev p (fun s => (nb l (b (it l b y s)).toNat).2.2)
        rw [e1]
        exact hR.neg
      have key : loop (m_law45_BoundsCycles_L1 std (rw' p (cyI l b y p)) l) (0, 0, rb m fun _ => false) = some (.inr (sm W p)) := by
        have h0 : ((0 : Int), (0 : Int), rb m fun _ => false) = (sm W 0, ((0 : Nat) : Int), rb m fun v => (List.range 0).any fun j => it l b y (p - j) == v) := by
          exact Prod.ext rfl (Prod.ext rfl (rb_ext fun v _ => rfl))
        rw [h0]
        refine loop_to' (n := p) (fun k => (sm W k, (k : Int), rb m fun v => (List.range k).any fun j => it l b y (p - j) == v)) (by omega) (fun k hk => ?_) ?_
        · rw [m_law45_BoundsCycles_L1_eq]
          -- the next one
          obtain ⟨k', hk', hkp, hJ⟩ : ∃ k' : Nat, Int.tmod ((k : Int) + 1) (p : Int) = (k' : Int) ∧ k' < p ∧ it l b y (p - k') = it l b y (p - 1 - k) := by
            by_cases hl : k + 1 < p
            · refine ⟨k + 1, ?_, hl, by congr 1; omega⟩
              rw [Int.tmod_eq_emod_of_nonneg (by omega), Int.emod_eq_of_lt (by omega) (by omega)]; simp
            · refine ⟨0, ?_, hp, ?_⟩
              · have : (k : Int) + 1 = (p : Int) := by omega
                rw [this, Int.tmod_self]; rfl
              · rw [Nat.sub_zero, hR.back, show p - 1 - k = 0 by omega]; rfl
          obtain ⟨a1, a2, a3, a4⟩ := cy_ok hok hR hk
          obtain ⟨c1, c2, c3, c4⟩ := cy_ok hok hR hkp
          have hv := hR.lt (p - k)
          have hs := hsb k (by omega)
          have hw := hWb k hk
          have hsx : ((List.range k).any fun j => it l b y (p - j) == it l b y (p - k)) = false :=
            any_f.2 fun j hj => by simpa using cy_diff hR hj hk
          simp only [rw_len, hk']
          simp only [toN, nb_get, rw_get hk, rw_get hkp, a3, a4, c3, rb_len, rb_get hv]
          refine bT (dT (by omega)) (gX (by omega) (gK hk (gI (by omega) (gZ (by omega) (gX (by omega) (gK hkp (bB (v := false) ?_ (bF rfl ?_))))))))
          · refine bF (dF (by omega)) (bF (dF (by omega)) (bF (dF (by omega)) (bF (dF (by omega)) (bF (nF (eT (by rw [hJ]))) ?_))))
            refine gX (by omega) (gK (by omega) (gX (by omega) (gK (by omega) (gX (by omega) (gK hv ?_)))))
            rw [hsx]
          · refine gX (by omega) (gK (by omega) (gX (by omega) (gK hv (gI ?_ ?_))))
            · have : (nb l (cyI l b y p k).toNat).2.2 = W k := by rw [hW]
              rw [this]
              omega
            · rw [rb_set]
              refine congrArg some (congrArg Sum.inl (Prod.ext ?_ (Prod.ext (by simp) (rb_ext fun v _ => ?_))))
              · show sm W k + (nb l (cyI l b y p k).toNat).2.2 = sm W k + W k
                rw [hW]
              · show (if v = it l b y (p - k) then true else (List.range k).any fun j => it l b y (p - j) == v) = ((List.range (k + 1)).any fun j => it l b y (p - j) == v)
                by_cases ev : v = it l b y (p - k)
                · rw [if_pos ev]
                  exact (any_t.2 ⟨k, by omega, by simp [ev]⟩).symm
                · rw [if_neg ev, List.range_succ, List.any_append]
                  have : (it l b y (p - k) == v) = false := by simpa using fun h => ev h.symm
                  simp [this]
        · rw [m_law45_BoundsCycles_L1_eq]
          simp only [rw_len]
          exact bF (dF (by omega)) rfl
      exact bB key (congrArg some (dT hneg))
  · refine bB (v := true) (bB rfl (bF rfl (bB rfl (bF rfl (bB hV rfl))))) rfl
end Go.Proofs.Ytegmjohhgedakaa
