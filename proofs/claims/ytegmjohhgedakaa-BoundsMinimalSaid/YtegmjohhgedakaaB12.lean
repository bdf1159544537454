/-
  Networks of bounds: the law of the minimal explanations.
-/
import Derived.Test.YtegmjohhgedakaaBA
import Derived.Test.YtegmjohhgedakaaBmQ
namespace Go.Proofs.Ytegmjohhgedakaa
open Go.RowKit Fw

theorem inj_ext (f : Nat → Nat) (g : Nat → Int) : ∀ p, (∀ i j, i < j → j < p → f i ≠ f j) → ∃ P : Nat → Int, ∀ t, t < p → P (f t) = g t := by
  intro p
  induction p with
  | zero => intro _; exact ⟨fun _ => 0, fun t ht => by omega⟩
  | succ p ih =>
    intro h
    obtain ⟨P, hP⟩ := ih (fun i j hij hj => h i j hij (by omega))
    refine ⟨up P (f p) (g p), fun t ht => ?_⟩
    by_cases e : t = p
    · subst e; exact up_eq _ _ _
    · rw [up_ne _ _ (h t p (by omega) (by omega))]
      exact hP t (by omega)
/-- a cycle without one of its bounds shows times that satisfy it -/
theorem ring_less {n : Nat} {l l' : List Bd} (hl : LOk n l) (hl' : LOk n l') {b : Nat → Int} {y p : Nat} (h : Ring n l b y p) {t0 : Nat} (ht0 : t0 < p)
    (hm : ∀ e, e ∈ l' → ∃ t, t < p ∧ t ≠ t0 ∧ e = nb l (b (it l b y t)).toNat) : Cons n (M0 l') := by
  obtain ⟨W, hW⟩ : ∃ W : Nat → Int, W = fun t => (nb l (b (it l b y t)).toNat).2.2 := ⟨_, rfl⟩
  obtain ⟨w, hw⟩ : ∃ w : Nat → Int, w = fun s => if s < t0 then W (t0 - 1 - s) else W (t0 + p - 1 - s) := ⟨_, rfl⟩
  obtain ⟨P, hP⟩ := inj_ext (it l b y) (fun t => if t ≤ t0 then sm w (t0 - t) else sm w (t0 + p - t)) p (fun i j hij hj => h.diff hij hj)
  refine cons_pot hl' (p := P) fun e he => ?_
  obtain ⟨t, ht, htt, rfl⟩ := hm e he
  have a1 := ring_next hl h t
  have a2 := (h.ok t).2.2
  rw [a1, a2, Int.toNat_natCast, Int.toNat_natCast]
  have a3 : (nb l (b (it l b y t)).toNat).2.2 = W t := by rw [hW]
  rw [a3, hP t ht]
  have sms : ∀ s, sm w (s + 1) = sm w s + w s := fun s => rfl
  by_cases hlt : t < t0
  · rw [hP (t + 1) (by omega)]
    have e1 : t0 - t = (t0 - (t + 1)) + 1 := by omega
    have e2 : w (t0 - (t + 1)) = W t := by
      rw [hw]
      show (if t0 - (t + 1) < t0 then _ else _) = _
      rw [if_pos (by omega)]
      congr 1; omega
    show (if t ≤ t0 then sm w (t0 - t) else _) ≤ (if t + 1 ≤ t0 then sm w (t0 - (t + 1)) else _) + W t
    rw [if_pos (by omega), if_pos (by omega), e1, sms, e2]
    exact Int.le_refl _
  · have e1 : t0 + p - t = (t0 + p - (t + 1)) + 1 := by omega
    have e2 : w (t0 + p - (t + 1)) = W t := by
      rw [hw]
      show (if t0 + p - (t + 1) < t0 then _ else _) = _
      rw [if_neg (by omega)]
      congr 1; omega
    have e3 : (if t ≤ t0 then sm w (t0 - t) else sm w (t0 + p - t)) = sm w (t0 + p - (t + 1)) + W t := by
      rw [if_neg (by omega), e1, sms, e2]
    show (if t ≤ t0 then sm w (t0 - t) else sm w (t0 + p - t)) ≤ _
    rw [e3]
    by_cases hp : t + 1 < p
    · rw [hP (t + 1) hp]
      show _ ≤ (if t + 1 ≤ t0 then sm w (t0 - (t + 1)) else sm w (t0 + p - (t + 1))) + W t
      rw [if_neg (by omega)]
      exact Int.le_refl _
    · have et : t + 1 = p := by omega
      have e0 : it l b y (t + 1) = it l b y 0 := by rw [et]; exact h.back
      rw [e0, hP 0 h.p0]
      show _ ≤ (if 0 ≤ t0 then sm w (t0 - 0) else _) + W t
      rw [if_pos (Nat.zero_le _), et, Nat.sub_zero, show t0 + p - p = t0 by omega]
      exact Int.le_refl _
theorem p_Less (x y : Int) : m_cmp_Less std x y = some (decide (x < y)) := by
  rw [m_cmp_Less_eq, m_cmp_isNaN_eq]
  have : (x == x) = true := eT rfl
  rw [this]; rfl
theorem p_IsSorted {s : List Int} (h1 : 1 ≤ s.length) (h2 : s.length ≤ 1000) (hs : ∀ i, i + 1 < s.length → s.getD i 0 ≤ s.getD (i + 1) 0) : m_slices_IsSorted std s = some true := by
  rw [m_slices_IsSorted_eq]
  refine gI (by omega) (bB (v := .inr ()) ?_ rfl)
  have h0 : ((s.length : Nat) : Int) - 1 = ((s.length - 1 - 0 : Nat) : Int) := by omega
  rw [h0]
  refine loop_to' (n := s.length - 1) (fun i => ((s.length - 1 - i : Nat) : Int)) (by omega) (fun i hi => ?_) ?_
  · rw [m_slices_IsSorted_L1_eq]
    obtain ⟨j, hj⟩ : ∃ j, s.length - 1 - i = j + 1 := ⟨s.length - 1 - i - 1, by omega⟩
    have e1 : ((s.length - 1 - i : Nat) : Int) = ((j + 1 : Nat) : Int) := by rw [hj]
    have e2 : ((j + 1 : Nat) : Int) - 1 = (j : Int) := by omega
    have e3 : ((s.length - 1 - (i + 1) : Nat) : Int) = (j : Int) := by omega
    rw [e1, e2, e3]
    simp only [toN]
    have := hs j (by omega)
    refine bT (dT (by omega)) (gX (by omega) (gK (by omega) (gI (by omega) (gX (by omega) (gK (by omega) (bB (p_Less _ _) ?_))))))
    exact bF (dF (by omega)) rfl
  · rw [m_slices_IsSorted_L1_eq]
    exact bF (dF (by omega)) rfl
theorem p_Part {l : List Bd} {s : List Int} (h2 : s.length ≤ 1000) (hs : ∀ x, x ∈ s → 0 ≤ x ∧ x < ((l.length : Nat) : Int)) : m_ref45_Part std l s = some (s.map fun x => nb l x.toNat) := by
  rw [m_ref45_Part_eq]
  refine bB (v := s.map fun x => nb l x.toNat) ?_ rfl
  have h0 : ([] : List Bd) = (s.take 0).map fun x => nb l x.toNat := by simp
  rw [h0]
  refine loop_up (n := s.length) (fun i => (s.take i).map fun x => nb l x.toNat) (by omega) (fun i hi => ?_) ?_
  · rw [m_ref45_Part_L1_eq]
    have hx := hs (s.getD i 0) (by rw [List.getD_eq_getElem?_getD, List.getElem?_eq_getElem hi]; exact List.getElem_mem hi)
    simp only [toN, nb_get]
    refine bT (dT (by omega)) (gX (by omega) (gK hi (gX (by omega) (gK (by omega) (gR (by simp; omega) (gR (by simp) (gI (by omega) ?_)))))))
    refine congrArg some (congrArg Sum.inl (Prod.ext (by simp) ?_))
    show _ ++ [nb l (s.getD i 0).toNat] = (s.take (i + 1)).map fun x => nb l x.toNat
    rw [List.take_add_one, List.map_append, List.getD_eq_getElem?_getD, List.getElem?_eq_getElem hi]
    rfl
  · rw [m_ref45_Part_L1_eq]
    refine bF (dF (by omega)) ?_
    rw [List.take_length]
theorem compact_len {s : List Int} (hs : s.Pairwise (· < ·)) : (Lib.compact s).length = s.length := by
  unfold Lib.compact
  rw [Lib.compactUpTo_all]
  · simp
  · intro j hj
    by_cases h0 : j = 0
    · subst h0; simp [Lib.keeps]
    · refine Lib.keeps_pos ?_
      have hg : ∀ j, j < s.length → s.toArray[j]! = s.getD j 0 := fun j hj => by
        rw [getElem!_pos s.toArray j (by simpa using hj)]
        simp [List.getD_eq_getElem?_getD, hj]
      rw [hg j hj, hg (j - 1) (by omega)]
      have := List.pairwise_iff_getElem.1 hs (j - 1) j (by omega) hj (by omega)
      simp only [List.getD_eq_getElem?_getD, List.getElem?_eq_getElem hj, List.getElem?_eq_getElem (show j - 1 < s.length by omega), Option.getD_some]
      omega
theorem pl_BoundsMinimal (n : Int) (l : List Bd) (_ : -9223372036854775808 ≤ n) (_ : n ≤ 9223372036854775807) : m_law45_BoundsMinimal std n l = some true := by
  rw [m_law45_BoundsMinimal_eq, p_awake, p_long]
  by_cases hlong : (300 : Int) < ((l.length : Nat) : Int)
  · rw [decide_eq_true hlong]; rfl
  rw [decide_eq_false hlong]
  rcases p_refValid (n := n) (l := l) (by omega) with ⟨hv, hV⟩ | ⟨hv, hV⟩
  · refine bB (v := false) (bB rfl (bF rfl (bB rfl (bF rfl (bB hV rfl))))) (bF rfl ?_)
    have e := hv.nat
    have n1 := hv.n1
    have n24 := hv.n24
    have hlen := hv.len
    have hok := hv.ok
    have hRC : ∀ l', LOk n.toNat l' → l'.length ≤ 1000 → (Cons n.toNat (M0 l') ∧ m_ref45_Consistent std n l' = some true) ∨ (¬ Cons n.toNat (M0 l') ∧ m_ref45_Consistent std n l' = some false) := fun l' h1 h2 => by
      have := p_refCons h1 h2 (show 1 ≤ n.toNat by omega) (by omega)
      rw [← e] at this
      exact this
    rcases p_Cycle hv with ⟨hc, hC⟩ | ⟨hc, b, y, p, hR, hC⟩ <;> rcases hRC l hok (by omega) with ⟨hc', hr⟩ | ⟨hc', hr⟩
    · have hM : m_bounds_Minimal std n l = some ([], 7) := by rw [m_bounds_Minimal_eq]; exact bB hC rfl
      exact bB hM (bB hr rfl)
    · exact absurd hc hc'
    · exact absurd hc' hc
    · have hp := hR.p0
      have hpn := hR.pn
      obtain ⟨c, hcy⟩ : ∃ c, c = rw' p (cyI l b y p) := ⟨_, rfl⟩
      rw [← hcy] at hC
      obtain ⟨s, hs⟩ : ∃ s, s = sortI c := ⟨_, rfl⟩
      have hclen : c.length = p := by rw [hcy, rw_len]
      have hslen : s.length = p := by rw [hs, sortI_len, hclen]
      have hM : m_bounds_Minimal std n l = some (s, 0) := by
        rw [m_bounds_Minimal_eq]
        exact bB hC (bF rfl (bB (by rw [m_sortI_eq]; exact gR (by omega) rfl) (by rw [hs])))
      -- the indices
      have hmem : ∀ x, x ∈ s ↔ ∃ k, k < p ∧ cyI l b y p k = x := fun x => by
        rw [hs, (sortI_perm c).mem_iff, hcy]
        unfold rw'
        rw [List.mem_map]
        exact ⟨fun ⟨k, hk, h⟩ => ⟨k, List.mem_range.1 hk, h⟩, fun ⟨k, hk, h⟩ => ⟨k, List.mem_range.2 hk, h⟩⟩
      have hrange : ∀ x, x ∈ s → 0 ≤ x ∧ x < ((l.length : Nat) : Int) := fun x hx => by
        obtain ⟨k, hk, rfl⟩ := (hmem x).1 hx
        obtain ⟨a1, a2, _⟩ := cy_ok hok hR hk
        exact ⟨a1, a2⟩
      have hcinj : ∀ i j, i < j → j < p → cyI l b y p i ≠ cyI l b y p j := fun i j hij hj h => by
        have a1 := (cy_ok hok hR (k := i) (by omega)).2.2.1
        have a2 := (cy_ok hok hR hj).2.2.1
        rw [h, a2] at a1
        exact cy_diff hR hij hj (by omega)
      have hcn : c.Nodup := by
        rw [hcy]
        unfold rw'
        rw [List.Nodup, List.pairwise_map, List.pairwise_iff_getElem]
        intro i j hi hj hij
        simp only [List.getElem_range]
        simp only [List.length_range] at hj
        exact hcinj i j hij hj
      have hsn : s.Nodup := by rw [hs]; exact (sortI_perm c).nodup_iff.2 hcn
      have hle : s.Pairwise (· ≤ ·) := by rw [hs]; exact sortI_sorted c
      have hlt : s.Pairwise (· < ·) := by
        refine List.Pairwise.imp₂ ?_ hle hsn
        intro a b h1 h2
        omega
      have hget : ∀ i (hi : i < s.length), s.getD i 0 = s[i] := fun i hi => by rw [List.getD_eq_getElem?_getD, List.getElem?_eq_getElem hi]; rfl
      have hsrt := p_IsSorted (s := s) (by omega) (by omega) (fun i hi => by
        rw [hget i (by omega), hget (i + 1) hi]
        exact List.pairwise_iff_getElem.1 hle i (i + 1) (by omega) hi (by omega))
      have hcl : m_clone_i1 std s = some s := by rw [m_clone_i1_eq]; exact gR (by omega) rfl
      have hcomp : m_compI std s = some (Lib.compact s) := by rw [m_compI_eq]; exact gR (by omega) rfl
      have h0 := hrange (s.getD 0 0) (by rw [hget 0 (by omega)]; exact List.getElem_mem _)
      have h9 := hrange (s.getD (p - 1) 0) (by rw [hget (p - 1) (by omega)]; exact List.getElem_mem _)
      -- parts of the network
      have hpok : ∀ s' : List Int, (∀ x, x ∈ s' → x ∈ s) → LOk n.toNat (s'.map fun x => nb l x.toNat) := fun s' h e he => by
        obtain ⟨x, hx, rfl⟩ := List.mem_map.1 he
        have := hrange x (h x hx)
        exact hok _ (nb_mem (by omega))
      refine bB hM (bB hr (bF rfl (bB (v := false) ?_ (bF rfl (bB (p_Part (by omega) hrange) ?_)))))
      · refine bF rfl (bF (eF (by omega)) (bB hsrt (bF rfl (bB hcl (bB hcomp (bF (nF (eT (by rw [compact_len hlt]))) ?_))))))
        have z0 : (0 : Int).toNat = 0 := rfl
        have zp : (((s.length : Nat) : Int) - 1).toNat = p - 1 := by omega
        rw [z0, zp]
        exact bF (dF (by omega)) (gX (by omega) (gK (by omega) (gI (by omega) (gX (by omega) (gK (by omega) (congrArg some (dF (by omega))))))))
      · rcases hRC (s.map fun x => nb l x.toNat) (hpok s fun _ h => h) (by simp; omega) with ⟨g, _⟩ | ⟨_, g⟩
        · exfalso
          refine hR.incons (hpok s fun _ h => h) (by omega) (fun t ht => ?_) g
          refine List.mem_map.2 ⟨b (it l b y t), (hmem _).2 ⟨p - 1 - t, by omega, ?_⟩, rfl⟩
          unfold cyI
          rw [show p - 1 - (p - 1 - t) = t by omega]
        · refine bB g (bF rfl (bB (v := .inr ()) ?_ rfl))
          refine loop_to' (n := p) (fun k => (k : Int)) (by omega) (fun k hk => ?_) ?_
          · rw [m_law45_BoundsMinimal_L1_eq]
            have hks : k < s.length := by omega
            have hd : m_delI std s (k : Int) ((k : Int) + 1) = some (s.take k ++ s.drop (k + 1)) := by
              rw [m_delI_eq]
              unfold grd
              rw [dT (p := (0 ≤ (k : Int) ∧ (k : Int) < (k : Int) + 1 ∧ (k : Int) + 1 ≤ ((s.length : Nat) : Int) ∧ s.length ≤ 1099511627776)) ⟨by omega, by omega, by omega, by omega⟩]
              show some _ = some _
              rw [toN, show ((k : Int) + 1).toNat = k + 1 by omega]
            have hsub : ∀ x, x ∈ s.take k ++ s.drop (k + 1) → x ∈ s ∧ x ≠ s[k] := fun x hx => by
              rcases List.mem_append.1 hx with hx | hx
              · obtain ⟨i, hi, rfl⟩ := List.mem_take_iff_getElem.1 hx
                exact ⟨List.getElem_mem _, List.pairwise_iff_getElem.1 hsn i k (by omega) hks (by omega)⟩
              · obtain ⟨i, hi, rfl⟩ := List.mem_drop_iff_getElem.1 hx
                exact ⟨List.getElem_mem _, fun h => List.pairwise_iff_getElem.1 hsn k _ hks _ (by omega) h.symm⟩
            have hP := p_Part (l := l) (s := s.take k ++ s.drop (k + 1)) (by simp; omega) (fun x hx => hrange x (hsub x hx).1)
            have hok2 := hpok (s.take k ++ s.drop (k + 1)) (fun x hx => (hsub x hx).1)
            obtain ⟨q, hq, hsk⟩ := (hmem s[k]).1 (List.getElem_mem hks)
            have hcons : Cons n.toNat (M0 ((s.take k ++ s.drop (k + 1)).map fun x => nb l x.toNat)) := by
              refine ring_less hok hok2 hR (t0 := p - 1 - q) (by omega) fun e he => ?_
              obtain ⟨x, hx, rfl⟩ := List.mem_map.1 he
              obtain ⟨h1, h2⟩ := hsub x hx
              obtain ⟨k', hk', rfl⟩ := (hmem x).1 h1
              refine ⟨p - 1 - k', by omega, fun h => h2 ?_, rfl⟩
              rw [← hsk]
              congr 1; omega
            refine bT (dT (by omega)) (bB hcl (gI (by omega) (bB hd (bB hP ?_))))
            rcases hRC _ hok2 (by simp; omega) with ⟨_, g2⟩ | ⟨g2, _⟩
            · exact bB g2 rfl
            · exact absurd hcons g2
          · rw [m_law45_BoundsMinimal_L1_eq]
            exact bF (dF (by omega)) rfl
  · refine bB (v := true) (bB rfl (bF rfl (bB rfl (bF rfl (bB hV rfl))))) rfl
end Go.Proofs.Ytegmjohhgedakaa
