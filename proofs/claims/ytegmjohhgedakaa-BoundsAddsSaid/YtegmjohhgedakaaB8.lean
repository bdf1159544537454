/-
  Networks of bounds: what Cycle returns.
-/
import Derived.Test.YtegmjohhgedakaaB7
namespace Go.Proofs.Ytegmjohhgedakaa
open Go.RowKit Fw

theorem rw_up {n : Nat} {g : Nat → Int} {j : Nat} (x : Int) : (rw' n g).set j x = rw' n (up g j x) := by
  rw [rw_set]; exact rw_ext fun b _ => rfl
theorem nb_ok {n : Nat} {l : List Bd} (h : LOk n l) {k : Nat} (hk : k < l.length) : (nb l k).1.toNat < n ∧ (nb l k).2.1.toNat < n ∧ 0 ≤ (nb l k).1 ∧ (nb l k).1 < (n : Int) ∧ 0 ≤ (nb l k).2.1 ∧ (nb l k).2.1 < (n : Int) ∧ -1073741824 ≤ (nb l k).2.2 ∧ (nb l k).2.2 ≤ 1073741824 := by
  have he := h _ (nb_mem hk)
  have i0 := he.i0; have i1 := he.i1; have j0 := he.j0; have j1 := he.j1; have w0 := he.w0; have w1 := he.w1
  unfold C at w0 w1
  omega
theorem cyc_L1 {n : Nat} {l : List Bd} (hl : LOk n l) (hlen : l.length ≤ 200) {t : Nat} (ht : 1 ≤ t) {d b : Nat → Int} {T r : Nat → Nat} {c s : Nat} (hs : s ≤ 5000) (h : BI n l t 0 d b (-1) T r c s) :
    ∃ d' b' last T' r' c' s', loop (m_bounds_cycle_L1 std l) (-1, 0, rw' n d, rw' n b) = some (last, rw' n d', rw' n b') ∧ BI n l t l.length d' b' last T' r' c' s' ∧ s' ≤ s + l.length := by
  have key : ∃ e, loop (m_bounds_cycle_L1 std l) (-1, 0, rw' n d, rw' n b) = some e ∧ ∃ d' b' last T' r' c' s', e = (last, rw' n d', rw' n b') ∧ BI n l t l.length d' b' last T' r' c' s' ∧ s' ≤ s + l.length := by
    refine loop_is (fun y => ∃ (q : Nat) (d' b' : Nat → Int) (last : Int) (T' r' : Nat → Nat) (c' s' : Nat), y = (last, (q : Int), rw' n d', rw' n b') ∧ q ≤ l.length ∧ BI n l t q d' b' last T' r' c' s' ∧ s' ≤ s + q) (fun y => l.length - y.2.1.toNat) _ ⟨0, d, b, -1, T, r, c, s, rfl, Nat.zero_le _, h, Nat.le_refl _⟩ (by show l.length - _ < _; omega) ?_
    rintro _ ⟨q, d', b', last, T', r', c', s', rfl, hq, hB, hs'⟩
    rw [m_bounds_cycle_L1_eq]
    by_cases hlt : q < l.length
    · obtain ⟨hi, hj, i0, i1, j0, j1, w0, w1⟩ := nb_ok hl hlt
      simp only [toN, nb_get, rw_len, rw_get hi, rw_get hj]
      have b1 := hB.lb _ hi
      unfold C at b1
      have hm : l.length - Int.toNat ((q : Int) + 1) < l.length - q := by omega
      by_cases hd : d' (nb l q).1.toNat + (nb l q).2.2 < d' (nb l q).2.1.toNat
      · refine ⟨_, bT (dT (by omega)) (gX (by omega) (gK hlt (gX (by omega) (gK hi (gI (by omega) (gX (by omega) (gK hj (bB (bT (dT hd) (gX (by omega) (gK hj rfl))) (gI (by omega) rfl))))))))), ⟨q + 1, _, _, _, _, _, _, _, ?_, by omega, hB.upd hl ht hlt hd, by omega⟩, hm⟩
        rw [rw_up, rw_up]
        rfl
      · refine ⟨_, bT (dT (by omega)) (gX (by omega) (gK hlt (gX (by omega) (gK hi (gI (by omega) (gX (by omega) (gK hj (bB (bF (dF hd) rfl) (gI (by omega) rfl))))))))), ⟨q + 1, d', b', last, T', r', c', s', rfl, by omega, hB.skip (by omega), by omega⟩, hm⟩
    · obtain rfl : q = l.length := by omega
      exact ⟨_, bF (dF (by omega)) rfl, d', b', last, T', r', c', s', rfl, hB, hs'⟩
  obtain ⟨e, h1, d', b', last, T', r', c', s', rfl, h2, h3⟩ := key
  exact ⟨d', b', last, T', r', c', s', h1, h2, h3⟩
theorem cyc_L2 {n : Nat} {l : List Bd} (hl : LOk n l) (hlen : l.length ≤ 200) (hn1 : 1 ≤ n) (hn : n ≤ 24) :
    ∃ e, loop (m_bounds_cycle_L2 std l (n : Int)) (-1, 0, rw' n (fun _ => 0), rw' n (fun _ => -1)) = some e ∧ ((e.1 < 0 ∧ Cons n (M0 l)) ∨ ∃ d b last T r c s, e = (last, rw' n b) ∧ 0 ≤ last ∧ last < (n : Int) ∧ BI n l n l.length d b last T r c s) := by
  refine loop_is (fun y => ∃ (i : Nat) (d b : Nat → Int) (last : Int) (T r : Nat → Nat) (c s : Nat), y = (last, (i : Int), rw' n d, rw' n b) ∧ i ≤ n ∧ BI n l (i + 1) 0 d b (-1) T r c s ∧ (1 ≤ i → 0 ≤ last ∧ last < (n : Int) ∧ BI n l i l.length d b last T r c s) ∧ s ≤ 200 * i) (fun y => n - y.2.1.toNat) _ ⟨0, _, _, -1, _, _, _, _, rfl, Nat.zero_le _, BI.init l, fun h => by omega, Nat.le_refl _⟩ (by show n - _ < _; omega) ?_
  rintro _ ⟨i, d, b, last, T, r, c, s, rfl, hi, hB, hI, hs⟩
  rw [m_bounds_cycle_L2_eq]
  by_cases hlt : i < n
  · obtain ⟨d', b', last', T', r', c', s', h1, h2, h3⟩ := cyc_L1 hl hlen (t := i + 1) (by omega) (s := s) (by omega) hB
    by_cases hneg : last' < 0
    · have e : last' = -1 := by rcases h2.lst1 with g | g <;> omega
      refine ⟨_, bT (dT (by omega)) (bB h1 (bT (dT hneg) rfl)), .inl ⟨hneg, ?_⟩⟩
      rw [e] at h2
      exact h2.pot hl
    · have g := h2.lst1
      refine ⟨_, bT (dT (by omega)) (bB h1 (bF (dF hneg) (gI (by omega) rfl))), ⟨i + 1, d', b', last', T', r', c', s', by simp, by omega, h2.next, fun _ => ⟨by omega, by omega, h2⟩, by omega⟩, ?_⟩
      show n - Int.toNat ((i : Int) + 1) < n - Int.toNat (i : Int)
      omega
  · obtain rfl : i = n := by omega
    obtain ⟨g1, g2, g3⟩ := hI hn1
    exact ⟨_, bF (dF (by omega)) rfl, .inr ⟨d, b, last, T, r, c, s, rfl, g1, g2, g3⟩⟩
theorem cyc_L3 {n : Nat} {l : List Bd} (hl : LOk n l) (hn : n ≤ 24) {b : Nat → Int} {x : Nat} (h1 : ∀ s, s ≤ n → it l b x s < n) (h2 : ∀ s, s < n → 0 ≤ b (it l b x s) ∧ b (it l b x s) < (l.length : Int)) :
    loop (m_bounds_cycle_L3 std (rw' n b) l (n : Int)) ((x : Int), 0) = some (it l b x n : Int) := by
  refine loop_to' (n := n) (fun s => ((it l b x s : Int), (s : Int))) (by omega) (fun s hs => ?_) ?_
  · rw [m_bounds_cycle_L3_eq]
    have a1 := h1 s (by omega)
    have a2 := h2 s hs
    simp only [toN, nb_get, rw_len, rw_get a1]
    refine bT (dT (by omega)) (gX (by omega) (gK a1 (gX (by omega) (gK (by omega) (gI (by omega) ?_)))))
    have he := nb_ok hl (k := (b (it l b x s)).toNat) (by omega)
    have : (nb l (b (it l b x s)).toNat).1 = (it l b x (s + 1) : Int) := by
      show _ = ((nb l (b (it l b x s)).toNat).1.toNat : Int)
      omega
    rw [this]; rfl
  · rw [m_bounds_cycle_L3_eq]
    exact bF (dF (by omega)) rfl
theorem ring_next {n : Nat} {l : List Bd} (hl : LOk n l) {b : Nat → Int} {y p : Nat} (h : Ring n l b y p) (s : Nat) : (nb l (b (it l b y s)).toNat).1 = (it l b y (s + 1) : Int) := by
  have a := h.ok s
  have he := nb_ok hl (k := (b (it l b y s)).toNat) (by omega)
  show _ = ((nb l (b (it l b y s)).toNat).1.toNat : Int)
  omega
theorem cyc_L4 {n : Nat} {l : List Bd} (hl : LOk n l) (hn : n ≤ 24) {b : Nat → Int} {y p : Nat} (h : Ring n l b y p) :
    loop (m_bounds_cycle_L4 std (rw' n b) l (y : Int)) ((y : Int), []) = some (rw' p fun s => b (it l b y s)) := by
  have h0 : ((y : Int), ([] : List Int)) = ((it l b y 0 : Int), rw' 0 fun s => b (it l b y s)) := rfl
  have hp := h.p0
  have hpn := h.pn
  rw [h0]
  have app : ∀ s, (rw' s fun s => b (it l b y s)) ++ [b (it l b y s)] = rw' (s + 1) fun s => b (it l b y s) := fun s => by
    unfold rw'; rw [List.range_succ, List.map_append]; rfl
  refine loop_to' (n := p - 1) (fun s => ((it l b y s : Int), rw' s fun s => b (it l b y s))) (by omega) (fun s hs => ?_) ?_
  · rw [m_bounds_cycle_L4_eq]
    have a1 := h.lt s
    have a2 := h.ok s
    simp only [toN, nb_get, rw_len, rw_get a1, ring_next hl h s]
    have hne := h.first (s + 1) (by omega) (by omega)
    refine gX (by omega) (gK a1 (gR (by omega) (gR (by simp) (gX (by omega) (gK (by omega) (bF (eF (by omega)) ?_))))))
    rw [app]
  · rw [m_bounds_cycle_L4_eq]
    have a1 := h.lt (p - 1)
    have a2 := h.ok (p - 1)
    have hb : it l b y (p - 1 + 1) = y := by rw [show p - 1 + 1 = p by omega]; exact h.back
    simp only [toN, nb_get, rw_len, rw_get a1, ring_next hl h (p - 1), hb]
    refine gX (by omega) (gK a1 (gR (by omega) (gR (by simp) (gX (by omega) (gK (by omega) (bT (eT rfl) ?_))))))
    rw [app, show p - 1 + 1 = p by omega]
theorem cyc_L5 {p : Nat} (hp : 1 ≤ p) (hp2 : p ≤ 1000) (g : Nat → Int) : loop (m_bounds_cycle_L5 std) (0, (p : Int) - 1, rw' p g) = some (rw' p fun k => g (p - 1 - k)) := by
  have key : ∃ e, loop (m_bounds_cycle_L5 std) (0, (p : Int) - 1, rw' p g) = some e ∧ e = rw' p fun k => g (p - 1 - k) := by
    refine loop_is (fun y => ∃ i : Nat, y = ((i : Int), (p : Int) - 1 - (i : Int), rw' p fun k => if k < i ∨ p ≤ k + i then g (p - 1 - k) else g k) ∧ 2 * i ≤ p) (fun y => p - y.1.toNat) _ ⟨0, ?_, by omega⟩ (by show p - _ < _; omega) ?_
    · refine Prod.ext rfl (Prod.ext (by simp) (rw_ext fun k hk => ?_))
      rw [if_neg (by omega)]
    · rintro _ ⟨i, rfl, hi⟩
      rw [m_bounds_cycle_L5_eq]
      by_cases hlt : (i : Int) < (p : Int) - 1 - (i : Int)
      · obtain ⟨j, hj⟩ : ∃ j : Nat, (p : Int) - 1 - (i : Int) = (j : Int) := ⟨(p : Int).toNat - 1 - i, by omega⟩
        have hji : j = p - 1 - i := by omega
        have hjp : j < p := by omega
        have hip : i < p := by omega
        rw [hj]
        rw [hj] at hlt
        simp only [toN, rw_len, List.length_set, rw_get hjp, rw_get hip]
        refine ⟨_, bT (dT hlt) (gX (by omega) (gK hjp (gX (by omega) (gK hip (gX (by omega) (gK hjp (gI (by omega) (gI (by omega) rfl)))))))), ⟨i + 1, ?_, by omega⟩, ?_⟩
        · refine Prod.ext (by simp) (Prod.ext (by simp; omega) ?_)
          show ((rw' p _).set i _).set j _ = _
          rw [rw_set, rw_set]
          refine rw_ext fun k hk => ?_
          show (if k = j then _ else if k = i then _ else _) = _
          by_cases e1 : k = j
          · rw [if_pos e1, if_neg (by omega), if_pos (by omega)]
            congr 1; omega
          · rw [if_neg e1]
            by_cases e2 : k = i
            · rw [if_pos e2, if_neg (by omega), if_pos (by omega)]
              congr 1; omega
            · rw [if_neg e2]
              by_cases e3 : k < i ∨ p ≤ k + i
              · rw [if_pos e3, if_pos (by omega)]
              · rw [if_neg e3, if_neg (by omega)]
        · show p - Int.toNat ((i : Int) + 1) < p - Int.toNat (i : Int)
          omega
      · refine ⟨_, bF (dF hlt) rfl, rw_ext fun k hk => ?_⟩
        by_cases e3 : k < i ∨ p ≤ k + i
        · rw [if_pos e3]
        · rw [if_neg e3]
          congr 1; omega
  obtain ⟨e, h1, rfl⟩ := key
  exact h1
/-- the indices of the cycle's bounds -/
def cyI (l : List Bd) (b : Nat → Int) (y p k : Nat) : Int := b (it l b y (p - 1 - k))
theorem p_Cycle {n : Int} {l : List Bd} (h : Vld n l) : (Cons n.toNat (M0 l) ∧ m_bounds_Cycle std n l = some ([], 7)) ∨
    (¬ Cons n.toNat (M0 l) ∧ ∃ b y p, Ring n.toNat l b y p ∧ m_bounds_Cycle std n l = some (rw' p (cyI l b y p), 0)) := by
  have e := h.nat
  have n1 := h.n1
  have n24 := h.n24
  have hlen := h.len
  have hok := h.ok
  obtain ⟨m, hm⟩ : ∃ m, m = n.toNat := ⟨_, rfl⟩
  rw [← hm] at e hok ⊢
  have hrep : m_rep_i1 std n [-1] = some (rw' m fun _ => -1) := by rw [e]; exact p_rep m (by omega) (-1)
  have h0 : List.replicate n.toNat (0 : Int) = rw' m (fun _ => 0) := by rw [← hm]; exact rep0 m
  obtain ⟨r, hL2, hr⟩ := cyc_L2 hok hlen (show 1 ≤ m by omega) (by omega)
  rw [← e] at hL2
  have hd : ∀ R, (bif (decide (r.1 < 0)) then (some (Sum.inl ())) else Option.bind (loop (m_bounds_cycle_L3 std r.2 l n) (r.1, 0)) fun last20 =>
      Option.bind (loop (m_bounds_cycle_L4 std r.2 l last20) (last20, ([] : List Int))) fun l39 =>
      grd (okI .i64 ((((List.length l39) : Nat) : Int) - 1)) <| Option.bind (loop (m_bounds_cycle_L5 std) (0, ((((List.length l39) : Nat) : Int) - 1), l39)) fun l41 => (some (Sum.inr l41)) : Option (Unit ⊕ List Int)) = R → m_bounds_cycle std n l = R := fun R hR => by
    rw [m_bounds_cycle_eq, h0]
    exact gG (by omega) (gR (by omega) (bB hrep (bB hL2 hR)))
  rcases hr with ⟨hneg, hc⟩ | ⟨d, b, last, T, rr, c, s, rfl, l0, l1, hB⟩
  · left
    refine ⟨hc, ?_⟩
    rw [m_bounds_Cycle_eq]
    exact bB h.valid (bF rfl (bB (bB (hd _ (bT (dT hneg) rfl)) rfl) rfl))
  · right
    obtain ⟨g1, g2, p, hR⟩ := hB.ring hok (by omega)
    obtain ⟨y, hy⟩ : ∃ y, y = it l b last.toNat m := ⟨_, rfl⟩
    rw [← hy] at hR
    have hp := hR.p0
    have hpn := hR.pn
    have h3 := cyc_L3 hok (by omega) g1 g2
    rw [← hy, ← e, Int.toNat_of_nonneg l0] at h3
    have h4 := cyc_L4 hok (by omega) hR
    have h5 := cyc_L5 (p := p) (by omega) (by omega) (fun s => b (it l b y s))
    refine ⟨hR.incons hok (by omega) fun s _ => nb_mem (by have := hR.ok s; omega), b, y, p, hR, ?_⟩
    have hcy : m_bounds_cycle std n l = some (.inr (rw' p (cyI l b y p))) := hd _ (bF (dF (by show ¬ last < 0; omega)) (bB h3 (bB h4 (gI (by rw [rw_len]; omega) (bB (by rw [rw_len]; exact h5) rfl)))))
    rw [m_bounds_Cycle_eq]
    exact bB h.valid (bF rfl (bB (bB hcy rfl) (gZ (by rw [rw_len]; omega) rfl)))
end Go.Proofs.Ytegmjohhgedakaa
