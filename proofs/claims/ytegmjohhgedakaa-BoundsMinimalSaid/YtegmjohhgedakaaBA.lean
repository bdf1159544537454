/-
  Networks of bounds: tight matrices, schedules, cycles (XB3 to XB9 in one).
-/
import Derived.Test.YtegmjohhgedakaaB2
namespace Go.Proofs.Ytegmjohhgedakaa
open Go.RowKit Fw
theorem Vld.nat {n : Int} {l : List Bd} (h : Vld n l) : n = ((n.toNat : Nat) : Int) := by have := h.n1; omega
/-- the answers of the tight matrices -/
theorem Vld.tight {n : Int} {l : List Bd} (h : Vld n l) : (Cons n.toNat (M0 l) ∧ m_bounds_tight std n l = some (mat n.toNat (Ti n.toNat l), true) ∧ m_ref45_Tight std n l = some (mat n.toNat (Ti n.toNat l), true)) ∨
    (¬ Cons n.toNat (M0 l) ∧ m_bounds_tight std n l = some ([], false) ∧ m_ref45_Tight std n l = some ([], false)) := by
  have h1 := h.n1
  have h2 := h.n24
  have h3 := h.len
  have e := h.nat
  rcases p_tight h.ok (by omega) (by omega) (by omega) with ⟨c, g⟩ | ⟨c, g⟩ <;> rcases p_refTight h.ok (by omega) (by omega) (by omega) with ⟨c', g'⟩ | ⟨c', g'⟩
  · rw [← e] at g g'; exact .inl ⟨c, g, g'⟩
  · exact absurd c c'
  · exact absurd c' c
  · rw [← e] at g g'; exact .inr ⟨c, g, g'⟩
theorem Vld.clo {n : Int} {l : List Bd} (h : Vld n l) (hc : Cons n.toNat (M0 l)) : Clo n.toNat (Ti n.toNat l) :=
  ti_clo h.ok (by have := h.n24; omega) hc
theorem ent_mat {n : Nat} {f : Mx} {i j : Nat} (hi : i < n) (hj : j < n) : ent (mat n f) i j = f i j := by
  unfold ent; rw [mat_row hi, rw_get hj]
theorem clo_clM {n : Nat} (h1 : 1 ≤ n) (h2 : n ≤ 24) {f : Mx} (h : Clo n f) : ClM (mat n f) := by
  refine ⟨by rw [mat_len]; exact h1, by rw [mat_len]; exact h2, fun i hi => ?_, fun i j k hi hj hk => ?_⟩
  · rw [mat_len] at hi ⊢
    refine ⟨by rw [mat_row hi, rw_len], fun j hj => ?_, by rw [ent_mat hi hi]; exact h.dia i hi⟩
    rw [ent_mat hi hj]
    by_cases hf : f i j = inf
    · exact .inl hf
    · have := h.bd i j hi hj hf
      right; omega
  · rw [mat_len] at hi hj hk
    rw [ent_mat hi hj, ent_mat hj hk, ent_mat hi hk]
    exact h.cl i j k hi hj hk
theorem p_long (l : List Bd) : m_law45_long std l = some (decide (300 < ((l.length : Nat) : Int))) := rfl
theorem pl_BoundsTight (n : Int) (l : List Bd) (_ : -9223372036854775808 ≤ n) (_ : n ≤ 9223372036854775807) : m_law45_BoundsTight std n l = some true := by
  rw [m_law45_BoundsTight_eq, p_awake, p_long]
  by_cases hlong : (300 : Int) < ((l.length : Nat) : Int)
  · rw [decide_eq_true hlong]; rfl
  rw [decide_eq_false hlong]
  rcases p_Valid (n := n) (l := l) (by omega) with ⟨hv, hV⟩ | ⟨hv, hV⟩ <;> rcases p_refValid (n := n) (l := l) (by omega) with ⟨hv', hV'⟩ | ⟨hv', hV'⟩
  · rcases hv.tight with ⟨hc, h1, h2⟩ | ⟨hc, h1, h2⟩
    · have hS := p_Same (n := n.toNat) (by have := hv.n24; omega) (Ti n.toNat l)
      have hC : m_ref45_Closed std (mat n.toNat (Ti n.toNat l)) = some true := by
        rw [p_refClosed, clB_t.2 (clo_clM (by have := hv.n1; omega) (by have := hv.n24; omega) (hv.clo hc))]
      rw [hV', hV, h2, m_bounds_Tight_eq, hV, m_bounds_Consistent_eq, hV]
      simp only [Option.bind_some, Bool.not_true, cond_false, h1]
      simp [hS, hC]
    · rw [hV', hV, h2, m_bounds_Tight_eq, hV, m_bounds_Consistent_eq, hV]
      simp only [Option.bind_some, Bool.not_true, cond_false, h1]
      simp
  · exact absurd hv hv'
  · exact absurd hv' hv
  · rw [hV', hV, m_bounds_Tight_eq, hV, m_bounds_Consistent_eq, hV]
    simp
def outB (n i j : Int) : Bool := decide (i < 0 ∨ n ≤ i ∨ j < 0 ∨ n ≤ j)
theorem out_or (n i j : Int) : (bif (decide (i < 0)) then (some true) else bif (decide (n ≤ i)) then (some true) else bif (decide (j < 0)) then (some true) else (some (decide (n ≤ j))) : Option Bool) = some (outB n i j) := by
  unfold outB
  by_cases h1 : i < 0 <;> by_cases h2 : n ≤ i <;> by_cases h3 : j < 0 <;> by_cases h4 : n ≤ j <;> simp [h1, h2, h3, h4]
theorem outB_f {n i j : Int} (h : outB n i j = false) : (0 ≤ i ∧ i < n) ∧ 0 ≤ j ∧ j < n := by
  have := of_decide_eq_false h; omega
theorem clo_bd2 {n : Nat} {m : Mx} (h : Clo n m) {i j : Nat} (hi : i < n) (hj : j < n) : -(26843545600 : Int) ≤ m i j ∧ m i j ≤ inf := by
  by_cases hf : m i j = inf
  · rw [hf]; unfold inf; omega
  · have := h.bd i j hi hj hf
    unfold inf; omega
theorem p_Between {n : Int} {l : List Bd} (h : Vld n l) (i j : Int) : (Cons n.toNat (M0 l) ∧ m_bounds_Between std n i j l = some (bif outB n i j then (0, 0, 2) else (-(Ti n.toNat l j.toNat i.toNat), Ti n.toNat l i.toNat j.toNat, 0))) ∨ (¬ Cons n.toNat (M0 l) ∧ m_bounds_Between std n i j l = some (bif outB n i j then (0, 0, 2) else (0, 0, 17))) := by
  have hV : m_bounds_Valid std n l = some true := by
    rcases p_Valid (n := n) (l := l) (by have := h.len; omega) with ⟨_, g⟩ | ⟨g, _⟩
    · exact g
    · exact absurd h g
  have e := h.nat
  rcases h.tight with ⟨hc, h1, _⟩ | ⟨hc, h1, _⟩
  · refine .inl ⟨hc, ?_⟩
    rw [m_bounds_Between_eq, hV]
    refine bB rfl (bF rfl (bB (out_or n i j) ?_))
    cases ho : outB n i j with
    | true => rfl
    | false =>
      obtain ⟨⟨i0, i1⟩, j0, j1⟩ := outB_f ho
      refine bF rfl (bB h1 (bF rfl ?_))
      have hi : i.toNat < n.toNat := by omega
      have hj : j.toNat < n.toNat := by omega
      have hb := clo_bd2 (h.clo hc) hj hi
      unfold inf at hb
      simp only [mat_len, mat_row hi, mat_row hj, rw_len, rw_get hi, rw_get hj]
      refine gX (by omega) (gK hj (gX (by omega) (gK hi (gI (by omega) (gX (by omega) (gK hi (gX (by omega) (gK hj ?_))))))))
      rw [Int.zero_sub]; rfl
  · refine .inr ⟨hc, ?_⟩
    rw [m_bounds_Between_eq, hV]
    refine bB rfl (bF rfl (bB (out_or n i j) ?_))
    cases ho : outB n i j with
    | true => rfl
    | false => exact bF rfl (bB h1 (bT rfl rfl))
theorem pl_BoundsBetween (n i j : Int) (l : List Bd) (_ : -9223372036854775808 ≤ n) (_ : n ≤ 9223372036854775807) (_ : -9223372036854775808 ≤ i) (_ : i ≤ 9223372036854775807) (_ : -9223372036854775808 ≤ j) (_ : j ≤ 9223372036854775807) : m_law45_BoundsBetween std n i j l = some true := by
  rw [m_law45_BoundsBetween_eq, p_awake, p_long]
  by_cases hlong : (300 : Int) < ((l.length : Nat) : Int)
  · rw [decide_eq_true hlong]; rfl
  rw [decide_eq_false hlong]
  refine bB rfl (bF rfl ?_)
  rcases p_refValid (n := n) (l := l) (by omega) with ⟨hv, hV'⟩ | ⟨hv, hV'⟩
  · have e := hv.nat
    rcases p_Between hv i j with ⟨hc, h1⟩ | ⟨hc, h1⟩ <;> rcases hv.tight with ⟨hc', _, h2⟩ | ⟨hc', _, h2⟩
    · refine bB h1 (bB hV' (bF rfl (bB h2 (bB (out_or n i j) ?_))))
      cases ho : outB n i j with
      | true => rfl
      | false =>
        obtain ⟨⟨i0, i1⟩, j0, j1⟩ := outB_f ho
        have hi : i.toNat < n.toNat := by omega
        have hj : j.toNat < n.toNat := by omega
        have hb := clo_bd2 (hv.clo hc) hj hi
        unfold inf at hb
        refine bB (v := .inr ()) rfl (bB (v := true) (bT rfl (bT (eT ?_) ?_)) rfl)
        · rw [mat_row hj, rw_get hi, Int.zero_sub]
        · simp only [mat_len, mat_row hi, mat_row hj, rw_len, rw_get hi, rw_get hj]
          refine gX (by omega) (gK hj (gX (by omega) (gK hi (gI (by omega) (gX (by omega) (gK hi (gX (by omega) (gK hj ?_))))))))
          exact congrArg some (eT rfl)
    · exact absurd hc hc'
    · exact absurd hc' hc
    · refine bB h1 (bB hV' (bF rfl (bB h2 (bB (out_or n i j) ?_))))
      cases ho : outB n i j <;> rfl
  · rcases p_Valid (n := n) (l := l) (by omega) with ⟨g, _⟩ | ⟨_, g⟩
    · exact absurd g hv
    · have hB : m_bounds_Between std n i j l = some (0, 0, 1) := by rw [m_bounds_Between_eq, g]; rfl
      exact bB hB (bB hV' rfl)
theorem contains {B : Int → Option (Int ⊕ (Int ⊕ Unit))} {n : Nat} (p : Nat → Bool) (hn : n < 1180591620717411303424)
    (h1 : ∀ i : Nat, i < n → B (i : Int) = some (bif p i then .inr (.inl (i : Int)) else .inl ((i : Int) + 1))) (h2 : B (n : Int) = some (.inr (.inr ()))) :
    (Option.bind (Option.bind (loop B 0) fun e => match e with
      | .inl x => (some x)
      | .inr (_) => (some (-1))) fun n => (some (decide (0 ≤ n))) : Option Bool) = some ((List.range n).any p) := by
  rcases search p (fun i => Sum.inl (i : Int)) (.inr ()) hn h1 h2 with ⟨h3, h4⟩ | ⟨i, hi, h3, _, h4⟩
  · rw [h4, any_f.2 h3]; rfl
  · rw [h4, any_t.2 ⟨i, hi, h3⟩]
    exact congrArg some (dT (by omega))
/-- times that satisfy a network -/
structure Hd (l : List Bd) (a : List Int) : Prop where
  v : Vld ((a.length : Nat) : Int) l
  bd : ∀ i, i < a.length → -4398046511104 ≤ a.getD i 0 ∧ a.getD i 0 ≤ 4398046511104
  ok : ∀ e, e ∈ l → a.getD e.2.1.toNat 0 - a.getD e.1.toNat 0 ≤ e.2.2
def badT (x : Int) : Bool := decide (x < -4398046511104) || decide (4398046511104 < x)
def farT (a : List Int) (e : Bd) : Bool := decide (e.2.2 < a.getD e.2.1.toNat 0 - a.getD e.1.toNat 0)
theorem badT_f {x : Int} : badT x = false ↔ -4398046511104 ≤ x ∧ x ≤ 4398046511104 := by
  unfold badT
  by_cases h1 : x < -4398046511104 <;> by_cases h2 : 4398046511104 < x <;> simp [h1, h2] <;> omega
theorem hd_iff {l : List Bd} {a : List Int} (hv : Vld ((a.length : Nat) : Int) l) : Hd l a ↔ ((List.range a.length).any fun i => badT (a.getD i 0)) = false ∧ ((List.range l.length).any fun k => farT a (nb l k)) = false := by
  constructor
  · intro h
    exact ⟨any_f.2 fun i hi => badT_f.2 (h.bd i hi), any_f.2 fun k hk => dF (by have := h.ok _ (nb_mem hk); omega)⟩
  · rintro ⟨h1, h2⟩
    refine ⟨hv, fun i hi => badT_f.1 (any_f.1 h1 i hi), fun e he => ?_⟩
    obtain ⟨k, hk, rfl⟩ := mem_nb he
    have := of_decide_eq_false (any_f.1 h2 k hk)
    omega
theorem p_refHolds {l : List Bd} {a : List Int} (hl : l.length ≤ 1000) (ha : a.length ≤ 1000) : (Hd l a ∧ m_ref45_Holds std l a = some true) ∨ (¬ Hd l a ∧ m_ref45_Holds std l a = some false) := by
  rw [m_ref45_Holds_eq]
  rcases p_refValid (n := ((a.length : Nat) : Int)) (l := l) hl with ⟨hv, hV⟩ | ⟨hv, hV⟩
  · have h1 : loop (m_ref45_Holds_L1 std a) 0 = some (lp ((List.range a.length).any fun i => badT (a.getD i 0))) := by
      refine searchB _ (by omega) (fun i hi => ?_) ?_
      · rw [m_ref45_Holds_L1_eq]
        simp only [toN]
        refine bT (dT (by omega)) (bB (v := badT (a.getD i 0)) ?_ ?_)
        · unfold badT
          cases decide (a.getD i 0 < -4398046511104) with
          | true => exact gX (by omega) (gK hi rfl)
          | false => exact gX (by omega) (gK hi rfl)
        · cases badT (a.getD i 0) with
          | true => rfl
          | false => exact gI (by omega) rfl
      · rw [m_ref45_Holds_L1_eq]
        exact bF (dF (by omega)) rfl
    have hd := hd_iff hv
    cases hb : (List.range a.length).any fun i => badT (a.getD i 0) with
    | true =>
      rw [hb] at h1 hd
      exact .inr ⟨fun h => by have := (hd.1 h).1; simp at this, bB hV (bF rfl (bB h1 rfl))⟩
    | false =>
      have hbd : ∀ i, i < a.length → -4398046511104 ≤ a.getD i 0 ∧ a.getD i 0 ≤ 4398046511104 := fun i hi => badT_f.1 (any_f.1 hb i hi)
      rw [hb] at h1 hd
      have h2 : loop (m_ref45_Holds_L2 std a l) 0 = some (lp ((List.range l.length).any fun k => farT a (nb l k))) := by
        refine searchB _ (by omega) (fun k hk => ?_) ?_
        · rw [m_ref45_Holds_L2_eq]
          simp only [toN, nb_get]
          have he := hv.ok _ (nb_mem hk)
          rw [toN] at he
          have i0 := he.i0; have i1 := he.i1; have j0 := he.j0; have j1 := he.j1
          have b1 := hbd (nb l k).1.toNat (by omega)
          have b2 := hbd (nb l k).2.1.toNat (by omega)
          refine bT (dT (by omega)) (gX (by omega) (gK hk (gX (by omega) (gK (by omega) (gX (by omega) (gK (by omega) (gI (by omega) ?_)))))))
          unfold farT
          cases decide ((nb l k).2.2 < a.getD (nb l k).2.1.toNat 0 - a.getD (nb l k).1.toNat 0) with
          | true => rfl
          | false => exact gI (by omega) rfl
        · rw [m_ref45_Holds_L2_eq]
          exact bF (dF (by omega)) rfl
      cases hf : (List.range l.length).any fun k => farT a (nb l k) with
      | true =>
        rw [hf] at h2 hd
        exact .inr ⟨fun h => by have := (hd.1 h).2; simp at this, bB hV (bF rfl (bB h1 (bB h2 rfl)))⟩
      | false =>
        rw [hf] at h2 hd
        exact .inl ⟨hd.2 ⟨rfl, rfl⟩, bB hV (bF rfl (bB h1 (bB h2 rfl)))⟩
  · exact .inr ⟨fun h => hv h.v, bB hV rfl⟩
theorem p_Holds {l : List Bd} {a : List Int} (hl : l.length ≤ 1000) (ha : a.length ≤ 1000) : (Hd l a ∧ m_bounds_Holds std l a = some true) ∨ (¬ Hd l a ∧ m_bounds_Holds std l a = some false) := by
  rw [m_bounds_Holds_eq]
  rcases p_Valid (n := ((a.length : Nat) : Int)) (l := l) hl with ⟨hv, hV⟩ | ⟨hv, hV⟩
  · have h1 : m_slices_ContainsFunc_7 std a = some ((List.range a.length).any fun i => badT (a.getD i 0)) := by
      rw [m_slices_ContainsFunc_7_eq, m_slices_IndexFunc_7_eq]
      refine contains _ (by omega) (fun i hi => ?_) ?_
      · rw [m_slices_IndexFunc_7_L1_eq]
        simp only [toN]
        refine bT (dT (by omega)) (gX (by omega) (gK hi (bB (v := badT (a.getD i 0)) ?_ ?_)))
        · rw [m_bounds_Holds_1_eq]
          unfold badT
          cases decide (a.getD i 0 < -4398046511104) <;> rfl
        · cases badT (a.getD i 0) with
          | true => rfl
          | false => exact gI (by omega) rfl
      · rw [m_slices_IndexFunc_7_L1_eq]
        exact bF (dF (by omega)) rfl
    have hd := hd_iff hv
    cases hb : (List.range a.length).any fun i => badT (a.getD i 0) with
    | true =>
      rw [hb] at h1 hd
      exact .inr ⟨fun h => by have := (hd.1 h).1; simp at this, bB (v := true) (bB hV (bF rfl (bB h1 rfl))) rfl⟩
    | false =>
      have hbd : ∀ i, i < a.length → -4398046511104 ≤ a.getD i 0 ∧ a.getD i 0 ≤ 4398046511104 := fun i hi => badT_f.1 (any_f.1 hb i hi)
      rw [hb] at h1 hd
      have h2 : m_slices_ContainsFunc_8 std l a = some ((List.range l.length).any fun k => farT a (nb l k)) := by
        rw [m_slices_ContainsFunc_8_eq, m_slices_IndexFunc_8_eq]
        refine contains _ (by omega) (fun k hk => ?_) ?_
        · rw [m_slices_IndexFunc_8_L1_eq]
          simp only [toN, nb_get]
          have he := hv.ok _ (nb_mem hk)
          rw [toN] at he
          have i0 := he.i0; have i1 := he.i1; have j0 := he.j0; have j1 := he.j1
          have b1 := hbd (nb l k).1.toNat (by omega)
          have b2 := hbd (nb l k).2.1.toNat (by omega)
          refine bT (dT (by omega)) (gX (by omega) (gK hk (bB (v := farT a (nb l k)) ?_ ?_)))
          · rw [m_bounds_Holds_2_eq]
            exact gX (by omega) (gK (by omega) (gX (by omega) (gK (by omega) (gI (by omega) rfl))))
          · cases farT a (nb l k) with
            | true => rfl
            | false => exact gI (by omega) rfl
        · rw [m_slices_IndexFunc_8_L1_eq]
          exact bF (dF (by omega)) rfl
      cases hf : (List.range l.length).any fun k => farT a (nb l k) with
      | true =>
        rw [hf] at h2 hd
        exact .inr ⟨fun h => by have := (hd.1 h).2; simp at this, bB (v := false) (bB hV (bF rfl (bB h1 rfl))) (bF rfl (bB h2 rfl))⟩
      | false =>
        rw [hf] at h2 hd
        exact .inl ⟨hd.2 ⟨rfl, rfl⟩, bB (v := false) (bB hV (bF rfl (bB h1 rfl))) (bF rfl (bB h2 rfl))⟩
  · exact .inr ⟨fun h => hv h.v, bB (v := true) (bB hV rfl) rfl⟩
theorem Vld.valid {n : Int} {l : List Bd} (h : Vld n l) : m_bounds_Valid std n l = some true := by
  rcases p_Valid (n := n) (l := l) (by have := h.len; omega) with ⟨_, g⟩ | ⟨g, _⟩
  · exact g
  · exact absurd h g
theorem Vld.Tight {n : Int} {l : List Bd} (h : Vld n l) : (Cons n.toNat (M0 l) ∧ m_bounds_Tight std n l = some (mat n.toNat (Ti n.toNat l), 0)) ∨ (¬ Cons n.toNat (M0 l) ∧ m_bounds_Tight std n l = some ([], 17)) := by
  rw [m_bounds_Tight_eq]
  rcases h.tight with ⟨hc, h1, _⟩ | ⟨hc, h1, _⟩
  · exact .inl ⟨hc, bB h.valid (bF rfl (bB h1 rfl))⟩
  · exact .inr ⟨hc, bB h.valid (bF rfl (bB h1 rfl))⟩
theorem not_Tight {n : Int} {l : List Bd} (hl : l.length ≤ 1000) (h : ¬ Vld n l) : m_bounds_Tight std n l = some ([], 1) := by
  rcases p_Valid (n := n) (l := l) hl with ⟨g, _⟩ | ⟨_, g⟩
  · exact absurd g h
  · rw [m_bounds_Tight_eq]; exact bB g rfl
theorem rep0 (n : Nat) : List.replicate n (0 : Int) = rw' n (fun _ => 0) := by
  refine List.ext_getElem? fun b => ?_
  simp only [rw', List.getElem?_map, List.getElem?_replicate]
  by_cases hb : b < n
  · simp [hb]
  · simp [hb]
/-- the earliest times -/
theorem p_Earliest {n : Int} {l : List Bd} (h : Vld n l) : (¬ Cons n.toNat (M0 l) ∧ m_bounds_Earliest std n l = some ([], 17)) ∨
    (Cons n.toNat (M0 l) ∧ (∃ j, j < n.toNat ∧ Ti n.toNat l j 0 = inf) ∧ m_bounds_Earliest std n l = some ([], 18)) ∨
    (Cons n.toNat (M0 l) ∧ (∀ j, j < n.toNat → Ti n.toNat l j 0 ≠ inf) ∧ m_bounds_Earliest std n l = some (rw' n.toNat (fun j => -(Ti n.toNat l j 0)), 0)) := by
  have e := h.nat
  have h1 := h.n1
  have h24 := h.n24
  rcases h.Tight with ⟨hc, ht⟩ | ⟨hc, ht⟩
  · right
    have hC := h.clo hc
    obtain ⟨m, hm⟩ : ∃ m, m = n.toNat := ⟨_, rfl⟩
    rw [← hm] at e hC ht hc ⊢
    obtain ⟨f, hf⟩ : ∃ f, f = Ti m l := ⟨_, rfl⟩
    rw [← hf] at hC ht ⊢
    have key : ∃ r, loop (m_bounds_Earliest_L1 std (mat m f) n) (0, List.replicate m 0) = some r ∧ ((r = .inl () ∧ ∃ j, j < m ∧ f j 0 = inf) ∨ (r = .inr (rw' m fun j => -(f j 0)) ∧ ∀ j, j < m → f j 0 ≠ inf)) := by
      refine loop_is (fun y => ∃ i : Nat, y = ((i : Int), rw' m (fun j => if j < i then -(f j 0) else 0)) ∧ i ≤ m ∧ ∀ j, j < i → f j 0 ≠ inf) (fun y => m - y.1.toNat) _ ⟨0, Prod.ext rfl ?_, Nat.zero_le _, fun j hj => by omega⟩ (by show m - _ < _; omega) ?_
      · exact (rep0 m).trans (rw_ext fun j _ => by simp)
      · rintro _ ⟨i, rfl, hi, hp⟩
        rw [m_bounds_Earliest_L1_eq]
        by_cases hlt : i < m
        · simp only [toN, mat_len, mat_row hlt, rw_len]
          have z0 : (0 : Int).toNat = 0 := rfl
          have hb := clo_bd2 hC hlt (show 0 < m by omega)
          unfold inf at hb
          rw [z0, rw_get (show 0 < m by omega)]
          by_cases hx : f i 0 = inf
          · exact ⟨_, bT (dT (by omega)) (gX (by omega) (gK hlt (gX (by omega) (gK (by omega) (bT (eT hx) rfl))))), .inl ⟨rfl, i, hlt, hx⟩⟩
          · refine ⟨_, bT (dT (by omega)) (gX (by omega) (gK hlt (gX (by omega) (gK (by omega) (bF (eF hx) (gI (by omega) (gX (by omega) (gK hlt (gI (by omega) rfl))))))))), ⟨i + 1, Prod.ext (by simp) ?_, by omega, fun j hj => ?_⟩, by show m - (_ : Int).toNat < m - _; omega⟩
            · show (rw' m _).set i _ = _
              rw [rw_set]
              refine rw_ext fun j _ => ?_
              by_cases ej : j = i
              · subst ej; simp
              · by_cases hj : j < i
                · have : j < i + 1 := by omega
                  simp [ej, hj, this]
                · have : ¬ j < i + 1 := by omega
                  simp [ej, hj, this]
            · by_cases ej : j = i
              · subst ej; exact hx
              · exact hp j (by omega)
        · obtain rfl : i = m := by omega
          exact ⟨_, bF (dF (by omega)) rfl, .inr ⟨congrArg Sum.inr (rw_ext fun j hj => if_pos hj), hp⟩⟩
    have hd : ∀ r, (Option.bind (loop (m_bounds_Earliest_L1 std (mat m f) n) (0, List.replicate m 0)) fun e => match e with
        | .inl _ => (some (([] : List Int), (18 : Int)))
        | .inr (l7) => (some (l7, (0 : Int)))) = r → m_bounds_Earliest std n l = r := fun r hr => by
      rw [m_bounds_Earliest_eq]
      refine bB ht (bF rfl (gG (by omega) (gR (by omega) ?_)))
      rw [← hm]; exact hr
    obtain ⟨r, h3, ⟨rfl, h4⟩ | ⟨rfl, h4⟩⟩ := key
    · exact .inl ⟨hc, h4, hd _ (bB h3 rfl)⟩
    · exact .inr ⟨hc, h4, hd _ (bB h3 rfl)⟩
  · exact .inl ⟨hc, by rw [m_bounds_Earliest_eq]; exact bB ht rfl⟩
theorem not_Earliest {n : Int} {l : List Bd} (hl : l.length ≤ 1000) (h : ¬ Vld n l) : m_bounds_Earliest std n l = some ([], 1) := by
  rw [m_bounds_Earliest_eq]; exact bB (not_Tight hl h) rfl

/-- the network with an end -/
def endL (_n : Nat) (l : List Bd) (z : Int) (k : Nat) : List Bd := l ++ (List.range k).map fun (j : Nat) => ((0 : Int), (j : Int), z)
theorem endL_step (n : Nat) (l : List Bd) (z : Int) (k : Nat) : endL n l z k ++ [(0, (k : Int), z)] = endL n l z (k + 1) := by
  unfold endL; rw [List.range_succ, List.map_append, List.append_assoc]; rfl
theorem endL_len (n : Nat) (l : List Bd) (z : Int) (k : Nat) : (endL n l z k).length = l.length + k := by simp [endL]
theorem endL_mem {n : Nat} {l : List Bd} {z : Int} {k : Nat} {e : Bd} : e ∈ endL n l z k ↔ e ∈ l ∨ ∃ j : Nat, j < k ∧ e = (0, (j : Int), z) := by
  unfold endL
  rw [List.mem_append, List.mem_map]
  constructor
  · rintro (h | ⟨j, h1, rfl⟩)
    · exact .inl h
    · exact .inr ⟨j, List.mem_range.1 h1, rfl⟩
  · rintro (h | ⟨j, h1, rfl⟩)
    · exact .inl h
    · exact .inr ⟨j, List.mem_range.2 h1, rfl⟩
theorem endL_ok {n : Nat} {l : List Bd} (h : LOk n l) (hn : 1 ≤ n) {z : Int} (hz : 0 ≤ z ∧ z ≤ 1073741824) : LOk n (endL n l z n) := by
  intro e he
  rcases endL_mem.1 he with h1 | ⟨j, hj, rfl⟩
  · exact h e h1
  · exact edok.2 ⟨by simp, by simp; omega, by simp, by simp; omega, by simp; omega, by simp; omega⟩
theorem p_Ended {n : Nat} {l : List Bd} (hl : l.length ≤ 1000) (hn : n ≤ 24) (z : Int) : m_ref45_Ended std (n : Int) z l = some (endL n l z n) := by
  rw [m_ref45_Ended_eq]
  refine gR (by simp) (gR (by omega) (bB (v := endL n l z n) ?_ rfl))
  have h0 : ([] : List Bd) ++ l = endL n l z 0 := by simp [endL]
  rw [h0]
  refine loop_up (n := n) (fun k => endL n l z k) (by omega) (fun k hk => ?_) ?_
  · rw [m_ref45_Ended_L1_eq]
    refine bT (dT (by omega)) (gR (by rw [endL_len]; omega) (gR (by simp) (gI (by omega) ?_)))
    rw [endL_step]; rfl
  · rw [m_ref45_Ended_L1_eq]
    exact bF (dF (by omega)) rfl
def offB (z : Int) : Bool := decide (z < 0 ∨ 1073741824 < z)
theorem off_or (z : Int) : (bif (decide (z < 0)) then (some true) else (some (decide (1073741824 < z))) : Option Bool) = some (offB z) := by
  unfold offB
  by_cases h1 : z < 0 <;> by_cases h2 : 1073741824 < z <;> simp [h1, h2]
theorem p_Latest {n : Int} {l : List Bd} (h : Vld n l) (z : Int) : (offB z = true ∧ m_bounds_Latest std n z l = some ([], 2)) ∨
    ((0 ≤ z ∧ z ≤ 1073741824) ∧ offB z = false ∧ ¬ Cons n.toNat (M0 (endL n.toNat l z n.toNat)) ∧ m_bounds_Latest std n z l = some ([], 17)) ∨
    ((0 ≤ z ∧ z ≤ 1073741824) ∧ offB z = false ∧ Cons n.toNat (M0 (endL n.toNat l z n.toNat)) ∧ m_bounds_Latest std n z l = some (rw' n.toNat (Ti n.toNat (endL n.toNat l z n.toNat) 0), 0)) := by
  have e := h.nat
  have h1 := h.n1
  have h24 := h.n24
  have hlen := h.len
  have hd : ∀ r, (bif offB z then (some (([] : List Int), (2 : Int))) else Option.bind (m_clone_i3 std l) fun l57 =>
      Option.bind (loop (m_bounds_Latest_L1 std z n) (0, l57)) fun l59 => Option.bind (m_bounds_tight std n l59) fun (l60, b39) =>
      bif (!b39) then (some (([] : List Int), 17)) else grd (okIdx 0 ((List.length l60))) <| grd (okKin ((Int.toNat 0)) ((List.length l60))) <|
        Option.bind (m_clone_i1 std ((List.getD l60 (Int.toNat 0) []))) fun l61 => (some (l61, 0))) = r → m_bounds_Latest std n z l = r := fun r hr => by
    rw [m_bounds_Latest_eq]
    exact bB h.valid (bF rfl (bB (off_or z) hr))
  cases ho : offB z with
  | true => exact .inl ⟨rfl, hd _ (by rw [ho]; rfl)⟩
  | false =>
    right
    have hz : 0 ≤ z ∧ z ≤ 1073741824 := by have := of_decide_eq_false ho; omega
    obtain ⟨m, hm⟩ : ∃ m, m = n.toNat := ⟨_, rfl⟩
    have hok := h.ok
    rw [← hm] at e hok ⊢
    have hl1 : loop (m_bounds_Latest_L1 std z n) (0, l) = some (endL m l z m) := by
      have h0 : l = endL m l z 0 := by simp [endL]
      rw [e]
      conv => lhs; rw [h0]
      refine loop_up (n := m) (fun k => endL m l z k) (by omega) (fun k hk => ?_) ?_
      · rw [m_bounds_Latest_L1_eq]
        refine bT (dT (by omega)) (gR (by rw [endL_len]; omega) (gR (by simp) (gI (by omega) ?_)))
        rw [endL_step]; rfl
      · rw [m_bounds_Latest_L1_eq]
        exact bF (dF (by omega)) rfl
    have hcl : m_clone_i3 std l = some l := by rw [m_clone_i3_eq]; exact gR (by omega) rfl
    rcases p_tight (endL_ok hok (by omega) hz) (by rw [endL_len]; omega) (show 1 ≤ m by omega) (by omega) with ⟨hc, ht⟩ | ⟨hc, ht⟩
    · refine .inr ⟨hz, rfl, hc, hd _ ?_⟩
      rw [ho]
      refine bF rfl (bB hcl (bB hl1 (bB (by rw [e]; exact ht) (bF rfl ?_))))
      have z0 : (0 : Int).toNat = 0 := rfl
      simp only [z0, mat_len, mat_row (show 0 < m by omega)]
      exact gX (by omega) (gK (by omega) (bB (by rw [m_clone_i1_eq]; exact gR (by rw [rw_len]; omega) rfl) rfl))
    · refine .inl ⟨hz, rfl, hc, hd _ ?_⟩
      rw [ho]
      exact bF rfl (bB hcl (bB hl1 (bB (by rw [e]; exact ht) rfl)))
theorem not_Latest {n : Int} {l : List Bd} (hl : l.length ≤ 1000) (h : ¬ Vld n l) (z : Int) : m_bounds_Latest std n z l = some ([], 1) := by
  rcases p_Valid (n := n) (l := l) hl with ⟨g, _⟩ | ⟨_, g⟩
  · exact absurd g h
  · rw [m_bounds_Latest_eq]; exact bB g rfl
theorem p_Equal (a : List Int) (h : a.length ≤ 1000) : m_slices_Equal std a a = some true := by
  rw [m_slices_Equal_eq]
  refine bF (nF (eT rfl)) (bB (v := .inr ()) ?_ rfl)
  refine loop_to' (n := a.length) (fun j => (j : Int)) (by omega) (fun j hj => ?_) ?_
  · rw [m_slices_Equal_L1_eq]
    simp only [toN]
    exact bT (dT (by omega)) (gX (by omega) (gK hj (gX (by omega) (gK hj (bF (nF (eT rfl)) (gI (by omega) rfl))))))
  · rw [m_slices_Equal_L1_eq]
    exact bF (dF (by omega)) rfl
theorem Vld.rvalid {n : Int} {l : List Bd} (h : Vld n l) : m_ref45_Valid std n l = some true := by
  rcases p_refValid (n := n) (l := l) (by have := h.len; omega) with ⟨_, g⟩ | ⟨g, _⟩
  · exact g
  · exact absurd h g
/-- the earliest times satisfy the network -/
theorem early_hd {n : Int} {l : List Bd} (h : Vld n l) (hc : Cons n.toNat (M0 l)) (hf : ∀ j, j < n.toNat → Ti n.toNat l j 0 ≠ inf) : Hd l (rw' n.toNat fun j => -(Ti n.toNat l j 0)) := by
  have e := h.nat
  have hC := h.clo hc
  have h1 := h.n1
  refine ⟨?_, fun i hi => ?_, fun b hb => ?_⟩
  · rw [rw_len, ← e]; exact h
  · rw [rw_len] at hi
    rw [rw_get hi]
    have := hC.bd i 0 hi (by omega) (hf i hi)
    omega
  · have hk := h.ok b hb
    have i0 := hk.i0; have i1 := hk.i1; have j0 := hk.j0; have j1 := hk.j1
    have w1 := hk.w1
    have hi : b.1.toNat < n.toNat := by omega
    have hj : b.2.1.toNat < n.toNat := by omega
    rw [rw_get hi, rw_get hj]
    have ht := ti_edge (n := n.toNat) hb
    have hT : Ti n.toNat l b.1.toNat b.2.1.toNat ≠ inf := by unfold C at w1; unfold inf; omega
    have := hC.cl b.1.toNat b.2.1.toNat 0 hi hj (by omega) hT (hf _ hj)
    omega
/-- the latest times satisfy the network -/
theorem late_hd {n : Int} {l : List Bd} (h : Vld n l) {z : Int} (hz : 0 ≤ z ∧ z ≤ 1073741824) (hc : Cons n.toNat (M0 (endL n.toNat l z n.toNat))) :
    Hd l (rw' n.toNat (Ti n.toNat (endL n.toNat l z n.toNat) 0)) ∧ ∀ j, j < n.toNat → -(26843545600 : Int) ≤ Ti n.toNat (endL n.toNat l z n.toNat) 0 j ∧ Ti n.toNat (endL n.toNat l z n.toNat) 0 j ≤ z := by
  have e := h.nat
  have h1 := h.n1
  have hok := endL_ok h.ok (by omega) hz
  have hC := ti_clo hok (by have := h.n24; omega) hc
  have hup : ∀ j, j < n.toNat → Ti n.toNat (endL n.toNat l z n.toNat) 0 j ≤ z := fun j hj => by
    have := ti_edge (n := n.toNat) (endL_mem (n := n.toNat) (l := l) (z := z).2 (.inr ⟨j, hj, rfl⟩))
    simpa using this
  have hfin : ∀ j, j < n.toNat → Ti n.toNat (endL n.toNat l z n.toNat) 0 j ≠ inf := fun j hj => by have := hup j hj; unfold inf; omega
  have hlo : ∀ j, j < n.toNat → -(26843545600 : Int) ≤ Ti n.toNat (endL n.toNat l z n.toNat) 0 j := fun j hj => (hC.bd 0 j (by omega) hj (hfin j hj)).1
  refine ⟨⟨?_, fun i hi => ?_, fun b hb => ?_⟩, fun j hj => ⟨hlo j hj, hup j hj⟩⟩
  · rw [rw_len, ← e]; exact h
  · rw [rw_len] at hi
    rw [rw_get hi]
    have := hup i hi
    have := hlo i hi
    omega
  · have hk := h.ok b hb
    have i0 := hk.i0; have i1 := hk.i1; have j0 := hk.j0; have j1 := hk.j1
    have w1 := hk.w1
    have hi : b.1.toNat < n.toNat := by omega
    have hj : b.2.1.toNat < n.toNat := by omega
    rw [rw_get hi, rw_get hj]
    have ht := ti_edge (n := n.toNat) (endL_mem (n := n.toNat) (l := l) (z := z) (k := n.toNat).2 (.inl hb))
    have hT : Ti n.toNat (endL n.toNat l z n.toNat) b.1.toNat b.2.1.toNat ≠ inf := by unfold C at w1; unfold inf; omega
    have := hC.cl 0 b.1.toNat b.2.1.toNat (by omega) hi hj (hfin _ hi) hT
    omega
theorem Hd.ref {l : List Bd} {a : List Int} (h : Hd l a) (ha : a.length ≤ 1000) : m_ref45_Holds std l a = some true := by
  rcases p_refHolds (l := l) (a := a) (by have := h.v.len; omega) ha with ⟨_, g⟩ | ⟨g, _⟩
  · exact g
  · exact absurd h g
/-- is there a number that is not bounded? -/
def anyInf (n : Nat) (f : Mx) : Bool := (List.range n).any fun i => f i 0 == inf
theorem p_anyInf {n : Nat} (hn : 1 ≤ n) (hn2 : n ≤ 24) (f : Mx) : m_slices_ContainsFunc_3 std (mat n f) = some (anyInf n f) := by
  rw [m_slices_ContainsFunc_3_eq, m_slices_IndexFunc_3_eq]
  refine contains (n := n) _ (by omega) (fun i hi => ?_) ?_
  · rw [m_slices_IndexFunc_3_L1_eq]
    simp only [toN, mat_len, mat_row hi]
    refine bT (dT (by omega)) (gX (by omega) (gK hi (bB (v := (f i 0 == inf)) ?_ ?_)))
    · rw [m_law45_BoundsSchedules_1_eq]
      have z0 : (0 : Int).toNat = 0 := rfl
      rw [z0, rw_len, rw_get (by omega)]
      exact gX (by omega) (gK (by omega) rfl)
    · cases (f i 0 == inf) with
      | true => rfl
      | false => exact gI (by omega) rfl
  · rw [m_slices_IndexFunc_3_L1_eq]
    simp only [mat_len]
    exact bF (dF (by omega)) rfl
theorem p_sched {m : Nat} (h1 : 1 ≤ m) (h24 : m ≤ 24) {f : Mx} (hC : Clo m f) : loop (m_law45_BoundsSchedules_L1 std (rw' m fun j => -(f j 0)) (mat m f)) 0 = some (.inr ()) := by
  refine loop_to' (n := m) (fun j => (j : Int)) (by omega) (fun j hj => ?_) ?_
  · rw [m_law45_BoundsSchedules_L1_eq]
    have z0 : (0 : Int).toNat = 0 := rfl
    simp only [toN, mat_len, mat_row hj, rw_len, rw_get hj, z0, rw_get (show 0 < m by omega)]
    have := clo_bd2 hC hj (show 0 < m by omega)
    unfold inf at this
    exact bT (dT (by omega)) (gX (by omega) (gK hj (gX (by omega) (gK hj (gX (by omega) (gK (by omega) (gI (by omega) (bF (nF (eT (by omega))) (gI (by omega) rfl)))))))))
  · rw [m_law45_BoundsSchedules_L1_eq]
    simp only [rw_len]
    exact bF (dF (by omega)) rfl
theorem pl_BoundsSchedules (n z : Int) (l : List Bd) (_ : -9223372036854775808 ≤ n) (_ : n ≤ 9223372036854775807) (_ : -9223372036854775808 ≤ z) (_ : z ≤ 9223372036854775807) : m_law45_BoundsSchedules std n z l = some true := by
  rw [m_law45_BoundsSchedules_eq, p_awake]
  by_cases hlong : (170 : Int) < ((l.length : Nat) : Int)
  · rw [decide_eq_true hlong]; rfl
  rw [decide_eq_false hlong]
  refine bB rfl (bF rfl ?_)
  rcases Classical.em (Vld n l) with hv | hv
  · have e := hv.nat
    have h1 := hv.n1
    have h24 := hv.n24
    have hEn : m_ref45_Ended std n z l = some (endL n.toNat l z n.toNat) := by
      have := p_Ended (n := n.toNat) (l := l) (by omega) (by omega) z
      rw [← e] at this
      exact this
    rcases p_Earliest hv with ⟨hc, hE⟩ | ⟨hc, hx, hE⟩ | ⟨hc, hx, hE⟩
    · have hT : m_ref45_Tight std n l = some ([], false) := by
        rcases hv.tight with ⟨c, _, _⟩ | ⟨_, _, g⟩
        · exact absurd c hc
        · exact g
      rcases p_Latest hv z with ⟨ho, hL⟩ | ⟨hz, ho, hc2, hL⟩ | ⟨hz, ho, hc2, hL⟩
      · refine bB hE (bB hL (bB hv.rvalid (bF rfl (bB hT (bB (v := .inr ()) ?_ ?_)))))
        · exact rfl
        · refine bB (off_or z) ?_
          exact by rw [ho]; rfl
      · have hT2 : m_ref45_Tight std n (endL n.toNat l z n.toNat) = some ([], false) := by
          rcases p_refTight (n := n.toNat) (endL_ok hv.ok (by omega) hz) (by rw [endL_len]; omega) (by omega) (by omega) with ⟨c, _⟩ | ⟨_, g⟩
          · exact absurd c hc2
          · rw [← e] at g; exact g
        refine bB hE (bB hL (bB hv.rvalid (bF rfl (bB hT (bB (v := .inr ()) ?_ ?_)))))
        · exact rfl
        · refine bB (off_or z) ?_
          exact by
            rw [ho]
            exact bF rfl (bB hEn (bB hT2 rfl))
      · have hT2 : m_ref45_Tight std n (endL n.toNat l z n.toNat) = some (mat n.toNat (Ti n.toNat (endL n.toNat l z n.toNat)), true) := by
          rcases p_refTight (n := n.toNat) (endL_ok hv.ok (by omega) hz) (by rw [endL_len]; omega) (by omega) (by omega) with ⟨_, g⟩ | ⟨c, _⟩
          · rw [← e] at g; exact g
          · exact absurd hc2 c
        refine bB hE (bB hL (bB hv.rvalid (bF rfl (bB hT (bB (v := .inr ()) ?_ ?_)))))
        · exact rfl
        · refine bB (off_or z) ?_
          exact by
            rw [ho]
            refine bF rfl (bB hEn (bB hT2 (bF rfl (bB (v := true) (bT rfl (bB ((late_hd hv hz hc2).1.ref (by rw [rw_len]; omega)) (bT rfl ?_))) rfl))))
            have z0 : (0 : Int).toNat = 0 := rfl
            simp only [z0, mat_len, mat_row (show 0 < n.toNat by omega)]
            exact gX (by omega) (gK (by omega) (bB (p_Equal _ (by rw [rw_len]; omega)) rfl))
    · have hT : m_ref45_Tight std n l = some (mat n.toNat (Ti n.toNat l), true) := by
        rcases hv.tight with ⟨_, _, g⟩ | ⟨c, _, _⟩
        · exact g
        · exact absurd hc c
      have hA : m_slices_ContainsFunc_3 std (mat n.toNat (Ti n.toNat l)) = some true := by
        rw [p_anyInf (by omega) (by omega)]
        obtain ⟨j, hj, g⟩ := hx
        exact congrArg some (any_t.2 ⟨j, hj, eT g⟩)
      rcases p_Latest hv z with ⟨ho, hL⟩ | ⟨hz, ho, hc2, hL⟩ | ⟨hz, ho, hc2, hL⟩
      · refine bB hE (bB hL (bB hv.rvalid (bF rfl (bB hT (bB (v := .inr ()) ?_ ?_)))))
        · exact bF rfl (bB hA rfl)
        · refine bB (off_or z) ?_
          exact by rw [ho]; rfl
      · have hT2 : m_ref45_Tight std n (endL n.toNat l z n.toNat) = some ([], false) := by
          rcases p_refTight (n := n.toNat) (endL_ok hv.ok (by omega) hz) (by rw [endL_len]; omega) (by omega) (by omega) with ⟨c, _⟩ | ⟨_, g⟩
          · exact absurd c hc2
          · rw [← e] at g; exact g
        refine bB hE (bB hL (bB hv.rvalid (bF rfl (bB hT (bB (v := .inr ()) ?_ ?_)))))
        · exact bF rfl (bB hA rfl)
        · refine bB (off_or z) ?_
          exact by
            rw [ho]
            exact bF rfl (bB hEn (bB hT2 rfl))
      · have hT2 : m_ref45_Tight std n (endL n.toNat l z n.toNat) = some (mat n.toNat (Ti n.toNat (endL n.toNat l z n.toNat)), true) := by
          rcases p_refTight (n := n.toNat) (endL_ok hv.ok (by omega) hz) (by rw [endL_len]; omega) (by omega) (by omega) with ⟨_, g⟩ | ⟨c, _⟩
          · rw [← e] at g; exact g
          · exact absurd hc2 c
        refine bB hE (bB hL (bB hv.rvalid (bF rfl (bB hT (bB (v := .inr ()) ?_ ?_)))))
        · exact bF rfl (bB hA rfl)
        · refine bB (off_or z) ?_
          exact by
            rw [ho]
            refine bF rfl (bB hEn (bB hT2 (bF rfl (bB (v := true) (bT rfl (bB ((late_hd hv hz hc2).1.ref (by rw [rw_len]; omega)) (bT rfl ?_))) rfl))))
            have z0 : (0 : Int).toNat = 0 := rfl
            simp only [z0, mat_len, mat_row (show 0 < n.toNat by omega)]
            exact gX (by omega) (gK (by omega) (bB (p_Equal _ (by rw [rw_len]; omega)) rfl))
    · have hT : m_ref45_Tight std n l = some (mat n.toNat (Ti n.toNat l), true) := by
        rcases hv.tight with ⟨_, _, g⟩ | ⟨c, _, _⟩
        · exact g
        · exact absurd hc c
      have hA : m_slices_ContainsFunc_3 std (mat n.toNat (Ti n.toNat l)) = some false := by
        rw [p_anyInf (by omega) (by omega)]
        exact congrArg some (any_f.2 fun j hj => eF (hx j hj))
      have hSc := p_sched (m := n.toNat) (by omega) (by omega) (hv.clo hc)
      rcases p_Latest hv z with ⟨ho, hL⟩ | ⟨hz, ho, hc2, hL⟩ | ⟨hz, ho, hc2, hL⟩
      · refine bB hE (bB hL (bB hv.rvalid (bF rfl (bB hT (bB (v := .inr ()) ?_ ?_)))))
        · exact bF rfl (bB hA (bB (v := .inr ()) (bF rfl (bB (v := false) (bF (nF rfl) (bF (nF (eT (by rw [rw_len]; omega))) (bB ((early_hd hv hc hx).ref (by rw [rw_len]; omega)) rfl))) (bF rfl (bB hSc rfl)))) rfl))
        · refine bB (off_or z) ?_
          exact by rw [ho]; rfl
      · have hT2 : m_ref45_Tight std n (endL n.toNat l z n.toNat) = some ([], false) := by
          rcases p_refTight (n := n.toNat) (endL_ok hv.ok (by omega) hz) (by rw [endL_len]; omega) (by omega) (by omega) with ⟨c, _⟩ | ⟨_, g⟩
          · exact absurd c hc2
          · rw [← e] at g; exact g
        refine bB hE (bB hL (bB hv.rvalid (bF rfl (bB hT (bB (v := .inr ()) ?_ ?_)))))
        · exact bF rfl (bB hA (bB (v := .inr ()) (bF rfl (bB (v := false) (bF (nF rfl) (bF (nF (eT (by rw [rw_len]; omega))) (bB ((early_hd hv hc hx).ref (by rw [rw_len]; omega)) rfl))) (bF rfl (bB hSc rfl)))) rfl))
        · refine bB (off_or z) ?_
          exact by
            rw [ho]
            exact bF rfl (bB hEn (bB hT2 rfl))
      · have hT2 : m_ref45_Tight std n (endL n.toNat l z n.toNat) = some (mat n.toNat (Ti n.toNat (endL n.toNat l z n.toNat)), true) := by
          rcases p_refTight (n := n.toNat) (endL_ok hv.ok (by omega) hz) (by rw [endL_len]; omega) (by omega) (by omega) with ⟨_, g⟩ | ⟨c, _⟩
          · rw [← e] at g; exact g
          · exact absurd hc2 c
        refine bB hE (bB hL (bB hv.rvalid (bF rfl (bB hT (bB (v := .inr ()) ?_ ?_)))))
        · exact bF rfl (bB hA (bB (v := .inr ()) (bF rfl (bB (v := false) (bF (nF rfl) (bF (nF (eT (by rw [rw_len]; omega))) (bB ((early_hd hv hc hx).ref (by rw [rw_len]; omega)) rfl))) (bF rfl (bB hSc rfl)))) rfl))
        · refine bB (off_or z) ?_
          exact by
            rw [ho]
            refine bF rfl (bB hEn (bB hT2 (bF rfl (bB (v := true) (bT rfl (bB ((late_hd hv hz hc2).1.ref (by rw [rw_len]; omega)) (bT rfl ?_))) rfl))))
            have z0 : (0 : Int).toNat = 0 := rfl
            simp only [z0, mat_len, mat_row (show 0 < n.toNat by omega)]
            exact gX (by omega) (gK (by omega) (bB (p_Equal _ (by rw [rw_len]; omega)) rfl))
  · rcases p_refValid (n := n) (l := l) (by omega) with ⟨g, _⟩ | ⟨_, g⟩
    · exact absurd g hv
    · exact bB (not_Earliest (by omega) hv) (bB (not_Latest (by omega) hv z) (bB g rfl))
theorem tmod_ix {i n : Int} (hi : 0 ≤ i) (hn : 1 ≤ n) : ∃ a : Nat, Int.tmod i n = (a : Int) ∧ a < n.toNat := by
  rw [Int.tmod_eq_emod_of_nonneg hi]
  have h1 := Int.emod_nonneg i (show n ≠ 0 by omega)
  have h2 := Int.emod_lt_of_pos i (show 0 < n by omega)
  exact ⟨(i % n).toNat, by omega, by omega⟩
theorem clo_top {n : Nat} {l : List Bd} (h : LOk n l) : ∀ i j, i < n → j < n → Ti n l i j ≤ inf := fun _ _ hi hj => ti_top h hi hj
/-- a closed matrix that obeys both networks' bounds is that of either -/
theorem ti_same {n : Nat} {l l' : List Bd} (h : LOk n l) (h' : LOk n l') (hn : n ≤ 24) (hc : Cons n (M0 l)) (h1 : ∀ e, e ∈ l → e ∈ l') (h2 : ∀ e, e ∈ l' → Ti n l e.1.toNat e.2.1.toNat ≤ e.2.2) :
    Cons n (M0 l') ∧ ∀ i j, i < n → j < n → Ti n l' i j = Ti n l i j := by
  have hC := ti_clo h hn hc
  have hc' := cons_clo h' hC h2
  have hC' := ti_clo h' hn hc'
  refine ⟨hc', fun i j hi hj => Int.le_antisymm ?_ ?_⟩
  · exact ti_max' h hC'.cl (clo_top h') (fun i hi => Int.le_of_eq (hC'.dia i hi)) (fun e he => ti_edge (h1 e he)) hi hj
  · exact ti_max' h' hC.cl (clo_top h) (fun i hi => Int.le_of_eq (hC.dia i hi)) h2 hi hj
theorem pl_BoundsTriangle (n i j : Int) (l : List Bd) (_ : -9223372036854775808 ≤ n) (_ : n ≤ 9223372036854775807) (hi0 : 0 ≤ i) (hi1 : i ≤ 255) (hj0 : 0 ≤ j) (hj1 : j ≤ 255) : m_law45_BoundsTriangle std n i j l = some true := by
  rw [m_law45_BoundsTriangle_eq, p_awake]
  by_cases hlong : (190 : Int) < ((l.length : Nat) : Int)
  · rw [decide_eq_true hlong]; rfl
  rw [decide_eq_false hlong]
  refine bB rfl (bF rfl ?_)
  rcases Classical.em (Vld n l) with hv | hv
  · rcases hv.Tight with ⟨hc, hT⟩ | ⟨hc, hT⟩
    · have e := hv.nat
      have h1 := hv.n1
      have h24 := hv.n24
      have hC := hv.clo hc
      have hok := hv.ok
      obtain ⟨a, ea, ha⟩ := tmod_ix hi0 h1
      obtain ⟨b, eb, hb⟩ := tmod_ix hj0 h1
      rw [ea, eb]
      obtain ⟨m, hm⟩ : ∃ m, m = n.toNat := ⟨_, rfl⟩
      rw [← hm] at e hT hC hok ha hb hc
      obtain ⟨f, hf⟩ : ∃ f, f = Ti m l := ⟨_, rfl⟩
      rw [← hf] at hT hC
      have bd := @clo_bd2 m f hC
      refine bB hT (bF (nF rfl) (bB (v := false) (bF (nF (eT (by rw [mat_len]; omega))) (bB (v := false) ?_ (bF rfl (bB hv.rvalid rfl)))) (bF rfl (bB (v := .inr ()) ?_ (gI (by omega) (gZ (by omega) (gI (by omega) (bB (v := .inr ()) ?_ ?_))))))))
      · rw [m_slices_ContainsFunc_4_eq, m_slices_IndexFunc_4_eq]
        have : (some false : Option Bool) = some ((List.range m).any fun _ => false) := by
          refine congrArg some (any_f.2 fun _ _ => rfl).symm
        rw [this]
        refine contains (n := m) _ (by omega) (fun k hk => ?_) ?_
        · rw [m_slices_IndexFunc_4_L1_eq]
          simp only [toN, mat_len, mat_row hk]
          refine bT (dT (by omega)) (gX (by omega) (gK hk (bB (v := false) ?_ (gI (by omega) rfl))))
          rw [m_law45_BoundsTriangle_1_eq, rw_len]
          exact congrArg some (nF (eT e.symm))
        · rw [m_slices_IndexFunc_4_L1_eq]
          simp only [mat_len]
          exact bF (dF (by omega)) rfl
      · refine loop_to' (n := l.length) (fun k => (k : Int)) (by omega) (fun k hk => ?_) ?_
        · rw [m_law45_BoundsTriangle_L1_eq]
          simp only [toN, nb_get]
          have he := hok _ (nb_mem hk)
          have i0 := he.i0; have i1 := he.i1; have j0 := he.j0; have j1 := he.j1
          have hi : (nb l k).1.toNat < m := by omega
          have hj : (nb l k).2.1.toNat < m := by omega
          simp only [mat_len, mat_row hi, rw_len, rw_get hj]
          have ht : f (nb l k).1.toNat (nb l k).2.1.toNat ≤ (nb l k).2.2 := by rw [hf]; exact ti_edge (nb_mem hk)
          exact bT (dT (by omega)) (gX (by omega) (gK hk (gX (by omega) (gK hi (gX (by omega) (gK hj (bF (dF (by omega)) (gI (by omega) rfl))))))))
        · rw [m_law45_BoundsTriangle_L1_eq]
          exact bF (dF (by omega)) rfl
      · rw [e]
        refine loop_to' (n := m) (fun k => (k : Int)) (by omega) (fun k hk => ?_) ?_
        · rw [m_law45_BoundsTriangle_L2_eq]
          rw [← e, ea, eb]
          simp only [toN, mat_len, mat_row ha, mat_row hk, rw_len, rw_get hk, rw_get hb]
          have b1 := bd ha hk
          have b2 := bd hk hb
          unfold inf at b1 b2
          refine bT (dT (by omega)) (bB (v := false) ?_ (gI (by omega) rfl))
          by_cases x1 : f a k = inf
          · exact bF (nF (eT x1)) (gX (by omega) (gK ha (gX (by omega) (gK hk rfl))))
          · refine bT (nT (eF x1)) ?_
            by_cases x2 : f k b = inf
            · exact bF (nF (eT x2)) (gX (by omega) (gK ha (gX (by omega) (gK hk (gX (by omega) (gK hk (gX (by omega) (gK hb rfl))))))))
            · have := hC.cl a k b ha hk hb x1 x2
              refine bT (nT (eF x2)) (gX (by omega) (gK ha (gX (by omega) (gK hk ?_))))
              refine gX (by omega) (gK hk (gX (by omega) (gK hb ?_)))
              exact gX (by omega) (gK hb (gI (by omega) (congrArg some (dF (by omega)))))
        · rw [m_law45_BoundsTriangle_L2_eq]
          exact bF (dF (by omega)) rfl
      · simp only [toN, mat_len, mat_row ha, rw_len, rw_get hb]
        have b1 := bd ha hb
        unfold inf at b1
        by_cases x1 : f a b < -1073741824
        · exact bB (v := true) (bT (dT x1) (gX (by omega) (gK ha (gX (by omega) (gK hb rfl))))) rfl
        · by_cases x2 : 1073741824 < f a b
          · exact bB (v := true) (bF (dF x1) (gX (by omega) (gK ha (gX (by omega) (gK hb (congrArg some (dT x2))))))) rfl
          · refine bB (v := false) (bF (dF x1) (gX (by omega) (gK ha (gX (by omega) (gK hb (congrArg some (dF x2))))))) (bF rfl (bB (v := l) ?_ (gR (by omega) (gR (by simp) ?_))))
            · rw [m_clone_i3_eq]; exact gR (by omega) rfl
            · obtain ⟨l', hl'⟩ : ∃ l' : List Bd, l' = l ++ [((a : Int), (b : Int), f a b)] := ⟨_, rfl⟩
              rw [← hl']
              have hmem : ∀ x, x ∈ l' → x ∈ l ∨ x = ((a : Int), (b : Int), f a b) := fun x hx => by
                rw [hl', List.mem_append, List.mem_singleton] at hx; exact hx
              have hok' : LOk m l' := fun x hx => by
                rcases hmem x hx with g | rfl
                · exact hok x g
                · exact edok.2 ⟨by simp, by simp; omega, by simp, by simp; omega, by simp; omega, by simp; omega⟩
              have hv' : Vld n l' := ⟨h1, h24, by rw [hl', List.length_append]; simp; omega, by rw [← hm]; exact hok'⟩
              obtain ⟨hc', hs⟩ := ti_same hok hok' (by omega) hc (fun x hx => by rw [hl']; exact List.mem_append_left _ hx) (fun x hx => by
                rcases hmem x hx with g | rfl
                · exact ti_edge g
                · rw [← hf]; exact Int.le_refl _)
              rcases hv'.Tight with ⟨_, hT'⟩ | ⟨c, _⟩
              · rw [← hm] at hT'
                have hmat : mat m (Ti m l') = mat m f := mat_ext fun i j hi hj => by rw [hf]; exact hs i j hi hj
                rw [hmat] at hT'
                exact bB hT' (bB (bT rfl (bB (p_Same (by omega) f) rfl)) rfl)
              · rw [← hm] at c; exact absurd hc' c
    · exact bB hT rfl
  · exact bB (not_Tight (by omega) hv) rfl
theorem p_Max {a : List Int} (h1 : 1 ≤ a.length) (h2 : a.length ≤ 1000) : ∃ M, m_slices_Max std a = some M ∧ ∀ j, j < a.length → a.getD j 0 ≤ M := by
  have hi0 : ∃ i : Nat, ((a.getD 0 0, (1 : Int)) : Int × Int).2 = (i : Int) ∧ 1 ≤ i ∧ i ≤ a.length ∧ ∀ j, j < i → a.getD j 0 ≤ ((a.getD 0 0, (1 : Int)) : Int × Int).1 := by
    refine ⟨1, rfl, Nat.le_refl _, h1, fun j hj => ?_⟩
    have : j = 0 := by omega
    subst this
    exact Int.le_refl _
  have key : ∃ e, loop (m_slices_Max_L1 std a) (a.getD 0 0, 1) = some e ∧ ∀ j, j < a.length → a.getD j 0 ≤ e := by
    refine loop_is (fun y => ∃ i : Nat, y.2 = (i : Int) ∧ 1 ≤ i ∧ i ≤ a.length ∧ ∀ j, j < i → a.getD j 0 ≤ y.1) (fun y => a.length - y.2.toNat) _ hi0 (by show a.length - _ < _; omega) ?_
    rintro ⟨m, i0⟩ ⟨i, hi, h3, h4, h5⟩
    have hi : i0 = (i : Int) := hi
    have h5 : ∀ j, j < i → a.getD j 0 ≤ m := h5
    subst hi
    rw [m_slices_Max_L1_eq]
    simp only [toN]
    by_cases hlt : i < a.length
    · refine ⟨_, bT (dT (by omega)) (gX (by omega) (gK hlt (gI (by omega) rfl))), ⟨i + 1, by simp, by omega, by omega, fun j hj => ?_⟩, by show a.length - (_ : Int).toNat < a.length - _; omega⟩
      show a.getD j 0 ≤ (if a.getD i 0 > m then a.getD i 0 else m)
      by_cases e : j = i
      · subst e; split <;> omega
      · have := h5 j (by omega); split <;> omega
    · obtain rfl : i = a.length := by omega
      exact ⟨_, bF (dF (by omega)) rfl, h5⟩
  obtain ⟨e, he, h⟩ := key
  refine ⟨e, ?_, h⟩
  rw [m_slices_Max_eq]
  exact bF (dF (by omega)) (gX (by omega) (gK (by show (0:Int).toNat < a.length; omega) (bB he rfl)))
theorem pl_BoundsKeeps (i j : Int) (l : List Bd) (a : List Int) (hi0 : 0 ≤ i) (hi1 : i ≤ 255) (hj0 : 0 ≤ j) (hj1 : j ≤ 255) : m_law45_BoundsKeeps std i j l a = some true := by
  rw [m_law45_BoundsKeeps_eq, p_awake]
  by_cases hlong : (170 : Int) < ((l.length : Nat) : Int)
  · rw [decide_eq_true hlong]; rfl
  rw [decide_eq_false hlong]
  by_cases hlong2 : (40 : Int) < ((a.length : Nat) : Int)
  · rw [decide_eq_true hlong2]; rfl
  rw [decide_eq_false hlong2]
  refine bB rfl (bF rfl ?_)
  rcases p_Holds (l := l) (a := a) (by omega) (by omega) with ⟨hH, h1⟩ | ⟨hH, h1⟩
  · have h2 := hH.ref (by omega)
    refine bB h1 (bB h2 (bF rfl (bB h1 (bF rfl ?_))))
    have hv := hH.v
    have n1 := hv.n1
    have n24 := hv.n24
    have hok : LOk a.length l := by have := hv.ok; rw [toN] at this; exact this
    obtain ⟨x, ex, hx⟩ := tmod_ix hi0 n1
    obtain ⟨y, ey, hy⟩ := tmod_ix hj0 n1
    rw [toN] at hx hy
    rw [ex, ey]
    obtain ⟨p, hp⟩ : ∃ p : Nat → Int, p = fun k => a.getD k 0 := ⟨_, rfl⟩
    have hpk : ∀ k, a.getD k 0 = p k := fun k => by rw [hp]
    have hpe : ∀ e, e ∈ l → p e.2.1.toNat ≤ p e.1.toNat + e.2.2 := fun e he => by have := hH.ok e he; rw [hpk, hpk] at this; omega
    have hc : Cons a.length (M0 l) := cons_pot hok hpe
    have hc' : Cons ((a.length : Nat) : Int).toNat (M0 l) := by rw [toN]; exact hc
    have hT : m_bounds_Consistent std ((a.length : Nat) : Int) l = some (true, 0) := by
      rw [m_bounds_Consistent_eq]
      rcases hv.tight with ⟨_, g, _⟩ | ⟨c, _⟩
      · exact bB hv.valid (bF rfl (bB g rfl))
      · exact absurd hc' c
    have ho : outB ((a.length : Nat) : Int) (x : Int) (y : Int) = false := dF (by omega)
    have hB : m_bounds_Between std ((a.length : Nat) : Int) (x : Int) (y : Int) l = some (-(Ti a.length l y x), Ti a.length l x y, 0) := by
      rcases p_Between hv (x : Int) (y : Int) with ⟨_, g⟩ | ⟨c, _⟩
      · rw [ho, toN, toN, toN] at g
        exact g
      · exact absurd hc' c
    have lo : ∀ {u v : Nat}, u < a.length → v < a.length → Ti a.length l u v ≠ inf → p v - p u ≤ Ti a.length l u v := fun hu hv hf =>
      ti_max hok (pot_cl _ p) (fun i _ => by show p i - p i ≤ 0; omega) (fun e he => by show p _ - p _ ≤ _; have := hpe e he; omega) hu hv hf
    have bd : ∀ {u}, u < a.length → -4398046511104 ≤ p u ∧ p u ≤ 4398046511104 := fun hu => by have := hH.bd _ hu; rw [hpk] at this; exact this
    have bx := bd hx
    have byy := bd hy
    refine bB hT (gI (by omega) (gZ (by omega) (gI (by omega) (bB hB (bB (v := false) rfl (bF rfl ?_))))))
    simp only [toN, hpk]
    refine gX (by omega) (gK hy (gX (by omega) (gK hx (gI (by omega) (bB (v := false) ?_ (bF rfl ?_))))))
    · have q2 : (bif (!(Ti a.length l x y == 4398046511104)) then (some (decide (Ti a.length l x y < p y - p x))) else (some false) : Option Bool) = some false := by
        by_cases hf : Ti a.length l x y = inf
        · exact bF (nF (eT hf)) rfl
        · have := lo hx hy hf
          exact bT (nT (eF hf)) (congrArg some (dF (by omega)))
      by_cases hf : Ti a.length l y x = inf
      · exact bF (nF (eT (by rw [hf]; rfl))) q2
      · have := lo hy hx hf
        have hne : -(Ti a.length l y x) ≠ -4398046511104 := fun h => hf (by unfold inf; omega)
        exact bT (nT (eF hne)) (bF (dF (by omega)) q2)
    · have z0 : (0 : Int).toNat = 0 := rfl
      rw [z0]
      refine gX (by omega) (gK (by omega) ?_)
      by_cases hp0 : p 0 = 0
      · refine bF (nF (eT hp0)) ?_
        have hE : ∃ r, m_bounds_Earliest std ((a.length : Nat) : Int) l = some r ∧ ((r.2 == 0) = false ∨ ((r.2 == 0) = true ∧ r.1 = rw' a.length (fun j => -(Ti a.length l j 0)) ∧ ∀ j, j < a.length → Ti a.length l j 0 ≠ inf)) := by
          rcases p_Earliest hv with ⟨c, _⟩ | ⟨_, _, g⟩ | ⟨_, g1, g⟩
          · exact absurd hc' c
          · exact ⟨_, g, .inl rfl⟩
          · rw [toN] at g g1
            exact ⟨_, g, .inr ⟨rfl, rfl, g1⟩⟩
        obtain ⟨⟨r1, r2⟩, hE, hr⟩ := hE
        obtain ⟨M, hM, hmx⟩ := p_Max (a := a) (by omega) (by omega)
        refine bB hE (bB (v := .inr ()) ?_ (bB hM ?_))
        · rcases hr with hr | ⟨hr, hr1, hr2⟩
          · exact bF hr rfl
          · have hr1 : r1 = rw' a.length (fun j => -(Ti a.length l j 0)) := hr1
            refine bT hr (bB (v := .inr ()) ?_ rfl)
            rw [hr1]
            refine loop_to' (n := a.length) (fun k => (k : Int)) (by omega) (fun k hk => ?_) ?_
            · rw [m_law45_BoundsKeeps_L1_eq]
              simp only [toN, rw_len, rw_get hk, hpk]
              have := lo hk (show 0 < a.length by omega) (hr2 k hk)
              exact bT (dT (by omega)) (gX (by omega) (gK hk (bB (v := false) (bF (dF (by omega)) (gX (by omega) (gK hk (congrArg some (dF (by omega)))))) (gI (by omega) rfl))))
            · rw [m_law45_BoundsKeeps_L1_eq]
              simp only [rw_len]
              exact bF (dF (by omega)) rfl
        · rcases p_Latest hv M with ⟨ho2, hL⟩ | ⟨hz, ho2, c, _⟩ | ⟨hz, ho2, hc2, hL⟩
          · refine bB hL (bB (off_or M) ?_)
            rw [ho2]; rfl
          · exfalso
            rw [toN] at c
            refine c (cons_pot (endL_ok hok (by omega) hz) (p := p) fun e he => ?_)
            rcases endL_mem.1 he with g | ⟨k, hk, rfl⟩
            · exact hpe e g
            · have := hmx k hk
              rw [hpk] at this
              simp
              omega
          · rw [toN] at hL hc2
            have hpe2 : ∀ e, e ∈ endL a.length l M a.length → p e.2.1.toNat ≤ p e.1.toNat + e.2.2 := fun e he => by
              rcases endL_mem.1 he with g | ⟨k, hk, rfl⟩
              · exact hpe e g
              · have := hmx k hk
                rw [hpk] at this
                simp
                omega
            refine bB hL (bB (off_or M) ?_)
            rw [ho2]
            refine bF rfl (bB (v := false) (bF rfl (congrArg some (nF (eT (by rw [rw_len]))))) (bF rfl (bB (v := .inr ()) ?_ rfl)))
            refine loop_to' (n := a.length) (fun k => (k : Int)) (by omega) (fun k hk => ?_) ?_
            · rw [m_law45_BoundsKeeps_L2_eq]
              simp only [toN, rw_len, rw_get hk, hpk]
              have hup : Ti a.length (endL a.length l M a.length) 0 k ≤ M := by
                have := ti_edge (n := a.length) (endL_mem (n := a.length) (l := l) (z := M) (k := a.length).2 (.inr ⟨k, hk, rfl⟩))
                simpa using this
              have : p k - p 0 ≤ Ti a.length (endL a.length l M a.length) 0 k :=
                ti_max (endL_ok hok (by omega) hz) (pot_cl _ p) (fun i _ => by show p i - p i ≤ 0; omega) (fun e he => by show p _ - p _ ≤ _; have := hpe2 e he; omega) (by omega) hk (by unfold inf; omega)
              exact bT (dT (by omega)) (gX (by omega) (gK hk (gX (by omega) (gK hk (bF (dF (by omega)) (gI (by omega) rfl))))))
            · rw [m_law45_BoundsKeeps_L2_eq]
              simp only [rw_len]
              exact bF (dF (by omega)) rfl
      · exact bT (nT (eF hp0)) rfl
  · rcases p_refHolds (l := l) (a := a) (by omega) (by omega) with ⟨g, _⟩ | ⟨_, h2⟩
    · exact absurd g hH
    · exact bB h1 (bB h2 (bF rfl (bB h1 rfl)))
theorem rw_up {n : Nat} {g : Nat → Int} {j : Nat} (x : Int) : (rw' n g).set j x = rw' n (up g j x) := by
  rw [rw_set]; exact rw_ext fun b _ => rfl
theorem nb_ok {n : Nat} {l : List Bd} (h : LOk n l) {k : Nat} (hk : k < l.length) : (nb l k).1.toNat < n ∧ (nb l k).2.1.toNat < n ∧ 0 ≤ (nb l k).1 ∧ (nb l k).1 < (n : Int) ∧ 0 ≤ (nb l k).2.1 ∧ (nb l k).2.1 < (n : Int) ∧ -1073741824 ≤ (nb l k).2.2 ∧ (nb l k).2.2 ≤ 1073741824 := by
  have he := h _ (nb_mem hk)
  have i0 := he.i0; have i1 := he.i1; have j0 := he.j0; have j1 := he.j1; have w0 := he.w0; have w1 := he.w1
  unfold C at w0 w1
  omega
theorem cyc_L1 {n : Nat} {l : List Bd} (hl : LOk n l) (hlen : l.length ≤ 200) {t : Nat} (ht : 1 ≤ t) {d b : Nat → Int} {T r : Nat → Nat} {c s : Nat} (hs : s ≤ 5000) (h : BI n l t 0 d b (-1) T r c s) :
    ∃ d' b' last T' r' c' s', loop (m_bounds_cycle_L1 std l) (-1, 0, rw' n d, rw' n b) = some (last, rw' n d', rw' n b') ∧ BI n l t l.length d' b' last T' r' c' s' ∧ s' ≤ s + l.length := by
  have key : ∃ e, loop (m_bounds_cycle_L1 std l) (-1, 0, rw' n d, rw' n b) = some e ∧ ∃ d' b' last T' r' c' s', e = (last, rw' n d', rw' n b') ∧ BI n l t l.length d' b' last T' r' c' s' ∧ s' ≤ s + l.length := by
    refine loop_is (fun y => ∃ (q : Nat) (d' b' : Nat → Int) (last : Int) (T' r' : Nat → Nat) (c' s' : Nat), y = (last, (q : Int), rw' n d', rw' n b') ∧ q ≤ l.length ∧ BI n l t q d' b' last T' r' c' s' ∧ s' ≤ s + q) (fun y => l.length - y.2.1.toNat) _ ⟨0, d, b, -1, T, r, c, s, rfl, Nat.zero_le _, h, Nat.le_refl _⟩ (by show l.length - _ < _; omega) ?_
    rintro _ ⟨q, d', b', last, T', r', c', s', rfl, hq, hB, hs'⟩
    rw [m_bounds_cycle_L1_eq]
    by_cases hlt : q < l.length
    · obtain ⟨hi, hj, i0, i1, j0, j1, w0, w1⟩ := nb_ok hl hlt
      simp only [toN, nb_get, rw_len, rw_get hi, rw_get hj]
      have b1 := hB.lb _ hi
      unfold C at b1
      have hm : l.length - Int.toNat ((q : Int) + 1) < l.length - q := by omega
      by_cases hd : d' (nb l q).1.toNat + (nb l q).2.2 < d' (nb l q).2.1.toNat
      · refine ⟨_, bT (dT (by omega)) (gX (by omega) (gK hlt (gX (by omega) (gK hi (gI (by omega) (gX (by omega) (gK hj (bB (bT (dT hd) (gX (by omega) (gK hj rfl))) (gI (by omega) rfl))))))))), ⟨q + 1, _, _, _, _, _, _, _, ?_, by omega, hB.upd hl ht hlt hd, by omega⟩, hm⟩
        rw [rw_up, rw_up]
        rfl
      · refine ⟨_, bT (dT (by omega)) (gX (by omega) (gK hlt (gX (by omega) (gK hi (gI (by omega) (gX (by omega) (gK hj (bB (bF (dF hd) rfl) (gI (by omega) rfl))))))))), ⟨q + 1, d', b', last, T', r', c', s', rfl, by omega, hB.skip (by omega), by omega⟩, hm⟩
    · obtain rfl : q = l.length := by omega
      exact ⟨_, bF (dF (by omega)) rfl, d', b', last, T', r', c', s', rfl, hB, hs'⟩
  obtain ⟨e, h1, d', b', last, T', r', c', s', rfl, h2, h3⟩ := key
  exact ⟨d', b', last, T', r', c', s', h1, h2, h3⟩
theorem cyc_L2 {n : Nat} {l : List Bd} (hl : LOk n l) (hlen : l.length ≤ 200) (hn1 : 1 ≤ n) (hn : n ≤ 24) :
    ∃ e, loop (m_bounds_cycle_L2 std l (n : Int)) (-1, 0, rw' n (fun _ => 0), rw' n (fun _ => -1)) = some e ∧ ((e.1 < 0 ∧ Cons n (M0 l)) ∨ ∃ d b last T r c s, e = (last, rw' n b) ∧ 0 ≤ last ∧ last < (n : Int) ∧ BI n l n l.length d b last T r c s) := by
  refine loop_is (fun y => ∃ (i : Nat) (d b : Nat → Int) (last : Int) (T r : Nat → Nat) (c s : Nat), y = (last, (i : Int), rw' n d, rw' n b) ∧ i ≤ n ∧ BI n l (i + 1) 0 d b (-1) T r c s ∧ (1 ≤ i → 0 ≤ last ∧ last < (n : Int) ∧ BI n l i l.length d b last T r c s) ∧ s ≤ 200 * i) (fun y => n - y.2.1.toNat) _ ⟨0, _, _, -1, _, _, _, _, rfl, Nat.zero_le _, BI.init l, fun h => by omega, Nat.le_refl _⟩ (by show n - _ < _; omega) ?_
  rintro _ ⟨i, d, b, last, T, r, c, s, rfl, hi, hB, hI, hs⟩
  rw [m_bounds_cycle_L2_eq]
  by_cases hlt : i < n
  · obtain ⟨d', b', last', T', r', c', s', h1, h2, h3⟩ := cyc_L1 hl hlen (t := i + 1) (by omega) (s := s) (by omega) hB
    by_cases hneg : last' < 0
    · have e : last' = -1 := by rcases h2.lst1 with g | g <;> omega
      refine ⟨_, bT (dT (by omega)) (bB h1 (bT (dT hneg) rfl)), .inl ⟨hneg, ?_⟩⟩
      rw [e] at h2
      exact h2.pot hl
    · have g := h2.lst1
      refine ⟨_, bT (dT (by omega)) (bB h1 (bF (dF hneg) (gI (by omega) rfl))), ⟨i + 1, d', b', last', T', r', c', s', by simp, by omega, h2.next, fun _ => ⟨by omega, by omega, h2⟩, by omega⟩, ?_⟩
      show n - Int.toNat ((i : Int) + 1) < n - Int.toNat (i : Int)
      omega
  · obtain rfl : i = n := by omega
    obtain ⟨g1, g2, g3⟩ := hI hn1
    exact ⟨_, bF (dF (by omega)) rfl, .inr ⟨d, b, last, T, r, c, s, rfl, g1, g2, g3⟩⟩
theorem cyc_L3 {n : Nat} {l : List Bd} (hl : LOk n l) (hn : n ≤ 24) {b : Nat → Int} {x : Nat} (h1 : ∀ s, s ≤ n → it l b x s < n) (h2 : ∀ s, s < n → 0 ≤ b (it l b x s) ∧ b (it l b x s) < (l.length : Int)) :
    loop (m_bounds_cycle_L3 std (rw' n b) l (n : Int)) ((x : Int), 0) = some (it l b x n : Int) := by
  refine loop_to' (n := n) (fun s => ((it l b x s : Int), (s : Int))) (by omega) (fun s hs => ?_) ?_
  · rw [m_bounds_cycle_L3_eq]
    have a1 := h1 s (by omega)
    have a2 := h2 s hs
    simp only [toN, nb_get, rw_len, rw_get a1]
    refine bT (dT (by omega)) (gX (by omega) (gK a1 (gX (by omega) (gK (by omega) (gI (by omega) ?_)))))
    have he := nb_ok hl (k := (b (it l b x s)).toNat) (by omega)
    have : (nb l (b (it l b x s)).toNat).1 = (it l b x (s + 1) : Int) := by
      show _ = ((nb l (b (it l b x s)).toNat).1.toNat : Int)
      omega
    rw [this]; rfl
  · rw [m_bounds_cycle_L3_eq]
    exact bF (dF (by omega)) rfl
theorem ring_next {n : Nat} {l : List Bd} (hl : LOk n l) {b : Nat → Int} {y p : Nat} (h : Ring n l b y p) (s : Nat) : (nb l (b (it l b y s)).toNat).1 = (it l b y (s + 1) : Int) := by
  have a := h.ok s
  have he := nb_ok hl (k := (b (it l b y s)).toNat) (by omega)
  show _ = ((nb l (b (it l b y s)).toNat).1.toNat : Int)
  omega
theorem cyc_L4 {n : Nat} {l : List Bd} (hl : LOk n l) (hn : n ≤ 24) {b : Nat → Int} {y p : Nat} (h : Ring n l b y p) :
    loop (m_bounds_cycle_L4 std (rw' n b) l (y : Int)) ((y : Int), []) = some (rw' p fun s => b (it l b y s)) := by
  have h0 : ((y : Int), ([] : List Int)) = ((it l b y 0 : Int), rw' 0 fun s => b (it l b y s)) := rfl
  have hp := h.p0
  have hpn := h.pn
  rw [h0]
  have app : ∀ s, (rw' s fun s => b (it l b y s)) ++ [b (it l b y s)] = rw' (s + 1) fun s => b (it l b y s) := fun s => by
    unfold rw'; rw [List.range_succ, List.map_append]; rfl
  refine loop_to' (n := p - 1) (fun s => ((it l b y s : Int), rw' s fun s => b (it l b y s))) (by omega) (fun s hs => ?_) ?_
  · rw [m_bounds_cycle_L4_eq]
    have a1 := h.lt s
    have a2 := h.ok s
    simp only [toN, nb_get, rw_len, rw_get a1, ring_next hl h s]
    have hne := h.first (s + 1) (by omega) (by omega)
    refine gX (by omega) (gK a1 (gR (by omega) (gR (by simp) (gX (by omega) (gK (by omega) (bF (eF (by omega)) ?_))))))
    rw [app]
  · rw [m_bounds_cycle_L4_eq]
    have a1 := h.lt (p - 1)
    have a2 := h.ok (p - 1)
    have hb : it l b y (p - 1 + 1) = y := by rw [show p - 1 + 1 = p by omega]; exact h.back
    simp only [toN, nb_get, rw_len, rw_get a1, ring_next hl h (p - 1), hb]
    refine gX (by omega) (gK a1 (gR (by omega) (gR (by simp) (gX (by omega) (gK (by omega) (bT (eT rfl) ?_))))))
    rw [app, show p - 1 + 1 = p by omega]
theorem cyc_L5 {p : Nat} (hp : 1 ≤ p) (hp2 : p ≤ 1000) (g : Nat → Int) : loop (m_bounds_cycle_L5 std) (0, (p : Int) - 1, rw' p g) = some (rw' p fun k => g (p - 1 - k)) := by
  have key : ∃ e, loop (m_bounds_cycle_L5 std) (0, (p : Int) - 1, rw' p g) = some e ∧ e = rw' p fun k => g (p - 1 - k) := by
    refine loop_is (fun y => ∃ i : Nat, y = ((i : Int), (p : Int) - 1 - (i : Int), rw' p fun k => if k < i ∨ p ≤ k + i then g (p - 1 - k) else g k) ∧ 2 * i ≤ p) (fun y => p - y.1.toNat) _ ⟨0, ?_, by omega⟩ (by show p - _ < _; omega) ?_
    · refine Prod.ext rfl (Prod.ext (by simp) (rw_ext fun k hk => ?_))
      rw [if_neg (by omega)]
    · rintro _ ⟨i, rfl, hi⟩
      rw [m_bounds_cycle_L5_eq]
      by_cases hlt : (i : Int) < (p : Int) - 1 - (i : Int)
      · obtain ⟨j, hj⟩ : ∃ j : Nat, (p : Int) - 1 - (i : Int) = (j : Int) := ⟨(p : Int).toNat - 1 - i, by omega⟩
        have hji : j = p - 1 - i := by omega
        have hjp : j < p := by omega
        have hip : i < p := by omega
        rw [hj]
        rw [hj] at hlt
        simp only [toN, rw_len, List.length_set, rw_get hjp, rw_get hip]
        refine ⟨_, bT (dT hlt) (gX (by omega) (gK hjp (gX (by omega) (gK hip (gX (by omega) (gK hjp (gI (by omega) (gI (by omega) rfl)))))))), ⟨i + 1, ?_, by omega⟩, ?_⟩
        · refine Prod.ext (by simp) (Prod.ext (by simp; omega) ?_)
          show ((rw' p _).set i _).set j _ = _
          rw [rw_set, rw_set]
          refine rw_ext fun k hk => ?_
          show (if k = j then _ else if k = i then _ else _) = _
          by_cases e1 : k = j
          · rw [if_pos e1, if_neg (by omega), if_pos (by omega)]
            congr 1; omega
          · rw [if_neg e1]
            by_cases e2 : k = i
            · rw [if_pos e2, if_neg (by omega), if_pos (by omega)]
              congr 1; omega
            · rw [if_neg e2]
              by_cases e3 : k < i ∨ p ≤ k + i
              · rw [if_pos e3, if_pos (by omega)]
              · rw [if_neg e3, if_neg (by omega)]
        · show p - Int.toNat ((i : Int) + 1) < p - Int.toNat (i : Int)
          omega
      · refine ⟨_, bF (dF hlt) rfl, rw_ext fun k hk => ?_⟩
        by_cases e3 : k < i ∨ p ≤ k + i
        · rw [if_pos e3]
        · rw [if_neg e3]
          congr 1; omega
  obtain ⟨e, h1, rfl⟩ := key
  exact h1
/-- the indices of the cycle's bounds -/
def cyI (l : List Bd) (b : Nat → Int) (y p k : Nat) : Int := b (it l b y (p - 1 - k))
theorem p_Cycle {n : Int} {l : List Bd} (h : Vld n l) : (Cons n.toNat (M0 l) ∧ m_bounds_Cycle std n l = some ([], 7)) ∨
    (¬ Cons n.toNat (M0 l) ∧ ∃ b y p, Ring n.toNat l b y p ∧ m_bounds_Cycle std n l = some (rw' p (cyI l b y p), 0)) := by
  have e := h.nat
  have n1 := h.n1
  have n24 := h.n24
  have hlen := h.len
  have hok := h.ok
  obtain ⟨m, hm⟩ : ∃ m, m = n.toNat := ⟨_, rfl⟩
  rw [← hm] at e hok ⊢
  have hrep : m_rep_i1 std n [-1] = some (rw' m fun _ => -1) := by rw [e]; exact p_rep m (by omega) (-1)
  have h0 : List.replicate n.toNat (0 : Int) = rw' m (fun _ => 0) := by rw [← hm]; exact rep0 m
  obtain ⟨r, hL2, hr⟩ := cyc_L2 hok hlen (show 1 ≤ m by omega) (by omega)
  rw [← e] at hL2
  have hd : ∀ R, (bif (decide (r.1 < 0)) then (some (Sum.inl ())) else Option.bind (loop (m_bounds_cycle_L3 std r.2 l n) (r.1, 0)) fun last20 =>
      Option.bind (loop (m_bounds_cycle_L4 std r.2 l last20) (last20, ([] : List Int))) fun l39 =>
      grd (okI .i64 ((((List.length l39) : Nat) : Int) - 1)) <| Option.bind (loop (m_bounds_cycle_L5 std) (0, ((((List.length l39) : Nat) : Int) - 1), l39)) fun l41 => (some (Sum.inr l41)) : Option (Unit ⊕ List Int)) = R → m_bounds_cycle std n l = R := fun R hR => by
    rw [m_bounds_cycle_eq, h0]
    exact gG (by omega) (gR (by omega) (bB hrep (bB hL2 hR)))
  rcases hr with ⟨hneg, hc⟩ | ⟨d, b, last, T, rr, c, s, rfl, l0, l1, hB⟩
  · left
    refine ⟨hc, ?_⟩
    rw [m_bounds_Cycle_eq]
    exact bB h.valid (bF rfl (bB (bB (hd _ (bT (dT hneg) rfl)) rfl) rfl))
  · right
    obtain ⟨g1, g2, p, hR⟩ := hB.ring hok (by omega)
    obtain ⟨y, hy⟩ : ∃ y, y = it l b last.toNat m := ⟨_, rfl⟩
    rw [← hy] at hR
    have hp := hR.p0
    have hpn := hR.pn
    have h3 := cyc_L3 hok (by omega) g1 g2
    rw [← hy, ← e, Int.toNat_of_nonneg l0] at h3
    have h4 := cyc_L4 hok (by omega) hR
    have h5 := cyc_L5 (p := p) (by omega) (by omega) (fun s => b (it l b y s))
    refine ⟨hR.incons hok (by omega) fun s _ => nb_mem (by have := hR.ok s; omega), b, y, p, hR, ?_⟩
    have hcy : m_bounds_cycle std n l = some (.inr (rw' p (cyI l b y p))) := hd _ (bF (dF (by show ¬ last < 0; omega)) (bB h3 (bB h4 (gI (by rw [rw_len]; omega) (bB (by rw [rw_len]; exact h5) rfl)))))
    rw [m_bounds_Cycle_eq]
    exact bB h.valid (bF rfl (bB (bB hcy rfl) (gZ (by rw [rw_len]; omega) rfl)))
/-- bools as a list -/
def rb (n : Nat) (g : Nat → Bool) : List Bool := (List.range n).map g
theorem rb_len (n : Nat) (g : Nat → Bool) : (rb n g).length = n := by simp [rb]
theorem rb_get {n : Nat} {g : Nat → Bool} {j : Nat} (h : j < n) : (rb n g).getD j false = g j := by simp [rb, List.getD_eq_getElem?_getD, h]
theorem rb_ext {n : Nat} {g h : Nat → Bool} (e : ∀ j, j < n → g j = h j) : rb n g = rb n h := by
  unfold rb
  exact List.map_congr_left fun j hj => e j (List.mem_range.1 hj)
theorem rb_set {n : Nat} {g : Nat → Bool} {j : Nat} (x : Bool) : (rb n g).set j x = rb n (fun b => if b = j then x else g b) := by
  refine List.ext_getElem? fun b => ?_
  rw [List.getElem?_set]
  simp only [rb, List.length_map, List.length_range, List.getElem?_map]
  by_cases hb : b < n
  · simp only [List.getElem?_range hb, Option.map_some]
    by_cases e : j = b
    · subst e; simp [hb]
    · simp [e, Ne.symm e]
  · have : (List.range n)[b]? = none := by simp; omega
    simp only [this, Option.map_none]
    split
    · rename_i e; subst e; simp [hb]
    · rfl
theorem rb_rep (n : Nat) : List.replicate n false = rb n (fun _ => false) := by
  refine List.ext_getElem? fun b => ?_
  simp only [rb, List.getElem?_map, List.getElem?_replicate]
  by_cases hb : b < n
  · simp [hb]
  · simp [hb]
theorem sm_shift (V : Nat → Int) : ∀ q, sm V (q + 1) = V 0 + sm (fun s => V (s + 1)) q := by
  intro q
  induction q with
  | zero => simp [sm]
  | succ q ih => show sm V (q + 1) + V (q + 1) = V 0 + (sm (fun s => V (s + 1)) q + V (q + 1)); rw [ih]; omega
theorem sm_rev : ∀ (q : Nat) (W : Nat → Int), sm (fun s => W (q - 1 - s)) q = sm W q := by
  intro q
  induction q with
  | zero => intro W; rfl
  | succ q ih =>
    intro W
    rw [sm_shift W q]
    show sm (fun s => W (q + 1 - 1 - s)) q + W (q + 1 - 1 - q) = _
    have := ih (fun s => W (s + 1))
    rw [show q + 1 - 1 - q = 0 by omega, ← this]
    have e : sm (fun s => W (q + 1 - 1 - s)) q = sm (fun s => W (q - 1 - s + 1)) q := sm_ext q fun s hs => by
      show W _ = W _
      congr 1; omega
    rw [e]; omega
/-- the cycle in its order: where its bounds begin and end -/
theorem cy_ok {n : Nat} {l : List Bd} (hl : LOk n l) {b : Nat → Int} {y p : Nat} (h : Ring n l b y p) {k : Nat} (hk : k < p) :
    0 ≤ cyI l b y p k ∧ cyI l b y p k < (l.length : Int) ∧ (nb l (cyI l b y p k).toNat).1 = (it l b y (p - k) : Int) ∧ (nb l (cyI l b y p k).toNat).2.1 = (it l b y (p - 1 - k) : Int) := by
  have a := h.ok (p - 1 - k)
  refine ⟨a.1, a.2.1, ?_, a.2.2⟩
  have := ring_next hl h (p - 1 - k)
  rw [show p - 1 - k + 1 = p - k by omega] at this
  exact this
theorem cy_diff {n : Nat} {l : List Bd} {b : Nat → Int} {y p : Nat} (h : Ring n l b y p) {i j : Nat} (hij : i < j) (hj : j < p) : it l b y (p - i) ≠ it l b y (p - j) := by
  by_cases hi : i = 0
  · subst hi
    rw [Nat.sub_zero, h.back]
    exact fun e => h.first (p - j) (by omega) (by omega) e.symm
  · exact fun e => h.diff (i := p - j) (j := p - i) (by omega) (by omega) e.symm
theorem pl_BoundsCycles (n : Int) (l : List Bd) (_ : -9223372036854775808 ≤ n) (_ : n ≤ 9223372036854775807) : m_law45_BoundsCycles std n l = some true := by
  rw [m_law45_BoundsCycles_eq, p_awake, p_long]
  by_cases hlong : (300 : Int) < ((l.length : Nat) : Int)
  · rw [decide_eq_true hlong]; rfl
  rw [decide_eq_false hlong]
  rcases p_refValid (n := n) (l := l) (by omega) with ⟨hv, hV⟩ | ⟨hv, hV⟩
  · refine bB (v := false) (bB rfl (bF rfl (bB rfl (bF rfl (bB hV rfl))))) (bF rfl ?_)
    have e := hv.nat
    have n1 := hv.n1
    have n24 := hv.n24
    have hlen := hv.len
    have hok := hv.ok
    have hRC : (Cons n.toNat (M0 l) ∧ m_ref45_Consistent std n l = some true) ∨ (¬ Cons n.toNat (M0 l) ∧ m_ref45_Consistent std n l = some false) := by
      have := p_refCons hok (by omega) (show 1 ≤ n.toNat by omega) (by omega)
      rw [← e] at this
      exact this
    rcases p_Cycle hv with ⟨hc, hC⟩ | ⟨hc, b, y, p, hR, hC⟩ <;> rcases hRC with ⟨hc', hr⟩ | ⟨hc', hr⟩
    · exact bB hC (bB hr rfl)
    · exact absurd hc hc'
    · exact absurd hc' hc
    · obtain ⟨m, hm⟩ : ∃ m, m = n.toNat := ⟨_, rfl⟩
      rw [← hm] at e hok hR
      have hp := hR.p0
      have hpn := hR.pn
      refine bB hC (bB hr (bF rfl (bB (v := false) (bF rfl (bF (eF (by rw [rw_len]; omega)) (congrArg some (dF (by rw [rw_len]; omega))))) (bF rfl (gG (by omega) (gR (by omega) ?_))))))
      rw [← hm, rb_rep]
      obtain ⟨W, hW⟩ : ∃ W : Nat → Int, W = fun k => (nb l (cyI l b y p k).toNat).2.2 := ⟨_, rfl⟩
      have hWb : ∀ k, k < p → -1073741824 ≤ W k ∧ W k ≤ 1073741824 := fun k hk => by
        obtain ⟨a1, a2, _⟩ := cy_ok hok hR hk
        have := nb_ok hok (k := (cyI l b y p k).toNat) (by omega)
        rw [hW]
        exact ⟨this.2.2.2.2.2.2.1, this.2.2.2.2.2.2.2⟩
      have hsb : ∀ k, k ≤ p → -(1073741824 * (k : Int)) ≤ sm W k ∧ sm W k ≤ 1073741824 * (k : Int) := by
        intro k
        induction k with
        | zero => intro _; simp [sm]
        | succ k ih =>
          intro hk
          have h1 := ih (by omega)
          have h2 := hWb k (by omega)
          unfold sm
          push_cast
          omega
      have hneg : sm W p < 0 := by
        have e1 : sm W p = sm (fun s => (nb l (b (it l b y s)).toNat).2.2) p := by
          rw [hW]
          exact sm_rev p (fun s => (nb l (b (it l b y s)).toNat).2.2)
        rw [e1]
        exact hR.neg
      have key : loop (m_law45_BoundsCycles_L1 std (rw' p (cyI l b y p)) l) (0, 0, rb m fun _ => false) = some (.inr (sm W p)) := by
        have h0 : ((0 : Int), (0 : Int), rb m fun _ => false) = (sm W 0, ((0 : Nat) : Int), rb m fun v => (List.range 0).any fun j => it l b y (p - j) == v) := by
          exact Prod.ext rfl (Prod.ext rfl (rb_ext fun v _ => rfl))
        rw [h0]
        refine loop_to' (n := p) (fun k => (sm W k, (k : Int), rb m fun v => (List.range k).any fun j => it l b y (p - j) == v)) (by omega) (fun k hk => ?_) ?_
        · rw [m_law45_BoundsCycles_L1_eq]
          -- the next one
          obtain ⟨k', hk', hkp, hJ⟩ : ∃ k' : Nat, Int.tmod ((k : Int) + 1) (p : Int) = (k' : Int) ∧ k' < p ∧ it l b y (p - k') = it l b y (p - 1 - k) := by
            by_cases hl : k + 1 < p
            · refine ⟨k + 1, ?_, hl, by congr 1; omega⟩
              rw [Int.tmod_eq_emod_of_nonneg (by omega), Int.emod_eq_of_lt (by omega) (by omega)]; simp
            · refine ⟨0, ?_, hp, ?_⟩
              · have : (k : Int) + 1 = (p : Int) := by omega
                rw [this, Int.tmod_self]; rfl
              · rw [Nat.sub_zero, hR.back, show p - 1 - k = 0 by omega]; rfl
          obtain ⟨a1, a2, a3, a4⟩ := cy_ok hok hR hk
          obtain ⟨c1, c2, c3, c4⟩ := cy_ok hok hR hkp
          have hv := hR.lt (p - k)
          have hs := hsb k (by omega)
          have hw := hWb k hk
          have hsx : ((List.range k).any fun j => it l b y (p - j) == it l b y (p - k)) = false :=
            any_f.2 fun j hj => by simpa using cy_diff hR hj hk
          simp only [rw_len, hk']
          simp only [toN, nb_get, rw_get hk, rw_get hkp, a3, a4, c3, rb_len, rb_get hv]
          refine bT (dT (by omega)) (gX (by omega) (gK hk (gI (by omega) (gZ (by omega) (gX (by omega) (gK hkp (bB (v := false) ?_ (bF rfl ?_))))))))
          · refine bF (dF (by omega)) (bF (dF (by omega)) (bF (dF (by omega)) (bF (dF (by omega)) (bF (nF (eT (by rw [hJ]))) ?_))))
            refine gX (by omega) (gK (by omega) (gX (by omega) (gK (by omega) (gX (by omega) (gK hv ?_)))))
            rw [hsx]
          · refine gX (by omega) (gK (by omega) (gX (by omega) (gK hv (gI ?_ ?_))))
            · have : (nb l (cyI l b y p k).toNat).2.2 = W k := by rw [hW]
              rw [this]
              omega
            · rw [rb_set]
              refine congrArg some (congrArg Sum.inl (Prod.ext ?_ (Prod.ext (by simp) (rb_ext fun v _ => ?_))))
              · show sm W k + (nb l (cyI l b y p k).toNat).2.2 = sm W k + W k
                rw [hW]
              · show (if v = it l b y (p - k) then true else (List.range k).any fun j => it l b y (p - j) == v) = ((List.range (k + 1)).any fun j => it l b y (p - j) == v)
                by_cases ev : v = it l b y (p - k)
                · rw [if_pos ev]
                  exact (any_t.2 ⟨k, by omega, by simp [ev]⟩).symm
                · rw [if_neg ev, List.range_succ, List.any_append]
                  have : (it l b y (p - k) == v) = false := by simpa using fun h => ev h.symm
                  simp [this]
        · rw [m_law45_BoundsCycles_L1_eq]
          simp only [rw_len]
          exact bF (dF (by omega)) rfl
      exact bB key (congrArg some (dT hneg))
  · refine bB (v := true) (bB rfl (bF rfl (bB rfl (bF rfl (bB hV rfl))))) rfl
end Go.Proofs.Ytegmjohhgedakaa
