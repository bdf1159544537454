/-
  PeriodicRepeats: the plain law.
-/
import Derived.Test.YtlpbdikmhngmfaaQC
import Derived.Test.YtlpbdikmhngmfaaRep
namespace Go.Proofs.Ytlpbdikmhngmfaa
open Go.RowKit

theorem rep_good {P : Int} {l L : List Sp} {n : Nat} {r : Int × List Sp × Int} (v : VP P l) (hn : 1 ≤ n) {sh : Nat → Int} (hL : ∀ s, s ∈ L ↔ ∃ i j, i < n ∧ j < l.length ∧ s = repS P n l sh i j)
    (hm : (n : Int) * P ≤ 12622780800) (hs : spsB L = true) (hlen : L.length ≤ 2000) (hr : IsOf ((n : Int) * P) L r) : r = (P, l, 0) := by
  have hnP : 1 ≤ (n : Int) * P := by
    have : (1 : Int) * 1 ≤ (n : Int) * P := Int.mul_le_mul (by omega) v.p1 (by omega) (by omega)
    omega
  unfold IsOf at hr
  have h0 : ¬ ((n : Int) * P < 1 ∨ 12622780800 < (n : Int) * P ∨ spsB L = false) := by
    rintro (h | h | h)
    · omega
    · omega
    · rw [hs] at h; cases h
  rw [if_neg h0, if_neg (by omega)] at hr
  obtain ⟨l', s', hm', _, d, hb, e⟩ := hr
  have key : ∀ x, PS ((n : Int) * P) l' x ↔ PS P l x := rep_PS ⟨n, Int.mul_comm _ _⟩ hnP (fun x => (hm' x).trans (rep_memF v.toStd hn hL x))
  obtain ⟨h1, h2⟩ := PV.uniq (norm_PV s' hb) v.toPV (fun x => (norm_PS s' hb x).trans (key x))
  rw [h2, h1, if_neg (by have := v.n2; omega)] at e
  exact e

theorem mul_abs {a b A B : Int} (h1 : -A ≤ a) (h2 : a ≤ A) (h3 : 0 ≤ b) (h4 : b ≤ B) (hA : 0 ≤ A) : -(A * B) ≤ a * b ∧ a * b ≤ A * B := by
  have hB : 0 ≤ B := by omega
  have e1 : A * b ≤ A * B := Int.mul_le_mul_of_nonneg_left h4 hA
  have e2 : a * b ≤ A * b := Int.mul_le_mul_of_nonneg_right h2 h3
  have e3 : (-A) * b ≤ a * b := Int.mul_le_mul_of_nonneg_right h1 h3
  have e4 : (-A) * b = -(A * b) := Int.neg_mul _ _
  omega

/-- on the line, as the law asks it -/
def lnS (s : Sp) : Bool := decide (-4398046511104 ≤ s.1 ∧ s.1 ≤ 4398046511104) && decide (-4398046511104 ≤ s.2 ∧ s.2 ≤ 4398046511104)
def shF (shifts : List Int) (j : Nat) : Int := if j < shifts.length then shifts.getD j 0 else 0
theorem shF_bd {shifts : List Int} (hb : ∀ k, k < shifts.length → -128 ≤ shifts.getD k 0 ∧ shifts.getD k 0 ≤ 127) (j : Nat) : -128 ≤ shF shifts j ∧ shF shifts j ≤ 128 := by
  unfold shF
  split
  · rename_i h; have := hb j h; omega
  · omega
section
variable {P k : Int} {l : List Sp} {shifts : List Int} {n : Nat}
theorem rp_bd (v : VP P l) (hP : P ≤ 4294967296) (hb : ∀ k, k < shifts.length → -128 ≤ shifts.getD k 0 ∧ shifts.getD k 0 ≤ 127) (hn : n ≤ 6) {i : Nat} (hi : i < n) (j : Nat) :
    (0 ≤ (i : Int) * P ∧ (i : Int) * P ≤ 25769803776) ∧ (-768 ≤ shF shifts j * (n : Int) ∧ shF shifts j * (n : Int) ≤ 768) ∧ (-3298534883328 ≤ shF shifts j * (n : Int) * P ∧ shF shifts j * (n : Int) * P ≤ 3298534883328) := by
  have p1 := v.p1
  have h1 := mul_abs (a := (i : Int)) (b := P) (A := 6) (B := 4294967296) (by omega) (by omega) (by omega) hP (by omega)
  have h0 : 0 ≤ (i : Int) * P := Int.mul_nonneg (by omega) (by omega)
  have hs := shF_bd hb j
  have h2 := mul_abs (a := shF shifts j) (b := (n : Int)) (A := 128) (B := 6) (by omega) (by omega) (by omega) (by omega) (by omega)
  have h3 := mul_abs (a := shF shifts j * (n : Int)) (b := P) (A := 768) (B := 4294967296) (by omega) (by omega) (by omega) hP (by omega)
  omega
theorem rp_step (v : VP P l) (hP : P ≤ 4294967296) (hb : ∀ k, k < shifts.length → -128 ≤ shifts.getD k 0 ∧ shifts.getD k 0 ≤ 127) (hN : 1 + Int.tmod k 6 = (n : Int)) (hn : n ≤ 6) {i j : Nat} (hi : i < n) (hj : j < l.length) {acc : List Sp} (ha : acc.length ≤ 100000) :
    m_law13_PeriodicRepeats_L1 std (i : Int) k P l shifts ((j : Int), acc) = if lnS (repS P n l (shF shifts) i j) = true then some (.inl (((j + 1 : Nat) : Int), acc ++ [repS P n l (shF shifts) i j])) else some (.inr (.inl ())) := by
  obtain ⟨⟨b1, b2⟩, ⟨b3, b4⟩, b5, b6⟩ := rp_bd v hP hb hn hi j
  have hl := v.n2
  have hs := v.toStd.at hj
  have p1 := v.p1
  rw [m_law13_PeriodicRepeats_L1_eq]
  simp only [Int.toNat_natCast, hN, fr_def, tt_def]
  refine bT (dT (by omega)) (gX (by omega) (gK hj (gI (by omega) (bB (v := repA P n (shF shifts) i j) ?_ ?_))))
  · unfold repA
    by_cases h : j < shifts.length
    · have e : shF shifts j = shifts.getD j 0 := by unfold shF; rw [if_pos h]
      rw [e] at b3 b4 b5 b6 ⊢
      have := hb j h
      exact bT (dT (by omega)) (gX (by omega) (gK h (gI (by omega) (gI (by omega) (gI (by omega) (gI (by omega) rfl))))))
    · have e : shF shifts j = 0 := by unfold shF; rw [if_neg h]
      rw [e]
      refine bF (dF (by omega)) (congrArg some ?_)
      simp
  · have hA : -3400000000000 ≤ repA P n (shF shifts) i j ∧ repA P n (shF shifts) i j ≤ 3400000000000 := by unfold repA; omega
    unfold lnS repS
    simp only []
    generalize repA P n (shF shifts) i j = A at *
    refine bB (v := !(decide (-4398046511104 ≤ A + fr l j ∧ A + fr l j ≤ 4398046511104) && decide (-4398046511104 ≤ A + tt l j ∧ A + tt l j ≤ 4398046511104))) (gI (by omega) (bB (p_law13_line _) ?_)) ?_
    · cases decide (-4398046511104 ≤ A + fr l j ∧ A + fr l j ≤ 4398046511104) with
      | false => rfl
      | true => exact bF rfl (gI (by omega) (bB (p_law13_line _) rfl))
    · cases (decide (-4398046511104 ≤ A + fr l j ∧ A + fr l j ≤ 4398046511104) && decide (-4398046511104 ≤ A + tt l j ∧ A + tt l j ≤ 4398046511104)) with
      | false => rfl
      | true => exact bF rfl (gI (by omega) (gR (by omega) (gR (by simp) (gI (by omega) (by simp)))))

/-- the spans of one repetition -/
def rowR (P : Int) (n : Nat) (l : List Sp) (sh : Nat → Int) (i m : Nat) : List Sp := (List.range m).map (repS P n l sh i)
theorem rowR_succ (P : Int) (n : Nat) (l : List Sp) (sh : Nat → Int) (i m : Nat) : rowR P n l sh i (m + 1) = rowR P n l sh i m ++ [repS P n l sh i m] := by simp [rowR, List.range_succ]
theorem rowR_len (P : Int) (n : Nat) (l : List Sp) (sh : Nat → Int) (i m : Nat) : (rowR P n l sh i m).length = m := by simp [rowR]
theorem rp_row (v : VP P l) (hP : P ≤ 4294967296) (hb : ∀ k, k < shifts.length → -128 ≤ shifts.getD k 0 ∧ shifts.getD k 0 ≤ 127) (hN : 1 + Int.tmod k 6 = (n : Int)) (hn : n ≤ 6) {i : Nat} (hi : i < n) {acc : List Sp} (ha : acc.length ≤ 20000) :
    loop (m_law13_PeriodicRepeats_L1 std (i : Int) k P l shifts) (0, acc) = some (.inl ()) ∨
    (∀ j, j < l.length → lnS (repS P n l (shF shifts) i j) = true) ∧ loop (m_law13_PeriodicRepeats_L1 std (i : Int) k P l shifts) (0, acc) = some (.inr (acc ++ rowR P n l (shF shifts) i l.length)) := by
  have hl := v.n2
  have e0 : acc = acc ++ rowR P n l (shF shifts) i 0 := by simp [rowR]
  have st : ∀ j, j < l.length → m_law13_PeriodicRepeats_L1 std (i : Int) k P l shifts ((j : Int), acc ++ rowR P n l (shF shifts) i j) = if lnS (repS P n l (shF shifts) i j) = true then some (.inl (((j + 1 : Nat) : Int), acc ++ rowR P n l (shF shifts) i (j + 1))) else some (.inr (.inl ())) := fun j hj => by
    rw [rp_step v hP hb hN hn hi hj (by rw [List.length_append, rowR_len]; omega), rowR_succ, List.append_assoc]
  rcases first_or (fun j => lnS (repS P n l (shF shifts) i j)) l.length with h | ⟨m, hm, h1, h2⟩
  · refine .inr ⟨h, ?_⟩
    have := loop_up (B := m_law13_PeriodicRepeats_L1 std (i : Int) k P l shifts) (n := l.length) (fun j => acc ++ rowR P n l (shF shifts) i j) (e := .inr (acc ++ rowR P n l (shF shifts) i l.length)) (by omega)
      (fun j hj => by rw [st j hj, if_pos (h j hj)]) (by rw [m_law13_PeriodicRepeats_L1_eq]; exact bF (dF (by omega)) rfl)
    rw [← e0] at this
    exact this
  · refine .inl ?_
    have := loop_up (B := m_law13_PeriodicRepeats_L1 std (i : Int) k P l shifts) (n := m) (fun j => acc ++ rowR P n l (shF shifts) i j) (e := .inl ()) (by omega)
      (fun j hj => by rw [st j (by omega), if_pos (h2 j hj)]) (by rw [st m hm, if_neg (by rw [h1]; decide)])
    rw [← e0] at this
    exact this

/-- all repetitions, from the last one down -/
def allR (P : Int) (n : Nat) (l : List Sp) (sh : Nat → Int) (t : Nat) : List Sp := (List.range t).flatMap fun u => rowR P n l sh (n - 1 - u) l.length
theorem allR_succ (P : Int) (n : Nat) (l : List Sp) (sh : Nat → Int) (t : Nat) : allR P n l sh (t + 1) = allR P n l sh t ++ rowR P n l sh (n - 1 - t) l.length := by simp [allR, List.range_succ]
theorem allR_len (P : Int) (n : Nat) (l : List Sp) (sh : Nat → Int) : ∀ t, (allR P n l sh t).length = t * l.length
  | 0 => by simp [allR]
  | t + 1 => by rw [allR_succ, List.length_append, allR_len P n l sh t, rowR_len, Nat.succ_mul]
theorem allR_mem {P : Int} {n : Nat} {l : List Sp} {sh : Nat → Int} {s : Sp} : s ∈ allR P n l sh n ↔ ∃ i j, i < n ∧ j < l.length ∧ s = repS P n l sh i j := by
  unfold allR rowR
  rw [List.mem_flatMap]
  constructor
  · rintro ⟨u, hu, h⟩
    obtain ⟨j, hj, rfl⟩ := List.mem_map.1 h
    have := List.mem_range.1 hu
    exact ⟨n - 1 - u, j, by omega, List.mem_range.1 hj, rfl⟩
  · rintro ⟨i, j, hi, hj, rfl⟩
    exact ⟨n - 1 - i, List.mem_range.2 (by omega), List.mem_map.2 ⟨j, List.mem_range.2 hj, by rw [show n - 1 - (n - 1 - i) = i by omega]⟩⟩
theorem rp_all (v : VP P l) (hP : P ≤ 4294967296) (hb : ∀ k, k < shifts.length → -128 ≤ shifts.getD k 0 ∧ shifts.getD k 0 ≤ 127) (hN : 1 + Int.tmod k 6 = (n : Int)) (hn : n ≤ 6) (hn1 : 1 ≤ n) :
    loop (m_law13_PeriodicRepeats_L2 std k P l shifts) ((n : Int) - 1, ([] : List Sp)) = some (.inl ()) ∨
    (∀ i, i < n → ∀ j, j < l.length → lnS (repS P n l (shF shifts) i j) = true) ∧ loop (m_law13_PeriodicRepeats_L2 std k P l shifts) ((n : Int) - 1, ([] : List Sp)) = some (.inr (allR P n l (shF shifts) n)) := by
  have hl := v.n2
  have hlen : ∀ t, t ≤ n → (allR P n l (shF shifts) t).length ≤ 12000 := fun t ht => by
    rw [allR_len]
    have : t * l.length ≤ 6 * 2000 := Nat.mul_le_mul (by omega) hl
    omega
  have st : ∀ t, t < n → (m_law13_PeriodicRepeats_L2 std k P l shifts ((n : Int) - 1 - (t : Int), allR P n l (shF shifts) t) = some (.inr (.inl ()))) ∨
      (∀ j, j < l.length → lnS (repS P n l (shF shifts) (n - 1 - t) j) = true) ∧ m_law13_PeriodicRepeats_L2 std k P l shifts ((n : Int) - 1 - (t : Int), allR P n l (shF shifts) t) = some (.inl ((n : Int) - 1 - ((t + 1 : Nat) : Int), allR P n l (shF shifts) (t + 1))) := fun t ht => by
    have e : (n : Int) - 1 - (t : Int) = ((n - 1 - t : Nat) : Int) := by omega
    rcases rp_row v hP hb hN hn (i := n - 1 - t) (by omega) (acc := allR P n l (shF shifts) t) (by have := hlen t (by omega); omega) with h | ⟨h1, h⟩
    · refine .inl ?_
      rw [e, m_law13_PeriodicRepeats_L2_eq]
      exact bT (dT (by omega)) (bB h rfl)
    · refine .inr ⟨h1, ?_⟩
      rw [e, m_law13_PeriodicRepeats_L2_eq]
      refine bT (dT (by omega)) (bB h (gI (by omega) ?_))
      rw [allR_succ]
      exact congrArg some (congrArg Sum.inl (Prod.ext (by show _ - 1 = _; omega) rfl))
  have e0 : ((n : Int) - 1, ([] : List Sp)) = ((n : Int) - 1 - ((0 : Nat) : Int), allR P n l (shF shifts) 0) := by simp [allR]
  have cl : (∀ t, t < n → m_law13_PeriodicRepeats_L2 std k P l shifts ((n : Int) - 1 - (t : Int), allR P n l (shF shifts) t) = some (.inl ((n : Int) - 1 - ((t + 1 : Nat) : Int), allR P n l (shF shifts) (t + 1))) ∧ ∀ j, j < l.length → lnS (repS P n l (shF shifts) (n - 1 - t) j) = true) ∨
      ∃ m, m < n ∧ (∀ t, t < m → m_law13_PeriodicRepeats_L2 std k P l shifts ((n : Int) - 1 - (t : Int), allR P n l (shF shifts) t) = some (.inl ((n : Int) - 1 - ((t + 1 : Nat) : Int), allR P n l (shF shifts) (t + 1)))) ∧ m_law13_PeriodicRepeats_L2 std k P l shifts ((n : Int) - 1 - (m : Int), allR P n l (shF shifts) m) = some (.inr (.inl ())) := by
    have gen : ∀ q, q ≤ n → (∀ t, t < q → m_law13_PeriodicRepeats_L2 std k P l shifts ((n : Int) - 1 - (t : Int), allR P n l (shF shifts) t) = some (.inl ((n : Int) - 1 - ((t + 1 : Nat) : Int), allR P n l (shF shifts) (t + 1))) ∧ ∀ j, j < l.length → lnS (repS P n l (shF shifts) (n - 1 - t) j) = true) ∨
        ∃ m, m < n ∧ (∀ t, t < m → m_law13_PeriodicRepeats_L2 std k P l shifts ((n : Int) - 1 - (t : Int), allR P n l (shF shifts) t) = some (.inl ((n : Int) - 1 - ((t + 1 : Nat) : Int), allR P n l (shF shifts) (t + 1)))) ∧ m_law13_PeriodicRepeats_L2 std k P l shifts ((n : Int) - 1 - (m : Int), allR P n l (shF shifts) m) = some (.inr (.inl ())) := by
      intro q
      induction q with
      | zero => intro _; exact .inl fun t ht => by omega
      | succ q ih =>
        intro hq
        rcases ih (by omega) with h | h
        · rcases st q (by omega) with h2 | ⟨h2, h3⟩
          · exact .inr ⟨q, by omega, fun t ht => (h t ht).1, h2⟩
          · refine .inl fun t ht => ?_
            rcases Nat.lt_or_ge t q with h4 | h4
            · exact h t h4
            · have : t = q := by omega
              subst this
              exact ⟨h3, h2⟩
        · exact .inr h
    exact gen n (Nat.le_refl _)
  rcases cl with h | ⟨m, hm, h1, h2⟩
  · refine .inr ⟨fun i hi j hj => by have := (h (n - 1 - i) (by omega)).2 j hj; rwa [show n - 1 - (n - 1 - i) = i by omega] at this, ?_⟩
    rw [e0]
    refine loop_to' (n := n) (fun t => ((n : Int) - 1 - (t : Int), allR P n l (shF shifts) t)) (by omega) (fun t ht => (h t ht).1) ?_
    rw [m_law13_PeriodicRepeats_L2_eq]
    exact bF (dF (by omega)) rfl
  · refine .inl ?_
    rw [e0]
    exact loop_to' (n := m) (fun t => ((n : Int) - 1 - (t : Int), allR P n l (shF shifts) t)) (by omega) h1 h2
end

theorem pl_PeriodicRepeats (P k : Int) (l : List Sp) (shifts : List Int) (hk0 : 0 ≤ k) (hk1 : k ≤ 255) (hb : ∀ k, k < shifts.length → -128 ≤ shifts.getD k 0 ∧ shifts.getD k 0 ≤ 127) : m_law13_PeriodicRepeats std P k l shifts = some true := by
  rw [m_law13_PeriodicRepeats_eq, p_law13_awake]
  by_cases h : 40 < l.length
  · exact bB (v := true) (bB rfl (bF rfl (bB (p_law13_long P l) (bT (dT h) rfl)))) (bT rfl (bB rfl rfl))
  have hlong : ∀ {b : Bool}, (Option.bind (m_periodic_Valid std P l) fun b88 => bif (!b88) then some true else some (decide (4294967296 < P))) = some b → Option.bind (some true) (fun b86 => bif (!b86) then some true else Option.bind (m_law13_long std P l) fun b87 => bif b87 then some true else Option.bind (m_periodic_Valid std P l) fun b88 => bif (!b88) then some true else some (decide (4294967296 < P))) = some b := fun e => bB rfl (bF rfl (bB (p_law13_long P l) (bF (dF h) e)))
  have hV := p_periodic_Valid P l
  cases hv : pvB P l with
  | false =>
    rw [hv] at hV
    exact bB (v := true) (hlong (bB hV rfl)) (bT rfl (bB rfl rfl))
  | true =>
    rw [hv] at hV
    have v := pvB_iff.1 hv
    by_cases hP : 4294967296 < P
    · exact bB (v := true) (hlong (bB hV (bF rfl (by rw [dT hP])))) (bT rfl (bB rfl rfl))
    · refine bB (v := false) (hlong (bB hV (bF rfl (by rw [dF hP])))) (bF rfl ?_)
      have hmod : Int.tmod k 6 = k % 6 := Int.tmod_eq_emod_of_nonneg hk0
      obtain ⟨n, hn⟩ : ∃ n : Nat, 1 + Int.tmod k 6 = (n : Int) := ⟨(1 + k % 6).toNat, by rw [hmod]; omega⟩
      have hn1 : 1 ≤ n := by rw [hmod] at hn; omega
      have hn6 : n ≤ 6 := by rw [hmod] at hn; omega
      have p1 := v.p1
      have b1 := mul_abs (a := (n : Int)) (b := P) (A := 6) (B := 4294967296) (by omega) (by omega) (by omega) (by omega) (by omega)
      have b2 : (n : Int) * ((l.length : Nat) : Int) = ((n * l.length : Nat) : Int) := (Int.natCast_mul _ _).symm
      have b3 : n * l.length ≤ 6 * 40 := Nat.mul_le_mul hn6 (by omega)
      have hV2 : ∀ j, j < l.length → fr l j < tt l j := fun j hj => (v.toStd.at hj).2.1
      simp only [hn]
      refine gI (by omega) (gZ (by omega) (gI (by omega) ?_))
      by_cases hm : 12622780800 < (n : Int) * P
      · exact bB (v := true) (bT (dT hm) (gI (by omega) rfl)) (bT rfl rfl)
      · refine bB (v := false) (bF (dF hm) (gI (by omega) (gI (by omega) (congrArg some (dF (by omega)))))) (bF rfl (gI (by omega) ?_))
        rcases rp_all v (by omega) hb hn hn6 hn1 with hh | ⟨h1, hh⟩
        · exact bB hh rfl
        · refine bB hh ?_
          have hlen : (allR P n l (shF shifts) n).length ≤ 2000 := by rw [allR_len]; omega
          have hsp : spsB (allR P n l (shF shifts) n) = true := by
            unfold spsB
            refine List.all_eq_true.2 fun s hs => ?_
            obtain ⟨i, j, hi, hj, rfl⟩ := allR_mem.1 hs
            have h2 := h1 i hi j hj
            simp only [lnS, Bool.and_eq_true, decide_eq_true_eq] at h2
            have h3 := hV2 j hj
            refine svB_iff.2 ⟨h2.1.1, h2.2.2, ?_⟩
            show repA P n (shF shifts) i j + fr l j < repA P n (shF shifts) i j + tt l j
            omega
          obtain ⟨r, er, hr⟩ := p_periodic_Of ((n : Int) * P) (allR P n l (shF shifts) n) (by omega)
          have := rep_good v hn1 (fun s => allR_mem) (by omega) hsp hlen hr
          rw [this] at er
          refine bB er (bB (v := true) (bT rfl (bB (v.good.equal v.good) rfl)) rfl)
end Go.Proofs.Ytlpbdikmhngmfaa
