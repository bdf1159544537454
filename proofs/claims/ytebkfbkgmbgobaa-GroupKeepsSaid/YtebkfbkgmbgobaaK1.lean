/-
  GroupRestricts: what the reference says of periodic sets: which are valid, and whether a span is covered.
-/
import Derived.Test.YtebkfbkgmbgobaaKA
namespace Go.Proofs.Ytebkfbkgmbgobaa.Pe
open Go.RowKit Go.Proofs.Ytebkfbkgmbgobaa

/-! the reference's lists -/
theorem p_ref12_Number (x : Int) : m_ref12_Number std x = some (decide (-4398046511104 ≤ x ∧ x ≤ 4398046511104)) := by
  rw [m_ref12_Number_eq]; exact bB ands rfl
theorem p_ref12_Span (a b : Int) : m_ref12_Span std a b = some (svB a b) := by
  rw [m_ref12_Span_eq]
  unfold svB
  refine bB (v := decide (-4398046511104 ≤ a ∧ b ≤ 4398046511104 ∧ a < b)) (bB (p_ref12_Number a) ?_) rfl
  by_cases h1 : -4398046511104 ≤ a ∧ a ≤ 4398046511104
  · refine bT (dT h1) (bB (p_ref12_Number b) ?_)
    by_cases h2 : -4398046511104 ≤ b ∧ b ≤ 4398046511104
    · exact bT (dT h2) (congrArg some (by rw [decide_eq_decide]; omega))
    · exact bF (dF h2) (congrArg some (dF (by omega)).symm)
  · exact bF (dF h1) (congrArg some (dF (by omega)).symm)
theorem p_ref12_Spans (l : List Sp) (hl : l.length ≤ 1000000) : m_ref12_Spans std l = some (spsB l) := by
  rw [m_ref12_Spans_eq]
  have step : ∀ i, i < l.length → svB (fr l i) (tt l i) = true → m_ref12_Spans_L1 std l (i : Int) = some (.inl ((i + 1 : Nat) : Int)) := fun i hi hp => by
    rw [m_ref12_Spans_L1_eq]
    simp only [Int.toNat_natCast, fr_def, tt_def]
    exact bT (dT (by omega)) (gX (by omega) (gK hi (bB (p_ref12_Span _ _) (bF (nF hp) (gI (by omega) rfl)))))
  rcases first_or (fun i => svB (fr l i) (tt l i)) l.length with g | ⟨k, hk, hp, hb⟩
  · rw [spsB_iff.2 g]
    refine bB (v := .inr ()) (loop_to' (B := m_ref12_Spans_L1 std l) (n := l.length) (fun i => (i : Int)) (by omega) (fun i hi => step i hi (g i hi)) ?_) rfl
    rw [m_ref12_Spans_L1_eq]; exact bF (dF (by omega)) rfl
  · have e : spsB l = false := by
      cases h : spsB l with
      | false => rfl
      | true => have := spsB_iff.1 h k hk; rw [this] at hp; cases hp
    rw [e]
    refine bB (v := .inl ()) (loop_to' (B := m_ref12_Spans_L1 std l) (n := k) (fun i => (i : Int)) (by omega) (fun i hi => step i (by omega) (hb i hi)) ?_) rfl
    rw [m_ref12_Spans_L1_eq]
    simp only [Int.toNat_natCast, fr_def, tt_def]
    exact bT (dT (by omega)) (gX (by omega) (gK hk (bB (p_ref12_Span _ _) (bT (nT hp) rfl))))
theorem p_ref12_Valid (l : List Sp) : m_ref12_Valid std l = some (decide (l.length ≤ 2000) && canB l) := by
  rw [m_ref12_Valid_eq]
  by_cases hl : l.length ≤ 2000
  · rw [dT hl, Bool.true_and]
    refine bB (v := !spsB l) (bF (dF (by omega)) (bB (p_ref12_Spans l (by omega)) rfl)) ?_
    cases hs : spsB l with
    | false =>
      have : canB l = false := by
        cases h : canB l with
        | false => rfl
        | true =>
          have : spsB l = true := spsB_iff.2 fun k hk => svB_iff.2 (canAt_iff.1 (canB_at.1 h k hk)).1
          rw [this] at hs; cases hs
      rw [this]; rfl
    | true =>
      refine bF rfl ?_
      have hs' := spsB_iff.1 hs
      have step : ∀ i, i < l.length - 1 → decide (tt l i < fr l (i + 1)) = true → m_ref12_Valid_L1 std l ((i + 1 : Nat) : Int) = some (.inl ((i + 1 + 1 : Nat) : Int)) := fun i hi hp => by
        rw [m_ref12_Valid_L1_eq]
        have e : Int.toNat (((i + 1 : Nat) : Int) - 1) = i := by omega
        have hp := of_decide_eq_true hp
        simp only [Int.toNat_natCast, fr_def, tt_def, e]
        exact bT (dT (by omega)) (gI (by omega) (gX (by omega) (gK (by omega) (gX (by omega) (gK (by omega) (bF (dF (by omega)) (gI (by omega) rfl)))))))
      rcases first_or (fun i => decide (tt l i < fr l (i + 1))) (l.length - 1) with g | ⟨k, hk, hp, hb⟩
      · have hc : canB l = true := canB_at.2 fun k hk => canAt_iff.2 ⟨svB_iff.1 (hs' k hk), by
          rcases Nat.eq_zero_or_pos k with h | h
          · exact .inl h
          · right
            have := of_decide_eq_true (g (k - 1) (by omega))
            rw [show k - 1 + 1 = k by omega] at this
            exact this⟩
        rw [hc]
        have hL := loop_to' (B := m_ref12_Valid_L1 std l) (n := l.length - 1) (fun i => ((i + 1 : Nat) : Int)) (e := .inr ()) (by omega) (fun i hi => step i hi (g i hi)) (by
          rw [m_ref12_Valid_L1_eq]
          exact bF (dF (by omega)) rfl)
        exact bB hL rfl
      · have hc : canB l = false := by
          cases h : canB l with
          | false => rfl
          | true =>
            rcases (canAt_iff.1 (canB_at.1 h (k + 1) (by omega))).2 with h1 | h1
            · omega
            · have := of_decide_eq_false hp; rw [show k + 1 - 1 = k by omega] at h1; exact absurd h1 this
        rw [hc]
        have hp := of_decide_eq_false hp
        have hL := loop_to' (B := m_ref12_Valid_L1 std l) (n := k) (fun i => ((i + 1 : Nat) : Int)) (e := .inl ()) (by omega) (fun i hi => step i (by omega) (hb i hi)) (by
          rw [m_ref12_Valid_L1_eq]
          have e : Int.toNat (((k + 1 : Nat) : Int) - 1) = k := by omega
          simp only [Int.toNat_natCast, fr_def, tt_def, e]
          exact bT (dT (by omega)) (gI (by omega) (gX (by omega) (gK (by omega) (gX (by omega) (gK (by omega) (bT (dT (by omega)) rfl)))))))
        exact bB hL rfl
  · rw [dF hl]
    exact bB (v := true) (bT (dT (by omega)) rfl) (bT rfl rfl)

/-! ends -/
theorem getD_mem {l : List Int} {i : Nat} (h : i < l.length) : l.getD i 0 ∈ l := by
  rw [List.getD_eq_getElem?_getD, List.getElem?_eq_getElem h]
  exact List.getElem_mem _
theorem asc_getD {l : List Int} (h : l.Pairwise (· < ·)) {i j : Nat} (hij : i < j) (hj : j < l.length) : l.getD i 0 < l.getD j 0 := by
  have := List.pairwise_iff_getElem.1 h i j (by omega) hj hij
  simpa [List.getD_eq_getElem?_getD, hj, show i < l.length by omega] using this
theorem ins_ok {out : List Int} {x : Int} {k : Nat} (hp : out.Pairwise (· < ·)) (hk : k ≤ out.length) (h1 : ∀ j, j < k → out.getD j 0 < x) (h2 : k < out.length → x < out.getD k 0) :
    (out.take k ++ [x] ++ out.drop k).Pairwise (· < ·) ∧ ∀ y, y ∈ out.take k ++ [x] ++ out.drop k ↔ y ∈ out ∨ y = x := by
  have ht : ∀ a ∈ out.take k, a < x := fun a ha => by
    obtain ⟨j, hj, e⟩ := List.getElem_of_mem ha
    rw [List.length_take] at hj
    have := h1 j (by omega)
    rw [List.getD_eq_getElem?_getD, List.getElem?_eq_getElem (by omega : j < out.length)] at this
    rw [← e, List.getElem_take]; exact this
  have hd : ∀ b ∈ out.drop k, x < b := fun b hb => by
    obtain ⟨j, hj, e⟩ := List.getElem_of_mem hb
    rw [List.length_drop] at hj
    have h3 := h2 (by omega)
    have e2 : out.getD (k + j) 0 = b := by
      rw [List.getElem_drop] at e
      rw [List.getD_eq_getElem?_getD, List.getElem?_eq_getElem (by omega : k + j < out.length)]; exact e
    rcases Nat.eq_zero_or_pos j with g | g
    · subst g; rw [← e2]; exact h3
    · have := asc_getD hp (i := k) (j := k + j) (by omega) (by omega)
      omega
  have hs := hp
  rw [← List.take_append_drop k out] at hs
  obtain ⟨p1, p2, p3⟩ := List.pairwise_append.1 hs
  refine ⟨List.pairwise_append.2 ⟨List.pairwise_append.2 ⟨p1, List.pairwise_singleton _ _, fun a ha b hb => ?_⟩, p2, fun a ha b hb => ?_⟩, fun y => ?_⟩
  · rw [List.mem_singleton.1 hb]; exact ht a ha
  · rcases List.mem_append.1 ha with g | g
    · exact p3 a g b hb
    · rw [List.mem_singleton.1 g]; exact hd b hb
  · have e : y ∈ out ↔ y ∈ out.take k ∨ y ∈ out.drop k := by rw [← List.mem_append, List.take_append_drop]
    rw [List.mem_append, List.mem_append, List.mem_singleton, e]
    constructor
    · rintro ((g | g) | g)
      · exact .inl (.inl g)
      · exact .inr g
      · exact .inl (.inr g)
    · rintro ((g | g) | g)
      · exact .inl (.inl g)
      · exact .inr g
      · exact .inl (.inr g)
theorem p_ref12_Ends_L1 {l : List Sp} {out : List Int} {i : Nat} {x : Int} (hx : (List.getD l i (0, 0)).1 = x) (hp : out.Pairwise (· < ·)) (ho : out.length ≤ 100000) : ∃ k : Nat, loop (m_ref12_Ends_L1 std (i : Int) out l) (((List.length out) : Nat) : Int) = some (k : Int) ∧ k ≤ out.length ∧ (∀ j, j < k → out.getD j 0 < x) ∧ (k < out.length → x ≤ out.getD k 0) := by
  have step : ∀ m, m < out.length → decide (x ≤ out.getD (out.length - 1 - m) 0) = true → m_ref12_Ends_L1 std (i : Int) out l ((out.length - m : Nat) : Int) = some (.inl ((out.length - (m + 1) : Nat) : Int)) := fun m hm hp => by
    rw [m_ref12_Ends_L1_eq]
    have e : Int.toNat (((out.length - m : Nat) : Int) - 1) = out.length - 1 - m := by omega
    simp only [Int.toNat_natCast, hx, e]
    exact bB (v := true) (bT (dT (by omega)) (gI (by omega) (gX (by omega) (gK (by omega) (congrArg some hp))))) (bT rfl (gI (by omega) (congrArg (fun q => some (Sum.inl q)) (by omega))))
  rcases first_or (fun m => decide (x ≤ out.getD (out.length - 1 - m) 0)) out.length with g | ⟨m, hm, hq, hb⟩
  · refine ⟨0, loop_to' (B := m_ref12_Ends_L1 std (i : Int) out l) (n := out.length) (fun m => ((out.length - m : Nat) : Int)) (by omega) (fun m hm => step m hm (g m hm)) ?_, Nat.zero_le _, fun j hj => by omega, fun h => ?_⟩
    · rw [Nat.sub_self, m_ref12_Ends_L1_eq]
      exact bB (v := false) (bF (dF (by omega)) rfl) (bF rfl rfl)
    · have := of_decide_eq_true (g (out.length - 1) (by omega))
      rw [show out.length - 1 - (out.length - 1) = 0 by omega] at this
      exact this
  · have hq := of_decide_eq_false hq
    refine ⟨out.length - m, loop_to' (B := m_ref12_Ends_L1 std (i : Int) out l) (n := m) (fun m => ((out.length - m : Nat) : Int)) (by omega) (fun m hm => step m (by omega) (hb m hm)) ?_, by omega, fun j hj => ?_, fun h => ?_⟩
    · rw [m_ref12_Ends_L1_eq]
      have e : Int.toNat (((out.length - m : Nat) : Int) - 1) = out.length - 1 - m := by omega
      simp only [Int.toNat_natCast, hx, e]
      exact bB (v := false) (bT (dT (by omega)) (gI (by omega) (gX (by omega) (gK (by omega) (congrArg some (dF hq)))))) (bF rfl rfl)
    · rcases Nat.lt_or_ge j (out.length - 1 - m) with h | h
      · have := asc_getD hp h (by omega); omega
      · have : j = out.length - 1 - m := by omega
        subst this; omega
    · have := of_decide_eq_true (hb (m - 1) (by omega))
      rw [show out.length - 1 - (m - 1) = out.length - m by omega] at this
      exact this
theorem p_ref12_Ends_L2 {l : List Sp} {out : List Int} {i : Nat} {x : Int} (hx : (List.getD l i (0, 0)).2 = x) (hp : out.Pairwise (· < ·)) (ho : out.length ≤ 100000) : ∃ k : Nat, loop (m_ref12_Ends_L2 std (i : Int) out l) (((List.length out) : Nat) : Int) = some (k : Int) ∧ k ≤ out.length ∧ (∀ j, j < k → out.getD j 0 < x) ∧ (k < out.length → x ≤ out.getD k 0) := by
  have step : ∀ m, m < out.length → decide (x ≤ out.getD (out.length - 1 - m) 0) = true → m_ref12_Ends_L2 std (i : Int) out l ((out.length - m : Nat) : Int) = some (.inl ((out.length - (m + 1) : Nat) : Int)) := fun m hm hp => by
    rw [m_ref12_Ends_L2_eq]
    have e : Int.toNat (((out.length - m : Nat) : Int) - 1) = out.length - 1 - m := by omega
    simp only [Int.toNat_natCast, hx, e]
    exact bB (v := true) (bT (dT (by omega)) (gI (by omega) (gX (by omega) (gK (by omega) (congrArg some hp))))) (bT rfl (gI (by omega) (congrArg (fun q => some (Sum.inl q)) (by omega))))
  rcases first_or (fun m => decide (x ≤ out.getD (out.length - 1 - m) 0)) out.length with g | ⟨m, hm, hq, hb⟩
  · refine ⟨0, loop_to' (B := m_ref12_Ends_L2 std (i : Int) out l) (n := out.length) (fun m => ((out.length - m : Nat) : Int)) (by omega) (fun m hm => step m hm (g m hm)) ?_, Nat.zero_le _, fun j hj => by omega, fun h => ?_⟩
    · rw [Nat.sub_self, m_ref12_Ends_L2_eq]
      exact bB (v := false) (bF (dF (by omega)) rfl) (bF rfl rfl)
    · have := of_decide_eq_true (g (out.length - 1) (by omega))
      rw [show out.length - 1 - (out.length - 1) = 0 by omega] at this
      exact this
  · have hq := of_decide_eq_false hq
    refine ⟨out.length - m, loop_to' (B := m_ref12_Ends_L2 std (i : Int) out l) (n := m) (fun m => ((out.length - m : Nat) : Int)) (by omega) (fun m hm => step m (by omega) (hb m hm)) ?_, by omega, fun j hj => ?_, fun h => ?_⟩
    · rw [m_ref12_Ends_L2_eq]
      have e : Int.toNat (((out.length - m : Nat) : Int) - 1) = out.length - 1 - m := by omega
      simp only [Int.toNat_natCast, hx, e]
      exact bB (v := false) (bT (dT (by omega)) (gI (by omega) (gX (by omega) (gK (by omega) (congrArg some (dF hq)))))) (bF rfl rfl)
    · rcases Nat.lt_or_ge j (out.length - 1 - m) with h | h
      · have := asc_getD hp h (by omega); omega
      · have : j = out.length - 1 - m := by omega
        subst this; omega
    · have := of_decide_eq_true (hb (m - 1) (by omega))
      rw [show out.length - 1 - (m - 1) = out.length - m by omega] at this
      exact this
theorem ins_val {out : List Int} {x : Int} (hp : out.Pairwise (· < ·)) (ho : out.length ≤ 100000) {k : Nat} (hk : k ≤ out.length) (h1 : ∀ j, j < k → out.getD j 0 < x) (h2 : k < out.length → x ≤ out.getD k 0) :
    ∃ r, (Option.bind (bif (decide ((k : Int) < (((List.length out) : Nat) : Int))) then
          grd (okIdx (k : Int) ((List.length out))) <|
          grd (okKin ((Int.toNat (k : Int))) ((List.length out))) <|
          (some ((List.getD out (Int.toNat (k : Int)) 0) == x))
        else
          (some false) : Option ((Bool))) fun x157 =>
      bif x157 then
        (some out)
      else
        grd (okRng (k : Int) ((List.length out))) <|
        grd (okRoom ((List.length ([] : List Int)))) <|
        grd (okRoom ((List.length (List.take ((Int.toNat (k : Int)) - 0) (List.drop 0 out))))) <|
        grd (okRoom ((List.length (([] : List Int) ++ (List.take ((Int.toNat (k : Int)) - 0) (List.drop 0 out)))))) <|
        grd (okRoom ((List.length [x]))) <|
        grd (okRoom ((List.length ((([] : List Int) ++ (List.take ((Int.toNat (k : Int)) - 0) (List.drop 0 out))) ++ [x])))) <|
        grd (okRoom ((List.length (List.take ((List.length out) - (Int.toNat (k : Int))) (List.drop (Int.toNat (k : Int)) out))))) <|
        (some (((([] : List Int) ++ (List.take ((Int.toNat (k : Int)) - 0) (List.drop 0 out))) ++ [x]) ++ (List.take ((List.length out) - (Int.toNat (k : Int))) (List.drop (Int.toNat (k : Int)) out))))) = some r ∧ r.Pairwise (· < ·) ∧ (∀ y, y ∈ r ↔ y ∈ out ∨ y = x) ∧ r.length ≤ out.length + 1 := by
  by_cases d : k < out.length ∧ out.getD k 0 = x
  · refine ⟨out, bB (v := true) (bT (dT (by omega)) (gX (by omega) (gK (by omega) (by rw [Int.toNat_natCast]; exact congrArg some (eT d.2))))) (bT rfl rfl), hp, fun y => ⟨.inl, fun h => ?_⟩, by omega⟩
    rcases h with h | h
    · exact h
    · rw [h, ← d.2]; exact getD_mem d.1
  · have h3 : k < out.length → x < out.getD k 0 := fun hk2 => by
      have := h2 hk2
      have : out.getD k 0 ≠ x := fun e => d ⟨hk2, e⟩
      omega
    obtain ⟨i1, i2⟩ := ins_ok hp hk h1 h3
    have lk : (out.take k).length = k := by rw [List.length_take]; omega
    refine ⟨out.take k ++ [x] ++ out.drop k, bB (v := false) ?_ (bF rfl ?_), i1, i2, ?_⟩
    · by_cases g : k < out.length
      · exact bT (dT (by omega)) (gX (by omega) (gK (by omega) (by rw [Int.toNat_natCast]; exact congrArg some (eF fun e => d ⟨g, e⟩))))
      · exact bF (dF (by omega)) rfl
    · rw [Int.toNat_natCast, Nat.sub_zero, List.drop_zero, List.nil_append, List.take_of_length_le (l := out.drop k) (by rw [List.length_drop]; omega)]
      exact gG (by omega) (gR (by simp) (gR (by rw [lk]; omega) (gR (by rw [lk]; omega) (gR (by simp) (gR (by rw [List.length_append, lk]; simp; omega) (gR (by rw [List.length_drop]; omega) rfl))))))
    · rw [List.length_append, List.length_append, lk, List.length_drop]
      simp; omega
structure EndsOk (l : List Sp) (E : List Int) : Prop where
  up : E.Pairwise (· < ·)
  mem : ∀ x, x ∈ E ↔ ∃ s ∈ l, x = s.1 ∨ x = s.2
  len : E.length ≤ 2 * l.length
theorem p_ref12_Ends {l : List Sp} (hl : l.length ≤ 10000) : ∃ E, m_ref12_Ends std l = some E ∧ EndsOk l E := by
  rw [m_ref12_Ends_eq]
  obtain ⟨E, e, hE⟩ : ∃ E, loop (m_ref12_Ends_L3 std l) (0, []) = some E ∧ EndsOk l E := by
    refine loop_is (B := m_ref12_Ends_L3 std l) (fun s => ∃ i : Nat, s.1 = (i : Int) ∧ i ≤ l.length ∧ EndsOk (l.take i) s.2) (fun s => (10000 - s.1).toNat) (fun E => EndsOk l E) ⟨0, rfl, Nat.zero_le _, ⟨List.Pairwise.nil, fun x => by simp, Nat.zero_le _⟩⟩ (by show (10000 - (0 : Int)).toNat < _; decide) (fun s hs => ?_)
    obtain ⟨s1, out⟩ := s
    obtain ⟨i, rfl, hi, ho⟩ := hs
    simp only [] at ho
    rw [m_ref12_Ends_L3_eq]
    by_cases c : i < l.length
    · have hlen := ho.len
      rw [List.length_take] at hlen
      obtain ⟨k, ek, hk, h1, h2⟩ := p_ref12_Ends_L1 (l := l) (i := i) rfl ho.up (by omega)
      obtain ⟨r, er, r1, r2, r3⟩ := ins_val ho.up (by omega) hk h1 h2
      obtain ⟨k', ek', hk', h1', h2'⟩ := p_ref12_Ends_L2 (l := l) (i := i) (out := r) rfl r1 (by omega)
      obtain ⟨r', er', r1', r2', r3'⟩ := ins_val r1 (by omega) hk' h1' h2'
      refine ⟨.inl ((i : Int) + 1, r'), bT (dT (by omega)) (bB (gX (by omega) (gK (by omega) (bB ek (by rw [Int.toNat_natCast]; exact er)))) (bB (bB ek' (by rw [Int.toNat_natCast]; exact er')) (gI (by omega) rfl))), ⟨i + 1, rfl, c, ⟨r1', fun x => ?_, ?_⟩⟩, by simp only []; omega⟩
      · simp only []
        rw [r2', r2, ho.mem, take_succ' l c]
        simp only [List.mem_append, List.mem_singleton]
        constructor
        · rintro ((⟨s, hs, h⟩ | h) | h)
          · exact ⟨s, .inl hs, h⟩
          · exact ⟨_, .inr rfl, .inl h⟩
          · exact ⟨_, .inr rfl, .inr h⟩
        · rintro ⟨s, hs | hs, h⟩
          · exact .inl (.inl ⟨s, hs, h⟩)
          · subst hs
            rcases h with h | h
            · exact .inl (.inr h)
            · exact .inr h
      · simp only []
        rw [List.length_take]; omega
    · have e : i = l.length := by omega
      subst e
      rw [List.take_length] at ho
      exact ⟨.inr out, bF (dF (by omega)) rfl, ho⟩
  exact ⟨E, bB e rfl, hE⟩

/-! the canonical list of spans -/
theorem p_ref12_In (x : Int) (l : List Sp) (hl : l.length ≤ 1000000) : m_ref12_In std x l = some (memB l x) := by
  rw [m_ref12_In_eq]
  have step : ∀ i, i < l.length → (!(decide (fr l i ≤ x) && decide (x < tt l i))) = true → m_ref12_In_L1 std l x (i : Int) = some (.inl ((i + 1 : Nat) : Int)) := fun i hi hp => by
    rw [m_ref12_In_L1_eq]
    simp only [Int.toNat_natCast, fr_def, tt_def]
    refine bT (dT (by omega)) (bB (v := false) ?_ (bF rfl (gI (by omega) rfl)))
    by_cases h : fr l i ≤ x
    · refine bT (dT h) (gX (by omega) (gK hi (congrArg some ?_)))
      rw [dT h] at hp
      exact dF fun h2 => by rw [dT h2] at hp; cases hp
    · exact bF (dF h) (gX (by omega) (gK hi rfl))
  rcases first_or (fun i => !(decide (fr l i ≤ x) && decide (x < tt l i))) l.length with g | ⟨k, hk, hp, hb⟩
  · have e : memB l x = false := memB_false.2 fun h => by
      obtain ⟨j, hj, a, b⟩ := mem_idx.1 h
      have := g j hj
      rw [dT a, dT b] at this
      cases this
    rw [e]
    refine bB (v := .inr ()) (loop_to' (B := m_ref12_In_L1 std l x) (n := l.length) (fun i => (i : Int)) (by omega) (fun i hi => step i hi (g i hi)) ?_) rfl
    rw [m_ref12_In_L1_eq]; exact bF (dF (by omega)) rfl
  · have hp : fr l k ≤ x ∧ x < tt l k := by simpa using hp
    rw [memB_iff.2 (mem_idx.2 ⟨k, hk, hp.1, hp.2⟩)]
    refine bB (v := .inl ()) (loop_to' (B := m_ref12_In_L1 std l x) (n := k) (fun i => (i : Int)) (by omega) (fun i hi => step i (by omega) (hb i hi)) ?_) rfl
    rw [m_ref12_In_L1_eq]
    simp only [Int.toNat_natCast, fr_def, tt_def]
    exact bT (dT (by omega)) (bB (v := true) (bT (dT hp.1) (gX (by omega) (gK hk (congrArg some (dT hp.2))))) (bT rfl rfl))
theorem keep_1 (b : Bool) : m_ref12_keep std 1 b false = some b := by cases b <;> rfl
theorem p_Combine {l : List Sp} (hl : l.length ≤ 5000) : ∃ r, m_ref12_Combine std 1 l [] = some r ∧ Can r ∧ (∀ x, Mem r x ↔ Mem l x) ∧ r.length ≤ 2 * l.length := by
  rw [m_ref12_Combine_eq, List.nil_append, List.append_nil]
  obtain ⟨E, eE, hE⟩ := p_ref12_Ends (l := l) (by omega)
  have hlen := hE.len
  obtain ⟨n, hn⟩ : ∃ n, E.length - 1 = n := ⟨_, rfl⟩
  have hloop := loop_up (B := m_ref12_Combine_L1 std l [] 1 E) (n := n) (fun i => cutL (memB l) (fun i => E.getD i 0) i) (e := cutL (memB l) (fun i => E.getD i 0) n) (by omega) (fun i hi => by
    have hcl := cutL_len (memB l) (fun i => E.getD i 0) i
    have hlt := asc_getD hE.up (show i < i + 1 by omega) (by omega)
    rw [m_ref12_Combine_L1_eq]
    have e1 : Int.toNat ((i : Int) + 1) = i + 1 := by omega
    simp only [Int.toNat_natCast, e1]
    refine gI (by omega) (bT (dT (by omega)) (gX (by omega) (gK (by omega) (bB (p_ref12_In _ _ (by omega)) (bB (v := false) rfl (bB (keep_1 _) (bB (v := cutL (memB l) (fun i => E.getD i 0) (i + 1)) ?_ rfl)))))))
    have hu : cutL (memB l) (fun i => E.getD i 0) (i + 1) = if memB l (E.getD i 0) = true ∧ E.getD i 0 < E.getD (i + 1) 0 then addS (cutL (memB l) (fun i => E.getD i 0) i) (E.getD i 0, E.getD (i + 1) 0) else cutL (memB l) (fun i => E.getD i 0) i := rfl
    rw [hu]
    generalize cutL (memB l) (fun i => E.getD i 0) i = acc at *
    cases hm : memB l (E.getD i 0) with
    | false => rw [if_neg (by simp)]; rfl
    | true =>
      rw [if_pos ⟨rfl, hlt⟩]
      have h := add_step acc (E.getD i 0) (E.getD (i + 1) 0) (by omega) some
      simp only [Option.bind_fun_some] at h
      exact bT rfl (bB (gX (by omega) (gK (by omega) h)) rfl)) (by
    rw [m_ref12_Combine_L1_eq]
    exact gI (by omega) (bF (dF (by omega)) rfl))
  have hgrow : ∀ i, i < n → E.getD i 0 ≤ E.getD (i + 1) 0 := fun i hi => Int.le_of_lt (asc_getD hE.up (by omega) (by omega))
  have hflat : ∀ i, i < n → ∀ x, E.getD i 0 ≤ x → x < E.getD (i + 1) 0 → memB l x = memB l (E.getD i 0) := fun i hi x h1 h2 => by
    refine memB_const (fun m hm h => ?_) h1
    have hin : endL l m ∈ E := by
      rw [hE.mem]
      have hm2 : m / 2 < l.length := by omega
      refine ⟨(fr l (m / 2), tt l (m / 2)), ?_, ?_⟩
      · have : l[m / 2] ∈ l := List.getElem_mem hm2
        rw [list_fr l hm2] at this; exact this
      · unfold endL; split
        · exact .inl rfl
        · exact .inr rfl
    obtain ⟨j, hj, ej⟩ := List.getElem_of_mem hin
    have ej' : E.getD j 0 = endL l m := by rw [List.getD_eq_getElem?_getD, List.getElem?_eq_getElem hj]; exact ej
    rcases Nat.lt_or_ge i j with g | g
    · rcases Nat.lt_or_ge (i + 1) j with k | k
      · have := asc_getD hE.up k hj; omega
      · have : j = i + 1 := by omega
        subst this; omega
    · rcases Nat.lt_or_ge j i with k | k
      · have := asc_getD hE.up k (by omega); omega
      · have : j = i := by omega
        subst this; omega
  obtain ⟨c1, _, c3⟩ := cutL_ok (f := memB l) (c := fun i => E.getD i 0) (n := n) hgrow hflat
  refine ⟨cutL (memB l) (fun i => E.getD i 0) n, gR (by simp) (gR (by omega) (gR (by omega) (gR (by simp) (bB eE (bB hloop rfl))))), c1, fun x => ?_, by have := cutL_len (memB l) (fun i => E.getD i 0) n; omega⟩
  rw [c3, memB_iff]
  refine ⟨fun h => h.2.2, fun h => ⟨?_, ?_, h⟩⟩
  · obtain ⟨s, hs, h1, h2⟩ := h
    obtain ⟨j, hj, ej⟩ := List.getElem_of_mem ((hE.mem s.1).2 ⟨s, hs, .inl rfl⟩)
    have ej' : E.getD j 0 = s.1 := by rw [List.getD_eq_getElem?_getD, List.getElem?_eq_getElem hj]; exact ej
    have : E.getD 0 0 ≤ E.getD j 0 := by
      rcases Nat.eq_zero_or_pos j with g | g
      · subst g; exact Int.le_refl _
      · exact Int.le_of_lt (asc_getD hE.up g hj)
    show E.getD 0 0 ≤ x
    omega
  · obtain ⟨s, hs, h1, h2⟩ := h
    obtain ⟨j, hj, ej⟩ := List.getElem_of_mem ((hE.mem s.2).2 ⟨s, hs, .inr rfl⟩)
    have ej' : E.getD j 0 = s.2 := by rw [List.getD_eq_getElem?_getD, List.getElem?_eq_getElem hj]; exact ej
    have : E.getD j 0 ≤ E.getD n 0 := by
      rcases Nat.lt_or_ge j n with g | g
      · exact Int.le_of_lt (asc_getD hE.up g (by omega))
      · have : j = n := by omega
        subst this; exact Int.le_refl _
    show x < E.getD n 0
    omega
theorem p_Same (a b : List Sp) (ha : a.length ≤ 1000000) : m_ref12_Same std a b = some (decide (a = b)) := by
  rw [m_ref12_Same_eq]
  by_cases hl : a.length = b.length
  · refine bF (nF (eT (by omega))) ?_
    have step : ∀ i, i < a.length → eqSp a b i = true → m_ref12_Same_L1 std a b (i : Int) = some (.inl ((i + 1 : Nat) : Int)) := fun i hi hp => by
      rw [m_ref12_Same_L1_eq]
      unfold eqSp at hp
      rw [Bool.and_eq_true, beq_iff_eq, beq_iff_eq] at hp
      simp only [Int.toNat_natCast, fr_def, tt_def]
      exact bT (dT (by omega)) (bB (v := false) (bF (nF (eT hp.1)) (gX (by omega) (gK (by omega) (gX (by omega) (gK (by omega) (congrArg some (nF (eT hp.2)))))))) (bF rfl (gI (by omega) rfl)))
    rcases first_or (eqSp a b) a.length with g | ⟨k, hk, hp, hb⟩
    · have e : a = b := sp_ext hl fun i hi => by
        have := g i hi
        unfold eqSp at this
        rw [Bool.and_eq_true, beq_iff_eq, beq_iff_eq] at this
        exact this
      rw [dT e]
      refine bB (v := .inr ()) (loop_to' (B := m_ref12_Same_L1 std a b) (n := a.length) (fun i => (i : Int)) (by omega) (fun i hi => step i hi (g i hi)) ?_) rfl
      rw [m_ref12_Same_L1_eq]; exact bF (dF (by omega)) rfl
    · rw [dF fun e => by subst e; unfold eqSp at hp; simp at hp]
      refine bB (v := .inl ()) (loop_to' (B := m_ref12_Same_L1 std a b) (n := k) (fun i => (i : Int)) (by omega) (fun i hi => step i (by omega) (hb i hi)) ?_) rfl
      rw [m_ref12_Same_L1_eq]
      simp only [Int.toNat_natCast, fr_def, tt_def]
      refine bT (dT (by omega)) (bB (v := true) ?_ (bT rfl rfl))
      by_cases h1 : fr a k = fr b k
      · refine bF (nF (eT h1)) (gX (by omega) (gK (by omega) (gX (by omega) (gK (by omega) (congrArg some (nT (eF fun h2 => ?_)))))))
        unfold eqSp at hp
        rw [eT h1, eT h2] at hp
        cases hp
      · exact bT (nT (eF h1)) (gX (by omega) (gK (by omega) (gX (by omega) (gK (by omega) rfl))))
  · rw [dF fun e => hl (by rw [e])]
    exact bT (nT (eF (by omega))) rfl

/-! a set, moved -/
theorem chS_cover {P : Int} {l : List Sp} (h : Std P l) (h0 : l ≠ []) (hf : l ≠ [(0, P)]) : 0 < (l.flatMap (chS P l)).length := by
  rcases Nat.eq_zero_or_pos (l.flatMap (chS P l)).length with hz | hz
  · exfalso
    have hnil := List.eq_nil_of_length_eq_zero hz
    have hno : ∀ c, 0 ≤ c → c < P → ¬ Chg P l c := fun c h1 h2 hc => by
      have := (chg_iff h).2 ⟨h1, h2, hc⟩
      rw [hnil] at this; cases this
    have hall := chg_all h.p1 hno
    have hconst : ∀ (x : Int) (n : Nat), (PS P l (x + n) ↔ PS P l x) := by
      intro x n
      induction n with
      | zero => simp
      | succ n ih =>
        have := hall (x + ((n + 1 : Nat) : Int))
        unfold Chg at this
        have h2 := Classical.not_not.1 this
        rw [show x + ((n + 1 : Nat) : Int) - 1 = x + n by omega] at h2
        exact h2.symm.trans ih
    obtain ⟨s, t, rfl⟩ : ∃ s t, l = s :: t := by
      cases l with
      | nil => exact absurd rfl h0
      | cons s t => exact ⟨s, t, rfl⟩
    have hs := h.can.ne s (by simp)
    have hb := h.bd s (by simp)
    have hin : Mem (s :: t) s.1 := ⟨s, by simp, Int.le_refl _, hs⟩
    have hps : PS P (s :: t) s.1 := (h.mem_PS.1 hin).2.2
    have hfull : ∀ x, 0 ≤ x → x < P → Mem (s :: t) x := fun x h1 h2 => by
      refine h.mem_PS.2 ⟨h1, h2, ?_⟩
      rcases Int.le_total s.1 x with g | g
      · have := hconst s.1 (x - s.1).toNat
        rw [show s.1 + (((x - s.1).toNat : Nat) : Int) = x by omega] at this
        exact this.2 hps
      · have := hconst x (s.1 - x).toNat
        rw [show x + (((s.1 - x).toNat : Nat) : Int) = s.1 by omega] at this
        exact this.1 hps
    refine hf (can_unique h.can (Can.one (by have := h.p1; simp only []; omega)) fun x => ?_)
    rw [mem_one]
    exact ⟨fun hx => h.mem hx, fun hx => hfull x hx.1 hx.2⟩
  · exact hz
theorem not_full {P : Int} {l : List Sp} (h : Std P l) (hf : l ≠ [(0, P)]) : ∀ s ∈ l, s.2 - s.1 < P := fun s hs => by
  have h1 := h.bd s hs
  have h2 := h.can.ne s hs
  rcases Int.lt_or_le (s.2 - s.1) P with g | g
  · exact g
  · exfalso
    refine hf (can_unique h.can (Can.one (by have := h.p1; simp only []; omega)) fun x => ?_)
    rw [mem_one]
    refine ⟨fun hx => h.mem hx, fun hx => ⟨s, hs, ?_, ?_⟩⟩
    · have := hx.1; simp only [] at this; omega
    · have := hx.2; simp only [] at this; omega
def mvS (q : Int) (l : List Sp) : List Sp := l.map fun s => (s.1 + q, s.2 + q)
theorem p_again_L1 {P q : Int} {l : List Sp} (h : Std P l) (hP : P ≤ 12622780800) (hl : l.length ≤ 100000) (hq : 1 ≤ q) (hq2 : q < P) (hn : ∀ s ∈ l, s.2 - s.1 < P) : loop (m_ref16_again_L1 std P l q) (0, ([] : List Sp)) = some ((mvS q l).flatMap (foldP P)) := by
  have h := loop_up (B := m_ref16_again_L1 std P l q) (n := l.length) (fun i => (mvS q (l.take i)).flatMap (foldP P)) (e := (mvS q l).flatMap (foldP P)) (by omega) (fun i hi => by
    have hs := h.bd l[i] (List.getElem_mem hi)
    have hs2 := h.can.ne l[i] (List.getElem_mem hi)
    have hs3 := hn l[i] (List.getElem_mem hi)
    rw [list_fr l hi] at hs hs2 hs3
    simp only [] at hs hs2 hs3
    have hlen := foldF_len P (mvS q (l.take i))
    have hml : (mvS q (l.take i)).length ≤ i := by unfold mvS; rw [List.length_map, List.length_take]; omega
    have e : (mvS q (l.take (i + 1))).flatMap (foldP P) = (mvS q (l.take i)).flatMap (foldP P) ++ foldP P (fr l i + q, tt l i + q) := by
      unfold mvS
      rw [take_succ' l hi, List.map_append, List.flatMap_append]
      simp
    rw [e, m_ref16_again_L1_eq]
    generalize (mvS q (l.take i)).flatMap (foldP P) = acc at *
    simp only [Int.toNat_natCast, fr_def, tt_def]
    refine bT (dT (by omega)) (gX (by omega) (gK hi (gI (by omega) (gI (by omega) (bB (v := acc ++ foldP P (fr l i + q, tt l i + q)) ?_ (gI (by omega) rfl))))))
    unfold foldP
    simp only []
    by_cases c1 : tt l i + q ≤ P
    · have m1 : (fr l i + q) % P = fr l i + q := Int.emod_eq_of_lt (by omega) (by omega)
      rw [m1, if_neg (by omega)]
      have m2 : mi (fr l i + q + (tt l i + q) - (fr l i + q)) P = tt l i + q := by unfold mi; split <;> omega
      rw [m2]
      exact bT (dT c1) (gR (by omega) (gR (by simp) rfl))
    · refine bF (dF c1) ?_
      by_cases c2 : P ≤ fr l i + q
      · have m1 : (fr l i + q) % P = fr l i + q - P := by
          rw [show fr l i + q = (fr l i + q - P) + P * 1 by omega, Int.add_mul_emod_self_left, Int.emod_eq_of_lt (by omega) (by omega)]; omega
        rw [m1, if_neg (by omega)]
        have m2 : mi (fr l i + q - P + (tt l i + q) - (fr l i + q)) P = tt l i + q - P := by unfold mi; split <;> omega
        rw [m2]
        exact bB (bT (dT c2) (gI (by omega) (gI (by omega) (gR (by omega) (gR (by simp) rfl))))) rfl
      · have m1 : (fr l i + q) % P = fr l i + q := Int.emod_eq_of_lt (by omega) (by omega)
        rw [m1, if_pos (by omega)]
        have m2 : mi (fr l i + q + (tt l i + q) - (fr l i + q)) P = P := by unfold mi; split <;> omega
        rw [m2]
        have m3 : fr l i + q + (tt l i + q) - (fr l i + q) - P = tt l i + q - P := by omega
        rw [m3]
        refine bB (bF (dF c2) (gR (by omega) (gR (by simp) (gI (by omega) (gR (by rw [List.length_append]; simp; omega) (gR (by simp) rfl)))))) ?_
        rw [List.append_assoc]; rfl) (by
    rw [m_ref16_again_L1_eq]
    refine bF (dF (by omega)) ?_
    simp only [List.take_length])
  exact h
theorem p_again {P q : Int} {l : List Sp} (h : Std P l) (hP : P ≤ 12622780800) (hl : l.length ≤ 1000) (hq : 1 ≤ q) (hq2 : q < P) (hf : l ≠ [(0, P)]) : m_ref16_again std P q l = some (invB P l q) := by
  have hn := not_full h hf
  have hlen : ((mvS q l).flatMap (foldP P)).length ≤ 2 * l.length := by
    have := foldF_len P (mvS q l)
    unfold mvS at this ⊢
    rw [List.length_map] at this
    exact this
  obtain ⟨r, er, r1, r2, r3⟩ := p_Combine (l := (mvS q l).flatMap (foldP P)) (by omega)
  have hmem : ∀ x, Mem r x ↔ 0 ≤ x ∧ x < P ∧ PS P l (x - q) := fun x => by
    rw [r2, MemF_mem h.p1 (fun s hs => by
      unfold mvS at hs
      obtain ⟨t, ht, rfl⟩ := List.mem_map.1 hs
      have := hn t ht
      simp only []; omega)]
    constructor
    · intro hx
      have hb := MemF_bd h.p1 hx
      exact ⟨hb.1, hb.2, (MemF_move h q hb.1 hb.2).1 hx⟩
    · rintro ⟨a, b, c⟩
      exact (MemF_move h q a b).2 c
  rw [m_ref16_again_eq, p_again_L1 h hP (by omega) hq hq2 hn]
  refine bB rfl (bB er (bB (p_Same r l (by omega)) (congrArg some ?_)))
  by_cases hi : InvQ P l q
  · rw [invB_t hi]
    refine dT (can_unique r1 h.can fun x => ?_)
    rw [hmem, h.mem_PS]
    refine and_congr_right fun _ => and_congr_right fun _ => ?_
    have := hi (x - q)
    rw [show x - q + q = x by omega] at this
    exact this.symm
  · rw [invB_f hi]
    refine dF fun e => hi ?_
    have key : ∀ x, 0 ≤ x → x < P → (PS P l (x - q) ↔ PS P l x) := fun x h1 h2 => by
      have a := hmem x
      rw [e, h.mem_PS] at a
      exact ⟨fun hx => (a.2 ⟨h1, h2, hx⟩).2.2, fun hx => (a.1 ⟨h1, h2, hx⟩).2.2⟩
    intro x
    obtain ⟨y, hy⟩ : ∃ y, (x + q) % P = y := ⟨_, rfl⟩
    have p1 := h.p1
    have y1 := Int.emod_nonneg (x + q) (show P ≠ 0 by omega)
    have y2 := Int.emod_lt_of_pos (x + q) (show 0 < P by omega)
    have hd := Int.emod_add_mul_ediv (x + q) P
    have k := key y (by omega) (by omega)
    have e1 : PS P l (x + q) ↔ PS P l y := by
      have := PS_per (P := P) (l := l) y ((x + q) / P)
      rw [show y + P * ((x + q) / P) = x + q by omega] at this
      exact this
    have e2 : PS P l x ↔ PS P l (y - q) := by
      have := PS_per (P := P) (l := l) (y - q) ((x + q) / P)
      rw [show y - q + P * ((x + q) / P) = x by omega] at this
      exact this
    rw [e1, e2]
    exact k.symm

/-! which sets are valid -/
theorem not_t {b : Bool} (h : (!b) = true) : b = false := by cases b <;> first | rfl | cases h
theorem not_f {b : Bool} (h : (!b) = false) : b = true := by cases b <;> first | rfl | cases h
theorem inv_one_of_trivial {P : Int} {l : List Sp} (h : Std P l) (ht : l = [] ∨ l = [(0, P)]) : InvQ P l 1 := by
  intro x
  rcases ht with rfl | rfl
  · unfold PS; exact ⟨fun h => absurd h (mem_nil _), fun h => absurd h (mem_nil _)⟩
  · have p1 := h.p1
    unfold PS
    rw [mem_one, mem_one]
    have a1 := Int.emod_nonneg (x + 1) (show P ≠ 0 by omega)
    have a2 := Int.emod_lt_of_pos (x + 1) (show 0 < P by omega)
    have b1 := Int.emod_nonneg x (show P ≠ 0 by omega)
    have b2 := Int.emod_lt_of_pos x (show 0 < P by omega)
    exact ⟨fun _ => ⟨b1, b2⟩, fun _ => ⟨a1, a2⟩⟩
theorem pv_trivial {P : Int} {l : List Sp} (h : Std P l) (hP2 : P ≤ 12622780800) (hn : l.length ≤ 2000) (ht : l = [] ∨ l = [(0, P)]) : (P == 1) = pvB P l := by
  by_cases e : P = 1
  · subst e
    rw [pvB_t ⟨⟨h, ⟨Int.le_refl _, Int.dvd_refl _, InvQ.self _ _, fun q hq _ _ => hq⟩⟩, hP2, hn⟩]
    rfl
  · rw [eF e, pvB_f fun v => e ?_]
    have := v.best.le 1 (Int.le_refl _) (Int.one_dvd _) (inv_one_of_trivial h ht)
    have := h.p1
    omega
theorem pv_by {P : Int} {l : List Sp} (h : Std P l) (hP2 : P ≤ 12622780800) (hn : l.length ≤ 2000) (h0 : l ≠ []) (hf : l ≠ [(0, P)]) (hk : ∀ k : Nat, 2 ≤ k → k ≤ 2 * l.length + 1 → (k : Int) ∣ P → ¬ InvQ P l (P / k)) : VP P l := by
  refine ⟨⟨h, h.p1, Int.dvd_refl _, InvQ.self _ _, fun q hq1 hq2 hqi => ?_⟩, hP2, hn⟩
  rcases Int.lt_or_le q P with g | g
  · exfalso
    obtain ⟨T', hT'⟩ := hq2
    have p1 := h.p1
    have hT0 : 0 < T' := by
      rcases Int.lt_or_le 0 T' with x | x
      · exact x
      · exfalso
        have := Int.mul_nonneg (show 0 ≤ q by omega) (show 0 ≤ -T' by omega)
        rw [Int.mul_neg] at this
        omega
    obtain ⟨T, rfl⟩ : ∃ T : Nat, T' = (T : Int) := ⟨T'.toNat, by omega⟩
    have hC := ch_ChL h (chS_cover h h0 hf)
    obtain ⟨k, k1, k2, _⟩ := hC.of_inv hq1 hT'.symm hqi
    have hlen := chL_len P l l
    rw [sortI_len] at k2
    have hTb : T ≤ 2 * l.length := by
      have := Nat.mul_le_mul_right T k1
      rw [Nat.one_mul] at this
      omega
    have hT2 : 2 ≤ T := by
      rcases Nat.lt_or_ge T 2 with x | x
      · have : T = 1 := by omega
        subst this
        simp at hT'
        omega
      · exact x
    have hdiv : P / (T : Int) = q := by
      rw [hT']
      exact Int.mul_ediv_cancel q (by omega)
    exact hk T hT2 (by omega) ⟨q, by rw [Int.mul_comm]; exact hT'⟩ (by rw [hdiv]; exact hqi)
  · exact g
theorem p_ref16_Periodic (P : Int) (l : List Sp) (hl : l.length ≤ 400) : m_ref16_Periodic std P l = some (pvB P l) := by
  rw [m_ref16_Periodic_eq]
  by_cases h1 : P < 1
  · rw [pvB_f fun v => by have := v.p1; omega]
    exact bB (v := true) (bT (dT h1) rfl) (bT rfl rfl)
  by_cases h2 : 12622780800 < P
  · rw [pvB_f fun v => by have := v.p2; omega]
    exact bB (v := true) (bF (dF h1) (bT (dT h2) rfl)) (bT rfl rfl)
  have hV := p_ref12_Valid l
  rw [dT (show l.length ≤ 2000 by omega), Bool.true_and] at hV
  cases hc : canB l with
  | false =>
    rw [hc] at hV
    rw [pvB_f fun v => by
      have : canB l = true := canB_iff.2 ⟨v.can, v.toStd.line v.p2⟩
      rw [this] at hc; cases hc]
    exact bB (v := true) (bF (dF h1) (bF (dF h2) (bB hV rfl))) (bT rfl rfl)
  | true =>
    rw [hc] at hV
    have hcan := (canB_iff.1 hc).1
    refine bB (v := false) (bF (dF h1) (bF (dF h2) (bB hV rfl))) (bF rfl ?_)
    have step : ∀ i, i < l.length → decide (0 ≤ fr l i ∧ tt l i ≤ P) = true → m_ref16_Periodic_L1 std P l (i : Int) = some (.inl ((i + 1 : Nat) : Int)) := fun i hi hp => by
      have hp := of_decide_eq_true hp
      rw [m_ref16_Periodic_L1_eq]
      simp only [Int.toNat_natCast, fr_def, tt_def]
      exact bT (dT (by omega)) (bB (v := false) (bF (dF (by omega)) (gX (by omega) (gK hi (congrArg some (dF (by omega)))))) (bF rfl (gI (by omega) rfl)))
    rcases first_or (fun i => decide (0 ≤ fr l i ∧ tt l i ≤ P)) l.length with g | ⟨k, hk, hp, hb⟩
    · have hstd : Std P l := ⟨by omega, hcan, fun s hs => by
        obtain ⟨i, hi, e⟩ := List.getElem_of_mem hs
        have := of_decide_eq_true (g i hi)
        rw [list_fr l hi] at e
        rw [← e]; exact this⟩
      refine bB (v := .inr ()) (loop_to' (B := m_ref16_Periodic_L1 std P l) (n := l.length) (fun i => (i : Int)) (by omega) (fun i hi => step i hi (g i hi)) (by rw [m_ref16_Periodic_L1_eq]; exact bF (dF (by omega)) rfl)) ?_
      by_cases ht : l = [] ∨ l = [(0, P)]
      · have hpt := pv_trivial hstd (by omega) (by omega) ht
        refine bB (v := true) ?_ (bT rfl (congrArg some hpt))
        rcases ht with rfl | rfl
        · rfl
        · refine bF rfl (bT rfl (bT rfl (gX (by simp) (gK (by simp) (congrArg some (eT rfl))))))
      · have h0 : l ≠ [] := fun e => ht (.inl e)
        have hf : l ≠ [(0, P)] := fun e => ht (.inr e)
        refine bB (v := false) ?_ (bF rfl ?_)
        · cases l with
          | nil => exact absurd rfl h0
          | cons s t =>
            refine bF (eF (by rw [List.length_cons]; omega)) ?_
            by_cases hl1 : t = []
            · subst hl1
              refine bT rfl ?_
              show (bif (s.1 == 0) then grd _ <| grd _ <| some (s.2 == P) else _) = _
              by_cases e1 : s.1 = 0
              · refine bT (eT e1) (gX (by simp) (gK (by simp) (congrArg some (eF fun e2 => hf ?_))))
                obtain ⟨a, b⟩ := s
                simp only [] at e1 e2
                rw [e1, e2]
              · exact bF (eF e1) (gX (by simp) (gK (by simp) rfl))
            · have : 0 < t.length := List.length_pos_iff.2 hl1
              exact bF (eF (by rw [List.length_cons]; omega)) rfl
        · -- the parts of the period
          have body : ∀ k : Nat, 2 ≤ k → k ≤ 2 * l.length + 1 → (Option.bind (bif ((Int.tmod P (k : Int)) == 0) then grd (okNz (k : Int)) <| grd (okI .i64 ((Int.tdiv P (k : Int)))) <| Option.bind (m_ref16_again std P ((Int.tdiv P (k : Int))) l) fun b49 => (some b49) else grd (okNz (k : Int)) <| (some false)) fun x181 => bif x181 then (some (Sum.inr (Sum.inl ())) : Option (Int ⊕ (Unit ⊕ Unit))) else grd (okI .i64 (((k : Int) + 1))) <| (some (Sum.inl ((k : Int) + 1)))) = (bif invB P l (P / k) && decide ((k : Int) ∣ P) then some (.inr (.inl ())) else some (.inl ((k + 1 : Nat) : Int))) := fun k hk1 hk2 => by
            have e1 : Int.tmod P (k : Int) = P % (k : Int) := Int.tmod_eq_emod_of_nonneg (by omega)
            have e2 : Int.tdiv P (k : Int) = P / (k : Int) := Int.tdiv_eq_ediv_of_nonneg (by omega)
            rw [e1, e2]
            by_cases hd : (k : Int) ∣ P
            · have hm := Int.emod_eq_zero_of_dvd hd
              obtain ⟨c, hc⟩ := hd
              have hdv : P / (k : Int) = c := by rw [hc]; exact Int.mul_ediv_cancel_left c (by omega)
              have hc1 : 1 ≤ c := by
                rcases Int.lt_or_le 0 c with x | x
                · exact x
                · exfalso
                  have := Int.mul_nonneg (show (0 : Int) ≤ (k : Int) by omega) (show 0 ≤ -c by omega)
                  rw [Int.mul_neg] at this
                  omega
              have hc2 : c < P := by
                have := Int.mul_le_mul_of_nonneg_right (show (2 : Int) ≤ (k : Int) by omega) (show 0 ≤ c by omega)
                omega
              rw [hdv, dT ⟨c, hc⟩, Bool.and_true]
              refine bB (v := invB P l c) (bT (eT hm) (gZ (by omega) (gI (by omega) (bB (p_again hstd (by omega) (by omega) hc1 hc2 hf) rfl)))) ?_
              cases invB P l c with
              | true => rfl
              | false => exact gI (by omega) rfl
            · have hm : ¬ P % (k : Int) = 0 := fun e => hd (Int.dvd_of_emod_eq_zero e)
              rw [dF hd, Bool.and_false]
              exact bB (v := false) (bF (eF hm) (gZ (by omega) rfl)) (gI (by omega) rfl)
          have stepk : ∀ i, i < 2 * l.length → (!(invB P l (P / ((i + 2 : Nat) : Int)) && decide (((i + 2 : Nat) : Int) ∣ P))) = true → m_ref16_Periodic_L2 std P l ((i + 2 : Nat) : Int) = some (.inl ((i + 1 + 2 : Nat) : Int)) := fun i hi hp => by
            rw [m_ref16_Periodic_L2_eq]
            refine gI (by omega) (gI (by omega) (bT (dT (by omega)) ?_))
            rw [body (i + 2) (by omega) (by omega)]
            have hp : (invB P l (P / ((i + 2 : Nat) : Int)) && decide (((i + 2 : Nat) : Int) ∣ P)) = false := not_t hp
            rw [hp]; rfl
          rcases first_or (fun i => !(invB P l (P / ((i + 2 : Nat) : Int)) && decide (((i + 2 : Nat) : Int) ∣ P))) (2 * l.length) with g | ⟨k, hk, hp, hb⟩
          · have hv : VP P l := pv_by hstd (by omega) (by omega) h0 hf fun k hk1 hk2 hkd hki => by
              have := g (k - 2) (by omega)
              rw [show k - 2 + 2 = k by omega, invB_t hki, dT hkd] at this
              cases this
            rw [pvB_t hv]
            have hL := loop_to' (B := m_ref16_Periodic_L2 std P l) (n := 2 * l.length) (fun i => ((i + 2 : Nat) : Int)) (e := .inr ()) (by omega) (fun i hi => stepk i hi (g i hi)) (by
              rw [m_ref16_Periodic_L2_eq]
              exact gI (by omega) (gI (by omega) (bF (dF (by omega)) rfl)))
            exact bB hL rfl
          · have hp : (invB P l (P / ((k + 2 : Nat) : Int)) && decide (((k + 2 : Nat) : Int) ∣ P)) = true := not_f hp
            have hp' := hp
            rw [Bool.and_eq_true, invB_iff, decide_eq_true_eq] at hp
            rw [pvB_f fun v => by
              obtain ⟨hi, c, hc⟩ := hp
              have hdv : P / ((k + 2 : Nat) : Int) = c := by
                rw [hc]; exact Int.mul_ediv_cancel_left c (by omega)
              rw [hdv] at hi
              have hc1 : 1 ≤ c := by
                rcases Int.lt_or_le 0 c with x | x
                · exact x
                · exfalso
                  have := Int.mul_nonneg (show (0 : Int) ≤ ((k + 2 : Nat) : Int) by omega) (show 0 ≤ -c by omega)
                  rw [Int.mul_neg] at this
                  omega
              have h3 := v.best.le c hc1 ⟨((k + 2 : Nat) : Int), by rw [Int.mul_comm]; exact hc⟩ hi
              have := Int.mul_le_mul_of_nonneg_right (show (2 : Int) ≤ ((k + 2 : Nat) : Int) by omega) (show 0 ≤ c by omega)
              omega]
            have hL := loop_to' (B := m_ref16_Periodic_L2 std P l) (n := k) (fun i => ((i + 2 : Nat) : Int)) (e := .inl ()) (by omega) (fun i hi => stepk i (by omega) (hb i hi)) (by
              rw [m_ref16_Periodic_L2_eq]
              refine gI (by omega) (gI (by omega) (bT (dT (by omega)) ?_))
              rw [body (k + 2) (by omega) (by omega), hp']; rfl)
            exact bB hL rfl
    · have hp := of_decide_eq_false hp
      rw [pvB_f fun v => hp (by
        have := v.bd l[k] (List.getElem_mem hk)
        rw [list_fr l hk] at this
        exact this)]
      refine bB (v := .inl ()) (loop_to' (B := m_ref16_Periodic_L1 std P l) (n := k) (fun i => (i : Int)) (by omega) (fun i hi => step i (by omega) (hb i hi)) ?_) rfl
      rw [m_ref16_Periodic_L1_eq]
      simp only [Int.toNat_natCast, fr_def, tt_def]
      refine bT (dT (by omega)) (bB (v := true) ?_ (bT rfl rfl))
      by_cases a : fr l k < 0
      · exact bT (dT a) (gX (by omega) (gK hk rfl))
      · exact bF (dF a) (gX (by omega) (gK hk (congrArg some (dT (by omega)))))

/-! covered spans -/
theorem bel_cover {P : Int} {l : List Sp} (h : Std P l) (a : Int) : ∀ n : Nat, bel P l (a + n) - bel P l a ≤ n ∧ (bel P l (a + n) - bel P l a = n ↔ ∀ x, a ≤ x → x < a + n → psB P l x = true) := by
  intro n
  induction n with
  | zero => simp; intro x h1 h2; omega
  | succ n ih =>
    have hs := bel_step h (a + n)
    have e : a + ((n + 1 : Nat) : Int) = a + n + 1 := by omega
    rw [e]
    have hb : bI (psB P l (a + n)) = if psB P l (a + n) = true then 1 else 0 := by
      cases psB P l (a + n) <;> rfl
    rw [hb] at hs
    refine ⟨?_, ?_⟩
    · split at hs <;> omega
    · by_cases hp : psB P l (a + n) = true
      · rw [if_pos hp] at hs
        constructor
        · intro hq x h1 h2
          by_cases hx : x < a + n
          · exact ih.2.1 (by omega) x h1 hx
          · have : x = a + n := by omega
            subst this; exact hp
        · intro hq
          have := ih.2.2 fun x h1 h2 => hq x h1 (by omega)
          omega
      · rw [if_neg hp] at hs
        constructor
        · intro hq; omega
        · intro hq; exact absurd (hq (a + n) (by omega) (by omega)) hp
theorem bel_full {P : Int} {l : List Sp} (h : Std P l) {a b : Int} (hab : a ≤ b) : (bel P l b - bel P l a = b - a) ↔ ∀ x, a ≤ x → x < b → psB P l x = true := by
  have := (bel_cover h a (b - a).toNat).2
  rw [show a + (((b - a).toNat : Nat) : Int) = b by omega, show (((b - a).toNat : Nat) : Int) = b - a by omega] at this
  exact this
/-- the end of the span in which a number lies, else the number itself -/
theorem p_cov_L1 {l : List Sp} (h : Can l) (hl : l.length ≤ 100000) (x : Int) : ∃ t, loop (m_ref16_covered_L1 std x l) (x, 0) = some t ∧ ((memB l x = false ∧ t = x) ∨ ∃ j, j < l.length ∧ fr l j ≤ x ∧ x < tt l j ∧ t = tt l j) := by
  have hh := loop_is (B := m_ref16_covered_L1 std x l) (fun s => ∃ i : Nat, s.2 = (i : Int) ∧ i ≤ l.length ∧ ((s.1 = x ∧ ∀ j, j < i → ¬ (fr l j ≤ x ∧ x < tt l j)) ∨ ∃ j, j < l.length ∧ fr l j ≤ x ∧ x < tt l j ∧ s.1 = tt l j)) (fun s => (100001 - s.2).toNat)
    (fun t => (memB l x = false ∧ t = x) ∨ ∃ j, j < l.length ∧ fr l j ≤ x ∧ x < tt l j ∧ t = tt l j) (y := (x, 0)) ⟨0, rfl, Nat.zero_le _, .inl ⟨rfl, fun j hj => by omega⟩⟩ (by show (100001 - (0 : Int)).toNat < _; decide) (fun s hs => by
      obtain ⟨to, s2⟩ := s
      obtain ⟨i, rfl, hi, hc⟩ := hs
      simp only [] at hc
      rw [m_ref16_covered_L1_eq]
      by_cases c : i < l.length
      · simp only [Int.toNat_natCast, fr_def, tt_def]
        by_cases hx : fr l i ≤ x ∧ x < tt l i
        · refine ⟨.inl (tt l i, (i : Int) + 1), bT (dT (by omega)) (bB (v := true) (bT (dT hx.1) (gX (by omega) (gK c (congrArg some (dT hx.2))))) (bB (v := tt l i) (bT rfl rfl) (gI (by omega) rfl))), ⟨i + 1, rfl, c, .inr ⟨i, c, hx.1, hx.2, rfl⟩⟩, by simp only []; omega⟩
        · refine ⟨.inl (to, (i : Int) + 1), bT (dT (by omega)) (bB (v := false) ?_ (bB (v := to) (bF rfl rfl) (gI (by omega) rfl))), ⟨i + 1, rfl, c, ?_⟩, by simp only []; omega⟩
          · by_cases h1 : fr l i ≤ x
            · exact bT (dT h1) (gX (by omega) (gK c (congrArg some (dF fun h2 => hx ⟨h1, h2⟩))))
            · exact bF (dF h1) (gX (by omega) (gK c rfl))
          · rcases hc with ⟨e, hn⟩ | hc
            · refine .inl ⟨e, fun j hj => ?_⟩
              rcases Nat.lt_or_ge j i with g | g
              · exact hn j g
              · have : j = i := by omega
                subst this; exact hx
            · exact .inr hc
      · refine ⟨.inr to, bF (dF (by omega)) rfl, ?_⟩
        rcases hc with ⟨e, hn⟩ | hc
        · refine .inl ⟨memB_false.2 fun hm => ?_, e⟩
          obtain ⟨j, hj, a, b⟩ := mem_idx.1 hm
          exact hn j (by omega) ⟨a, b⟩
        · exact .inr hc)
  exact hh
theorem p_covered {P a b : Int} {l : List Sp} (v : VP P l) (hab : a < b) (ha : -4398046511104 ≤ a) (hb : b ≤ 4398046511104) : m_ref16_covered std P a b l = some (bel P l b - bel P l a == b - a) := by
  have h := v.toStd
  have p1 := v.p1
  have p2 := v.p2
  have n2 := v.n2
  have hfull := bel_full h (a := a) (b := b) (by omega)
  rw [m_ref16_covered_eq]
  by_cases ht : l = [(0, P)]
  · have : bel P l b - bel P l a = b - a := hfull.2 fun x _ _ => by
      rw [psB_iff]
      unfold PS
      rw [ht, mem_one]
      exact ⟨Int.emod_nonneg x (by omega), Int.emod_lt_of_pos x (by omega)⟩
    rw [eT this]
    refine bB (v := true) ?_ (bT rfl rfl)
    subst ht
    exact bT rfl (bT rfl (gX (by simp) (gK (by simp) (congrArg some (eT rfl)))))
  · refine bB (v := false) ?_ (bF rfl ?_)
    · by_cases hl1 : l.length = 1
      · refine bT (eT (by omega)) ?_
        show (bif (fr l 0 == 0) then grd _ <| grd _ <| some (tt l 0 == P) else _) = _
        by_cases e1 : fr l 0 = 0
        · refine bT (eT e1) (gX (by omega) (gK (by show Int.toNat 0 < l.length; rw [hl1]; decide) (congrArg some (eF fun e2 => ht ?_))))
          match l, hl1 with
          | [s], _ =>
            obtain ⟨c, d⟩ := s
            have e1' : c = 0 := e1
            have e2' : d = P := e2
            rw [e1', e2']
        · exact bF (eF e1) (gX (by omega) (gK (by show Int.toNat 0 < l.length; rw [hl1]; decide) rfl))
      · exact bF (eF (by omega)) rfl
    · have hm0 := Int.emod_nonneg a (show P ≠ 0 by omega)
      have hm1 := Int.emod_lt_of_pos a (show 0 < P by omega)
      have hd := Int.emod_add_mul_ediv a P
      have hfl : m_ref01_Floor std a P = some (a / P) := by
        rw [m_ref01_Floor_eq, p_ref01_Div a P (by omega) (by omega) p1 (by omega)]; rfl
      have e0 : a - P * (a / P) = a % P := by omega
      refine bB hfl (gI (by omega) ?_)
      rw [e0]
      refine gI (by omega) (gI (by omega) ?_)
      obtain ⟨e, he, hq⟩ : ∃ e, loop (m_ref16_covered_L2 std P l) (a % P, b - a) = some e ∧ ((e = .inl () ∧ ¬ ∀ x, a ≤ x → x < b → psB P l x = true) ∨ (e = .inr () ∧ ∀ x, a ≤ x → x < b → psB P l x = true)) := by
        refine loop_is (B := m_ref16_covered_L2 std P l) (fun s => ∃ x, a ≤ x ∧ s.1 = x % P ∧ s.2 = b - x ∧ -13000000000 ≤ s.2 ∧ ∀ y, a ≤ y → y < x → psB P l y = true) (fun s => (s.2 + 13000000001).toNat) (fun e => (e = .inl () ∧ ¬ ∀ x, a ≤ x → x < b → psB P l x = true) ∨ (e = .inr () ∧ ∀ x, a ≤ x → x < b → psB P l x = true)) ⟨a, Int.le_refl _, rfl, rfl, by simp only []; omega, fun y h1 h2 => by omega⟩ (by simp only []; omega) (fun s hs => ?_)
        obtain ⟨at', rest⟩ := s
        obtain ⟨x, hx1, hx2, hx3, hx4, hx5⟩ := hs
        simp only [] at hx2 hx3 hx4
        subst hx2 hx3
        have a0 := Int.emod_nonneg x (show P ≠ 0 by omega)
        have a1 := Int.emod_lt_of_pos x (show 0 < P by omega)
        rw [m_ref16_covered_L2_eq]
        by_cases c : 0 < b - x
        · obtain ⟨t, et, ht⟩ := p_cov_L1 h.can (by omega) (x % P)
          rcases ht with ⟨hn, rfl⟩ | ⟨j, hj, j1, j2, rfl⟩
          · refine ⟨.inr (.inl ()), bT (dT c) (bB et (bT (eT rfl) rfl)), .inl ⟨rfl, fun hall => ?_⟩⟩
            have := hall x hx1 (by omega)
            unfold psB at this
            rw [hn] at this; cases this
          · have hbd := h.bd l[j] (List.getElem_mem hj)
            rw [list_fr l hj] at hbd
            simp only [] at hbd
            have hmod : Int.tmod (tt l j) P = (x + (tt l j - x % P)) % P := by
              rw [Int.tmod_eq_emod_of_nonneg (by omega)]
              have hdx := Int.emod_add_mul_ediv x P
              have e3 : x + (tt l j - x % P) = tt l j + P * (x / P) := by omega
              rw [e3, Int.add_mul_emod_self_left]
            refine ⟨.inl (Int.tmod (tt l j) P, b - x - (tt l j - x % P)), bT (dT c) (bB et (bF (eF (by omega)) (gI (by omega) (gI (by omega) (gZ (by omega) rfl))))), ⟨x + (tt l j - x % P), by omega, hmod, by simp only []; omega, by simp only []; omega, fun y h1 h2 => ?_⟩, by simp only []; omega⟩
            by_cases hy : y < x
            · exact hx5 y h1 hy
            · rw [psB_iff]
              unfold PS
              have hdx := Int.emod_add_mul_ediv x P
              have e4 : y % P = x % P + (y - x) := by
                have e5 : y = (x % P + (y - x)) + P * (x / P) := by omega
                rw [e5, Int.add_mul_emod_self_left]
                rw [← e5]
                exact Int.emod_eq_of_lt (by omega) (by omega)
              rw [e4]
              exact mem_idx.2 ⟨j, hj, by omega, by omega⟩
        · exact ⟨.inr (.inr ()), bF (dF c) rfl, .inr ⟨rfl, fun y h1 h2 => hx5 y h1 (by omega)⟩⟩
      rcases hq with ⟨rfl, hq⟩ | ⟨rfl, hq⟩
      · rw [eF fun e => hq (hfull.1 e)]
        exact bB he rfl
      · rw [eT (hfull.2 hq)]
        exact bB he rfl
end Go.Proofs.Ytebkfbkgmbgobaa.Pe
