/-
  Areas as sums over times (out of XZP, XZP2).
-/
import Derived.Test.YtkdffpncpikdmaaT10
namespace Go.Proofs.Ytkdffpncpikdmaa
open Go.RowKit
theorem chk0_ok {l : List Rc} (h : lvB l = true) (hl : l.length ≤ 500) : chk0 l = 0 := by unfold chk0; rw [if_pos h, if_pos hl]
def meas : List Sp → Int
  | [] => 0
  | s :: l => (s.2 - s.1) + meas l
theorem meas_bd : ∀ {l : List Sp} {a hi : Int}, Can l → (∀ s ∈ l, a ≤ s.1 ∧ s.2 ≤ hi) → a ≤ hi → 0 ≤ meas l ∧ meas l ≤ hi - a := by
  intro l
  induction l with
  | nil => intro a hi _ _ h; exact ⟨Int.le_refl _, by show (0 : Int) ≤ _; omega⟩
  | cons s l ih =>
    intro a hi hc h hah
    have h1 := hc.ne s (by simp)
    have h2 := h s (by simp)
    have h3 := (List.pairwise_cons.1 hc.pw).1
    have h4 := ih (a := s.2) (hi := hi) hc.tail (fun t ht => ⟨by have := h3 t ht; omega, (h t (by simp [ht])).2⟩) h2.2
    show 0 ≤ (s.2 - s.1) + meas l ∧ (s.2 - s.1) + meas l ≤ hi - a
    omega
theorem meas_snoc (l : List Sp) (s : Sp) : meas (l ++ [s]) = meas l + (s.2 - s.1) := by
  induction l with
  | nil => simp [meas]
  | cons t l ih => show (t.2 - t.1) + meas (l ++ [s]) = (t.2 - t.1) + meas l + (s.2 - s.1); rw [ih]; omega
theorem TimeL.meas {l : List Sp} (h : TimeL l) : 0 ≤ meas l ∧ meas l ≤ 315537897600 := by
  have := meas_bd h.can h.line (by omega)
  omega
theorem p_Measure {l : List Sp} (h : TimeL l) (hn : l.length ≤ 2000) : m_runs_Measure std l = some (meas l) := by
  have hh := loop_to' (B := m_runs_Measure_L1 std l) (n := l.length) (fun i => (meas (l.take i), (i : Int))) (e := meas l) (by omega) (fun i hi => by
    have hc : Can (l.take i) := ⟨fun s hs => h.can.ne s (List.mem_of_mem_take hs), h.can.pw.sublist (List.take_sublist _ _)⟩
    have h1 := meas_bd hc (fun s hs => h.line s (List.mem_of_mem_take hs)) (by omega)
    have h2 := h.can.ne' hi
    have h3 := h.line l[i] (List.getElem_mem hi)
    rw [list_fr l hi] at h3
    simp only [] at h3
    rw [m_runs_Measure_L1_eq]
    simp only [Int.toNat_natCast, fr_def, tt_def]
    refine bT (dT (by omega)) (gX (by omega) (gK hi (gI (by omega) (gI (by omega) (gI (by omega) ?_)))))
    rw [List.take_succ_eq_append_getElem hi, list_fr l hi, meas_snoc]; rfl) (by
    rw [m_runs_Measure_L1_eq]
    refine bF (dF (by omega)) ?_
    simp only [List.take_length])
  have hh' : loop (m_runs_Measure_L1 std l) (0, 0) = some (meas l) := hh
  rw [m_runs_Measure_eq, p_runs_Valid', dT hn, canB_iff.2 ⟨h.can, h.onLine⟩]
  exact bB rfl (bF rfl (bB hh' rfl))

/-! sums over time -/
def sumF (f : Int → Int) : Nat → Int
  | 0 => 0
  | n + 1 => sumF f n + f (-62135596800 + n)
theorem sumF_congr {f g : Int → Int} (h : ∀ t, f t = g t) (n : Nat) : sumF f n = sumF g n := by
  induction n with
  | zero => rfl
  | succ n ih => show sumF f n + f _ = sumF g n + g _; rw [ih, h]
theorem sumF_add (f g : Int → Int) (n : Nat) : sumF (fun t => f t + g t) n = sumF f n + sumF g n := by
  induction n with
  | zero => rfl
  | succ n ih =>
    show sumF (fun t => f t + g t) n + (f (-62135596800 + n) + g (-62135596800 + n)) = (sumF f n + f (-62135596800 + n)) + (sumF g n + g (-62135596800 + n))
    rw [ih]; omega
theorem sumF_zero (n : Nat) : sumF (fun _ => 0) n = 0 := by
  induction n with
  | zero => rfl
  | succ n ih => show sumF _ n + 0 = 0; rw [ih]; rfl
/-- m between two times -/
def ind (a b m : Int) (t : Int) : Int := if a ≤ t ∧ t < b then m else 0
/-- the part of a span of times that lies before a time -/
def cl (a b x : Int) : Int := if x ≤ a then 0 else if b ≤ x then b - a else x - a
theorem cl_in {a b x : Int} (h : a ≤ x ∧ x < b) : cl a b (x + 1) = cl a b x + 1 := by
  unfold cl
  repeat' split
  all_goals omega
theorem cl_out {a b x : Int} (hab : a ≤ b) (h : ¬ (a ≤ x ∧ x < b)) : cl a b (x + 1) = cl a b x := by
  unfold cl
  repeat' split
  all_goals omega
theorem sumF_ind {a b m : Int} (ha : -62135596800 ≤ a) (hab : a ≤ b) : ∀ n : Nat, sumF (ind a b m) n = cl a b (-62135596800 + n) * m := by
  intro n
  induction n with
  | zero =>
    have : cl a b (-62135596800 + ((0 : Nat) : Int)) = 0 := by
      unfold cl
      exact if_pos (by omega)
    rw [this, Int.zero_mul]; rfl
  | succ n ih =>
    have e : -62135596800 + ((n + 1 : Nat) : Int) = (-62135596800 + (n : Int)) + 1 := by omega
    show sumF (ind a b m) n + ind a b m (-62135596800 + n) = _
    rw [ih, e]
    unfold ind
    by_cases h : a ≤ -62135596800 + (n : Int) ∧ -62135596800 + (n : Int) < b
    · rw [if_pos h, cl_in h, Int.add_mul, Int.one_mul]
    · rw [if_neg h, cl_out hab h, Int.add_zero]
theorem sumF_ind' {a b m : Int} (ha : -62135596800 ≤ a) (hab : a ≤ b) (hb : b ≤ 253402300800) : sumF (ind a b m) 315537897600 = (b - a) * m := by
  rw [sumF_ind ha hab]
  have : cl a b (-62135596800 + ((315537897600 : Nat) : Int)) = b - a := by
    unfold cl
    repeat' split
    all_goals omega
  rw [this]
/-! the area, by ends -/
def arP (es : List Int) (l : List Rc) : Nat → Int
  | 0 => 0
  | n + 1 => arP es l n + (eAt es (n + 1) - eAt es n) * meas (tS l (eAt es n))
theorem tS_meas {l : List Rc} (h : lvB l = true) (t : Int) : 0 ≤ meas (tS l t) ∧ meas (tS l t) ≤ 315537897600 := (tS_time h t).meas
theorem arP_mono {es : List Int} (hes : es.Pairwise (· < ·)) {l : List Rc} (h : lvB l = true) : ∀ {i j : Nat}, i ≤ j → j ≤ es.length - 1 → arP es l i ≤ arP es l j := by
  intro i j hij
  induction j with
  | zero => intro _; have : i = 0 := by omega
            subst this; exact Int.le_refl _
  | succ j ih =>
    intro hj
    rcases Nat.lt_or_ge i (j + 1) with h1 | h1
    · have h2 := ih (by omega) (by omega)
      have h3 := eAt_lt hes j (by omega)
      have h4 := (tS_meas h (eAt es j)).1
      have h5 : 0 ≤ (eAt es (j + 1) - eAt es j) * meas (tS l (eAt es j)) := Int.mul_nonneg (by omega) h4
      show _ ≤ arP es l j + _
      omega
    · have : i = j + 1 := by omega
      subst this; exact Int.le_refl _
theorem p_rectangle_Area_L1 {l : List Rc} (hl : l.length ≤ 1000000) : loop (m_rectangle_Area_L1 std l) (0, ([] : List Int)) = some (txE l) := by
  have h := loop_up (B := m_rectangle_Area_L1 std l) (n := l.length) (fun i => txE (l.take i)) (e := txE l) (by omega) (fun i hi => by
    have hlen := txE_len (l.take i)
    rw [List.length_take] at hlen
    rw [txE_take hi, m_rectangle_Area_L1_eq]
    generalize txE (l.take i) = acc at *
    simp only [Int.toNat_natCast]
    exact bT (dT (by omega)) (gX (by omega) (gK hi (gR (by omega) (gR (by simp) (gI (by omega) rfl)))))) (by
    rw [m_rectangle_Area_L1_eq]
    refine bF (dF (by omega)) ?_
    show some (Sum.inr (txE (l.take l.length))) = _
    rw [List.take_length])
  exact h
theorem endS_time {l : List Rc} (h : lvB l = true) : ∀ x ∈ endS l, -62135596800 ≤ x ∧ x ≤ 253402300800 := fun x hx => by
  have h1 := ((endS_ok l).2.1 x).1 hx
  unfold txE at h1
  obtain ⟨r, hr, h2⟩ := List.mem_flatMap.1 h1
  have := lvB_iff.1 h r hr
  simp only [List.mem_cons, List.not_mem_nil, or_false] at h2
  rcases h2 with rfl | rfl <;> omega
theorem mul64_is {x y : Int} (hx : 0 ≤ x ∧ x < 18446744073709551616) (hy : 0 ≤ y ∧ y < 18446744073709551616) : m_bits_Mul64 std x y = some (x * y / 18446744073709551616, x * y % 18446744073709551616) := by
  unfold m_bits_Mul64 okU
  rw [dT hx, dT hy]; rfl
theorem add64_is {x y : Int} (hx : 0 ≤ x ∧ x < 18446744073709551616) (hy : 0 ≤ y ∧ y < 18446744073709551616) : m_bits_Add64 std x y 0 = some ((x + y) % 18446744073709551616, (x + y) / 18446744073709551616) := by
  unfold m_bits_Add64 okU
  rw [dT hx, dT hy]; rfl
theorem p_Area_L2 {l : List Rc} (h : lvB l = true) (hl : l.length ≤ 500) : loop (m_rectangle_Area_L2 std (endS l) l) (0, 0) = some (if arP (endS l) l ((endS l).length - 1) ≤ 9223372036854775807 then .inr (arP (endS l) l ((endS l).length - 1)) else .inl ()) := by
  obtain ⟨k1, k2, k3⟩ := endS_ok l
  have ht := endS_time h
  generalize endS l = es at *
  have hlt := eAt_lt k1
  have hin : ∀ i, i < es.length → -62135596800 ≤ eAt es i ∧ eAt es i ≤ 253402300800 := fun i hi => ht _ (eAt_mem.2 ⟨i, hi, rfl⟩)
  have hlp := loop_is (B := m_rectangle_Area_L2 std es l) (y := (0, 0)) (fun y => ∃ i : Nat, y = (arP es l i, (i : Int)) ∧ i ≤ es.length - 1 ∧ arP es l i ≤ 9223372036854775807) (fun y => es.length - y.2.toNat)
    (fun e => e = if arP es l (es.length - 1) ≤ 9223372036854775807 then .inr (arP es l (es.length - 1)) else .inl ()) ⟨0, rfl, Nat.zero_le _, by show (0 : Int) ≤ _; omega⟩ (by show _ - _ < _; omega) (by
    rintro y ⟨i, rfl, hi, hs⟩
    rw [m_rectangle_Area_L2_eq]
    by_cases hi1 : i + 1 < es.length
    · have e1 : Int.toNat ((i : Int) + 1) = i + 1 := by omega
      have g1 : List.getD es i 0 = eAt es i := rfl
      have g2 : List.getD es (i + 1) 0 = eAt es (i + 1) := rfl
      simp only [e1, Int.toNat_natCast, g1, g2]
      have b1 := hin i (by omega)
      have b2 := hin (i + 1) (by omega)
      have b3 := hlt i (by omega)
      obtain ⟨m1, m2⟩ := tS_meas h (eAt es i)
      have hm0 := arP_mono k1 h (Nat.zero_le i) hi
      have hmn := arP_mono k1 h (show i + 1 ≤ es.length - 1 by omega) (Nat.le_refl _)
      have hnx : arP es l (i + 1) = arP es l i + (eAt es (i + 1) - eAt es i) * meas (tS l (eAt es i)) := rfl
      have hz : arP es l 0 = 0 := rfl
      rw [hz] at hm0
      obtain ⟨p, hp⟩ : ∃ p, (eAt es (i + 1) - eAt es i) * meas (tS l (eAt es i)) = p := ⟨_, rfl⟩
      have hp0 : 0 ≤ p := by rw [← hp]; exact Int.mul_nonneg (by omega) m1
      rw [hp] at hnx
      have hM := mul64_is (x := eAt es (i + 1) - eAt es i) (y := meas (tS l (eAt es i))) (by omega) (by omega)
      rw [hp] at hM
      have q1 : 0 ≤ meas (tS l (eAt es i)) ∧ meas (tS l (eAt es i)) ≤ 18446744073709551615 := ⟨m1, Int.le_trans m2 (by decide)⟩
      have hA := add64_is (x := arP es l i) (y := p % 18446744073709551616) (by omega) (by omega)
      have pre : ∀ {r : (Int × Int) ⊕ (Unit ⊕ Int)}, (Option.bind (bif (!(p / 18446744073709551616 == 0)) then (some true) else bif (!((arP es l i + p % 18446744073709551616) / 18446744073709551616 == 0)) then (some true) else (some (decide (9223372036854775807 < (arP es l i + p % 18446744073709551616) % 18446744073709551616))) : Option Bool) fun x76 => bif x76 then (some (Sum.inr (Sum.inl ()))) else (some (Sum.inl ((arP es l i + p % 18446744073709551616) % 18446744073709551616, ((i : Int) + 1)))) : Option ((Int × Int) ⊕ (Unit ⊕ Int))) = some r → (grd (okI .i64 ((i : Int) + 1)) <| bif (decide (((i : Int) + 1) < (((List.length es) : Nat) : Int))) then
          grd (okIdx ((i : Int) + 1) ((List.length es))) <| grd (okKin (i + 1) ((List.length es))) <| grd (okIdx (i : Int) ((List.length es))) <| grd (okKin i ((List.length es))) <|
          grd (okI .i64 (eAt es (i + 1) - eAt es i)) <| grd (okI .u64 (eAt es (i + 1) - eAt es i)) <|
          Option.bind (m_rectangle_times std (eAt es i) l) fun l65 => Option.bind (m_runs_Measure std l65) fun n51 => grd (okI .u64 n51) <|
          Option.bind (m_bits_Mul64 std (eAt es (i + 1) - eAt es i) n51) fun (n52, n53) => Option.bind (m_bits_Add64 std (arP es l i) n53 0) fun (n54, n55) =>
          Option.bind (bif (!(n52 == 0)) then (some true) else bif (!(n55 == 0)) then (some true) else (some (decide (9223372036854775807 < n54))) : Option Bool) fun x76 =>
          bif x76 then (some (Sum.inr (Sum.inl ()))) else (some (Sum.inl (n54, ((i : Int) + 1))))
        else (some (Sum.inr (Sum.inr (arP es l i)))) : Option ((Int × Int) ⊕ (Unit ⊕ Int))) = some r := fun {r} hr =>
        gI (x := (i : Int) + 1) (by omega) (bT (c := decide (((i : Int) + 1) < ((es.length : Nat) : Int))) (dT (by omega)) (gX (i := (i : Int) + 1) (n := es.length) (by omega) (gK (i := i + 1) (n := es.length) (by omega) (gX (i := (i : Int)) (n := es.length) (by omega) (gK (i := i) (n := es.length) (by omega) (gI (x := eAt es (i + 1) - eAt es i) (by omega) (gU (x := eAt es (i + 1) - eAt es i) (by omega) (bB (p_times h (by omega) (eAt es i)) (bB (p_Measure (tS_time h (eAt es i)) (by have := tS_len h (eAt es i); omega)) (gU (x := meas (tS l (eAt es i))) q1 (bB hM (bB hA hr))))))))))))
      by_cases hbig : arP es l i + p ≤ 9223372036854775807
      · refine ⟨.inl (arP es l (i + 1), ((i + 1 : Nat) : Int)), pre (bB (v := false) (bF (nF (eT (by omega))) (bF (nF (eT (by omega))) (congrArg some (dF (by omega))))) (bF rfl ?_)), ⟨i + 1, rfl, by omega, by omega⟩, ?_⟩
        · have e3 : (arP es l i + p % 18446744073709551616) % 18446744073709551616 = arP es l (i + 1) := by omega
          rw [e3]; rfl
        · show es.length - Int.toNat ((i + 1 : Nat) : Int) < es.length - Int.toNat (i : Int)
          omega
      · refine ⟨.inr (.inl ()), pre (bB (v := true) ?_ (bT rfl rfl)), ?_⟩
        · by_cases c1 : p / 18446744073709551616 = 0
          · refine bF (nF (eT c1)) ?_
            by_cases c2 : (arP es l i + p % 18446744073709551616) / 18446744073709551616 = 0
            · exact bF (nF (eT c2)) (congrArg some (dT (by omega)))
            · exact bT (nT (eF c2)) rfl
          · exact bT (nT (eF c1)) rfl
        · rw [if_neg (by omega)]
    · have hil : i = es.length - 1 := by omega
      refine ⟨.inr (.inr (arP es l i)), gI (by omega) (bF (dF (by omega)) rfl), ?_⟩
      rw [← hil, if_pos hs])
  obtain ⟨e, h1, rfl⟩ := hlp
  exact h1
/-- the area, where it is a number of 64 bits -/
def areaV (x : Int) : Int := if x ≤ 9223372036854775807 then x else -1
theorem p_Area {l : List Rc} (h : lvB l = true) (hl : l.length ≤ 500) : m_rectangle_Area std l = some (areaV (arP (endS l) l ((endS l).length - 1))) := by
  have h1 := p_Area_L2 h hl
  have h0 := arP_mono (endS_ok l).1 h (Nat.zero_le ((endS l).length - 1)) (Nat.le_refl _)
  rw [m_rectangle_Area_eq]
  refine bB (p_check_2 l (by omega)) (bF (nF (eT (chk0_ok h hl))) (bB (p_rectangle_Area_L1 (by omega)) (bB (v := sortI (txE l)) ?_ (bB (v := endS l) ?_ (bB h1 ?_)))))
  · rw [m_sortI_eq]; exact gR (by rw [txE_len]; omega) rfl
  · rw [m_compI_eq]; exact gR (by rw [sortI_len, txE_len]; omega) rfl
  · unfold areaV
    by_cases hb : arP (endS l) l ((endS l).length - 1) ≤ 9223372036854775807
    · rw [if_pos hb, if_pos hb]
      exact gI (by have : arP (endS l) l 0 = 0 := rfl
                   omega) rfl
    · rw [if_neg hb, if_neg hb]
def pgF (es : List Int) (l : List Rc) : Nat → Int → Int
  | 0, _ => 0
  | n + 1, t => pgF es l n t + ind (eAt es n) (eAt es (n + 1)) (meas (tS l (eAt es n))) t
theorem pgF_sum {es : List Int} (hes : es.Pairwise (· < ·)) (hb : ∀ i, i < es.length → -62135596800 ≤ eAt es i ∧ eAt es i ≤ 253402300800) {l : List Rc} : ∀ n, n ≤ es.length - 1 → sumF (pgF es l n) 315537897600 = arP es l n := by
  intro n
  induction n with
  | zero => intro _; exact sumF_zero _
  | succ n ih =>
    intro hn
    have h1 := hb n (by omega)
    have h2 := hb (n + 1) (by omega)
    have h3 := eAt_lt hes n (by omega)
    have e : sumF (pgF es l (n + 1)) 315537897600 = sumF (fun t => pgF es l n t + ind (eAt es n) (eAt es (n + 1)) (meas (tS l (eAt es n))) t) 315537897600 := rfl
    rw [e, sumF_add, ih (by omega), sumF_ind' h1.1 (by omega) h2.2]; rfl
theorem pgF_at {es : List Int} (hes : es.Pairwise (· < ·)) {l : List Rc} : ∀ n, n ≤ es.length - 1 → (∀ i, i < n → ∀ t, eAt es i ≤ t → t < eAt es (i + 1) → pgF es l n t = meas (tS l (eAt es i))) ∧ ∀ t, t < eAt es 0 ∨ eAt es n ≤ t → pgF es l n t = 0 := by
  intro n
  induction n with
  | zero => intro _; exact ⟨fun i h => (by omega), fun t _ => rfl⟩
  | succ n ih =>
    intro hn
    obtain ⟨h1, h2⟩ := ih (by omega)
    have hlt := eAt_lt hes
    have h3 := hlt n (by omega)
    have h4 := asc_le hlt 0 n (by omega) (by omega)
    refine ⟨fun i hi t ht1 ht2 => ?_, fun t ht => ?_⟩
    · show pgF es l n t + ind _ _ _ t = _
      unfold ind
      rcases Nat.lt_or_ge i n with h | h
      · have := asc_le hlt (i + 1) n (by omega) (by omega)
        rw [if_neg (by omega), h1 i h t ht1 ht2]; omega
      · have : i = n := by omega
        subst this
        rw [if_pos ⟨ht1, ht2⟩, h2 t (.inr ht1)]; omega
    · show pgF es l n t + ind _ _ _ t = 0
      unfold ind
      rw [if_neg (by omega), h2 t (by omega)]; rfl
theorem tS_eq {l : List Rc} (h : lvB l = true) {t u : Int} (he : ∀ x, inL l x t = inL l x u) : tS l t = tS l u :=
  can_unique (tS_time h t).can (tS_time h u).can fun x => by rw [← memB_iff, ← memB_iff, tS_memB h, tS_memB h, he]
theorem tS_none {l : List Rc} (h : lvB l = true) {t : Int} (he : ∀ x, inL l x t = false) : tS l t = [] :=
  can_unique (tS_time h t).can Can.nil fun x => by
    rw [← memB_iff, ← memB_iff, tS_memB h, he]; rfl
theorem area_sum {l : List Rc} (h : lvB l = true) : arP (endS l) l ((endS l).length - 1) = sumF (fun t => meas (tS l t)) 315537897600 := by
  obtain ⟨k1, k2, _⟩ := endS_ok l
  have ht := endS_time h
  have hbs : ∀ i, i < (endS l).length → -62135596800 ≤ eAt (endS l) i ∧ eAt (endS l) i ≤ 253402300800 := fun i hi => ht _ (eAt_mem.2 ⟨i, hi, rfl⟩)
  rw [← pgF_sum k1 hbs _ (Nat.le_refl _)]
  symm
  refine sumF_congr (fun t => ?_) _
  have hin : ∀ x ∈ txE l, x ∈ endS l := fun x hx => (k2 x).2 hx
  obtain ⟨p1, p2⟩ := pgF_at (l := l) k1 _ (Nat.le_refl ((endS l).length - 1))
  rcases eAt_find k1 t with h1 | h1 | ⟨i, hi, h1, h2⟩
  · rw [tS_none h fun x => inL_out (.inl fun y hy => h1 y (hin y hy)) x]
    rcases Nat.eq_zero_or_pos (endS l).length with hz | hz
    · have : (endS l).length - 1 = 0 := by omega
      rw [this]; rfl
    · rw [p2 t (.inl (h1 _ (eAt_mem.2 ⟨0, hz, rfl⟩)))]; rfl
  · rw [tS_none h fun x => inL_out (.inr fun y hy => h1 y (hin y hy)) x]
    rcases Nat.eq_zero_or_pos (endS l).length with hz | hz
    · have : (endS l).length - 1 = 0 := by omega
      rw [this]; rfl
    · rw [p2 t (.inr (h1 _ (eAt_mem.2 ⟨(endS l).length - 1, by omega, rfl⟩)))]; rfl
  · rw [p1 i hi t h1 h2, tS_eq h fun x => inL_same k1 hin hi h1 h2 x]
end Go.Proofs.Ytkdffpncpikdmaa
