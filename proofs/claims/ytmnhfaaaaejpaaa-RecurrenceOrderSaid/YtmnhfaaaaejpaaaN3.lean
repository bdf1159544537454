/-
  RecurrenceIndices, RecurrenceDaily, RecurrenceYearly: the plain laws.
  RecurrencePeriods: lists in a range, sets, how many times a day has, which rules are valid.
-/
import Derived.Test.YtmnhfaaaaejpaaaN1
namespace Go.Proofs.Ytmnhfaaaaejpaaa
open Go.RowKit

theorem p_Matches_far (f : Int) (hf : f = 1 ∨ f = 4) {N start l : Int} (h1 : 1 ≤ N) (h2 : N ≤ 1000) (hs : locB start = true) (hl : locB l = false) :
    m_recurrence_Matches std f N 0 0 1 start l [] [] [] [] [] [] [] [] [] = some (false, 2) := by
  rw [m_recurrence_Matches_eq]
  exact bB (p_given_nil f hf h1 h2 hs) (bF rfl (bB (by rw [p_recurrence_local, hl]) (bT rfl rfl)))

end Go.Proofs.Ytmnhfaaaaejpaaa
namespace Go.Proofs.Ytmnhfaaaaejpaaa
open Go.RowKit

/-! lists in a range -/
theorem all_getD {α : Type} {l : List α} {d : α} {f : α → Bool} : l.all f = true ↔ ∀ i, i < l.length → f (l.getD i d) = true := by
  rw [List.all_eq_true]
  constructor
  · intro h i hi
    rw [List.getD_eq_getElem?_getD, List.getElem?_eq_getElem hi]
    exact h _ (List.getElem_mem _)
  · intro h x hx
    obtain ⟨i, hi, e⟩ := List.getElem_of_mem hx
    have := h i hi
    rw [List.getD_eq_getElem?_getD, List.getElem?_eq_getElem hi] at this
    rw [← e]; exact this
theorem all_not {α : Type} {l : List α} {d : α} {f : α → Bool} {k : Nat} (hk : k < l.length) (h : f (l.getD k d) = false) : l.all f = false := by
  cases e : l.all f with
  | false => rfl
  | true => rw [all_getD.1 e k hk] at h; cases h
def inRg (low high : Int) (s : Bool) (n : Int) : Bool := decide (low ≤ n ∧ n ≤ high) || (s && decide (0 - high ≤ n ∧ n ≤ 0 - low))
def lstB (low high : Int) (s : Bool) (l : List Int) : Bool := decide ((l.length : Int) ≤ 60) && l.all (inRg low high s)
theorem p_between_1 {n low high : Int} {s : Bool} (h1 : 0 ≤ low) (h2 : low ≤ high) (h3 : high ≤ 100000) : m_recurrence_between_1 std n low high s = some (!inRg low high s n) := by
  rw [m_recurrence_between_1_eq]
  unfold inRg
  have neg : s = true → (bif decide (0 - high ≤ n) then grd (okI .i64 (0 - high)) <| grd (okI .i64 (0 - low)) <| some (!(decide (n ≤ 0 - low)), true) else grd (okI .i64 (0 - high)) <| some (!false, true)) = some (!(s && decide (0 - high ≤ n ∧ n ≤ 0 - low)), true) := fun hs => by
    subst hs
    by_cases b : 0 - high ≤ n
    · refine bT (dT b) (gI (by omega) (gI (by omega) ?_))
      by_cases c : n ≤ 0 - low
      · rw [dT c, dT (show 0 - high ≤ n ∧ n ≤ 0 - low from ⟨b, c⟩)]; rfl
      · rw [dF c, dF (show ¬ (0 - high ≤ n ∧ n ≤ 0 - low) from fun h => c h.2)]; rfl
    · refine bF (dF b) (gI (by omega) ?_)
      rw [dF (show ¬ (0 - high ≤ n ∧ n ≤ 0 - low) from fun h => b h.1)]; rfl
  by_cases a : n < low
  · rw [dF (show ¬ (low ≤ n ∧ n ≤ high) by omega), Bool.false_or]
    cases s with
    | false => exact bB (v := (true, false)) (bT (dT a) rfl) rfl
    | true => exact bB (bT (dT a) (bT rfl (neg rfl))) rfl
  · by_cases c : high < n
    · rw [dF (show ¬ (low ≤ n ∧ n ≤ high) by omega), Bool.false_or]
      cases s with
      | false => exact bB (v := (true, false)) (bF (dF a) (bT (dT c) rfl)) rfl
      | true => exact bB (bF (dF a) (bT (dT c) (bT rfl (neg rfl)))) rfl
    · rw [dT (show low ≤ n ∧ n ≤ high by omega), Bool.true_or]
      exact bB (v := (false, s)) (bF (dF a) (bF (dF c) rfl)) rfl
theorem p_containsRg {l : List Int} {low high : Int} {s : Bool} (h1 : 0 ≤ low) (h2 : low ≤ high) (h3 : high ≤ 100000) (hl : (l.length : Int) ≤ 60) : m_slices_ContainsFunc std l low high s = some (!l.all (inRg low high s)) := by
  rw [m_slices_ContainsFunc_eq]
  have step : ∀ i, i < l.length → inRg low high s (l.getD i 0) = true → m_slices_IndexFunc_L1 std low high s l (i : Int) = some (.inl ((i + 1 : Nat) : Int)) := fun i hi hp => by
    rw [m_slices_IndexFunc_L1_eq]
    exact bT (dT (by omega)) (gX (by omega) (gK (by omega) (bB (p_between_1 h1 h2 h3) (by rw [Int.toNat_natCast, hp]; exact bF rfl (gI (by omega) rfl)))))
  rcases first_or (fun i => inRg low high s (l.getD i 0)) l.length with h | ⟨k, hk, hp, hb⟩
  · rw [all_getD.2 h]
    have : m_slices_IndexFunc std l low high s = some (-1) := by
      rw [m_slices_IndexFunc_eq]
      refine bB (v := .inr ()) (loop_to' (B := m_slices_IndexFunc_L1 std low high s l) (n := l.length) (fun i => (i : Int)) (by omega) (fun i hi => step i hi (h i hi)) ?_) rfl
      rw [m_slices_IndexFunc_L1_eq]; exact bF (dF (by omega)) rfl
    exact bB this rfl
  · rw [all_not hk hp]
    have : m_slices_IndexFunc std l low high s = some (k : Int) := by
      rw [m_slices_IndexFunc_eq]
      refine bB (v := .inl (k : Int)) (loop_to' (B := m_slices_IndexFunc_L1 std low high s l) (n := k) (fun i => (i : Int)) (by omega) (fun i hi => step i (by omega) (hb i hi)) ?_) rfl
      rw [m_slices_IndexFunc_L1_eq]
      exact bT (dT (by omega)) (gX (by omega) (gK (by omega) (bB (p_between_1 h1 h2 h3) (by rw [Int.toNat_natCast]; rw [hp]; exact bT rfl rfl))))
    exact bB this (congrArg some (dT (by omega)))
theorem p_between {l : List Int} {low high : Int} {s : Bool} (h1 : 0 ≤ low) (h2 : low ≤ high) (h3 : high ≤ 100000) : m_recurrence_between std low high s l = some (lstB low high s l) := by
  rw [m_recurrence_between_eq]
  unfold lstB
  by_cases h : (l.length : Int) ≤ 60
  · rw [dT h]
    exact bB (bT rfl (bB (p_containsRg h1 h2 h3 h) rfl)) (by simp)
  · rw [dF h]
    exact bB (v := false) (bF rfl rfl) rfl
theorem in_or {m low high : Int} : (bif decide (m < low) then some true else some (decide (high < m))) = some (!decide (low ≤ m ∧ m ≤ high)) := by
  by_cases a : m < low
  · exact bT (dT a) (congrArg some (by rw [dF (show ¬ (low ≤ m ∧ m ≤ high) by omega)]; rfl))
  · refine bF (dF a) (congrArg some ?_)
    by_cases c : high < m
    · rw [dT c, dF (show ¬ (low ≤ m ∧ m ≤ high) by omega)]; rfl
    · rw [dF c, dT (show low ≤ m ∧ m ≤ high by omega)]; rfl
/-! days with numbers -/
def ordB (f : Int) (x : Int × Int) : Bool := decide (1 ≤ x.2 ∧ x.2 ≤ 7 ∧ -53 ≤ x.1 ∧ x.1 ≤ 53 ∧ (x.1 = 0 ∨ f = 1 ∨ f = 2))
theorem ord_bad (f : Int) (x : Int × Int) : (bif decide (x.2 < 1) then some true else bif decide (7 < x.2) then some true else bif decide (x.1 < -53) then some true else bif decide (53 < x.1) then some true else bif !(x.1 == 0) then (bif !(f == 1) then some (!(f == 2)) else some false) else some false) = some (!ordB f x) := by
  obtain ⟨n, w⟩ := x
  unfold ordB
  simp only []
  by_cases a : w < 1
  · exact bT (dT a) (congrArg some (by rw [dF (by omega)]; rfl))
  refine bF (dF a) ?_
  by_cases b : 7 < w
  · exact bT (dT b) (congrArg some (by rw [dF (by omega)]; rfl))
  refine bF (dF b) ?_
  by_cases c : n < -53
  · exact bT (dT c) (congrArg some (by rw [dF (by omega)]; rfl))
  refine bF (dF c) ?_
  by_cases d : 53 < n
  · exact bT (dT d) (congrArg some (by rw [dF (by omega)]; rfl))
  refine bF (dF d) ?_
  by_cases e : n = 0
  · exact bF (nF (eT e)) (congrArg some (by rw [dT (by omega)]; rfl))
  refine bT (nT (eF e)) ?_
  by_cases g : f = 1
  · exact bF (nF (eT g)) (congrArg some (by rw [dT (by omega)]; rfl))
  refine bT (nT (eF g)) (congrArg some ?_)
  by_cases h : f = 2
  · rw [eT h, dT (by omega)]
  · rw [eF h, dF (by omega)]
theorem p_recurrence_days_at (f : Int) (l : List (Int × Int)) (i : Nat) (hi : i < l.length) (hl : (l.length : Int) ≤ 60) : m_recurrence_Valid_L1 std f l (i : Int) = (bif ordB f (l.getD i (0, 0)) then some (.inl ((i + 1 : Nat) : Int)) else some (.inr (.inl ()))) := by
  rw [m_recurrence_Valid_L1_eq]
  refine bT (dT (by omega)) (gX (by omega) (gK (by omega) ?_))
  rw [Int.toNat_natCast, ord_bad]
  cases ordB f (l.getD i (0, 0)) with
  | true => exact gI (by omega) rfl
  | false => rfl
theorem p_recurrence_days (f : Int) (l : List (Int × Int)) (hl : (l.length : Int) ≤ 60) : loop (m_recurrence_Valid_L1 std f l) 0 = some (bif l.all (ordB f) then (Sum.inr () : Unit ⊕ Unit) else Sum.inl ()) := by
  rcases first_or (fun i => ordB f (l.getD i (0, 0))) l.length with g | ⟨k, hk, hp, hb⟩
  · rw [all_getD.2 g]
    refine loop_to' (B := m_recurrence_Valid_L1 std f l) (n := l.length) (fun i => (i : Int)) (by omega) (fun i hi => ?_) ?_
    · rw [p_recurrence_days_at f l i hi hl]; rw [g i hi]; rfl
    · rw [m_recurrence_Valid_L1_eq]; exact bF (dF (by omega)) rfl
  · rw [all_not hk hp]
    refine loop_to' (B := m_recurrence_Valid_L1 std f l) (n := k) (fun i => (i : Int)) (by omega) (fun i hi => ?_) ?_
    · try simp only [] at hb
      rw [p_recurrence_days_at f l i (by omega) hl, hb i hi]; rfl
    · try simp only [] at hp
      rw [p_recurrence_days_at f l k hk hl, hp]; rfl
theorem p_ref29_daysL_at (f : Int) (l : List (Int × Int)) (i : Nat) (hi : i < l.length) (hl : (l.length : Int) ≤ 60) : m_ref29_days_L1 std f l (i : Int) = (bif ordB f (l.getD i (0, 0)) then some (.inl ((i + 1 : Nat) : Int)) else some (.inr (.inl ()))) := by
  rw [m_ref29_days_L1_eq]
  refine bT (dT (by omega)) (gX (by omega) (gK (by omega) ?_))
  rw [Int.toNat_natCast, ord_bad]
  cases ordB f (l.getD i (0, 0)) with
  | true => exact gI (by omega) rfl
  | false => rfl
theorem p_ref29_daysL (f : Int) (l : List (Int × Int)) (hl : (l.length : Int) ≤ 60) : loop (m_ref29_days_L1 std f l) 0 = some (bif l.all (ordB f) then (Sum.inr () : Unit ⊕ Unit) else Sum.inl ()) := by
  rcases first_or (fun i => ordB f (l.getD i (0, 0))) l.length with g | ⟨k, hk, hp, hb⟩
  · rw [all_getD.2 g]
    refine loop_to' (B := m_ref29_days_L1 std f l) (n := l.length) (fun i => (i : Int)) (by omega) (fun i hi => ?_) ?_
    · rw [p_ref29_daysL_at f l i hi hl]; rw [g i hi]; rfl
    · rw [m_ref29_days_L1_eq]; exact bF (dF (by omega)) rfl
  · rw [all_not hk hp]
    refine loop_to' (B := m_ref29_days_L1 std f l) (n := k) (fun i => (i : Int)) (by omega) (fun i hi => ?_) ?_
    · try simp only [] at hb
      rw [p_ref29_daysL_at f l i (by omega) hl, hb i hi]; rfl
    · try simp only [] at hp
      rw [p_ref29_daysL_at f l k hk hl, hp]; rfl
def dayL (f : Int) (l : List (Int × Int)) : Bool := decide ((l.length : Int) ≤ 60) && l.all (ordB f)

/-! sets -/
theorem asc_uniq : ∀ {a b : List Int}, a.Pairwise (· < ·) → b.Pairwise (· < ·) → (∀ x, x ∈ a ↔ x ∈ b) → a = b := by
  intro a
  induction a with
  | nil =>
    intro b _ _ h
    cases b with
    | nil => rfl
    | cons y t => exact absurd ((h y).2 List.mem_cons_self) (List.not_mem_nil)
  | cons x s ih =>
    intro b ha hb h
    cases b with
    | nil => exact absurd ((h x).1 List.mem_cons_self) (List.not_mem_nil)
    | cons y t =>
      obtain ⟨a1, a2⟩ := List.pairwise_cons.1 ha
      obtain ⟨b1, b2⟩ := List.pairwise_cons.1 hb
      have e : x = y := by
        rcases List.mem_cons.1 ((h x).1 List.mem_cons_self) with g | g
        · exact g
        · rcases List.mem_cons.1 ((h y).2 List.mem_cons_self) with k | k
          · exact k.symm
          · have := a1 y k
            have := b1 x g
            omega
      subst e
      refine congrArg (List.cons x) (ih a2 b2 fun z => ?_)
      constructor
      · intro hz
        rcases List.mem_cons.1 ((h z).1 (List.mem_cons_of_mem _ hz)) with g | g
        · have := a1 z hz; omega
        · exact g
      · intro hz
        rcases List.mem_cons.1 ((h z).2 (List.mem_cons_of_mem _ hz)) with g | g
        · have := b1 z hz; omega
        · exact g
/-- the elements of a list, ascending, each of them once -/
def setL (l : List Int) : List Int := Lib.compact (sortI l)
theorem setL_ok (l : List Int) : (setL l).Pairwise (· < ·) ∧ ∀ x, x ∈ setL l ↔ x ∈ l := by
  obtain ⟨h1, h2⟩ := compI_ok (sortI_sorted l)
  exact ⟨h1, fun x => (h2 x).trans (sortI_perm _).mem_iff⟩
theorem setL_len (l : List Int) : (setL l).length ≤ l.length := by
  have h3 : (setL l).length ≤ (sortI l).length := compI_len _
  rw [sortI_len] at h3; exact h3
theorem p_recurrence_set {l : List Int} (hl : (l.length : Int) ≤ 100) : m_recurrence_set std l = some (setL l) := by
  rw [m_recurrence_set_eq]
  refine bB (v := l) (by rw [m_clone_i1_eq]; exact gR (by omega) rfl) (bB (v := sortI l) (by rw [m_sortI_eq]; exact gR (by omega) rfl) (bB (v := setL l) (by rw [m_compI_eq]; exact gR (by rw [sortI_len]; omega) rfl) rfl))
theorem getD_mem {l : List Int} {i : Nat} (h : i < l.length) : l.getD i 0 ∈ l := by
  rw [List.getD_eq_getElem?_getD, List.getElem?_eq_getElem h]
  exact List.getElem_mem _
/-! the times of a day -/
def partL (o : Int) (l : List Int) : List Int := if l = [] then [o] else setL l
theorem p_times_1 {o : Int} {l : List Int} (hl : (l.length : Int) ≤ 100) : m_recurrence_times_1 std o l = some (partL o l) := by
  rw [m_recurrence_times_1_eq]
  cases l with
  | nil => rfl
  | cons x t => exact bF (eF (by rw [List.length_cons]; omega)) (bB (p_recurrence_set hl) (by rw [partL, if_neg (by simp)]))
theorem partL_len {o : Int} {l : List Int} (hl : (l.length : Int) ≤ 100) : (partL o l).length ≤ 100 := by
  unfold partL
  split
  · simp
  · have := setL_len l; omega
theorem partL_mem {o : Int} {l : List Int} (ho : 0 ≤ o ∧ o ≤ 100000) (h : ∀ x ∈ l, 0 ≤ x ∧ x ≤ 100000) : ∀ x ∈ partL o l, 0 ≤ x ∧ x ≤ 100000 := by
  intro x hx
  unfold partL at hx
  split at hx
  · rw [List.mem_singleton.1 hx]; exact ho
  · exact h x (((setL_ok l).2 x).1 hx)
section
variable {hs ms ss : List Int} (bh : ∀ x ∈ hs, 0 ≤ x ∧ x ≤ 100000) (bm : ∀ x ∈ ms, 0 ≤ x ∧ x ≤ 100000) (bs : ∀ x ∈ ss, 0 ≤ x ∧ x ≤ 100000) (lh : hs.length ≤ 100) (lm : ms.length ≤ 100) (ls : ss.length ≤ 100)
include bh bm bs ls in
theorem p_times_L2 {i j : Nat} (hi : i < hs.length) (hj : j < ms.length) {out : List Int} (ho : out.length ≤ 10000000) :
    ∃ r, loop (m_recurrence_times_L2 std ms ss hs (i : Int) (j : Int)) (0, out) = some r ∧ r.length = out.length + ss.length := by
  refine loop_is (B := m_recurrence_times_L2 std ms ss hs (i : Int) (j : Int)) (fun s => ∃ k : Nat, s.1 = (k : Int) ∧ k ≤ ss.length ∧ s.2.length = out.length + k) (fun s => (100 - s.1).toNat) (fun r => r.length = out.length + ss.length) ⟨0, rfl, Nat.zero_le _, rfl⟩ (by show (100 - (0 : Int)).toNat < _; decide) (fun s hs' => ?_)
  obtain ⟨s1, o⟩ := s
  obtain ⟨k, rfl, hk, hl⟩ := hs'
  simp only [] at hl
  rw [m_recurrence_times_L2_eq]
  by_cases c : k < ss.length
  · have x1 := bh _ (getD_mem hi)
    have x2 := bm _ (getD_mem hj)
    have x3 := bs _ (getD_mem c)
    refine ⟨.inl ((k : Int) + 1, o ++ [3600 * hs.getD i 0 + 60 * ms.getD j 0 + ss.getD k 0]), bT (dT (by omega)) ?_, ⟨k + 1, rfl, c, by simp only []; rw [List.length_append, hl]; rfl⟩, by simp only []; omega⟩
    simp only [Int.toNat_natCast]
    generalize hs.getD i 0 = x at *
    generalize ms.getD j 0 = y at *
    generalize ss.getD k 0 = z at *
    exact gX (by omega) (gK (by omega) (gI (by omega) (gI (by omega) (gI (by omega) (gI (by omega) (gR (by omega) (gR (by simp) (gI (by omega) rfl))))))))
  · exact ⟨.inr o, bF (dF (by omega)) rfl, by simp only []; omega⟩
include bh bm bs lm ls in
theorem p_times_L3 {i : Nat} (hi : i < hs.length) {out : List Int} (ho : out.length ≤ 1000000) :
    ∃ r, loop (m_recurrence_times_L3 std ms ss hs (i : Int)) (0, out) = some r ∧ r.length = out.length + ms.length * ss.length := by
  refine loop_is (B := m_recurrence_times_L3 std ms ss hs (i : Int)) (fun s => ∃ k : Nat, s.1 = (k : Int) ∧ k ≤ ms.length ∧ s.2.length = out.length + k * ss.length) (fun s => (100 - s.1).toNat) (fun r => r.length = out.length + ms.length * ss.length) ⟨0, rfl, Nat.zero_le _, by simp⟩ (by show (100 - (0 : Int)).toNat < _; decide) (fun s hs' => ?_)
  obtain ⟨s1, o⟩ := s
  obtain ⟨k, rfl, hk, hl⟩ := hs'
  simp only [] at hl
  rw [m_recurrence_times_L3_eq]
  by_cases c : k < ms.length
  · have hb : k * ss.length ≤ 100 * 100 := Nat.mul_le_mul (by omega) ls
    obtain ⟨r, er, hr⟩ := p_times_L2 bh bm bs ls hi c (out := o) (by omega)
    refine ⟨.inl ((k : Int) + 1, r), bT (dT (by omega)) (gX (by omega) (gK (by omega) (bB er (gI (by omega) rfl)))), ⟨k + 1, rfl, c, ?_⟩, by simp only []; omega⟩
    simp only []
    rw [hr, hl, Nat.succ_mul, Nat.add_assoc]
  · have e : k = ms.length := by omega
    subst e
    exact ⟨.inr o, bF (dF (by omega)) rfl, hl⟩
include bh bm bs lh lm ls in
theorem p_times_L4 : ∃ r, loop (m_recurrence_times_L4 std ms ss hs) (0, []) = some r ∧ r.length = hs.length * (ms.length * ss.length) := by
  refine loop_is (B := m_recurrence_times_L4 std ms ss hs) (fun s => ∃ k : Nat, s.1 = (k : Int) ∧ k ≤ hs.length ∧ s.2.length = k * (ms.length * ss.length)) (fun s => (100 - s.1).toNat) (fun r => r.length = hs.length * (ms.length * ss.length)) ⟨0, rfl, Nat.zero_le _, by simp⟩ (by show (100 - (0 : Int)).toNat < _; decide) (fun s hs' => ?_)
  obtain ⟨s1, o⟩ := s
  obtain ⟨k, rfl, hk, hl⟩ := hs'
  simp only [] at hl
  rw [m_recurrence_times_L4_eq]
  by_cases c : k < hs.length
  · have hb1 : ms.length * ss.length ≤ 100 * 100 := Nat.mul_le_mul lm ls
    have hb : k * (ms.length * ss.length) ≤ 100 * (100 * 100) := Nat.mul_le_mul (by omega) hb1
    obtain ⟨r, er, hr⟩ := p_times_L3 bh bm bs lm ls c (out := o) (by omega)
    refine ⟨.inl ((k : Int) + 1, r), bT (dT (by omega)) (gX (by omega) (gK (by omega) (bB er (gI (by omega) rfl)))), ⟨k + 1, rfl, c, ?_⟩, by simp only []; omega⟩
    simp only []
    rw [hr, hl, Nat.succ_mul]
  · have e : k = hs.length := by omega
    subst e
    exact ⟨.inr o, bF (dF (by omega)) rfl, hl⟩
end
/-- how many different elements a list has; other, if it is empty -/
def numL (o : Nat) (l : List Int) : Nat := if l = [] then o else (setL l).length
def hrN (f : Int) : Nat := if f = 5 then 24 else 1
theorem hours_loop : ∃ l, loop (m_recurrence_times_L1 std) (0, ([] : List Int)) = some l ∧ l.length = 24 ∧ ∀ x ∈ l, 0 ≤ x ∧ x ≤ 100000 :=
  ⟨[0, 1, 2, 3, 4, 5, 6, 7, 8, 9, 10, 11, 12, 13, 14, 15, 16, 17, 18, 19, 20, 21, 22, 23], by kernel_rfl, rfl, by decide⟩
theorem partL_num (o : Int) (l : List Int) : (partL o l).length = numL 1 l := by
  unfold partL numL
  split <;> rfl
theorem p_times0 (f N c u w : Int) (r6 r7 r8 r9 : List Int) (r10 : List (Int × Int)) {h m s : List Int} (r14 : List Int) (lh : (h.length : Int) ≤ 100) (lm : (m.length : Int) ≤ 100) (ls : (s.length : Int) ≤ 100)
    (bh : ∀ x ∈ h, 0 ≤ x ∧ x ≤ 100000) (bm : ∀ x ∈ m, 0 ≤ x ∧ x ≤ 100000) (bs : ∀ x ∈ s, 0 ≤ x ∧ x ≤ 100000) :
    ∃ r, m_recurrence_times std f N c u w 0 r6 r7 r8 r9 r10 h m s r14 = some r ∧ r.length = numL (hrN f) h * (numL 1 m * numL 1 s) := by
  have z : (0 : Int) ≤ 0 ∧ (0 : Int) ≤ 100000 := by omega
  obtain ⟨hs, e9, n9, l9, b9⟩ : ∃ hs, (Option.bind (Option.bind (bif ((((List.length h) : Nat) : Int) == 0) then (some (f == 5)) else (some false)) fun x57 => bif x57 then Option.bind (loop (m_recurrence_times_L1 std) (0, ([] : List Int))) fun l7 => (some l7) else (some (partL 0 h))) fun q => some q) = some hs ∧ hs.length = numL (hrN f) h ∧ hs.length ≤ 100 ∧ ∀ x ∈ hs, 0 ≤ x ∧ x ≤ 100000 := by
    by_cases c1 : h = [] ∧ f = 5
    · obtain ⟨rfl, rfl⟩ := c1
      obtain ⟨l, e, hl, hb⟩ := hours_loop
      exact ⟨l, bB (bB (v := true) rfl (bT rfl (bB e rfl))) rfl, by rw [hl]; rfl, by omega, hb⟩
    · refine ⟨partL 0 h, bB (bB (v := false) ?_ (bF rfl rfl)) rfl, ?_, partL_len lh, partL_mem z bh⟩
      · cases h with
        | nil => exact congrArg some (eF fun e => c1 ⟨rfl, e⟩)
        | cons x t => exact bF (eF (by rw [List.length_cons]; omega)) rfl
      · unfold partL numL hrN
        split
        · rename_i e; rw [if_neg fun g => c1 ⟨e, g⟩]; rfl
        · rfl
  obtain ⟨r, er, hr⟩ := p_times_L4 b9 (partL_mem z bm) (partL_mem z bs) l9 (partL_len lm) (partL_len ls)
  refine ⟨r, ?_, by rw [hr, n9, partL_num, partL_num]⟩
  rw [m_recurrence_times_eq]
  refine bB (p_integer_Mod 0 86400 (by omega) (by omega) (by omega) (by omega)) (gZ (by omega) (gI (by decide) (bB (p_times_1 lh) ?_)))
  revert e9
  generalize (bif ((((List.length h) : Nat) : Int) == 0) then (some (f == 5)) else (some false) : Option Bool) = q
  intro e9
  cases q with
  | none => cases e9
  | some q =>
    refine bB (v := q) rfl ?_
    have e10 : (bif q then Option.bind (loop (m_recurrence_times_L1 std) (0, ([] : List Int))) fun l7 => (some l7) else (some (partL 0 h))) = some hs := by
      revert e9
      simp only [Option.bind_some, Option.bind_fun_some]
      exact fun h => h
    exact bB e10 (gZ (by omega) (gI (by decide) (bB (p_times_1 lm) (bB (p_times_1 ls) (bB er rfl)))))

/-! which rules are valid -/
def untB (c u : Int) : Bool := (u == 0) || (locB u && (c == 0))
def wksB (f : Int) (l : List Int) : Bool := !(decide (0 < (((List.length l) : Nat) : Int))) || (f == 1)
structure Rec where
  f : Int
  N : Int
  c : Int
  u : Int
  w : Int
  mo : List Int
  md : List Int
  yd : List Int
  wk : List Int
  dy : List (Int × Int)
  h : List Int
  m : List Int
  s : List Int
  ps : List Int
def tmsB (r : Rec) : Bool := decide (((numL (hrN r.f) r.h * (numL 1 r.m * numL 1 r.s) : Nat) : Int) ≤ 1440)
def vldB (r : Rec) : Bool :=
  decide (1 ≤ r.f ∧ r.f ≤ 5) && (decide (1 ≤ r.N ∧ r.N ≤ 1000) && (decide (1 ≤ r.w ∧ r.w ≤ 7) && (decide (0 ≤ r.c ∧ r.c ≤ 1000) && (untB r.c r.u &&
  (lstB 1 12 false r.mo && (lstB 1 31 true r.md && (lstB 1 366 true r.yd && (lstB 1 53 true r.wk && (lstB 0 23 false r.h && (lstB 0 59 false r.m && (lstB 0 59 false r.s && (lstB 1 366 true r.ps &&
  (wksB r.f r.wk && (dayL r.f r.dy && tmsB r))))))))))))))
theorem lst_ok {low high : Int} {l : List Int} (h0 : 0 ≤ low) (h1 : high ≤ 1000) (h : lstB low high false l = true) : (l.length : Int) ≤ 100 ∧ ∀ x ∈ l, 0 ≤ x ∧ x ≤ 100000 := by
  unfold lstB at h
  rw [Bool.and_eq_true, decide_eq_true_eq, List.all_eq_true] at h
  refine ⟨by omega, fun x hx => ?_⟩
  have := h.2 x hx
  unfold inRg at this
  simp at this
  omega
theorem unt_1 {c u : Int} : (bif !(u == 0) then Option.bind (m_recurrence_local std u) fun b1 => (bif !b1 then some true else some (!(c == 0))) else some false) = some (!untB c u) := by
  rw [p_recurrence_local]
  unfold untB
  cases (u == 0) <;> cases (locB u) <;> cases (c == 0) <;> rfl
theorem wks_1 {f : Int} {l : List Int} : (bif decide (0 < (((List.length l) : Nat) : Int)) then some (!(f == 1)) else some false) = some (!wksB f l) := by
  unfold wksB
  cases decide (0 < (((List.length l) : Nat) : Int)) <;> cases (f == 1) <;> rfl
theorem p_Valid (r : Rec) : m_recurrence_Valid std r.f r.N r.c r.u r.w r.mo r.md r.yd r.wk r.dy r.h r.m r.s r.ps = some (vldB r) := by
  rw [m_recurrence_Valid_eq]
  simp only [in_or, unt_1, wks_1, p_between (l := r.mo) (low := 1) (high := 12) (s := false) (by omega) (by omega) (by omega), p_between (l := r.md) (low := 1) (high := 31) (s := true) (by omega) (by omega) (by omega), p_between (l := r.yd) (low := 1) (high := 366) (s := true) (by omega) (by omega) (by omega), p_between (l := r.wk) (low := 1) (high := 53) (s := true) (by omega) (by omega) (by omega), p_between (l := r.h) (low := 0) (high := 23) (s := false) (by omega) (by omega) (by omega), p_between (l := r.m) (low := 0) (high := 59) (s := false) (by omega) (by omega) (by omega), p_between (l := r.s) (low := 0) (high := 59) (s := false) (by omega) (by omega) (by omega), p_between (l := r.ps) (low := 1) (high := 366) (s := true) (by omega) (by omega) (by omega)]
  unfold vldB
  cases decide (1 ≤ r.f ∧ r.f ≤ 5) with | false => rfl | true =>
  cases decide (1 ≤ r.N ∧ r.N ≤ 1000) with | false => rfl | true =>
  cases decide (1 ≤ r.w ∧ r.w ≤ 7) with | false => rfl | true =>
  cases decide (0 ≤ r.c ∧ r.c ≤ 1000) with | false => rfl | true =>
  cases untB r.c r.u with | false => rfl | true =>
  cases lstB 1 12 false r.mo with | false => rfl | true =>
  cases lstB 1 31 true r.md with | false => rfl | true =>
  cases lstB 1 366 true r.yd with | false => rfl | true =>
  cases lstB 1 53 true r.wk with | false => rfl | true =>
  cases hh : lstB 0 23 false r.h with | false => rfl | true =>
  cases hm : lstB 0 59 false r.m with | false => rfl | true =>
  cases hs : lstB 0 59 false r.s with | false => rfl | true =>
  cases lstB 1 366 true r.ps with | false => rfl | true =>
  cases wksB r.f r.wk with | false => rfl | true =>
  obtain ⟨lh, bh⟩ := lst_ok (by omega) (by omega) hh
  obtain ⟨lm, bm⟩ := lst_ok (by omega) (by omega) hm
  obtain ⟨ls, bs⟩ := lst_ok (by omega) (by omega) hs
  by_cases hd : ((r.dy.length : Nat) : Int) ≤ 60
  · rw [dF (show ¬ (60 < ((r.dy.length : Nat) : Int)) by omega)]
    have e := p_recurrence_days r.f r.dy hd
    unfold dayL
    rw [dT hd]
    cases hall : r.dy.all (ordB r.f) with
    | false =>
      rw [hall] at e
      exact bB (v := false) rfl (bB (v := false) rfl (bB (v := .inr ()) rfl (bB e rfl)))
    | true =>
      rw [hall] at e
      obtain ⟨t, et, ht⟩ := p_times0 r.f r.N r.c r.u r.w r.mo r.md r.yd r.wk r.dy r.ps lh lm ls bh bm bs
      refine bB (v := false) rfl (bB (v := false) rfl (bB (v := .inr ()) rfl (bB e (bB et ?_))))
      rw [ht]; rfl
  · rw [dT (show 60 < ((r.dy.length : Nat) : Int) by omega)]
    unfold dayL
    rw [dF hd]; rfl
theorem p_given {r : Rec} {start : Int} : m_recurrence_given std r.f r.N r.c r.u r.w start r.mo r.md r.yd r.wk r.dy r.h r.m r.s r.ps = some (if vldB r && locB start then 0 else 1) := by
  rw [m_recurrence_given_eq, p_Valid, p_recurrence_local]
  cases vldB r <;> cases locB start <;> rfl
end Go.Proofs.Ytmnhfaaaaejpaaa
